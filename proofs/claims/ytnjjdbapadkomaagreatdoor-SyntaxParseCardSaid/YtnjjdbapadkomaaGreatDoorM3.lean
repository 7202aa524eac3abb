/- Our abstract program logic and contracts of this seat's functions, part 3: no statement of its own (long names of ours are shortened by a program). -/
import Derived.Test.YtnjjdbapadkomaaGreatDoorM2
import Derived.Lib.ItoaNum
import Derived.Lib.Join
import Derived.Shelf.Strings.OnBuilder
import Derived.Shelf.Small.Strs
import Derived.Shelf.Strings.SlTrimAscii
import Derived.Shelf.Strings.Prefix
import Derived.Shelf.Strings.Split
import Derived.Shelf.LaysM
import Derived.Test.YtnjjdbapadkomaaGreatDoorProg
import Derived.KernelRfl
import Derived.WalkKit
import Derived.Lib.Builder
import Derived.Lib.UnsafeStr
import Derived.Laws.Externs
set_option linter.unusedVariables false
set_option linter.unusedSimpArgs false
namespace Go.Proofs.YtnjjdbapadkomaaGreatDoor
open Go Go.Abs
abbrev xu (n : Int) : X:=.v (.c (.i .u8 n))
def uBo (n : Int) : Bool:=(decide (97≤n) && decide (n≤122)) || (decide (65≤n) && decide (n≤90))
def uBK (n : Int) : Bool:=decide (48≤n) && decide (n≤57)
def uB3 (n : Int) : Bool:=((uBo n || uBK n) || n == 95) || n == 35
def uCZ (l : List UInt8) : Bool:=decide (l.length≠0) && decide (l.length≤24) && uBo ((l.getD 0 0).toNat : Int) && l.all fun b=>uB3 (b.toNat : Int)
theorem uBi {l : List UInt8} {k : Nat} (h : k < l.length) : l.drop k=l.getD k 0 :: l.drop (k + 1):=by
 rw [List.drop_eq_getElem_cons h,List.getD_eq_getElem?_getD,List.getElem?_eq_getElem h]; rfl
theorem uOk {l : List UInt8} {p : UInt8→Bool} (h : ∀ j,j < l.length→p (l.getD j 0)=true) : l.all p=true:=by
 rw [List.all_eq_true]
 intro x hx
 obtain ⟨j,hj⟩:=List.getElem?_of_mem hx
 have hlt:=(List.getElem?_eq_some_iff.1 hj).1
 have := h j hlt
 rwa [List.getD_eq_getElem?_getD,hj] at this
theorem uKa {l : List UInt8} {p : UInt8→Bool} {j : Nat} (hj : j < l.length) (h : p (l.getD j 0)=false) : l.all p=false:=by
 rw [List.all_eq_false]
 refine ⟨l.getD j 0,?_,by rw [h]; simp⟩
 rw [List.getD_eq_getElem?_getD,List.getElem?_eq_getElem hj]
 exact List.getElem_mem hj
theorem uGB (n : Int) : Ctr sys 143 [xu n] [] (xb (uBo n)) none []:=by
 refine uAA Tryz.func143 rfl rfl rfl rfl rfl rfl ?_;refine uAe (uAb ?_);refine uAa rfl rfl rfl (uAd rfl gU) ?_;refine uAf ?_;refine uAe (uAb ?_);refine uAa rfl rfl rfl (uAc rfl gU) ?_;refine uAa rfl rfl rfl (uAm rfl rfl gU gU rfl) ?_;refine uAa rfl rfl rfl (uAc rfl gU) ?_;refine uAa rfl rfl rfl (uAc rfl gU) ?_;refine uAa rfl rfl rfl (uAm rfl rfl (fun hh=>hh) gU rfl) ?_;refine uAa rfl rfl rfl (uAV rfl rfl gU (fun _ hi=>gP rfl hi)) ?_;refine uAa rfl rfl rfl (uAc rfl gU) ?_;refine uAa rfl rfl rfl (uAc rfl gU) ?_;refine uAa rfl rfl rfl (uAm rfl rfl (fun hh=>hh) gU rfl) ?_;refine uAa rfl rfl rfl (uAc rfl (fun hh=>hh)) ?_;refine uAa rfl rfl rfl (uAc rfl gU) ?_;refine uAa rfl rfl rfl (uAm rfl rfl (fun hh=>hh) gU rfl) ?_;refine uAa rfl rfl rfl (uAV rfl rfl (fun hh=>hh) (fun hh hi=>gP hh hi)) ?_;refine uAa rfl rfl rfl (uAJ rfl rfl gU (fun _ hi=>gP rfl hi)) ?_;refine uAa rfl rfl rfl (uAd rfl gU) ?_;refine uAf ?_;refine uAp ?_
 repeat (first | refine tR ?_ | refine bR ?_)
 refine uAv rfl ?_ trivial
 rfl
theorem uLk (n : Int) : Ctr sys 144 [xu n] [] (xb (uBK n)) none []:=by
 refine uAA Tryz.func144 rfl rfl rfl rfl rfl rfl ?_;refine uAe (uAb ?_);refine uAa rfl rfl rfl (uAd rfl gU) ?_;refine uAf ?_;refine uAe (uAb ?_);refine uAa rfl rfl rfl (uAc rfl gU) ?_;refine uAa rfl rfl rfl (uAm rfl rfl gU gU rfl) ?_;refine uAa rfl rfl rfl (uAc rfl gU) ?_;refine uAa rfl rfl rfl (uAc rfl gU) ?_;refine uAa rfl rfl rfl (uAm rfl rfl (fun hh=>hh) gU rfl) ?_;refine uAa rfl rfl rfl (uAV rfl rfl gU (fun _ hi=>gP rfl hi)) ?_;refine uAa rfl rfl rfl (uAd rfl gU) ?_;refine uAf ?_;refine uAp ?_
 repeat (first | refine tR ?_ | refine bR ?_)
 refine uAv rfl ?_ trivial
 rfl
theorem uGy (l : List UInt8) : Ctr sys 105 [xs l] [] (xb (uCZ l)) none []:=by
 refine uAA Tryz.func105 rfl rfl rfl rfl rfl rfl ?_;refine uAe (uAb ?_);refine uAa rfl rfl rfl (uAd rfl gU) ?_;refine uAf ?_;refine uAe ?_;refine uAe (uAb ?_);refine uAa rfl rfl rfl (uAc rfl gU) ?_;refine uBw rfl rfl rfl rfl rfl gU (Tryz.underlying9) ?_ (fun hh=>by simp at hh); intro hlen;refine uAa rfl rfl rfl (uAm rfl rfl gU gU rfl) ?_;refine uAa rfl rfl rfl (uAc rfl gU) ?_;refine uAa rfl rfl rfl (uAc rfl gU) ?_;refine uAa rfl rfl rfl (uCc rfl (fun hh=>hh) (Tryz.underlying9)) ?_;refine uAa rfl rfl rfl (uAm rfl rfl (fun hh=>hh) gU rfl) ?_;refine uAa rfl rfl rfl (uAJ rfl rfl gU (fun _ hi=>gP rfl hi)) ?_;refine uAa rfl rfl rfl (uAc rfl gU) ?_;refine uAa rfl rfl rfl (uAc rfl gU) ?_;refine uAa rfl rfl rfl (uAF (j:=0) rfl rfl (fun hh=>hh) gU Tryz.underlying9 (by first | omega | (simp at hh; exact List.length_pos_iff.2 hh.1)) (fun hh=>by first | omega | (simp at hh; exact List.length_pos_iff.2 hh.1))) ?_;refine uBq (s:=⟨[(0,_,_),(12,_,_),(14,_,_)],[],[],[]⟩) (uAj (⟨sx rfl,sx rfl,sx rfl,trivial⟩) trivial trivial) ?_;refine uAw rfl rfl rfl rfl rfl rfl gU (fun hh=>gA ((fun hh=>hh) hh) (rfl)) (uGB _) rfl ?_;refine uAa rfl rfl rfl (uAZ rfl (fun hh=>hh)) ?_;refine uAa rfl rfl rfl (uAJ rfl rfl gU (fun _ hi=>gP rfl hi)) ?_;refine uAf ?_;refine uAn rfl (fun hc=>?_) (fun hc=>?_)
 ·refine uAe (uAb ?_)
  refine uAa rfl rfl rfl (uAd rfl gU) ?_;refine uAf ?_;refine uAp ?_
  repeat (first | refine tR ?_ | refine bR ?_)
  refine uAv rfl ?_ trivial;exact uCG (by simp [uCZ]; grind)
 ·refine uAq ?_
  refine uAe ?_;refine uAe (uAb ?_);refine uAa rfl rfl rfl (uAd rfl gU) ?_;refine uAf ?_;refine uAx ?_;refine uA6 (ι:=Nat) { t:=[(0,_,_)],bx:=[],ow:=[] } (fun k=>[(3,true,xi (k : Int))]) (fun k=>[]) (fun k=>k≤l.length∧(l.drop k).all (fun b=>uB3 (b.toNat : Int))=l.all (fun b=>uB3 (b.toNat : Int))) (fun k=>l.length - k) (0) (by simp) (uAj (⟨sx rfl,sx rfl,trivial⟩) trivial trivial) ?_
  intro k hok
  dsimp only [List.cons_append,List.nil_append]
  obtain ⟨hk,hi⟩:=hok
  refine uAe ?_;refine uAe (uAb ?_);refine uAa rfl rfl rfl (uAc rfl gU) ?_;refine uAa rfl rfl rfl (uAc rfl gU) ?_;refine uBw rfl rfl rfl rfl rfl gU (Tryz.underlying9) ?_ (fun hh=>by simp at hh); intro hlen;refine uAa rfl rfl rfl (uAm rfl rfl gU gU rfl) ?_;refine uAf ?_;refine uAn rfl (fun hc2=>?_) (fun hc2=>?_)
  ·have hlt : k < l.length:=by simpa using hc2
   rw [uBi hlt,List.all_cons] at hi
   refine uAq ?_;refine uAe ?_;refine uAx ?_;refine uAe (uAb ?_);refine uAa rfl rfl rfl (uAc rfl gU) ?_;refine uAa rfl rfl rfl (uAc rfl gU) ?_;refine uAa rfl rfl rfl (uAF rfl rfl gU gU Tryz.underlying9 rfl (fun hh=>by first | omega | (simp at hh; exact List.length_pos_iff.2 hh.1))) ?_;refine uAw rfl rfl rfl rfl rfl rfl gU gU (uGB _) rfl ?_;refine uAa rfl rfl rfl (uAZ rfl gU) ?_;refine uAa rfl rfl rfl (uAc rfl gU) ?_;refine uAa rfl rfl rfl (uAc rfl gU) ?_;refine uAa rfl rfl rfl (uAc rfl gU) ?_;refine uBq (s:=⟨[(0,_,_),(3,_,_),(29,_,_),(30,_,_),(31,_,_)],[],[],[]⟩) (uAj (⟨sx rfl,sx rfl,sx rfl,sx rfl,sx rfl,trivial⟩) trivial trivial) ?_;refine uAa rfl rfl rfl (uAF rfl rfl (fun hh=>hh) (fun hh=>hh) Tryz.underlying9 rfl (fun hh=>by first | omega | (simp at hh; exact List.length_pos_iff.2 hh.1))) ?_;refine uAw rfl rfl rfl rfl rfl rfl gU (fun hh=>gA ((fun hh=>hh) hh) (rfl)) (uLk _) rfl ?_;refine uAa rfl rfl rfl (uAZ rfl (fun hh=>hh)) ?_;refine uAa rfl rfl rfl (uAV rfl rfl gU (fun _ hi=>gP rfl hi)) ?_;refine uAa rfl rfl rfl (uAc rfl gU) ?_;refine uAa rfl rfl rfl (uAc rfl gU) ?_;refine uAa rfl rfl rfl (uAc rfl gU) ?_;refine uAa rfl rfl rfl (uAF rfl rfl (fun hh=>hh) (fun hh=>hh) Tryz.underlying9 rfl (fun hh=>by first | omega | (simp at hh; exact List.length_pos_iff.2 hh.1))) ?_
   refine uAa rfl rfl rfl (uAm rfl rfl (fun hh=>hh) gU rfl) ?_;refine uAa rfl rfl rfl (uAV rfl rfl gU (fun _ hi=>gP rfl hi)) ?_;refine uAa rfl rfl rfl (uAc rfl gU) ?_;refine uAa rfl rfl rfl (uAc rfl gU) ?_;refine uBq (s:=⟨[(0,_,_),(3,_,_),(42,_,_),(43,_,_)],[],[],[]⟩) (uAj (⟨sx rfl,sx rfl,sx rfl,sx rfl,trivial⟩) trivial trivial) ?_;refine uAa rfl rfl rfl (uAc rfl gU) ?_;refine uAa rfl rfl rfl (uAF rfl rfl (fun hh=>hh) (fun hh=>hh) Tryz.underlying9 rfl (fun hh=>by first | omega | (simp at hh; exact List.length_pos_iff.2 hh.1))) ?_;refine uAa rfl rfl rfl (uAm rfl rfl (fun hh=>hh) gU rfl) ?_;refine uAa rfl rfl rfl (uAV rfl rfl gU (fun _ hi=>gP rfl hi)) ?_;refine uAf ?_;refine uAn rfl (fun hc1=>?_) (fun hc1=>?_)
   ·try simp only [nn] at hc1
    refine uAe (uAb ?_);refine uAa rfl rfl rfl (uAd rfl gU) ?_;refine uAf ?_;refine uAp ?_
    repeat (first | refine tR ?_ | refine bR ?_)
    refine uAv rfl ?_ trivial;exact uCG (by simp [uCZ]; grind [uB3])
   ·try simp only [nn] at hc1
    refine uAq ?_;refine uAb ?_;refine uAa rfl rfl rfl (uAc rfl gU) ?_;refine uAa rfl rfl rfl (uAz rfl rfl gU gU rfl (IntWalk.i64_in _ (by omega))) ?_;refine uAa rfl rfl rfl (uAd rfl gU) ?_;refine uAf ?_;refine ⟨k + 1,?_,?_,uAj (⟨⟨_,rfl,?_⟩,⟨sx rfl,trivial⟩⟩) trivial trivial⟩
    all_goals (grind [uB3])
  ·refine uAQ ?_
   repeat (first | refine uAE ?_ | refine uAD ?_ | refine uAC rfl ?_)
   refine uAe (uAb ?_);refine uAa rfl rfl rfl (uAd rfl gU) ?_;refine uAf ?_;refine uAp ?_
   repeat (first | refine tR ?_ | refine bR ?_)
   refine uAv rfl ?_ trivial
   have : l.drop k=[]:=by simp at hc2 ⊢; omega
   rw [this] at hi
   exact uCG (by simp [uCZ]; grind)
end Go.Proofs.YtnjjdbapadkomaaGreatDoor
namespace Go.Proofs.YtnjjdbapadkomaaGreatDoor
open Go Go.Abs
def strR (l : List (List UInt8)) : List (List C):=l.map fun s=>[.s s]
theorem uAh (l : List (List UInt8)) : (strR l).length=l.length:=by simp [strR]
theorem uC3 {l : List (List UInt8)} {k : Nat} (h : k < l.length) : (strR l)[k]? = some [.s (l.getD k [])]:=by
 rw [strR,List.getElem?_map,List.getD_eq_getElem?_getD,List.getElem?_eq_getElem h]; rfl
theorem uFR (a b : List (List UInt8)) : strR (a++b)=strR a++strR b:=by simp [strR]
abbrev xss (l : List (List UInt8)) : X:=.v (.c (.sl 1 (strR l)))
def intR (l : List Int) : List (List C):=l.map fun n=>[.i .i64 n]
theorem uCq (l : List Int) : (intR l).length=l.length:=by simp [intR]
theorem uLR {l : List Int} {k : Nat} (h : k < l.length) : (intR l)[k]? = some [.i .i64 (l.getD k 0)]:=by
 rw [intR,List.getElem?_map,List.getD_eq_getElem?_getD,List.getElem?_eq_getElem h]; rfl
abbrev xis (l : List Int) : X:=.v (.c (.sl 1 (intR l)))
abbrev xbs (l : List UInt8) : X:=.v (.c (.sl 1 (uBt l)))
theorem uCn (l : List (List UInt8)) (s : List UInt8) : X.v (.c (.sl 1 (strR l++[[.s s]])))=xss (l++[s]):=by simp [xss,strR]
theorem uKC (l : List Int) (n : Int) : X.v (.c (.sl 1 (intR l++[[.i .i64 n]])))=xis (l++[n]):=by simp [xis,intR]
theorem uJK (l : List UInt8) (b : UInt8) (n : Int) (h : (b.toNat : Int)=n) : X.v (.c (.sl 1 (uBt l++[[.i .u8 n]])))=xbs (l++[b]):=by simp [xbs,uBt,h]
theorem uF4 {α : Type} (l : List α) (d : α) {j k : Nat} (h : j < k) : (l.take k).getD j d=l.getD j d:=by
 simp only [List.getD_eq_getElem?_getD]; rw [List.getElem?_take,if_pos h]
theorem uIw {α : Type} (l : List α) (d : α) (j k : Nat) : (l.drop k).getD j d=l.getD (k + j) d:=by
 simp only [List.getD_eq_getElem?_getD]; rw [List.getElem?_drop]
theorem uER {α : Type} {l : List α} {d : α} {k : Nat} (h : k < l.length) : l.take (k + 1)=l.take k++[l.getD k d]:=by
 rw [List.take_add_one,List.getD_eq_getElem?_getD,List.getElem?_eq_getElem h]; rfl
theorem uG0 {α : Type} {l : List α} {d : α} {k : Nat} (h : k < l.length) : l.drop k=l.getD k d :: l.drop (k + 1):=by
 rw [List.drop_eq_getElem_cons h,List.getD_eq_getElem?_getD,List.getElem?_eq_getElem h]; rfl
def hexB (b : UInt8) : Bool:=(decide (48≤(b.toNat : Int)) && decide ((b.toNat : Int)≤57)) || (decide (97≤(b.toNat : Int)) && decide ((b.toNat : Int)≤102))
def hexV (b : UInt8) : Int:=if (b.toNat : Int)≤57 then b.toNat - 48 else b.toNat - 87
end Go.Proofs.YtnjjdbapadkomaaGreatDoor
namespace Go.Proofs.YtnjjdbapadkomaaGreatDoor
open Go Go.Abs
structure Tk where
 kind : Int
 text : List UInt8
 int : Int
 str : List UInt8
 line : Int
 deriving Inhabited,DecidableEq
def Tk.onl (t : Tk) (k : Int) : Tk:=⟨t.kind,t.text,t.int,t.str,k⟩
def tk0 : Tk:=⟨0,[],0,[],0⟩
def Tk.cells (t : Tk) : List C:=[.i .i64 t.kind, .s t.text, .i .i64 t.int, .s t.str, .i .i64 t.line]
def Tk.rows (l : List Tk) : List (List C):=l.map Tk.cells
theorem Tk.rows_len (l : List Tk) : (Tk.rows l).length=l.length:=by simp [Tk.rows]
theorem Tk.rows_at {l : List Tk} {k : Nat} (h : k < l.length) : (Tk.rows l)[k]? = some (l.getD k tk0).cells:=by
 rw [Tk.rows,List.getElem?_map,List.getD_eq_getElem?_getD,List.getElem?_eq_getElem h]; rfl
theorem Tk.rows_app (a b : List Tk) : Tk.rows (a++b)=Tk.rows a++Tk.rows b:=by simp [Tk.rows]
abbrev xts (l : List Tk) : X:=.v (.c (.sl 5 (Tk.rows l)))
theorem uJt (l : List Tk) (t : Tk) : X.v (.c (.sl 5 (Tk.rows l++[t.cells])))=xts (l++[t]):=by simp [xts,Tk.rows]
abbrev xnx (r : Tk × Nat × Int) : X:=.tup [.agg r.1.cells, .c (.i .i64 (r.2.1 : Int)), .c (.i .i64 r.2.2)]
abbrev uNx (r : List Tk × Nat × Int) : X:=.tup [.c (.sl 5 (Tk.rows r.1)), .c (.i .i64 (r.2.1 : Int)), .c (.i .i64 r.2.2)]
abbrev xsn (r : List UInt8 × Nat) : X:=.tup [.c (.s r.1), .c (.i .i64 (r.2 : Int))]
abbrev xse (r : List UInt8 × Int) : X:=.tup [.c (.s r.1), .c (.i .i64 r.2)]
def uCB (c : UInt8) : Bool:=decide (c.toNat=32) || decide (c.toNat=9) || decide (c.toNat=10) || decide (c.toNat=13)
def syms : List UInt8:=[40,41,123,125,91,93,44,59,58,61,46,45,62,60,63,124,38,42]
def symB (c : UInt8) : Bool:=syms.contains c
def clsE (c : UInt8) : Int:=if uCB c=true then 1 else if uBo c.toNat=true then 2 else if uBK c.toNat=true then 3 else if c.toNat=34 then 5 else if symB c=true then 4 else 0
def escE : List UInt8→UInt8 × Nat
 | []=>(0,0)
 | c :: l=>if c.toNat=110 then (10,1) else if c.toNat=116 then (9,1) else if c.toNat=34∨c.toNat=92 then (c,1)
  else if c.toNat=120∧2≤l.length∧hexB (l.getD 0 0)=true∧hexB (l.getD 1 0)=true then (UInt8.ofNat (16 * hexV (l.getD 0 0) + hexV (l.getD 1 0)).toNat,3) else (0,0)
def litA : Nat→List UInt8→Nat→List UInt8→List UInt8 × Nat
 | 0,_,_,_=>([],0)
 | _ + 1,[],_,_=>([],0)
 | n + 1,c :: l,i,out=>if c.toNat=34 then (out,i + 1)
  else if c.toNat=92 then (if (escE l).2=0 then ([],0) else litA n (l.drop (escE l).2) (i + 1 + (escE l).2) (out++[(escE l).1]))
  else if c.toNat < 32∨126 < c.toNat then ([],0) else litA n l (i + 1) (out++[c])
def litE (s : List UInt8) : List UInt8 × Nat:=litA (s.length + 1) (s.drop 1) 1 []
def nmP : List UInt8→Nat
 | []=>0
 | b :: l=>if uB3 (b.toNat : Int)=true ∧ ¬(b.toNat=35∧(l.getD 0 0).toNat=35) then nmP l + 1 else 0
def nlE (s : List UInt8) : Nat:=1 + nmP (s.drop 1)
def wdN : List UInt8→Nat
 | []=>0
 | b :: l=>if uB3 (b.toNat : Int)=true then wdN l + 1 else 0
def numA : List UInt8→Nat→Int→Bool × Nat × Int
 | [],n,v=>(true,n,v)
 | b :: l,n,v=>if uBK (b.toNat : Int)=true then (if (9223372036854775807 - ((b.toNat : Int) - 48)) / 10 < v then (false,0,0) else numA l (n + 1) (10 * v + ((b.toNat : Int) - 48))) else (true,n,v)
def uBR (s : List UInt8) : Tk × Nat × Int :=
 if uBo (s.getD 0 0).toNat=true then (if 24 < nlE s then (tk0,0,3) else (⟨1,s.take (nlE s),0,[],0⟩,nlE s,0))
 else if uBK (s.getD 0 0).toNat=true then (if (numA s 0 0).1=true then (⟨2,[],(numA s 0 0).2.2,[],0⟩,(numA s 0 0).2.1,0) else (tk0,0,7))
 else if (s.getD 0 0).toNat=34 then (if (litE s).2=0 then (tk0,0,2) else (⟨3,[],0,(litE s).1,0⟩,(litE s).2,0))
 else if symB (s.getD 0 0)=true then (⟨4,s.take 1,0,[],0⟩,1,0) else (tk0,0,2)
def uBM (s : List UInt8) (k : Int) : Tk × Nat × Int :=
 if uBo (s.getD 0 0).toNat=true then (if 24 < wdN s then (tk0,0,3) else (⟨1,s.take (wdN s),0,[],k⟩,wdN s,0))
 else if uBK (s.getD 0 0).toNat=true then (if (numA s 0 0).1=true then (⟨2,[],(numA s 0 0).2.2,[],k⟩,(numA s 0 0).2.1,0) else (tk0,0,7))
 else if (s.getD 0 0).toNat=34 then (if (litE s).2=0 then (tk0,0,2) else (⟨3,[],0,(litE s).1,k⟩,(litE s).2,0))
 else if symB (s.getD 0 0)=true then (⟨4,s.take 1,0,[],k⟩,1,0) else (tk0,0,2)
def uCt : Bool→List UInt8→Nat
 | _,[]=>0
 | _,[_]=>1
 | ins,c :: d :: l=>if ins=true∧c.toNat=92 then uCt true l + 2
  else if (if c.toNat=34 then !ins else ins)=false∧c.toNat=35∧d.toNat=35 then 0 else uCt (if c.toNat=34 then !ins else ins) (d :: l) + 1
def uBh (s : List UInt8) : List UInt8:=s.take (uCt false s)
def wsp : List UInt8:=[32,9,13]
def uBC (s : List UInt8) : List UInt8:=s.dropWhile (wsp.contains ·)
def uBv : Nat→List UInt8→Int→List Tk→List Tk × Int
 | 0,_,_,out=>(out,0)
 | n + 1,l,k,out=>if uBC l=[]∨[35,35].isPrefixOf (uBC l)=true then (out,0)
  else if (uBR (uBC l)).2.2≠0 then ([],(uBR (uBC l)).2.2)
  else uBv n ((uBC l).drop (uBR (uBC l)).2.1) k (out++[(uBR (uBC l)).1.onl k])
def uC0 : Nat→List UInt8→Int→List Tk→List Tk × Int
 | 0,_,_,out=>(out,0)
 | _ + 1,[],_,out=>(out,0)
 | n + 1,c :: l,k,out=>if uCB c=true then uC0 n l k out else if (uBM (c :: l) k).2.2≠0 then ([],(uBM (c :: l) k).2.2)
  else uC0 n ((c :: l).drop (uBM (c :: l) k).2.1) k (out++[(uBM (c :: l) k).1])
def spl : List UInt8→List (List UInt8)
 | []=>[[]]
 | b :: l=>if b.toNat=10 then [] :: spl l else match spl l with
  | []=>[[b]]
  | x :: r=>(b :: x) :: r
def uCY : List (List UInt8)→Nat→List Tk→List Tk × Nat × Int
 | [],_,out=>(out,0,0)
 | l :: ls,k,out=>if (uBv (l.length + 1) l (k : Nat) out).2≠0 then ([],k,(uBv (l.length + 1) l (k : Nat) out).2) else uCY ls (k + 1) (uBv (l.length + 1) l (k : Nat) out).1
def uFP : List (List UInt8)→Nat→List Tk→List Tk × Nat × Int
 | [],_,out=>(out,0,0)
 | l :: ls,k,out=>if (uC0 ((uBh l).length + 1) (uBh l) (k : Nat) out).2≠0 then ([],k,(uC0 ((uBh l).length + 1) (uBh l) (k : Nat) out).2) else uFP ls (k + 1) (uC0 ((uBh l).length + 1) (uBh l) (k : Nat) out).1
def tokP (s : List UInt8) : List Tk × Nat × Int:=if 65536 < s.length then ([],0,3) else uCY (spl s) 1 []
def lnsA : List UInt8→List UInt8→List (List UInt8)→List (List UInt8)
 | [],line,out=>if line=[] then out else out++[line]
 | b :: l,line,out=>if b.toNat=10 then lnsA l [] (out++[line]) else lnsA l (line++[b]) out
def lnsR (s : List UInt8) : List (List UInt8):=lnsA s [] []
def tokR (s : List UInt8) : List Tk × Nat × Int:=if 65536 < s.length then ([],0,3) else uFP (lnsR s) 1 []
def hexs : List UInt8:=[48,49,50,51,52,53,54,55,56,57,97,98,99,100,101,102]
theorem uIT (l : List UInt8) : (escE l).2≤l.length:=by
 cases l with
 | nil=>simp [escE]
 | cons c l =>
  rw [escE]
  split
  ·simp
  split
  ·simp
  split
  ·simp
  split
  ·rename_i h; simp only [List.length_cons]; omega
  ·simp
theorem uGG : ∀ (n : Nat) (l : List UInt8) (i : Nat) (out : List UInt8),(litA n l i out).2≤i + l.length∧((litA n l i out).2≠0→i < (litA n l i out).2)∧(litA n l i out).1.length≤out.length + l.length
 | 0,l,i,out=>by simp [litA]
 | n + 1,[],i,out=>by simp [litA]
 | n + 1,c :: l,i,out=>by
  have he:=uIT l
  unfold litA
  split
  ·simp <;> omega
  split
  ·split
   ·simp
   ·have := uGG n (l.drop (escE l).2) (i + 1 + (escE l).2) (out++[(escE l).1])
    simp only [List.length_drop,List.length_append,List.length_cons,List.length_nil] at this ⊢
    omega
  split
  ·simp
  ·have := uGG n l (i + 1) (out++[c])
   simp only [List.length_append,List.length_cons,List.length_nil] at this ⊢
   omega
theorem uJf (s : List UInt8) (h : 0 < s.length) : (litE s).2≤s.length∧(litE s).1.length≤s.length:=by
 have := uGG (s.length + 1) (s.drop 1) 1 []
 simp only [List.length_drop,List.length_nil] at this
 unfold litE
 omega
theorem uNU : ∀ (l : List UInt8),nmP l≤l.length
 | []=>by simp [nmP]
 | b :: l=>by
  have := uNU l
  unfold nmP
  split <;> simp <;> omega
theorem uKT {s : List UInt8} (h : 0 < s.length) : 1≤nlE s∧nlE s≤s.length:=by
 have := uNU (s.drop 1)
 simp only [List.length_drop] at this
 unfold nlE; omega
theorem uLd : ∀ (l : List UInt8),wdN l≤l.length
 | []=>by simp [wdN]
 | b :: l=>by
  have := uLd l
  unfold wdN
  split <;> simp <;> omega
theorem uGH : ∀ (l : List UInt8) (n : Nat) (v : Int),0≤v→(numA l n v).2.1≤n + l.length∧((numA l n v).1=true→n≤(numA l n v).2.1)∧0≤(numA l n v).2.2∧(v≤9223372036854775807→(numA l n v).2.2≤9223372036854775807)
 | [],n,v,h=>by simp [numA,h]
 | b :: l,n,v,h=>by
  unfold numA
  split
  ·rename_i hd
   simp [uBK] at hd
   split
   ·simp
   ·obtain ⟨q1,q2,q3,q4⟩:=uGH l (n + 1) (10 * v + ((b.toNat : Int) - 48)) (by omega)
    simp only [List.length_cons]
    exact ⟨by omega,fun q=>by have := q2 q; omega,q3,fun q=>q4 (by omega)⟩
  ·simp [h]
theorem uFH {s : List UInt8} (h : 0 < s.length) : (uBR s).2.1≤s.length∧((uBR s).2.2=0→1≤(uBR s).2.1):=by
 have h1:=uKT h
 have h2:=uGH s 0 0 (by omega)
 have h3:=uJf s h
 have h4:=uGG (s.length + 1) (s.drop 1) 1 []
 unfold uBR
 split
 ·split
  ·simp
  ·simp; omega
 split
 ·rename_i hd
  split
  ·rename_i hn
   refine ⟨by dsimp only; omega,fun _=>?_⟩
   dsimp only
   match s,h with
   | b :: l,_ =>
    rw [List.getD_cons_zero] at hd
    rw [numA,if_pos hd] at hn ⊢
    split at hn
    ·simp at hn
    ·rename_i hq
     rw [if_neg hq]
     have hd2 : (48 : Int)≤(b.toNat : Int):=by simp [uBK] at hd; omega
     have := (uGH l (0 + 1) (10 * 0 + ((b.toNat : Int) - 48)) (by omega)).2.1 hn
     omega
  ·simp
 split
 ·split
  ·simp
  ·simp; omega
 split
 ·simp; omega
 ·simp
theorem uMA {s : List UInt8} {k : Int} (h : 0 < s.length) : (uBM s k).2.1≤s.length∧((uBM s k).2.2=0→1≤(uBM s k).2.1):=by
 have h0:=uFH h
 have h1:=uLd s
 have hw : uBo (s.getD 0 0).toNat=true→1≤wdN s:=by
  intro hl
  match s,h with
  | b :: l,_ =>
   rw [List.getD_cons_zero] at hl
   rw [wdN,if_pos (by simp [uB3,hl])]; omega
 unfold uBM
 unfold uBR at h0
 split
 ·rename_i hl
  have := hw hl
  split
  ·simp
  ·simp; omega
 ·rename_i hl
  rw [if_neg hl] at h0
  split
  ·rename_i hd
   rw [if_pos hd] at h0
   split
   ·rename_i hn; rw [if_pos hn] at h0; exact h0
   ·simp
  ·rename_i hd
   rw [if_neg hd] at h0
   split
   ·rename_i hq
    rw [if_pos hq] at h0
    split
    ·simp
    ·rename_i hz; rw [if_neg hz] at h0; exact h0
   ·rename_i hq
    rw [if_neg hq] at h0
    split
    ·rename_i hz; rw [if_pos hz] at h0; exact h0
    ·simp
theorem uF0 (s : List UInt8) : (uBC s).length≤s.length:=by
 unfold uBC
 exact (List.dropWhile_sublist _).length_le
theorem uHb (s : List UInt8) : spl s≠[]:=by
 cases s with
 | nil=>simp [spl]
 | cons b l =>
  unfold spl
  split
  ·simp
  ·split <;> simp
theorem uGI : ∀ (s : List UInt8),(spl s).length≤s.length + 1
 | []=>by simp [spl]
 | b :: l=>by
  have ih:=uGI l
  unfold spl
  split
  ·simp; omega
  ·split
   ·simp
   ·rename_i h; rw [h] at ih; simp at ih ⊢; omega
theorem uIU : ∀ (s : List UInt8),∀ x ∈ spl s,x.length≤s.length
 | [],x,hx=>by simp [spl] at hx; subst hx; simp
 | b :: l,x,hx=>by
  have ih:=uIU l
  unfold spl at hx
  split at hx
  ·rcases List.mem_cons.1 hx with h | h
   ·subst h; simp
   ·have := ih x h; simp; omega
  ·split at hx
   ·simp at hx; subst hx; simp
   ·rename_i y r h
    rw [h] at ih
    rcases List.mem_cons.1 hx with q | q
    ·subst q
     have := ih y (by simp)
     simp; omega
    ·have := ih x (by simp [q]); simp; omega
theorem uN5 (s : List UInt8) (k : Nat) : ((spl s).getD k []).length≤s.length:=by
 rw [List.getD_eq_getElem?_getD]
 cases h : (spl s)[k]? with
 | none=>simp
 | some x=>exact uIU s x (List.mem_of_getElem? h)
theorem uHl : ∀ (s line : List UInt8) (out : List (List UInt8)),(lnsA s line out).length≤out.length + s.length + 1
 | [],line,out=>by unfold lnsA; split <;> simp
 | b :: l,line,out=>by
  unfold lnsA
  split
  ·have := uHl l [] (out++[line]); simp at this ⊢; omega
  ·have := uHl l (line++[b]) out; simp at this ⊢; omega
theorem uHF : ∀ (s line : List UInt8) (out : List (List UInt8)) (N : Nat),line.length + s.length≤N→(∀ x ∈ out,x.length≤N) → ∀ x ∈ lnsA s line out,x.length≤N
 | [],line,out,N,h,ho,x,hx=>by
  unfold lnsA at hx
  split at hx
  ·exact ho x hx
  ·rcases List.mem_append.1 hx with q | q
   ·exact ho x q
   ·simp at q; subst q; simp at h; omega
 | b :: l,line,out,N,h,ho,x,hx=>by
  simp only [List.length_cons] at h
  unfold lnsA at hx
  split at hx
  ·refine uHF l [] (out++[line]) N (by simp; omega) (fun y hy=>?_) x hx
   rcases List.mem_append.1 hy with q | q
   ·exact ho y q
   ·simp at q; subst q; omega
  ·exact uHF l (line++[b]) out N (by simp; omega) ho x hx
theorem uNl (s : List UInt8) (k : Nat) : ((lnsR s).getD k []).length≤s.length:=by
 rw [List.getD_eq_getElem?_getD]
 cases h : (lnsR s)[k]? with
 | none=>simp
 | some x=>exact uHF s [] [] s.length (by simp) (by simp) x (List.mem_of_getElem? h)
theorem uNt (s : List UInt8) : (lnsR s).length≤s.length + 1:=by
 have := uHl s [] []; simp at this; exact this
end Go.Proofs.YtnjjdbapadkomaaGreatDoor
namespace Go.Proofs.YtnjjdbapadkomaaGreatDoor
open Go Go.Abs
inductive T where
 | mk (kind : Int) (name : List UInt8) (sort : Int) (kids : List T)
 deriving Inhabited
namespace T
def kind : T→Int | mk k _ _ _=>k
def name : T→List UInt8 | mk _ n _ _=>n
def sort : T→Int | mk _ _ s _=>s
def kids : T→List T | mk _ _ _ ks=>ks
mutual
def cells' : T→List C
 | mk k n s ks=>[.i .i64 k, .s n, .i .i64 s, .sl 4 (rows ks)]
def rows : List T→List (List C)
 | []=>[]
 | t :: ts=>cells' t :: rows ts
end
def cells (t : T) : List C:=[.i .i64 t.kind, .s t.name, .i .i64 t.sort, .sl 4 (rows t.kids)]
theorem uMY (t : T) : cells' t=t.cells:=by cases t; rw [cells']; rfl
theorem rows_eq : ∀ ts : List T,rows ts=ts.map cells
 | []=>by rw [rows]; rfl
 | t :: ts=>by rw [rows,rows_eq ts,uMY]; rfl
theorem rows_get {ts : List T} {k : Nat} {t : T} (h : ts[k]? = some t) : (rows ts)[k]? = some t.cells:=by
 rw [rows_eq,List.getElem?_map,h]; rfl
theorem rows_len (ts : List T) : (rows ts).length=ts.length:=by rw [rows_eq]; simp
mutual
def size : T→Nat
 | mk _ _ _ ks=>1 + sizes ks
def sizes : List T→Nat
 | []=>0
 | t :: ts=>size t + sizes ts
end
theorem size_pos (t : T) : 1≤t.size:=by cases t; rw [size]; omega
theorem size_eq (t : T) : t.size=1 + sizes t.kids:=by cases t; rw [size]; rfl
theorem sizes_take : ∀ (ts : List T) (k : Nat) (t : T),ts[k]? = some t→sizes (ts.take (k + 1))=sizes (ts.take k) + t.size
 | [],k,t,h=>by simp at h
 | x :: xs,0,t,h=>by simp at h; subst h; simp [sizes]
 | x :: xs,k + 1,t,h=>by
  have := sizes_take xs k t (by simpa using h)
  simp only [List.take_succ_cons,sizes]
  omega
theorem sizes_take_le : ∀ (ts : List T) (k : Nat),sizes (ts.take k)≤sizes ts
 | [],k=>by simp
 | x :: xs,0=>by simp [sizes]
 | x :: xs,k + 1=>by
  have := sizes_take_le xs k
  simp only [List.take_succ_cons,sizes]
  omega
theorem size_kid {t x : T} {k : Nat} (h : t.kids[k]? = some x) : x.size < t.size:=by
 have h1:=sizes_take _ _ _ h
 have h2:=sizes_take_le t.kids (k + 1)
 have h3:=t.size_eq
 omega
end T
end Go.Proofs.YtnjjdbapadkomaaGreatDoor
namespace Go.Proofs.YtnjjdbapadkomaaGreatDoor
open Go Go.Abs
structure Fs where
 role : List UInt8
 name : List UInt8
 sort : Int
 deriving Inhabited,DecidableEq
structure Sp where
 frm : List UInt8
 dst : List UInt8
 msg : T
 line : Int
 deriving Inhabited
structure Gl where
 kind : Int
 role : List UInt8
 wth : List UInt8
 data : List T
 line : Int
 deriving Inhabited
structure Nar where
 name : List UInt8
 roles : List (List UInt8)
 fresh : List Fs
 tags : List (List UInt8)
 steps : List Sp
 goals : List Gl
 deriving Inhabited
def Fs.cells (f : Fs) : List C:=[.s f.role, .s f.name, .i .i64 f.sort]
def Sp.cells (s : Sp) : List C:=[.s s.frm, .s s.dst, .i .i64 s.msg.kind, .s s.msg.name, .i .i64 s.msg.sort, .sl 4 (T.rows s.msg.kids), .i .i64 s.line]
def Gl.cells (g : Gl) : List C:=[.i .i64 g.kind, .s g.role, .s g.wth, .sl 4 (T.rows g.data), .i .i64 g.line]
def Fs.rows (l : List Fs) : List (List C):=l.map Fs.cells
def Sp.rows (l : List Sp) : List (List C):=l.map Sp.cells
def Gl.rows (l : List Gl) : List (List C):=l.map Gl.cells
theorem Fs.rows_len (l : List Fs) : (Fs.rows l).length=l.length:=by simp [Fs.rows]
theorem Sp.rows_len (l : List Sp) : (Sp.rows l).length=l.length:=by simp [Sp.rows]
theorem Gl.rows_len (l : List Gl) : (Gl.rows l).length=l.length:=by simp [Gl.rows]
theorem Fs.rows_at {l : List Fs} {k : Nat} (h : k < l.length) : (Fs.rows l)[k]? = some (l.getD k default).cells:=by
 rw [Fs.rows,List.getElem?_map,List.getD_eq_getElem?_getD,List.getElem?_eq_getElem h]; rfl
theorem Sp.rows_at {l : List Sp} {k : Nat} (h : k < l.length) : (Sp.rows l)[k]? = some (l.getD k default).cells:=by
 rw [Sp.rows,List.getElem?_map,List.getD_eq_getElem?_getD,List.getElem?_eq_getElem h]; rfl
theorem Gl.rows_at {l : List Gl} {k : Nat} (h : k < l.length) : (Gl.rows l)[k]? = some (l.getD k default).cells:=by
 rw [Gl.rows,List.getElem?_map,List.getD_eq_getElem?_getD,List.getElem?_eq_getElem h]; rfl
theorem T.rows_at {l : List T} {k : Nat} (h : k < l.length) : (T.rows l)[k]? = some (l.getD k default).cells:=by
 rw [T.rows_eq,List.getElem?_map,List.getD_eq_getElem?_getD,List.getElem?_eq_getElem h]; rfl
theorem Fs.rows_app (a b : List Fs) : Fs.rows (a++b)=Fs.rows a++Fs.rows b:=by simp [Fs.rows]
theorem Sp.rows_app (a b : List Sp) : Sp.rows (a++b)=Sp.rows a++Sp.rows b:=by simp [Sp.rows]
theorem Gl.rows_app (a b : List Gl) : Gl.rows (a++b)=Gl.rows a++Gl.rows b:=by simp [Gl.rows]
theorem T.getD_size {l : List T} {k : Nat} (h : k < l.length) : T.sizes (l.take k) + (l.getD k default).size≤T.sizes l:=by
 have h0 : l[k]? = some (l.getD k default):=by rw [List.getD_eq_getElem?_getD,List.getElem?_eq_getElem h]; rfl
 have h1:=T.sizes_take l k _ h0
 have h2:=T.sizes_take_le l (k + 1)
 omega
theorem T.getD_some {l : List T} {k : Nat} (h : k < l.length) : l[k]? = some (l.getD k default):=by
 rw [List.getD_eq_getElem?_getD,List.getElem?_eq_getElem h]; rfl
def Nar.cells (n : Nar) : List C:=[.s n.name, .sl 1 (strR n.roles), .sl 3 (Fs.rows n.fresh), .sl 1 (strR n.tags), .sl 7 (Sp.rows n.steps), .sl 5 (Gl.rows n.goals)]
abbrev xn (n : Nar) : X:=.v (.agg n.cells)
abbrev xg (g : Gl) : X:=.v (.agg g.cells)
structure PS where
 at' : Nat
 bad : Bool
 deriving Inhabited,DecidableEq
def PS.go (p : PS) : PS:=⟨p.at' + 1,p.bad⟩
def PS.off (p : PS) : PS:=⟨p.at',true⟩
def symQ (l : List Tk) (p : PS) (c : List UInt8) : Bool:=!p.bad && decide (p.at' < l.length) && decide ((l.getD p.at' tk0).kind=4) && decide ((l.getD p.at' tk0).text=c)
def uAK (l : List Tk) (c : List UInt8) (p : PS) : PS:=if symQ l p c=true then p.go else p.off
def namQ (l : List Tk) (p : PS) (ws : List (List UInt8)) : Bool:=!p.bad && decide (p.at' < l.length) && decide ((l.getD p.at' tk0).kind=1) && (decide (ws=[]) || ws.contains (l.getD p.at' tk0).text)
def uAs (l : List Tk) (ws : List (List UInt8)) (p : PS) : List UInt8 × PS:=if namQ l p ws=true then ((l.getD p.at' tk0).text,p.go) else ([],p.off)
def uBP {α : Type} (l : List Tk) (f : PS→α × PS) : Nat→PS→List α→List α × PS
 | 0,p,out=>(out,p)
 | n + 1,p,out=>if symQ l p [44]=true then uBP l f n (f p.go).2 (out++[(f p.go).1]) else (out,p)
def uBc {α : Type} (l : List Tk) (f : PS→α × PS) (p : PS) : List α × PS:=uBP l f (l.length + 1) (f p).2 [(f p).1]
def uBm (l : List Tk) (p : PS) : List (List UInt8) × PS:=uBc l (uAs l []) p
def wPair : List UInt8:=[112,97,105,114]
def uIE (a b : T) : T:=⟨3,wPair,0,[a,b]⟩
def tupT : List T→T
 | []=>⟨0,[],0,[]⟩
 | [t]=>t
 | t :: u :: l=>uIE t (tupT (u :: l))
def T0 : T:=⟨0,[],0,[]⟩
def uA5 (l : List Tk) : Nat→PS→T × PS
 | 0,p=>(default,p)
 | n + 1,p=>if symQ l p [60]=true then
   (tupT ((uA5 l n p.go).1 :: (uBc l (uA5 l n) (uAK l [44] (uA5 l n p.go).2)).1),uAK l [62] (uBc l (uA5 l n) (uAK l [44] (uA5 l n p.go).2)).2)
  else if symQ l (uAs l [] p).2 [40]=true then
   (if symQ l (uAs l [] p).2.go [41]=true then (⟨3,(uAs l [] p).1,0,[]⟩,(uAs l [] p).2.go.go)
   else (⟨3,(uAs l [] p).1,0,(uBc l (uA5 l n) (uAs l [] p).2.go).1⟩,uAK l [41] (uBc l (uA5 l n) (uAs l [] p).2.go).2))
  else (⟨2,(uAs l [] p).1,0,[]⟩,(uAs l [] p).2)
def uA8 (l : List Tk) : Nat→PS→T × PS
 | 0,p=>(default,p)
 | n + 1,p=>if symQ l p [60]=true then
   (if (uAK l [62] (uBc l (uA8 l n) (uAK l [44] (uA8 l n p.go).2)).2).bad=true then (T0,uAK l [62] (uBc l (uA8 l n) (uAK l [44] (uA8 l n p.go).2)).2)
   else (tupT ((uA8 l n p.go).1 :: (uBc l (uA8 l n) (uAK l [44] (uA8 l n p.go).2)).1),uAK l [62] (uBc l (uA8 l n) (uAK l [44] (uA8 l n p.go).2)).2))
  else if symQ l (uAs l [] p).2 [40]=true then
   (if symQ l (uAs l [] p).2.go [41]=true then (⟨3,(uAs l [] p).1,0,[]⟩,(uAs l [] p).2.go.go)
   else (⟨3,(uAs l [] p).1,0,(uBc l (uA8 l n) (uAs l [] p).2.go).1⟩,uAK l [41] (uBc l (uA8 l n) (uAs l [] p).2.go).2))
  else (⟨2,(uAs l [] p).1,0,[]⟩,(uAs l [] p).2)
def uBk (l : List (List UInt8)) (s : List UInt8) : Int:=match l with
 | []=>-1
 | x :: r=>if x=s then 0 else if uBk r s < 0 then -1 else uBk r s + 1
def sortW : List (List UInt8):=[[110,111,110,99,101],[107,101,121],[100,97,116,97]]
def kindW : List (List UInt8):=[[115,101,99,114,101,116],[97,103,114,101,101],[105,110,106,101,99,116],[102,114,101,115,104],[102,111,114,119,97,114,100]]
def uE2 : List UInt8:=[114,111,108,101]
def uDU : List UInt8:=[102,114,101,115,104]
def uEZ : List UInt8:=[116,97,103]
def wMsg : List UInt8:=[109,101,115,115,97,103,101]
def uE8 : List UInt8:=[103,111,97,108]
def uDS : List UInt8:=[112,114,111,116,111,99,111,108]
def uBD : List (List UInt8):=[uE2,uDU,uEZ,wMsg,uE8]
def uB1 (l : List Tk) (role : List UInt8) : Nat→PS→List Fs→List Fs × PS
 | 0,p,out=>(out,p)
 | n + 1,p,out=>if p.bad=true then (out,p) else
   if symQ l (uAs l sortW (uAs l [] p).2).2 [44]=true then uB1 l role n (uAs l sortW (uAs l [] p).2).2.go (out++[⟨role,(uAs l [] p).1,2 + uBk sortW (uAs l sortW (uAs l [] p).2).1⟩])
   else (out++[⟨role,(uAs l [] p).1,2 + uBk sortW (uAs l sortW (uAs l [] p).2).1⟩],(uAs l sortW (uAs l [] p).2).2)
def uCd (l : List Tk) (p : PS) (out : List Fs) : List Fs × PS:=uB1 l (uAs l [] p).1 (l.length + 1) (uAK l [58] (uAs l [] p).2) out
def uC7 (l : List Tk) (line : Int) (p : PS) : Sp × PS :=
 let a:=uAs l [] p
 let b:=uAs l [] (uAK l [62] (uAK l [45] a.2))
 let t:=uA5 l (l.length + 1) (uAK l [58] b.2)
 (⟨a.1,b.1,t.1,line⟩,t.2)
def uBE (k : Int) : Bool:=decide (k=2) || decide (k=3)
def uCF (l : List Tk) (line : Int) (p : PS) : Gl × PS :=
 let k:=uAs l kindW p
 let r:=uAs l [] k.2
 let w:=if uBE (1 + uBk kindW k.1)=true then uAs l [] r.2 else ([],r.2)
 let d:=uBc l (uA5 l (l.length + 1)) (uAK l [58] w.2)
 (⟨1 + uBk kindW k.1,r.1,w.1,d.1,line⟩,d.2)
def uB9 (l : List Tk) (p : PS) : Int:=if p.at' < l.length then (l.getD p.at' tk0).line else 0
def uB5 (l : List Tk) (n : Nar) (line : Int) (w : List UInt8) (q : PS) : Nar × PS :=
 if w=uE2 then ({ n with roles:=n.roles++(uBm l q).1 },(uBm l q).2)
 else if w=uDU then ({ n with fresh:=(uCd l q n.fresh).1 },(uCd l q n.fresh).2)
 else if w=uEZ then ({ n with tags:=n.tags++(uBm l q).1 },(uBm l q).2)
 else if w=wMsg then ({ n with steps:=n.steps++[(uC7 l line q).1] },(uC7 l line q).2)
 else if w=uE8 then ({ n with goals:=n.goals++[(uCF l line q).1] },(uCF l line q).2)
 else (n,q)
def uCx (l : List Tk) (n : Nar) (p : PS) : Nar × PS :=
 ((uB5 l n (uB9 l p) (uAs l uBD p).1 (uAs l uBD p).2).1,uAK l [59] (uB5 l n (uB9 l p) (uAs l uBD p).1 (uAs l uBD p).2).2)
def uCK (l : List Tk) : Nat→Nar→PS→Nar × PS
 | 0,n,p=>(n,p)
 | m + 1,n,p=>if p.bad=true then (n,p) else if symQ l p [125]=true then (n,p.go) else uCK l m (uCx l n p).1 (uCx l n p).2
def uFv (l : List Tk) (p : PS) : Int:=if l.length=0 then 1 else if l.length≤p.at' then (l.getD (l.length - 1) tk0).line else (l.getD p.at' tk0).line
def endE (l : List Tk) (p : PS) : Int × Int:=if p.bad=true∨p.at' < l.length then (uFv l p,2) else (0,0)
def nar0 : Nar:=⟨[],[],[],[],[],[]⟩
def uC5 (l : List Tk) : Nar × PS :=
 let a:=uAs l [uDS] ⟨0,false⟩
 let b:=uAs l [] a.2
 uCK l (l.length + 2) { nar0 with name:=b.1 } (uAK l [123] b.2)
end Go.Proofs.YtnjjdbapadkomaaGreatDoor
namespace Go.Proofs.YtnjjdbapadkomaaGreatDoor
open Go Go.Abs
def uB0 (a b : Int) : Int:=if a < b then -1 else if b < a then 1 else 0
theorem uET (a b : Int) : Ctr sys 123 [xi a,xi b] [] (xi (uB0 a b)) none []:=by
 refine uAA Tryz.func123 rfl rfl rfl rfl rfl rfl ?_;refine uAe (uAb ?_);refine uAa rfl rfl rfl (uAd rfl gU) ?_;refine uAf ?_;refine uAe ?_;refine uAe (uAb ?_);refine uAa rfl rfl rfl (uAc rfl gU) ?_;refine uAa rfl rfl rfl (uAc rfl gU) ?_;refine uAa rfl rfl rfl (uAm rfl rfl gU gU rfl) ?_;refine uAf ?_;refine uAn rfl (fun hc=>?_) (fun hc=>?_)
 ·refine uAe (uAb ?_)
  refine uAa rfl rfl rfl (uAd rfl gU) ?_;refine uAf ?_;refine uAp ?_
  repeat (first | refine tR ?_ | refine bR ?_)
  refine uAv rfl ?_ trivial
  simp at hc; show xi _=xi _; simp [uB0,hc]
 ·refine uAq ?_
  refine uAe ?_;refine uAe (uAb ?_);refine uAa rfl rfl rfl (uAc rfl gU) ?_;refine uAa rfl rfl rfl (uAc rfl gU) ?_;refine uAa rfl rfl rfl (uAm rfl rfl gU gU rfl) ?_;refine uAf ?_;refine uAk (s:=⟨[(10,_,_)],[],[],[]⟩) (uAj (⟨sx rfl,trivial⟩) trivial trivial) ?_;refine uAn rfl (fun hc1=>?_) (fun hc1=>?_)
  ·refine uAe (uAb ?_)
   refine uAa rfl rfl rfl (uAd rfl gU) ?_;refine uAf ?_;refine uAp ?_
   repeat (first | refine tR ?_ | refine bR ?_)
   refine uAv rfl ?_ trivial
   simp at hc hc1; show xi _=xi _; simp [uB0,hc1]; omega
  ·refine uAq ?_
   refine uAe (uAb ?_);refine uAa rfl rfl rfl (uAd rfl gU) ?_;refine uAf ?_;refine uAp ?_
   repeat (first | refine tR ?_ | refine bR ?_)
   refine uAv rfl ?_ trivial
   simp at hc hc1; show xi _=xi _; simp [uB0]; omega
def uO8 (t : T) (k : Nat) : St:={ t:=[(1,true, .v (.ptr (.l 1) 0)),(3,true,xi (1 + T.sizes (t.kids.take k))),(4,true,xi k)],bx:=[(.l 1,t.cells)],ow:=[] }
theorem uEN : ∀ (n : Nat) (t : T),t.size≤n→n≤2000000→Ctr sys 106 [.v (.agg t.cells)] [] (xi t.size) none []:=by
 intro n
 induction n with
 | zero=>intro t h _; have := t.size_pos; omega
 | succ n ih =>
  intro t ht hn
  refine uAA Tryz.func106 rfl rfl rfl rfl rfl rfl ?_;refine uAe (uAb ?_);refine uAr rfl (uAX rfl rfl rfl rfl) ?_;refine uAa rfl rfl rfl (uAd rfl gU) ?_;refine uAf ?_;refine uAe (uAb ?_);refine uAa rfl rfl rfl (uAd rfl gU) ?_;refine uAf ?_;refine uAe ?_;refine uAe (uAb ?_);refine uAa rfl rfl rfl (uAd rfl gU) ?_;refine uAf ?_;refine uAx ?_;refine uDn (uO8 t) (fun k=>k≤t.kids.length) (fun k=>t.kids.length - k) 0 (Nat.zero_le _) ?_ ?_
  ·refine uAj ⟨⟨_,rfl,rfl⟩,⟨_,rfl,rfl⟩,⟨_,rfl,rfl⟩,trivial⟩ ⟨⟨_,rfl,rfl⟩,trivial⟩ trivial
  ·intro k hk
   refine uAe ?_;refine uAe (uAb ?_);refine uAa rfl rfl rfl (uAc rfl gU) ?_;refine uAa rfl rfl rfl (uAg rfl gU rfl rfl) ?_;refine uAa rfl rfl rfl (uAl rfl gU rfl rfl rfl rfl) ?_;refine uAS rfl rfl rfl rfl rfl gU rfl rfl ?_ (fun hh=>by simp at hh); intro hlen;refine uAa rfl rfl rfl (uAm rfl rfl gU gU rfl) ?_;refine uAf ?_;refine uAk (s:=⟨[(1,_,_),(3,_,_),(4,_,_),(9,_,_)],[(.l 1,_)],[],[]⟩) (uAj (⟨sx rfl,sx rfl,sx rfl,sx rfl,trivial⟩) (⟨sx rfl,trivial⟩) trivial) ?_;refine uAn rfl (fun hc=>?_) (fun hc=>?_)
   ·rw [T.rows_len] at hlen hc
    have hlt : k < t.kids.length:=by simpa using hc
    obtain ⟨x,hx⟩ : ∃ x,t.kids[k]? = some x:=⟨_,List.getElem?_eq_getElem hlt⟩
    have h1:=T.sizes_take _ _ _ hx
    have h2:=T.sizes_take_le t.kids (k + 1)
    have h3:=t.size_eq
    have h4:=x.size_pos
    refine uAq ?_;refine uAe ?_;refine uAx ?_;refine uAb ?_;refine uAa rfl rfl rfl (uAc rfl gU) ?_;refine uAa rfl rfl rfl (uAg rfl gU rfl rfl) ?_;refine uAa rfl rfl rfl (uAl rfl gU rfl rfl rfl rfl) ?_;refine uAa rfl rfl rfl (uAc rfl gU) ?_;refine uAa rfl rfl rfl (uAy rfl rfl gU gU rfl rfl rfl (fun _=>T.rows_get hx)) ?_;refine uAa rfl rfl rfl (uAP rfl gU rfl rfl rfl rfl) ?_;refine uAw rfl rfl rfl rfl rfl rfl gU gU (ih x (by omega) (by omega)) rfl ?_;refine uAa rfl rfl rfl (uAz rfl rfl gU gU rfl (IntWalk.i64_in _ (by omega))) ?_;refine uAa rfl rfl rfl (uAd rfl gU) ?_;refine uAf ?_;refine uAk (s:=⟨[(1,_,_),(3,_,_),(4,_,_)],[(.l 1,_)],[],[]⟩) (uAj (⟨sx rfl,sx rfl,sx rfl,trivial⟩) (⟨sx rfl,trivial⟩) trivial) ?_;refine uAb ?_;refine uAa rfl rfl rfl (uAc rfl gU) ?_;refine uAa rfl rfl rfl (uAz rfl rfl gU gU rfl (IntWalk.i64_in _ (by omega))) ?_;refine uAa rfl rfl rfl (uAd rfl gU) ?_;refine uAf ?_;refine ⟨k + 1,by omega,by omega,?_⟩;refine uAj ⟨⟨_,rfl,rfl⟩,⟨_,rfl,?_⟩,⟨_,rfl,rfl⟩,trivial⟩ ⟨⟨_,rfl,rfl⟩,trivial⟩ trivial
    rw [h1]; simp; omega
   ·refine uAQ ?_
    repeat (first | refine uAE ?_ | refine uAD ?_ | refine uAC rfl ?_)
    refine uAe (uAb ?_);refine uAa rfl rfl rfl (uAc rfl gU) ?_;refine uAa rfl rfl rfl (uAd rfl gU) ?_;refine uAf ?_;refine uAp ?_
    repeat (first | refine tR ?_ | refine bR ?_)
    refine uAv rfl ?_ trivial
    rw [T.rows_len] at hc
    have : k=t.kids.length:=by simp at hc; omega
    subst this
    rw [List.take_length,t.size_eq]
    show xi _=xi _
    simp
end Go.Proofs.YtnjjdbapadkomaaGreatDoor
namespace Go.Proofs.YtnjjdbapadkomaaGreatDoor
open Go Go.Abs
theorem uIF (n : Int) : Ctr sys 178 [xu n] [] (xb (uB3 n)) none []:=by
 refine uAA Tryz.func178 rfl rfl rfl rfl rfl rfl ?_;refine uAe (uAb ?_);refine uAa rfl rfl rfl (uAd rfl gU) ?_;refine uAf ?_;refine uAe (uAb ?_);refine uAa rfl rfl rfl (uAc rfl gU) ?_;refine uAa rfl rfl rfl (uAm rfl rfl gU gU rfl) ?_;refine uAa rfl rfl rfl (uAc rfl gU) ?_;refine uAa rfl rfl rfl (uAc rfl gU) ?_;refine uAa rfl rfl rfl (uAm rfl rfl (fun hh=>hh) gU rfl) ?_;refine uAa rfl rfl rfl (uAV rfl rfl gU (fun _ hi=>gP rfl hi)) ?_;refine uAa rfl rfl rfl (uAc rfl gU) ?_;refine uAa rfl rfl rfl (uAc rfl gU) ?_;refine uAa rfl rfl rfl (uAm rfl rfl (fun hh=>hh) gU rfl) ?_;refine uAa rfl rfl rfl (uAc rfl (fun hh=>hh)) ?_;refine uAa rfl rfl rfl (uAc rfl gU) ?_;refine uAa rfl rfl rfl (uAm rfl rfl (fun hh=>hh) gU rfl) ?_;refine uAa rfl rfl rfl (uAV rfl rfl (fun hh=>hh) (fun hh hi=>gP hh hi)) ?_;refine uAa rfl rfl rfl (uAJ rfl rfl gU (fun _ hi=>gP rfl hi)) ?_;refine uAa rfl rfl rfl (uAc rfl gU) ?_;refine uAa rfl rfl rfl (uAc rfl gU) ?_;refine uAa rfl rfl rfl (uAm rfl rfl (fun hh=>hh) gU rfl) ?_;refine uAa rfl rfl rfl (uAc rfl (fun hh=>hh)) ?_;refine uAa rfl rfl rfl (uAc rfl gU) ?_;refine uAa rfl rfl rfl (uAm rfl rfl (fun hh=>hh) gU rfl) ?_;refine uAa rfl rfl rfl (uAV rfl rfl (fun hh=>hh) (fun hh hi=>gP hh hi)) ?_;refine uAa rfl rfl rfl (uAJ rfl rfl gU (fun _ hi=>gP rfl hi)) ?_
 refine uAa rfl rfl rfl (uAc rfl gU) ?_;refine uAa rfl rfl rfl (uAc rfl gU) ?_;refine uAa rfl rfl rfl (uAm rfl rfl (fun hh=>hh) gU rfl) ?_;refine uAa rfl rfl rfl (uAJ rfl rfl gU (fun _ hi=>gP rfl hi)) ?_;refine uAa rfl rfl rfl (uAc rfl gU) ?_;refine uAa rfl rfl rfl (uAc rfl gU) ?_;refine uAa rfl rfl rfl (uAm rfl rfl (fun hh=>hh) gU rfl) ?_;refine uAa rfl rfl rfl (uAJ rfl rfl gU (fun _ hi=>gP rfl hi)) ?_;refine uAa rfl rfl rfl (uAd rfl gU) ?_;refine uAf ?_;refine uAp ?_
 repeat (first | refine tR ?_ | refine bR ?_)
 refine uAv rfl ?_ trivial
 rfl
end Go.Proofs.YtnjjdbapadkomaaGreatDoor
namespace Go.Proofs.YtnjjdbapadkomaaGreatDoor
open Go Go.Abs
def uCf (t : T) : Int :=
 if (t.kind=1∨t.kind=2)∧0≤t.sort∧t.sort≤5∧t.kids.length=0∨t.kind=3∧t.sort=0 then
  if uCZ t.name=true then (if 8 < t.kids.length then 3 else 0) else 2
 else 1
namespace T
mutual
def nodesE : T→Int
 | mk k n s ks=>if uCf (mk k n s ks)≠0 then uCf (mk k n s ks) else nodesEs ks
def nodesEs : List T→Int
 | []=>0
 | t :: ts=>if nodesE t≠0 then nodesE t else nodesEs ts
end
theorem nodesE_eq (t : T) : t.nodesE=if uCf t≠0 then uCf t else nodesEs t.kids:=by cases t; rw [nodesE]; rfl
theorem nodesEs_hit : ∀ (ts : List T) (k : Nat) (x : T),ts[k]? = some x→nodesEs (ts.take k)=0→x.nodesE≠0→nodesEs ts=x.nodesE
 | [],k,x,h,_,_=>by simp at h
 | t :: ts,0,x,h,_,hx=>by simp at h; subst h; rw [nodesEs,if_pos hx]
 | t :: ts,k + 1,x,h,h0,hx=>by
  rw [List.take_succ_cons,nodesEs] at h0
  rw [nodesEs]
  by_cases ht : t.nodesE=0
  ·rw [if_neg (by simpa using ht)] at h0
   rw [if_neg (by simpa using ht)]
   exact nodesEs_hit ts k x (by simpa using h) h0 hx
  ·rw [if_pos ht] at h0; exact absurd h0 ht
theorem nodesEs_step : ∀ (ts : List T) (k : Nat) (x : T),ts[k]? = some x→nodesEs (ts.take k)=0→x.nodesE=0→nodesEs (ts.take (k + 1))=0
 | [],k,x,h,_,_=>by simp at h
 | t :: ts,0,x,h,_,hx=>by simp at h; subst h; simp [nodesEs,hx]
 | t :: ts,k + 1,x,h,h0,hx=>by
  rw [List.take_succ_cons,nodesEs] at h0
  rw [List.take_succ_cons,nodesEs]
  by_cases ht : t.nodesE=0
  ·rw [if_neg (by simpa using ht)] at h0
   rw [if_neg (by simpa using ht)]
   exact nodesEs_step ts k x (by simpa using h) h0 hx
  ·rw [if_pos ht] at h0; exact absurd h0 ht
mutual
def depth : T→Nat
 | mk _ _ _ ks=>depths ks + 1
def depths : List T→Nat
 | []=>0
 | t :: ts=>max (depth t) (depths ts)
end
theorem depth_eq (t : T) : t.depth=depths t.kids + 1:=by cases t; rw [depth]; rfl
theorem depths_take : ∀ (ts : List T) (k : Nat) (x : T),ts[k]? = some x→depths (ts.take (k + 1))=max (depths (ts.take k)) x.depth
 | [],k,x,h=>by simp at h
 | t :: ts,0,x,h=>by simp at h; subst h; simp [depths]
 | t :: ts,k + 1,x,h=>by
  have := depths_take ts k x (by simpa using h)
  simp only [List.take_succ_cons,depths]
  omega
mutual
theorem depth_le : ∀ t : T,t.depth≤t.size
 | mk k n s ks=>by have := uIe ks; rw [depth,size]; omega
theorem uIe : ∀ ts : List T,depths ts≤sizes ts
 | []=>by simp [depths]
 | t :: ts=>by have h1:=depth_le t; have h2:=uIe ts; rw [depths,sizes]; omega
end
theorem depths_take_le : ∀ (ts : List T) (k : Nat),depths (ts.take k)≤depths ts
 | [],k=>by simp
 | t :: ts,0=>by simp [depths]
 | t :: ts,k + 1=>by have := depths_take_le ts k; simp only [List.take_succ_cons,depths]; omega
structure Chk where
 e : Int
 n : Int
 d : Int
mutual
def chk : T→Int→Int→Int→Chk
 | mk k nm s ks,lv,n,d=>if uCf (mk k nm s ks)≠0 then ⟨uCf (mk k nm s ks),n + 1,max d lv⟩ else chks ks (lv + 1) (n + 1) (max d lv)
def chks : List T→Int→Int→Int→Chk
 | [],_,n,d=>⟨0,n,d⟩
 | t :: ts,lv,n,d=>if (chk t lv n d).e≠0 then chk t lv n d else chks ts lv (chk t lv n d).n (chk t lv n d).d
end
theorem chk_eq (t : T) (lv n d : Int) : t.chk lv n d=if uCf t≠0 then ⟨uCf t,n + 1,max d lv⟩ else chks t.kids (lv + 1) (n + 1) (max d lv):=by cases t; rw [chk]; rfl
mutual
theorem chk_e : ∀ (t : T) (lv n d : Int),(t.chk lv n d).e=t.nodesE
 | mk k nm s ks,lv,n,d=>by
  rw [chk,nodesE]
  split
  ·rfl
  ·exact chks_e ks _ _ _
theorem chks_e : ∀ (ts : List T) (lv n d : Int),(chks ts lv n d).e=nodesEs ts
 | [],_,_,_=>by rw [chks,nodesEs]
 | t :: ts,lv,n,d=>by
  rw [chks,nodesEs]
  rw [chk_e t lv n d]
  split
  ·exact chk_e t lv n d
  ·exact chks_e ts _ _ _
end
mutual
theorem chk_n : ∀ (t : T) (lv n d : Int),n≤(t.chk lv n d).n∧(t.chk lv n d).n≤n + t.size∧(t.nodesE=0→(t.chk lv n d).n=n + t.size)
 | mk k nm s ks,lv,n,d=>by
  rw [chk,nodesE,size]
  have h:=chks_n ks (lv + 1) (n + 1) (max d lv)
  split
  ·dsimp only; exact ⟨by omega,by omega,fun hh=>absurd hh (by assumption)⟩
  ·exact ⟨by omega,by omega,fun hh=>by have := h.2.2 hh; omega⟩
theorem chks_n : ∀ (ts : List T) (lv n d : Int),n≤(chks ts lv n d).n∧(chks ts lv n d).n≤n + sizes ts∧(nodesEs ts=0→(chks ts lv n d).n=n + sizes ts)
 | [],_,n,_=>by rw [chks,sizes]; dsimp only; omega
 | t :: ts,lv,n,d=>by
  rw [chks,nodesEs,sizes,chk_e]
  have h:=chk_n t lv n d
  have h2:=chks_n ts lv (t.chk lv n d).n (t.chk lv n d).d
  split
  ·exact ⟨by omega,by omega,fun hh=>absurd hh (by assumption)⟩
  ·rename_i hz
   have hz' : t.nodesE=0:=by simpa using hz
   have := h.2.2 hz'
   exact ⟨by omega,by omega,fun hh=>by have := h2.2.2 hh; omega⟩
end
mutual
theorem chk_d : ∀ (t : T) (lv n d : Int),t.nodesE=0→(t.chk lv n d).d=max d (lv + t.depth - 1)
 | mk k nm s ks,lv,n,d,h=>by
  rw [nodesE] at h
  rw [chk,depth]
  split
  ·rename_i hz; rw [if_pos hz] at h; exact absurd h hz
  ·rename_i hz
   rw [if_neg hz] at h
   rw [uNr ks (lv + 1) (n + 1) (max d lv) h]
   split <;> omega
theorem uNr : ∀ (ts : List T) (lv n d : Int),nodesEs ts=0→(chks ts lv n d).d=if depths ts=0 then d else max d (lv + depths ts - 1)
 | [],_,n,d,_=>by rw [chks,depths]; simp
 | t :: ts,lv,n,d,h=>by
  rw [nodesEs] at h
  rw [chks,depths,chk_e]
  split
  ·rename_i hz; rw [if_pos hz] at h; exact absurd h hz
  ·rename_i hz
   rw [if_neg hz] at h
   rw [uNr ts lv _ _ h,chk_d t lv n d (by simpa using hz)]
   have hd : 1≤t.depth:=by rw [depth_eq]; omega
   split <;> split <;> omega
end
theorem uEy : ∀ (a b : List T) (lv n d : Int),chks (a++b) lv n d=if (chks a lv n d).e≠0 then chks a lv n d else chks b lv (chks a lv n d).n (chks a lv n d).d
 | [],b,lv,n,d=>by rw [List.nil_append]; simp [chks]
 | t :: a,b,lv,n,d=>by
  rw [List.cons_append,chks,chks]
  by_cases h : (t.chk lv n d).e≠0
  ·rw [if_pos h,if_pos h,if_pos h]
  ·rw [if_neg h,if_neg h,uEy a b]
theorem take_succ {ts : List T} {k : Nat} {x : T} (h : ts[k]? = some x) : ts.take (k + 1)=ts.take k++[x]:=by
 rw [List.take_add_one,h]; rfl
theorem chks_step {ts : List T} {k : Nat} {x : T} {lv n d : Int} (h : ts[k]? = some x) (h0 : (chks (ts.take k) lv n d).e=0) (hx : x.nodesE=0) :
  chks (ts.take (k + 1)) lv n d=x.chk lv (chks (ts.take k) lv n d).n (chks (ts.take k) lv n d).d:=by
 rw [take_succ h,uEy,if_neg (by simpa using h0),chks,chk_e,if_neg (by simpa using hx),chks]
 have := chk_e x lv (chks (ts.take k) lv n d).n (chks (ts.take k) lv n d).d
 rw [hx] at this
 cases hc : x.chk lv (chks (ts.take k) lv n d).n (chks (ts.take k) lv n d).d
 rw [hc] at this
 simp at this
 simp [this]
theorem chks_hit {ts : List T} {k : Nat} {x : T} {lv n d : Int} (h : ts[k]? = some x) (h0 : (chks (ts.take k) lv n d).e=0) (hx : x.nodesE≠0) :
  chks ts lv n d=x.chk lv (chks (ts.take k) lv n d).n (chks (ts.take k) lv n d).d:=by
 have hs : ts=ts.take k++(x :: ts.drop (k + 1)):=by
  have hlt:=(List.getElem?_eq_some_iff.1 h)
  obtain ⟨hl,he⟩:=hlt
  rw [← he,List.getElem_cons_drop,List.take_append_drop]
 conv=>lhs; rw [hs]
 rw [uEy,if_neg (by simpa using h0),chks,chk_e,if_pos hx]
end T
def uDJ (t : T) : Int:=if t.nodesE≠0 then t.nodesE else if 400 < t.size∨40 < t.depth then 3 else 0
end Go.Proofs.YtnjjdbapadkomaaGreatDoor
namespace Go.Proofs.YtnjjdbapadkomaaGreatDoor
open Go Go.Abs
abbrev xm (t : T) : X:=.v (.agg t.cells)
abbrev xl (ts : List T) : X:=.v (.c (.sl 4 (T.rows ts)))
theorem uEJ (v : Int) (h : uB3 v=false∨(48≤v∧v≤57)∨v=95∨v=35) : uBo v=false:=by
 rcases h with h | h | h | h
 ·cases hl : uBo v with
  | false=>rfl
  | true=>simp [uB3,hl] at h
 all_goals simp [uBo]; omega
theorem uK3 (v : Int) (h : uB3 v=true) (h1 : ¬ (48≤v∧v≤57)) (h2 : ¬ v=95) (h3 : ¬ v=35) : uBo v=true:=by
 cases hl : uBo v with
 | true=>rfl
 | false=>simp [uB3,hl,uBK] at h; omega
def uNJ (l : List UInt8) (k : Nat) : St:={ t:=[(0,true,xs l),(38,true,xi l.length),(39,true,xi k)],bx:=[],ow:=[] }
theorem uJe (l : List UInt8) : Ctr sys 169 [xs l] [] (xb (uCZ l)) none []:=by
 refine uAA Tryz.func169 rfl rfl rfl rfl rfl rfl ?_;refine uAe (uAb ?_);refine uAa rfl rfl rfl (uAd rfl gU) ?_;refine uAf ?_;refine uAe ?_;refine uAe (uAb ?_);refine uAa rfl rfl rfl (uAc rfl gU) ?_;refine uAa rfl rfl rfl (uA9 rfl rfl gU gU rfl) ?_;refine uAa rfl rfl rfl (uAc rfl gU) ?_;refine uAa rfl rfl rfl (uAc rfl gU) ?_;refine uAa rfl rfl rfl (uCc rfl (fun hh=>hh) (Tryz.underlying9)) ?_;refine uAa rfl rfl rfl (uAm rfl rfl (fun hh=>hh) gU rfl) ?_;refine uAa rfl rfl rfl (uAJ rfl rfl gU (fun _ hi=>gP rfl hi)) ?_;refine uAa rfl rfl rfl (uAc rfl gU) ?_;refine uAa rfl rfl rfl (uAc rfl gU) ?_;refine uAa rfl rfl rfl (uAF rfl rfl (fun hh=>hh) gU Tryz.underlying9 rfl (by intro hh; simp at hh; exact List.length_pos_iff.2 hh.1)) ?_;refine uAw rfl rfl rfl rfl rfl rfl gU (fun hh=>gA ((fun hh=>hh) hh) (rfl)) (uIF _) rfl ?_;refine uAa rfl rfl rfl (uAZ rfl (fun hh=>hh)) ?_;refine uAa rfl rfl rfl (uAJ rfl rfl gU (fun _ hi=>gP rfl hi)) ?_;refine uAa rfl rfl rfl (uAc rfl gU) ?_;refine uAa rfl rfl rfl (uAc rfl gU) ?_;refine uAa rfl rfl rfl (uAF rfl rfl (fun hh=>hh) gU Tryz.underlying9 rfl (by intro hh; simp at hh; exact List.length_pos_iff.2 hh.1.1)) ?_;refine uAa rfl rfl rfl (uAm rfl rfl (fun hh=>hh) gU rfl) ?_;refine uAa rfl rfl rfl (uAc rfl (fun hh=>hh)) ?_
 refine uAa rfl rfl rfl (uAc rfl gU) ?_;refine uAa rfl rfl rfl (uAF rfl rfl (fun hh=>hh) gU Tryz.underlying9 rfl (by intro hh; simp at hh; exact List.length_pos_iff.2 hh.1.1.1)) ?_;refine uAa rfl rfl rfl (uAm rfl rfl (fun hh=>hh) gU rfl) ?_;refine uAa rfl rfl rfl (uAV rfl rfl (fun hh=>hh) (fun hh hi=>gP hh hi)) ?_;refine uAa rfl rfl rfl (uAJ rfl rfl gU (fun _ hi=>gP rfl hi)) ?_;refine uAa rfl rfl rfl (uAc rfl gU) ?_;refine uAa rfl rfl rfl (uAc rfl gU) ?_;refine uAa rfl rfl rfl (uAF rfl rfl (fun hh=>hh) gU Tryz.underlying9 rfl (by intro hh; simp at hh; exact List.length_pos_iff.2 hh.1.1.1)) ?_;refine uAa rfl rfl rfl (uAm rfl rfl (fun hh=>hh) gU rfl) ?_;refine uAa rfl rfl rfl (uAJ rfl rfl gU (fun _ hi=>gP rfl hi)) ?_;refine uAa rfl rfl rfl (uAc rfl gU) ?_;refine uAa rfl rfl rfl (uAc rfl gU) ?_;refine uAa rfl rfl rfl (uAF rfl rfl (fun hh=>hh) gU Tryz.underlying9 rfl (by intro hh; simp at hh; exact List.length_pos_iff.2 hh.1.1.1.1)) ?_;refine uAa rfl rfl rfl (uAm rfl rfl (fun hh=>hh) gU rfl) ?_;refine uAa rfl rfl rfl (uAJ rfl rfl gU (fun _ hi=>gP rfl hi)) ?_;refine uAf ?_;refine uAk (s:=⟨[(0,_,_),(36,_,_)],[],[],[]⟩) (uAj (⟨sx rfl,sx rfl,trivial⟩) trivial trivial) ?_;refine uAn rfl (fun hc=>?_) (fun hc=>?_)
 ·refine uAe (uAb ?_)
  refine uAa rfl rfl rfl (uAd rfl gU) ?_;refine uAf ?_;refine uAp ?_
  repeat (first | refine tR ?_ | refine bR ?_)
  refine uAv rfl ?_ trivial;refine uCG ?_
  simp only [Bool.or_eq_true,Bool.not_eq_true',decide_eq_true_eq,Bool.and_eq_true,beq_iff_eq] at hc
  rcases hc with ((((hc | hc) | hc) | hc) | hc) | hc
  ·subst hc; rfl
  ·have : ¬ l.length≤24:=by omega
   simp [uCZ,this]
  ·simp only [uCZ,uEJ _ (.inl hc),Bool.and_false,Bool.false_and]
  ·simp only [uCZ,uEJ _ (.inr (.inl hc)),Bool.and_false,Bool.false_and]
  ·simp only [uCZ,uEJ _ (.inr (.inr (.inl hc))),Bool.and_false,Bool.false_and]
  ·simp only [uCZ,uEJ _ (.inr (.inr (.inr hc))),Bool.and_false,Bool.false_and]
 ·simp only [Bool.or_eq_false_iff,Bool.not_eq_false',decide_eq_false_iff_not,beq_eq_false_iff_ne] at hc
  obtain ⟨⟨⟨⟨⟨hc1,hc2⟩,hc3⟩,hc4⟩,hc5⟩,hc6⟩:=hc
  have hlet:=uK3 _ hc3 (by rintro ⟨q1,q2⟩; rw [decide_eq_true q1,decide_eq_true q2] at hc4; simp at hc4) hc5 hc6
  refine uAq ?_;refine uAe ?_;refine uAe (uAb ?_);refine uAa rfl rfl rfl (uAc rfl gU) ?_;refine uBw rfl rfl rfl rfl rfl gU (Tryz.underlying9) ?_ (fun hh=>by simp at hh); intro hlen;refine uAa rfl rfl rfl (uAc rfl gU) ?_;refine uAf ?_;refine uAx ?_;refine uDn (uNJ l) (fun k=>k≤l.length ∧ ∀ j,j < k→uB3 ((l.getD j 0).toNat : Int)=true) (fun k=>l.length - k) 0 ⟨Nat.zero_le _,fun j h=>by omega⟩ ?_ ?_
  ·refine uAj ⟨⟨_,rfl,rfl⟩,⟨_,rfl,rfl⟩,⟨_,rfl,rfl⟩,trivial⟩ trivial trivial
  ·rintro k ⟨hk,hall⟩
   refine uAe (uAb ?_);refine uAa rfl rfl rfl (uAm rfl rfl gU gU rfl) ?_;refine uAf ?_;refine uAe ?_;refine uAn rfl (fun hc2=>?_) (fun hc2=>?_)
   ·have hlt : k < l.length:=by simpa using hc2
    refine uAq ?_;refine uAe ?_;refine uAx ?_;refine uAe (uAb ?_);refine uAa rfl rfl rfl (uAc rfl gU) ?_;refine uAa rfl rfl rfl (uAd rfl gU) ?_;refine uAf ?_;refine uAe (uAb ?_);refine uAa rfl rfl rfl (uAc rfl gU) ?_;refine uAa rfl rfl rfl (uAc rfl gU) ?_;refine uAa rfl rfl rfl (uAF rfl rfl gU gU Tryz.underlying9 rfl (fun _=>hlt)) ?_;refine uAw rfl rfl rfl rfl rfl rfl gU gU (uIF _) rfl ?_;refine uAa rfl rfl rfl (uAZ rfl gU) ?_;refine uAf ?_;refine uAk (s:=⟨[(0,_,_),(38,_,_),(39,_,_),(46,_,_)],[],[],[]⟩) (uAj (⟨sx rfl,sx rfl,sx rfl,sx rfl,trivial⟩) trivial trivial) ?_;refine uAn rfl (fun hc3=>?_) (fun hc3=>?_)
    ·refine uAe (uAb ?_)
     refine uAa rfl rfl rfl (uAd rfl gU) ?_;refine uAf ?_;refine uAp ?_
     repeat (first | refine tR ?_ | refine bR ?_)
     refine uAv rfl ?_ trivial;refine uCG ?_
     have : (l.all fun b=>uB3 (b.toNat : Int))=false:=uKa hlt (by simpa using hc3)
     simp [uCZ,this]
    ·refine uAq ?_
     refine uAb ?_;refine uAa rfl rfl rfl (uAz rfl rfl gU gU rfl (IntWalk.i64_in _ (by omega))) ?_;refine uAa rfl rfl rfl (uAc rfl gU) ?_;refine uAf ?_;refine ⟨k + 1,⟨by omega,?_⟩,by omega,?_⟩
     ·intro j hj
      rcases Nat.lt_or_ge j k with h | h
      ·exact hall j h
      ·have : j=k:=by omega
       subst this
       simpa using hc3
     ·refine uAj ⟨⟨_,rfl,rfl⟩,⟨_,rfl,rfl⟩,⟨_,rfl,rfl⟩,trivial⟩ trivial trivial
   ·refine uAQ ?_
    repeat (first | refine uAE ?_ | refine uAD ?_ | refine uAC rfl ?_)
    refine uAe (uAb ?_);refine uAa rfl rfl rfl (uAd rfl gU) ?_;refine uAf ?_;refine uAp ?_
    repeat (first | refine tR ?_ | refine bR ?_)
    refine uAv rfl ?_ trivial;refine uCG ?_
    have hk' : k=l.length:=by simp at hc2; omega
    subst hk'
    have := uOk (p := fun b=>uB3 (b.toNat : Int)) hall
    have hne : l.length≠0 := by intro h; have := List.eq_nil_of_length_eq_zero h; simp [this] at hc1
    have h24 : l.length≤24:=by omega
    simp only [uCZ,this,hlet]
    rw [decide_eq_true hne,decide_eq_true h24]
    rfl
theorem uL6 (t : T) : Ctr sys 170 [xm t] [] (xi (uCf t)) none []:=by
 refine uAA Tryz.func170 rfl rfl rfl rfl rfl rfl ?_;refine uAe (uAb ?_);refine uAr rfl (uAX rfl rfl rfl rfl) ?_;refine uAa rfl rfl rfl (uAd rfl gU) ?_;refine uAf ?_;refine uAe (uAb ?_);refine uAa rfl rfl rfl (uAg rfl gU rfl rfl) ?_;refine uAa rfl rfl rfl (uAl rfl gU rfl rfl rfl rfl) ?_;refine uAa rfl rfl rfl (uAm rfl rfl gU gU rfl) ?_;refine uAa rfl rfl rfl (uAc rfl gU) ?_;refine uAa rfl rfl rfl (uAg rfl gU rfl rfl) ?_;refine uAa rfl rfl rfl (uAl rfl (fun hh=>hh) rfl rfl rfl rfl) ?_;refine uAa rfl rfl rfl (uAm rfl rfl (fun hh=>hh) gU rfl) ?_;refine uAa rfl rfl rfl (uAJ rfl rfl gU (fun _ hi=>gP rfl hi)) ?_;refine uAa rfl rfl rfl (uAd rfl gU) ?_;refine uAf ?_;refine uAk (s:=⟨[(1,_,_),(3,_,_)],[(.l 1,_)],[],[]⟩) (uAj (⟨sx rfl,sx rfl,trivial⟩) (⟨sx rfl,trivial⟩) trivial) ?_;refine uAe ?_;refine uAe (uAb ?_);refine uAa rfl rfl rfl (uAc rfl gU) ?_;refine uAa rfl rfl rfl (uAZ rfl gU) ?_;refine uAa rfl rfl rfl (uAc rfl gU) ?_;refine uAa rfl rfl rfl (uAg rfl gU rfl rfl) ?_;refine uAa rfl rfl rfl (uAl rfl (fun hh=>hh) rfl rfl rfl rfl) ?_;refine uAa rfl rfl rfl (uAm rfl rfl (fun hh=>hh) gU rfl) ?_;refine uAa rfl rfl rfl (uAV rfl rfl gU (fun _ hi=>gP rfl hi)) ?_;refine uAa rfl rfl rfl (uAc rfl gU) ?_
 refine uAa rfl rfl rfl (uAg rfl gU rfl rfl) ?_;refine uAa rfl rfl rfl (uAl rfl (fun hh=>hh) rfl rfl rfl rfl) ?_;refine uAa rfl rfl rfl (uAm rfl rfl (fun hh=>hh) gU rfl) ?_;refine uAa rfl rfl rfl (uAJ rfl rfl gU (fun _ hi=>gP rfl hi)) ?_;refine uAa rfl rfl rfl (uAc rfl gU) ?_;refine uAa rfl rfl rfl (uAg rfl gU rfl rfl) ?_;refine uAa rfl rfl rfl (uAl rfl (fun hh=>hh) rfl rfl rfl rfl) ?_;refine uAa rfl rfl rfl (uAm rfl rfl (fun hh=>hh) gU rfl) ?_;refine uAa rfl rfl rfl (uAJ rfl rfl gU (fun _ hi=>gP rfl hi)) ?_;refine uAa rfl rfl rfl (uAc rfl gU) ?_;refine uAa rfl rfl rfl (uAc rfl gU) ?_;refine uAa rfl rfl rfl (uAZ rfl (fun hh=>hh)) ?_;refine uAa rfl rfl rfl (uAc rfl (fun hh=>hh)) ?_;refine uAa rfl rfl rfl (uAg rfl gU rfl rfl) ?_;refine uAa rfl rfl rfl (uAl rfl (fun hh=>hh) rfl rfl rfl rfl) ?_;refine uAa rfl rfl rfl (uAm rfl rfl (fun hh=>hh) gU rfl) ?_;refine uAa rfl rfl rfl (uAV rfl rfl (fun hh=>hh) (fun hh hi=>gP hh hi)) ?_;refine uAa rfl rfl rfl (uAJ rfl rfl gU (fun _ hi=>gP rfl hi)) ?_;refine uAa rfl rfl rfl (uAc rfl gU) ?_;refine uAa rfl rfl rfl (uAc rfl gU) ?_;refine uAa rfl rfl rfl (uAc rfl (fun hh=>hh)) ?_;refine uAa rfl rfl rfl (uAg rfl gU rfl rfl) ?_;refine uAa rfl rfl rfl (uAl rfl (fun hh=>hh) rfl rfl rfl rfl) ?_
 refine uAa rfl rfl rfl (uBa rfl (fun hh=>hh) rfl rfl) ?_;refine uAa rfl rfl rfl (uAm rfl rfl (fun hh=>hh) gU rfl) ?_;refine uAa rfl rfl rfl (uAV rfl rfl (fun hh=>hh) (fun hh hi=>gP hh hi)) ?_;refine uAa rfl rfl rfl (uAJ rfl rfl gU (fun _ hi=>gP rfl hi)) ?_;refine uAf ?_;refine uAk (s:=⟨[(1,_,_),(46,_,_)],[(.l 1,_)],[],[]⟩) (uAj (⟨sx rfl,sx rfl,trivial⟩) (⟨sx rfl,trivial⟩) trivial) ?_;refine uAn rfl (fun hc=>?_) (fun hc=>?_)
 ·refine uAe (uAb ?_)
  refine uAa rfl rfl rfl (uAd rfl gU) ?_;refine uAf ?_;refine uAp ?_
  repeat (first | refine tR ?_ | refine bR ?_)
  refine uAv rfl ?_ trivial;refine uBj ?_
  rw [uCf,if_neg]
  simp only [Bool.or_eq_true,Bool.and_eq_true,Bool.not_eq_true',Bool.or_eq_false_iff,decide_eq_true_eq,bne_iff_ne,ne_eq,beq_iff_eq,beq_eq_false_iff_ne,T.rows_len] at hc
  rintro (⟨h1,h2,h3,h4⟩ | ⟨h1,h2⟩) <;> omega
 ·have hok : (t.kind=1∨t.kind=2)∧0≤t.sort∧t.sort≤5∧t.kids.length=0∨t.kind=3∧t.sort=0:=by
   simp only [Bool.or_eq_false_iff,Bool.and_eq_false_iff,Bool.not_eq_false',Bool.or_eq_true,decide_eq_false_iff_not,bne_eq_false_iff_eq,beq_iff_eq,beq_eq_false_iff_ne,ne_eq,T.rows_len] at hc
   omega
  refine uAq ?_;refine uAe ?_;refine uAe (uAb ?_);refine uAa rfl rfl rfl (uAg rfl gU rfl rfl) ?_;refine uAa rfl rfl rfl (uAl rfl gU rfl rfl rfl rfl) ?_;refine uAw rfl rfl rfl rfl rfl rfl gU gU (uGy _) rfl ?_;refine uAa rfl rfl rfl (uAZ rfl gU) ?_;refine uAf ?_;refine uAn rfl (fun hc2=>?_) (fun hc2=>?_)
  ·refine uAe (uAb ?_)
   refine uAa rfl rfl rfl (uAd rfl gU) ?_;refine uAf ?_;refine uAp ?_
   repeat (first | refine tR ?_ | refine bR ?_)
   refine uAv rfl ?_ trivial;refine uBj ?_
   simp only [Bool.not_eq_true'] at hc2
   rw [uCf,if_pos hok,if_neg (by rw [hc2]; simp)]
  ·simp only [Bool.not_eq_false'] at hc2
   refine uAq ?_;refine uAe ?_;refine uAe (uAb ?_);refine uAa rfl rfl rfl (uAg rfl gU rfl rfl) ?_;refine uAa rfl rfl rfl (uAl rfl gU rfl rfl rfl rfl) ?_;refine uAS rfl rfl rfl rfl rfl gU rfl rfl ?_ (fun hh=>by simp at hh); intro hlen;refine uAa rfl rfl rfl (uAm rfl rfl gU gU rfl) ?_;refine uAf ?_;refine uAk (s:=⟨[(54,_,_)],[],[],[]⟩) (uAj (⟨sx rfl,trivial⟩) trivial trivial) ?_;refine uAn rfl (fun hc3=>?_) (fun hc3=>?_)
   ·refine uAe (uAb ?_)
    refine uAa rfl rfl rfl (uAd rfl gU) ?_;refine uAf ?_;refine uAp ?_
    repeat (first | refine tR ?_ | refine bR ?_)
    refine uAv rfl ?_ trivial;refine uBj ?_
    simp only [T.rows_len,decide_eq_true_eq] at hc3
    rw [uCf,if_pos hok,if_pos hc2,if_pos (by omega)]
   ·refine uAq ?_
    refine uAe (uAb ?_);refine uAa rfl rfl rfl (uAd rfl gU) ?_;refine uAf ?_;refine uAp ?_
    repeat (first | refine tR ?_ | refine bR ?_)
    refine uAv rfl ?_ trivial;refine uBj ?_
    simp only [T.rows_len,decide_eq_false_iff_not] at hc3
    rw [uCf,if_pos hok,if_pos hc2,if_neg (by omega)]
end Go.Proofs.YtnjjdbapadkomaaGreatDoor
namespace Go.Proofs.YtnjjdbapadkomaaGreatDoor
open Go Go.Abs
def uOL (t : T) (k : Nat) : St:={ t:=[(1,true, .v (.ptr (.l 1) 0)),(4,true,xi k)],bx:=[(.l 1,t.cells)],ow:=[] }
theorem uKU : ∀ (n : Nat) (t : T),t.size≤n→n≤2000000→Ctr sys 154 [xm t] [] (xi t.nodesE) none []:=by
 intro n
 induction n with
 | zero=>intro t h _; have := t.size_pos; omega
 | succ n ih =>
  intro t ht hn
  refine uAA Tryz.func154 rfl rfl rfl rfl rfl rfl ?_;refine uAe (uAb ?_);refine uAr rfl (uAX rfl rfl rfl rfl) ?_;refine uAa rfl rfl rfl (uAd rfl gU) ?_;refine uAf ?_;refine uAe ?_;refine uAe (uAb ?_);refine uAa rfl rfl rfl (uAo rfl gU rfl rfl rfl rfl rfl) ?_;refine uAw rfl rfl rfl rfl rfl rfl gU gU (uL6 t) rfl ?_;refine uAa rfl rfl rfl (uAd rfl gU) ?_;refine uAf ?_;refine uAk (s:=⟨[(1,_,_),(3,_,_)],[(.l 1,_)],[],[]⟩) (uAj (⟨sx rfl,sx rfl,trivial⟩) (⟨sx rfl,trivial⟩) trivial) ?_;refine uAe (uAb ?_);refine uAa rfl rfl rfl (uAc rfl gU) ?_;refine uAa rfl rfl rfl (uAm rfl rfl gU gU rfl) ?_;refine uAf ?_;refine uAn rfl (fun hc=>?_) (fun hc=>?_)
  ·refine uAe (uAb ?_)
   refine uAa rfl rfl rfl (uAc rfl gU) ?_;refine uAa rfl rfl rfl (uAd rfl gU) ?_;refine uAf ?_;refine uAp ?_
   repeat (first | refine tR ?_ | refine bR ?_)
   refine uAv rfl ?_ trivial;refine uBj ?_
   rw [T.nodesE_eq,if_pos (by simpa using hc)]
  ·refine uAq ?_
   refine uAe ?_;refine uAe (uAb ?_);refine uAa rfl rfl rfl (uAd rfl gU) ?_;refine uAf ?_;refine uAx ?_
   have hz : uCf t=0:=by simpa using hc
   refine uDn (uOL t) (fun k=>k≤t.kids.length∧T.nodesEs (t.kids.take k)=0) (fun k=>t.kids.length - k) 0 ⟨Nat.zero_le _,by simp [T.nodesEs]⟩ ?_ ?_
   ·refine uAj ⟨⟨_,rfl,rfl⟩,⟨_,rfl,rfl⟩,trivial⟩ ⟨⟨_,rfl,rfl⟩,trivial⟩ trivial
   ·rintro k ⟨hk,h0⟩
    refine uAe ?_;refine uAe (uAb ?_);refine uAa rfl rfl rfl (uAc rfl gU) ?_;refine uAa rfl rfl rfl (uAg rfl gU rfl rfl) ?_;refine uAa rfl rfl rfl (uAl rfl gU rfl rfl rfl rfl) ?_;refine uAS rfl rfl rfl rfl rfl gU rfl rfl ?_ (fun hh=>by simp at hh); intro hlen;refine uAa rfl rfl rfl (uAm rfl rfl gU gU rfl) ?_;refine uAf ?_;refine uAk (s:=⟨[(1,_,_),(4,_,_),(15,_,_)],[(.l 1,_)],[],[]⟩) (uAj (⟨sx rfl,sx rfl,sx rfl,trivial⟩) (⟨sx rfl,trivial⟩) trivial) ?_;refine uAn rfl (fun hc2=>?_) (fun hc2=>?_)
    ·rw [T.rows_len] at hlen hc2
     have hlt : k < t.kids.length:=by simpa using hc2
     obtain ⟨x,hx⟩ : ∃ x,t.kids[k]? = some x:=⟨_,List.getElem?_eq_getElem hlt⟩
     have h3:=T.size_kid hx
     refine uAq ?_;refine uAe ?_;refine uAx ?_;refine uAe (uAb ?_);refine uAa rfl rfl rfl (uAg rfl gU rfl rfl) ?_;refine uAa rfl rfl rfl (uAl rfl gU rfl rfl rfl rfl) ?_;refine uAa rfl rfl rfl (uAc rfl gU) ?_;refine uAa rfl rfl rfl (uAy rfl rfl gU gU rfl rfl rfl (fun _=>T.rows_get hx)) ?_;refine uAa rfl rfl rfl (uAP rfl gU rfl rfl rfl rfl) ?_;refine uAw rfl rfl rfl rfl rfl rfl gU gU (ih x (by omega) (by omega)) rfl ?_;refine uAa rfl rfl rfl (uAd rfl gU) ?_;refine uAf ?_;refine uAk (s:=⟨[(1,_,_),(4,_,_),(5,_,_)],[(.l 1,_)],[],[]⟩) (uAj (⟨sx rfl,sx rfl,sx rfl,trivial⟩) (⟨sx rfl,trivial⟩) trivial) ?_;refine uAe (uAb ?_);refine uAa rfl rfl rfl (uAc rfl gU) ?_;refine uAa rfl rfl rfl (uAm rfl rfl gU gU rfl) ?_;refine uAf ?_;refine uAn rfl (fun hc3=>?_) (fun hc3=>?_)
     ·refine uAe (uAb ?_)
      refine uAa rfl rfl rfl (uAc rfl gU) ?_;refine uAa rfl rfl rfl (uAd rfl gU) ?_;refine uAf ?_;refine uAp ?_
      repeat (first | refine tR ?_ | refine bR ?_)
      refine uAv rfl ?_ trivial;refine uBj ?_
      rw [T.nodesE_eq t,if_neg (by simpa using hz),T.nodesEs_hit _ _ _ hx h0 (by simpa using hc3)]
     ·refine uAq ?_
      refine uAb ?_;refine uAa rfl rfl rfl (uAc rfl gU) ?_;refine uAa rfl rfl rfl (uAz rfl rfl gU gU rfl (IntWalk.i64_in _ (by omega))) ?_;refine uAa rfl rfl rfl (uAd rfl gU) ?_;refine uAf ?_;refine ⟨k + 1,⟨by omega,T.nodesEs_step _ _ _ hx h0 (by simpa using hc3)⟩,by omega,?_⟩;refine uAj ⟨⟨_,rfl,rfl⟩,⟨_,rfl,rfl⟩,trivial⟩ ⟨⟨_,rfl,rfl⟩,trivial⟩ trivial
    ·refine uAQ ?_
     repeat (first | refine uAE ?_ | refine uAD ?_ | refine uAC rfl ?_)
     refine uAe (uAb ?_);refine uAa rfl rfl rfl (uAd rfl gU) ?_;refine uAf ?_;refine uAp ?_
     repeat (first | refine tR ?_ | refine bR ?_)
     refine uAv rfl ?_ trivial
     rw [T.rows_len] at hc2
     have : k=t.kids.length:=by simp at hc2; omega
     subst this
     rw [List.take_length] at h0
     refine uBj ?_
     rw [T.nodesE_eq t,if_neg (by simpa using hz),h0]
def uOF (t : T) (k : Nat) : St:={ t:=[(1,true, .v (.ptr (.l 1) 0)),(3,true,xi (T.depths (t.kids.take k))),(4,true,xi k)],bx:=[(.l 1,t.cells)],ow:=[] }
theorem uLq : ∀ (n : Nat) (t : T),t.size≤n→n≤2000000→Ctr sys 155 [xm t] [] (xi t.depth) none []:=by
 intro n
 induction n with
 | zero=>intro t h _; have := t.size_pos; omega
 | succ n ih =>
  intro t ht hn
  refine uAA Tryz.func155 rfl rfl rfl rfl rfl rfl ?_;refine uAe (uAb ?_);refine uAr rfl (uAX rfl rfl rfl rfl) ?_;refine uAa rfl rfl rfl (uAd rfl gU) ?_;refine uAf ?_;refine uAe (uAb ?_);refine uAa rfl rfl rfl (uAd rfl gU) ?_;refine uAf ?_;refine uAe ?_;refine uAe (uAb ?_);refine uAa rfl rfl rfl (uAd rfl gU) ?_;refine uAf ?_;refine uAx ?_;refine uDn (uOF t) (fun k=>k≤t.kids.length) (fun k=>t.kids.length - k) 0 (Nat.zero_le _) ?_ ?_
  ·refine uAj ⟨⟨_,rfl,rfl⟩,⟨_,rfl,rfl⟩,⟨_,rfl,rfl⟩,trivial⟩ ⟨⟨_,rfl,rfl⟩,trivial⟩ trivial
  ·intro k hk
   have hd1:=T.depths_take_le t.kids k
   have hd2:=t.depth_le
   have hd3:=t.depth_eq
   refine uAe ?_;refine uAe (uAb ?_);refine uAa rfl rfl rfl (uAc rfl gU) ?_;refine uAa rfl rfl rfl (uAg rfl gU rfl rfl) ?_;refine uAa rfl rfl rfl (uAl rfl gU rfl rfl rfl rfl) ?_;refine uAS rfl rfl rfl rfl rfl gU rfl rfl ?_ (fun hh=>by simp at hh); intro hlen;refine uAa rfl rfl rfl (uAm rfl rfl gU gU rfl) ?_;refine uAf ?_;refine uAk (s:=⟨[(1,_,_),(3,_,_),(4,_,_),(9,_,_)],[(.l 1,_)],[],[]⟩) (uAj (⟨sx rfl,sx rfl,sx rfl,sx rfl,trivial⟩) (⟨sx rfl,trivial⟩) trivial) ?_;refine uAn rfl (fun hc=>?_) (fun hc=>?_)
   ·rw [T.rows_len] at hlen hc
    have hlt : k < t.kids.length:=by simpa using hc
    obtain ⟨x,hx⟩ : ∃ x,t.kids[k]? = some x:=⟨_,List.getElem?_eq_getElem hlt⟩
    have h1:=T.depths_take _ _ _ hx
    have h3:=T.size_kid hx
    refine uAq ?_;refine uAe ?_;refine uAx ?_;refine uAb ?_;refine uAa rfl rfl rfl (uAc rfl gU) ?_;refine uAa rfl rfl rfl (uAg rfl gU rfl rfl) ?_;refine uAa rfl rfl rfl (uAl rfl gU rfl rfl rfl rfl) ?_;refine uAa rfl rfl rfl (uAc rfl gU) ?_;refine uAa rfl rfl rfl (uAy rfl rfl gU gU rfl rfl rfl (fun _=>T.rows_get hx)) ?_;refine uAa rfl rfl rfl (uAP rfl gU rfl rfl rfl rfl) ?_;refine uAw rfl rfl rfl rfl rfl rfl gU gU (ih x (by omega) (by omega)) rfl ?_;refine uAa rfl rfl rfl (uKI rfl rfl gU gU) ?_;refine uAa rfl rfl rfl (uAd rfl gU) ?_;refine uAf ?_;refine uAk (s:=⟨[(1,_,_),(3,_,_),(4,_,_)],[(.l 1,_)],[],[]⟩) (uAj (⟨sx rfl,sx rfl,sx rfl,trivial⟩) (⟨sx rfl,trivial⟩) trivial) ?_;refine uAb ?_;refine uAa rfl rfl rfl (uAc rfl gU) ?_;refine uAa rfl rfl rfl (uAz rfl rfl gU gU rfl (IntWalk.i64_in _ (by omega))) ?_;refine uAa rfl rfl rfl (uAd rfl gU) ?_;refine uAf ?_;refine ⟨k + 1,by omega,by omega,?_⟩;refine uAj ⟨⟨_,rfl,rfl⟩,⟨_,rfl,?_⟩,⟨_,rfl,rfl⟩,trivial⟩ ⟨⟨_,rfl,rfl⟩,trivial⟩ trivial
    rw [h1]; simp; omega
   ·refine uAQ ?_
    repeat (first | refine uAE ?_ | refine uAD ?_ | refine uAC rfl ?_)
    refine uAe (uAb ?_);refine uAa rfl rfl rfl (uAc rfl gU) ?_;refine uAa rfl rfl rfl (uAz rfl rfl gU gU rfl (IntWalk.i64_in _ (by omega))) ?_;refine uAa rfl rfl rfl (uAd rfl gU) ?_;refine uAf ?_;refine uAp ?_
    repeat (first | refine tR ?_ | refine bR ?_)
    refine uAv rfl ?_ trivial
    rw [T.rows_len] at hc
    have : k=t.kids.length:=by simp at hc; omega
    subst this
    refine uBj ?_
    rw [List.take_length,t.depth_eq]
    simp
theorem uKP (t : T) (h : t.size≤2000000) : Ctr sys 121 [xm t] [] (xi (uDJ t)) none []:=by
 refine uAA Tryz.func121 rfl rfl rfl rfl rfl rfl ?_;refine uAe (uAb ?_);refine uAr rfl (uAX rfl rfl rfl rfl) ?_;refine uAa rfl rfl rfl (uAd rfl gU) ?_;refine uAf ?_;refine uAe ?_;refine uAe (uAb ?_);refine uAa rfl rfl rfl (uAo rfl gU rfl rfl rfl rfl rfl) ?_;refine uAw rfl rfl rfl rfl rfl rfl gU gU (uKU _ t (Nat.le_refl _) h) rfl ?_;refine uAa rfl rfl rfl (uAd rfl gU) ?_;refine uAf ?_;refine uAk (s:=⟨[(1,_,_),(3,_,_)],[(.l 1,_)],[],[]⟩) (uAj (⟨sx rfl,sx rfl,trivial⟩) (⟨sx rfl,trivial⟩) trivial) ?_;refine uAe (uAb ?_);refine uAa rfl rfl rfl (uAc rfl gU) ?_;refine uAa rfl rfl rfl (uAm rfl rfl gU gU rfl) ?_;refine uAf ?_;refine uAn rfl (fun hc=>?_) (fun hc=>?_)
 ·refine uAe (uAb ?_)
  refine uAa rfl rfl rfl (uAc rfl gU) ?_;refine uAa rfl rfl rfl (uAd rfl gU) ?_;refine uAf ?_;refine uAp ?_
  repeat (first | refine tR ?_ | refine bR ?_)
  refine uAv rfl ?_ trivial;refine uBj ?_
  rw [uDJ,if_pos (by simpa using hc)]
 ·refine uAq ?_
  refine uAe ?_;refine uAe (uAb ?_);refine uAa rfl rfl rfl (uAo rfl gU rfl rfl rfl rfl rfl) ?_;refine uAw rfl rfl rfl rfl rfl rfl gU gU (uEN _ t (Nat.le_refl _) h) rfl ?_;refine uAa rfl rfl rfl (uAm rfl rfl gU gU rfl) ?_;refine uAa rfl rfl rfl (uAc rfl gU) ?_;refine uAa rfl rfl rfl (uAo rfl gU rfl rfl rfl rfl rfl) ?_;refine uAw rfl rfl rfl rfl rfl rfl gU (fun hh=>gA ((fun hh=>hh) hh) (rfl)) (uLq _ t (Nat.le_refl _) h) rfl ?_;refine uAa rfl rfl rfl (uAm rfl rfl (fun hh=>hh) gU rfl) ?_;refine uAa rfl rfl rfl (uAJ rfl rfl gU (fun _ hi=>gP rfl hi)) ?_;refine uAf ?_;refine uAk (s:=⟨[(16,_,_)],[],[],[]⟩) (uAj (⟨sx rfl,trivial⟩) trivial trivial) ?_
  have hz : t.nodesE=0:=by simpa using hc
  refine uAn rfl (fun hc2=>?_) (fun hc2=>?_)
  ·refine uAe (uAb ?_)
   refine uAa rfl rfl rfl (uAd rfl gU) ?_;refine uAf ?_;refine uAp ?_
   repeat (first | refine tR ?_ | refine bR ?_)
   refine uAv rfl ?_ trivial;refine uBj ?_
   simp only [Bool.or_eq_true,decide_eq_true_eq] at hc2
   rw [uDJ,if_neg (by simpa using hz),if_pos (by omega)]
  ·refine uAq ?_
   refine uAe (uAb ?_);refine uAa rfl rfl rfl (uAd rfl gU) ?_;refine uAf ?_;refine uAp ?_
   repeat (first | refine tR ?_ | refine bR ?_)
   refine uAv rfl ?_ trivial;refine uBj ?_
   simp only [Bool.or_eq_false_iff,decide_eq_false_iff_not] at hc2
   rw [uDJ,if_neg (by simpa using hz),if_neg (by omega)]
def uOS (t : T) (lv n d : Int) : St:={ t:=[(1,true,xi lv),(2,true, .v (.ptr (.o 0) 0)),(3,true, .v (.ptr (.o 1) 0)),(4,true, .v (.ptr (.l 4) 0))],bx:=[(.l 4,t.cells),(.o 0,[.i .i64 (n + 1)]),(.o 1,[.i .i64 (max d lv)])],ow:=[] }
def uOM (t : T) (lv n d : Int) (k : Nat) : St:={ t:=[(1,true,xi lv),(2,true, .v (.ptr (.o 0) 0)),(3,true, .v (.ptr (.o 1) 0)),(57,true,xl t.kids),(58,true,xi t.kids.length),(59,true,xi k)],bx:=[(.o 0,[.i .i64 (T.chks (t.kids.take k) (lv + 1) (n + 1) (max d lv)).n]),(.o 1,[.i .i64 (T.chks (t.kids.take k) (lv + 1) (n + 1) (max d lv)).d])],ow:=[] }
theorem uLm : ∀ (b : Nat) (t : T) (lv n d : Int),t.size≤b→b≤2000000→0≤n→n + t.size≤2000000→0≤lv→lv + t.size≤2000000 →
  Ctr sys 153 [xm t,xi lv, .v (.ptr (.o 0) 0), .v (.ptr (.o 1) 0)] [[.i .i64 n],[.i .i64 d]] (xi t.nodesE) none [[.i .i64 (t.chk lv n d).n],[.i .i64 (t.chk lv n d).d]]:=by
 intro b
 induction b with
 | zero=>intro t _ _ _ h; have := t.size_pos; omega
 | succ b ih =>
  intro t lv n d ht hb hn hn2 hl hl2
  have hsz:=t.size_pos
  have hbad : uCf t≠0→t.nodesE=uCf t∧t.chk lv n d=⟨uCf t,n + 1,max d lv⟩:=fun h=>⟨by rw [T.nodesE_eq,if_pos h],by rw [T.chk_eq,if_pos h]⟩
  refine uAA Tryz.func153 rfl rfl rfl rfl rfl rfl ?_;refine uAe (uAb ?_);refine uAr rfl (uAX rfl rfl rfl rfl) ?_;refine uAa rfl rfl rfl (uAd rfl gU) ?_;refine uAf ?_;refine uAe (uAb ?_);refine uAa rfl rfl rfl (uAc rfl gU) ?_;refine uAa rfl rfl rfl (uAB rfl gU) ?_;refine uAa rfl rfl rfl (uAl rfl gU rfl rfl rfl rfl) ?_;refine uAa rfl rfl rfl (uAz rfl rfl gU gU rfl (IntWalk.i64_in _ (by omega))) ?_;refine uAa rfl rfl rfl (uAB rfl gU) ?_;refine uAr rfl (uAt rfl rfl rfl rfl rfl rfl rfl) ?_;refine uAf ?_;refine uAk (s:=⟨[(1,_,_),(2,_,_),(3,_,_),(4,_,_)],[(.l 4,_),(.o 0,_),(.o 1,_)],[],[]⟩) (uAj (⟨sx rfl,sx rfl,sx rfl,sx rfl,trivial⟩) (⟨sx rfl,sx rfl,sx rfl,trivial⟩) trivial) ?_;refine uAe (uAb ?_);refine uAa rfl rfl rfl (uAc rfl gU) ?_;refine uAa rfl rfl rfl (uAc rfl gU) ?_;refine uAa rfl rfl rfl (uAB rfl gU) ?_;refine uAa rfl rfl rfl (uAl rfl gU rfl rfl rfl rfl) ?_;refine uAa rfl rfl rfl (uAc rfl gU) ?_;refine uAa rfl rfl rfl (uKI rfl rfl gU gU) ?_;refine uAa rfl rfl rfl (uAB rfl gU) ?_;refine uAr rfl (uAt rfl rfl rfl rfl rfl rfl rfl) ?_;refine uAf ?_;refine uAk (s:=⟨[(1,_,_),(2,_,_),(3,_,_),(4,_,_)],[(.l 4,_),(.o 0,_),(.o 1,_)],[],[]⟩) (uAj (⟨sx rfl,sx rfl,sx rfl,sx rfl,trivial⟩) (⟨sx rfl,sx rfl,sx rfl,trivial⟩) trivial) ?_
  refine uN8 (uOS t lv n d) ((t.kind=1∨t.kind=2)∧0≤t.sort∧t.sort≤5∧t.kids.length=0∨t.kind=3∧t.sort=0) ?_ (fun hj=>?_)
  ·have h1 : ∀ h : ¬ ((t.kind=1∨t.kind=2)∧0≤t.sort∧t.sort≤5∧t.kids.length=0∨t.kind=3∧t.sort=0),t.nodesE=1∧t.chk lv n d=⟨1,n + 1,max d lv⟩:=by
    intro h
    have hq : uCf t=1:=by rw [uCf,if_neg h]
    have := hbad (by rw [hq]; omega)
    rw [hq] at this; exact this
   refine uAe (uAb ?_);refine uAa rfl rfl rfl (uAg rfl gU rfl rfl) ?_;refine uAa rfl rfl rfl (uAl rfl gU rfl rfl rfl rfl) ?_;refine uAf ?_;refine uAx ?_;refine uAe ?_;refine uAe (uAb ?_);refine uAa rfl rfl rfl (uAm rfl rfl gU gU rfl) ?_;refine uAa rfl rfl rfl (uAd rfl gU) ?_;refine uAf ?_;refine uAn rfl (fun hc=>?_) (fun hc=>?_)
   ·refine uAq ?_
    refine uAn rfl (fun hc2=>?_) (fun hc2=>?_)
    ·refine uAe (uAb ?_)
     refine uAa rfl rfl rfl (uAg rfl gU rfl rfl) ?_;refine uAa rfl rfl rfl (uAl rfl gU rfl rfl rfl rfl) ?_;refine uAa rfl rfl rfl (uAm rfl rfl gU gU rfl) ?_;refine uAa rfl rfl rfl (uAc rfl gU) ?_;refine uAa rfl rfl rfl (uAg rfl gU rfl rfl) ?_;refine uAa rfl rfl rfl (uAl rfl (fun hh=>hh) rfl rfl rfl rfl) ?_;refine uAa rfl rfl rfl (uAm rfl rfl (fun hh=>hh) gU rfl) ?_;refine uAa rfl rfl rfl (uAJ rfl rfl gU (fun _ hi=>gP rfl hi)) ?_;refine uAa rfl rfl rfl (uAc rfl gU) ?_;refine uAa rfl rfl rfl (uAg rfl gU rfl rfl) ?_;refine uAa rfl rfl rfl (uAl rfl (fun hh=>hh) rfl rfl rfl rfl) ?_;refine uAa rfl rfl rfl (uBa rfl (fun hh=>hh) rfl rfl) ?_;refine uAa rfl rfl rfl (uAm rfl rfl (fun hh=>hh) gU rfl) ?_;refine uAa rfl rfl rfl (uAJ rfl rfl gU (fun _ hi=>gP rfl hi)) ?_;refine uAf ?_;refine uAk (s:=⟨[(1,_,_),(2,_,_),(3,_,_),(4,_,_),(42,_,_)],[(.l 4,_),(.o 0,_),(.o 1,_)],[],[]⟩) (uAj (⟨sx rfl,sx rfl,sx rfl,sx rfl,sx rfl,trivial⟩) (⟨sx rfl,sx rfl,sx rfl,trivial⟩) trivial) ?_;refine uAn rfl (fun hc3=>?_) (fun hc3=>?_)
     ·refine uAe (uAb ?_)
      refine uAa rfl rfl rfl (uAd rfl gU) ?_;refine uAf ?_;refine uAp ?_
      repeat (first | refine tR ?_ | refine bR ?_)
      refine uAv rfl ?_ (⟨⟨_,rfl,?_⟩,⟨⟨_,rfl,?_⟩,trivial⟩⟩)
      all_goals (
       have hno:=h1 (by
        simp only [Bool.or_eq_true,decide_eq_true_eq,decide_eq_false_iff_not,beq_iff_eq,bne_iff_ne,ne_eq,beq_eq_false_iff_ne,T.rows_len] at hc hc3
        rintro (⟨q1,q2,q3,q4⟩ | ⟨q1,q2⟩) <;> omega)
       first | exact uBj hno.1.symm | (rw [hno.2]; done) | (rw [hno.2]; rfl))
     ·refine uAq ?_
      refine ⟨.inl ?_,?_⟩
      ·simp only [Bool.or_eq_false_iff,decide_eq_false_iff_not,beq_iff_eq,T.rows_len] at hc hc3
       omega
      ·refine uAj ⟨⟨_,rfl,rfl⟩,⟨_,rfl,rfl⟩,⟨_,rfl,rfl⟩,⟨_,rfl,rfl⟩,trivial⟩ ⟨⟨_,rfl,rfl⟩,⟨_,rfl,rfl⟩,⟨_,rfl,rfl⟩,trivial⟩ trivial
    ·rw [hc] at hc2; simp at hc2
   ·refine uAb ?_
    refine uAa rfl rfl rfl (uAm rfl rfl gU gU rfl) ?_;refine uAa rfl rfl rfl (uAd rfl gU) ?_;refine uAf ?_;refine uAk (s:=⟨[(1,_,_),(2,_,_),(3,_,_),(4,_,_),(25,_,_),(26,_,_)],[(.l 4,_),(.o 0,_),(.o 1,_)],[],[]⟩) (uAj (⟨sx rfl,sx rfl,sx rfl,sx rfl,sx rfl,sx rfl,trivial⟩) (⟨sx rfl,sx rfl,sx rfl,trivial⟩) trivial) ?_;refine uAn rfl (fun hc2=>?_) (fun hc2=>?_)
    ·refine uAe (uAb ?_)
     refine uAa rfl rfl rfl (uAg rfl gU rfl rfl) ?_;refine uAa rfl rfl rfl (uAl rfl gU rfl rfl rfl rfl) ?_;refine uAa rfl rfl rfl (uAm rfl rfl gU gU rfl) ?_;refine uAa rfl rfl rfl (uAc rfl gU) ?_;refine uAa rfl rfl rfl (uAg rfl gU rfl rfl) ?_;refine uAa rfl rfl rfl (uAl rfl (fun hh=>hh) rfl rfl rfl rfl) ?_;refine uAa rfl rfl rfl (uAm rfl rfl (fun hh=>hh) gU rfl) ?_;refine uAa rfl rfl rfl (uAJ rfl rfl gU (fun _ hi=>gP rfl hi)) ?_;refine uAa rfl rfl rfl (uAc rfl gU) ?_;refine uAa rfl rfl rfl (uAg rfl gU rfl rfl) ?_;refine uAa rfl rfl rfl (uAl rfl (fun hh=>hh) rfl rfl rfl rfl) ?_;refine uAa rfl rfl rfl (uBa rfl (fun hh=>hh) rfl rfl) ?_;refine uAa rfl rfl rfl (uAm rfl rfl (fun hh=>hh) gU rfl) ?_;refine uAa rfl rfl rfl (uAJ rfl rfl gU (fun _ hi=>gP rfl hi)) ?_;refine uAf ?_;refine uAk (s:=⟨[(1,_,_),(2,_,_),(3,_,_),(4,_,_),(42,_,_)],[(.l 4,_),(.o 0,_),(.o 1,_)],[],[]⟩) (uAj (⟨sx rfl,sx rfl,sx rfl,sx rfl,sx rfl,trivial⟩) (⟨sx rfl,sx rfl,sx rfl,trivial⟩) trivial) ?_;refine uAn rfl (fun hc3=>?_) (fun hc3=>?_)
     ·refine uAe (uAb ?_)
      refine uAa rfl rfl rfl (uAd rfl gU) ?_;refine uAf ?_;refine uAp ?_
      repeat (first | refine tR ?_ | refine bR ?_)
      refine uAv rfl ?_ (⟨⟨_,rfl,?_⟩,⟨⟨_,rfl,?_⟩,trivial⟩⟩)
      all_goals (
       have hno:=h1 (by
        simp only [Bool.or_eq_true,decide_eq_true_eq,decide_eq_false_iff_not,beq_iff_eq,bne_iff_ne,ne_eq,beq_eq_false_iff_ne,T.rows_len] at hc hc2 hc3
        rintro (⟨q1,q2,q3,q4⟩ | ⟨q1,q2⟩) <;> omega)
       first | exact uBj hno.1.symm | (rw [hno.2]; done) | (rw [hno.2]; rfl))
     ·refine uAq ?_
      refine ⟨.inl ?_,?_⟩
      ·simp only [Bool.or_eq_false_iff,decide_eq_false_iff_not,beq_iff_eq,T.rows_len] at hc2 hc3
       omega
      ·refine uAj ⟨⟨_,rfl,rfl⟩,⟨_,rfl,rfl⟩,⟨_,rfl,rfl⟩,⟨_,rfl,rfl⟩,trivial⟩ ⟨⟨_,rfl,rfl⟩,⟨_,rfl,rfl⟩,⟨_,rfl,rfl⟩,trivial⟩ trivial
    ·refine uAe (uAb ?_)
     refine uAa rfl rfl rfl (uAm rfl rfl gU gU rfl) ?_;refine uAa rfl rfl rfl (uAd rfl gU) ?_;refine uAf ?_;refine uAn rfl (fun hc3=>?_) (fun hc3=>?_)
     ·refine uAe (uAb ?_)
      refine uAa rfl rfl rfl (uAg rfl gU rfl rfl) ?_;refine uAa rfl rfl rfl (uAl rfl gU rfl rfl rfl rfl) ?_;refine uAa rfl rfl rfl (uAm rfl rfl gU gU rfl) ?_;refine uAf ?_;refine uAk (s:=⟨[(1,_,_),(2,_,_),(3,_,_),(4,_,_),(47,_,_)],[(.l 4,_),(.o 0,_),(.o 1,_)],[],[]⟩) (uAj (⟨sx rfl,sx rfl,sx rfl,sx rfl,sx rfl,trivial⟩) (⟨sx rfl,sx rfl,sx rfl,trivial⟩) trivial) ?_;refine uAn rfl (fun hc4=>?_) (fun hc4=>?_)
      ·refine uAe (uAb ?_)
       refine uAa rfl rfl rfl (uAd rfl gU) ?_;refine uAf ?_;refine uAp ?_
       repeat (first | refine tR ?_ | refine bR ?_)
       refine uAv rfl ?_ (⟨⟨_,rfl,?_⟩,⟨⟨_,rfl,?_⟩,trivial⟩⟩)
       all_goals (
        have hno:=h1 (by
         simp only [Bool.or_eq_true,decide_eq_true_eq,decide_eq_false_iff_not,beq_iff_eq,bne_iff_ne,ne_eq,beq_eq_false_iff_ne,T.rows_len] at hc hc2 hc3 hc4
         rintro (⟨q1,q2,q3,q4⟩ | ⟨q1,q2⟩) <;> omega)
        first | exact uBj hno.1.symm | (rw [hno.2]; done) | (rw [hno.2]; rfl))
      ·refine uAq ?_
       refine ⟨.inr ?_,?_⟩
       ·simp only [bne_eq_false_iff_eq,beq_iff_eq] at hc3 hc4
        exact ⟨hc3,hc4⟩
       ·refine uAj ⟨⟨_,rfl,rfl⟩,⟨_,rfl,rfl⟩,⟨_,rfl,rfl⟩,⟨_,rfl,rfl⟩,trivial⟩ ⟨⟨_,rfl,rfl⟩,⟨_,rfl,rfl⟩,⟨_,rfl,rfl⟩,trivial⟩ trivial
     ·refine uAe (uAb ?_)
      refine uAa rfl rfl rfl (uAd rfl gU) ?_;refine uAf ?_;refine uAp ?_
      repeat (first | refine tR ?_ | refine bR ?_)
      refine uAv rfl ?_ (⟨⟨_,rfl,?_⟩,⟨⟨_,rfl,?_⟩,trivial⟩⟩)
      all_goals (
       have hno:=h1 (by
        simp only [Bool.or_eq_true,decide_eq_true_eq,decide_eq_false_iff_not,beq_iff_eq,bne_iff_ne,ne_eq,beq_eq_false_iff_ne,T.rows_len] at hc hc2 hc3
        rintro (⟨q1,q2,q3,q4⟩ | ⟨q1,q2⟩) <;> omega)
       first | exact uBj hno.1.symm | (rw [hno.2]; done) | (rw [hno.2]; rfl))
  ·refine uAe ?_
   refine uAe (uAb ?_);refine uAa rfl rfl rfl (uAg rfl gU rfl rfl) ?_;refine uAa rfl rfl rfl (uAl rfl gU rfl rfl rfl rfl) ?_;refine uAw rfl rfl rfl rfl rfl rfl gU gU (uJe _) rfl ?_;refine uAa rfl rfl rfl (uAZ rfl gU) ?_;refine uAf ?_;refine uAn rfl (fun hc=>?_) (fun hc=>?_)
   ·refine uAe (uAb ?_)
    refine uAa rfl rfl rfl (uAd rfl gU) ?_;refine uAf ?_;refine uAp ?_
    repeat (first | refine tR ?_ | refine bR ?_)
    refine uAv rfl ?_ (⟨⟨_,rfl,?_⟩,⟨⟨_,rfl,?_⟩,trivial⟩⟩)
    all_goals (
     have hq : uCf t=2:=by
      simp only [Bool.not_eq_true'] at hc
      rw [uCf,if_pos hj,if_neg (by rw [hc]; simp)]
     have hno:=hbad (by rw [hq]; omega)
     rw [hq] at hno
     first | exact uBj hno.1.symm | (rw [hno.2]; done) | (rw [hno.2]; rfl))
   ·simp only [Bool.not_eq_false'] at hc
    refine uAq ?_;refine uAe ?_;refine uAe (uAb ?_);refine uAa rfl rfl rfl (uAg rfl gU rfl rfl) ?_;refine uAa rfl rfl rfl (uAl rfl gU rfl rfl rfl rfl) ?_;refine uAS rfl rfl rfl rfl rfl gU rfl rfl ?_ (fun hh=>by simp at hh); intro hlen;refine uAa rfl rfl rfl (uAm rfl rfl gU gU rfl) ?_;refine uAf ?_;refine uAk (s:=⟨[(1,_,_),(2,_,_),(3,_,_),(4,_,_),(55,_,_)],[(.l 4,_),(.o 0,_),(.o 1,_)],[],[]⟩) (uAj (⟨sx rfl,sx rfl,sx rfl,sx rfl,sx rfl,trivial⟩) (⟨sx rfl,sx rfl,sx rfl,trivial⟩) trivial) ?_;refine uAn rfl (fun hc2=>?_) (fun hc2=>?_)
    ·refine uAe (uAb ?_)
     refine uAa rfl rfl rfl (uAd rfl gU) ?_;refine uAf ?_;refine uAp ?_
     repeat (first | refine tR ?_ | refine bR ?_)
     refine uAv rfl ?_ (⟨⟨_,rfl,?_⟩,⟨⟨_,rfl,?_⟩,trivial⟩⟩)
     all_goals (
      have hq : uCf t=3:=by
       simp only [T.rows_len,decide_eq_true_eq] at hc2
       rw [uCf,if_pos hj,if_pos hc,if_pos (by omega)]
      have hno:=hbad (by rw [hq]; omega)
      rw [hq] at hno
      first | exact uBj hno.1.symm | (rw [hno.2]; done) | (rw [hno.2]; rfl))
    ·have hz : uCf t=0:=by
      simp only [T.rows_len,decide_eq_false_iff_not] at hc2
      rw [uCf,if_pos hj,if_pos hc,if_neg (by omega)]
     have hchk : t.chk lv n d=T.chks t.kids (lv + 1) (n + 1) (max d lv):=by rw [T.chk_eq,if_neg (by simpa using hz)]
     have hE : t.nodesE=T.nodesEs t.kids:=by rw [T.nodesE_eq,if_neg (by simpa using hz)]
     have hsE:=t.size_eq
     refine uAq ?_;refine uAe ?_;refine uAe (uAb ?_);refine uAa rfl rfl rfl (uAg rfl gU rfl rfl) ?_;refine uAa rfl rfl rfl (uAl rfl gU rfl rfl rfl rfl) ?_;refine uAS rfl rfl rfl rfl rfl gU rfl rfl ?_ (fun hh=>by simp at hh); intro hlen;refine uAa rfl rfl rfl (uAc rfl gU) ?_;refine uAf ?_;refine uAx ?_
     have hlk : t.kids.length≤9223372036854775807:=by rw [T.rows_len] at hlen; exact hlen
     refine uDn (uOM t lv n d) (fun k=>k≤t.kids.length∧(T.chks (t.kids.take k) (lv + 1) (n + 1) (max d lv)).e=0) (fun k=>t.kids.length - k) 0 ⟨Nat.zero_le _,by simp [T.chks]⟩ ?_ ?_
     ·refine uAj ⟨⟨_,rfl,rfl⟩,⟨_,rfl,rfl⟩,⟨_,rfl,rfl⟩,⟨_,rfl,rfl⟩,⟨_,rfl,by rw [T.rows_len]⟩,⟨_,rfl,rfl⟩,trivial⟩ ⟨⟨_,rfl,by simp [T.chks]⟩,⟨_,rfl,by simp [T.chks]⟩,trivial⟩ trivial
     ·rintro k ⟨hk,h0⟩
      have hr:=T.chks_n (t.kids.take k) (lv + 1) (n + 1) (max d lv)
      have hrE:=T.chks_e (t.kids.take k) (lv + 1) (n + 1) (max d lv)
      refine uAe (uAb ?_);refine uAa rfl rfl rfl (uAm rfl rfl gU gU rfl) ?_;refine uAf ?_;refine uAe ?_;refine uAn rfl (fun hc3=>?_) (fun hc3=>?_)
      ·have hlt : k < t.kids.length:=by simpa using hc3
       obtain ⟨x,hx⟩ : ∃ x,t.kids[k]? = some x:=⟨_,List.getElem?_eq_getElem hlt⟩
       have q1:=T.sizes_take _ _ _ hx
       have q2:=T.sizes_take_le t.kids (k + 1)
       have q4:=x.size_pos
       refine uAq ?_;refine uAe ?_;refine uAx ?_;refine uAe (uAb ?_);refine uAa rfl rfl rfl (uAy rfl rfl gU gU rfl rfl rfl (fun _=>T.rows_get hx)) ?_;refine uAa rfl rfl rfl (uAP rfl gU rfl rfl rfl rfl) ?_;refine uAr rfl (uAG rfl rfl rfl) ?_;refine uAr rfl (uAt rfl rfl rfl rfl rfl rfl rfl) ?_;refine uAf ?_;refine uAe (uAb ?_);refine uAa rfl rfl rfl (uAo rfl gU rfl rfl rfl rfl rfl) ?_;refine uAa rfl rfl rfl (uAc rfl gU) ?_;refine uAa rfl rfl rfl (uAz rfl rfl gU gU rfl (IntWalk.i64_in _ (by omega))) ?_;refine uAa rfl rfl rfl (uAc rfl gU) ?_;refine uAa rfl rfl rfl (uAc rfl gU) ?_;refine uG9 [⟨.o 0,0,[.i .i64 (T.chks (t.kids.take k) (lv + 1) (n + 1) (max d lv)).n],[.i .i64 (x.chk (lv + 1) (T.chks (t.kids.take k) (lv + 1) (n + 1) (max d lv)).n (T.chks (t.kids.take k) (lv + 1) (n + 1) (max d lv)).d).n]⟩,⟨.o 1,0,[.i .i64 (T.chks (t.kids.take k) (lv + 1) (n + 1) (max d lv)).d],[.i .i64 (x.chk (lv + 1) (T.chks (t.kids.take k) (lv + 1) (n + 1) (max d lv)).n (T.chks (t.kids.take k) (lv + 1) (n + 1) (max d lv)).d).d]⟩] rfl rfl rfl rfl (by rfl) (by rfl) (by intro p hp; simp only [List.mem_cons,List.not_mem_nil,or_false] at hp; first | (subst hp; rfl) | (rcases hp with hp | hp <;> subst hp <;> rfl)) (by rfl) (ih x (lv + 1) (T.chks (t.kids.take k) (lv + 1) (n + 1) (max d lv)).n (T.chks (t.kids.take k) (lv + 1) (n + 1) (max d lv)).d (by omega) (by omega) (by omega) (by omega) (by omega) (by omega)) rfl rfl rfl ?_
       refine uAa rfl rfl rfl (uAd rfl gU) ?_;refine uAf ?_;refine uAk (s:=⟨[(1,_,_),(2,_,_),(3,_,_),(11,_,_),(57,_,_),(58,_,_),(59,_,_)],[(.o 0,_),(.o 1,_)],[],[]⟩) (uAj (⟨sx rfl,sx rfl,sx rfl,sx rfl,sx rfl,sx rfl,sx rfl,trivial⟩) (⟨sx rfl,sx rfl,trivial⟩) trivial) ?_;refine uAe (uAb ?_);refine uAa rfl rfl rfl (uAc rfl gU) ?_;refine uAa rfl rfl rfl (uAm rfl rfl gU gU rfl) ?_;refine uAf ?_;refine uAn rfl (fun hc4=>?_) (fun hc4=>?_)
       ·refine uAe (uAb ?_)
        refine uAa rfl rfl rfl (uAc rfl gU) ?_;refine uAa rfl rfl rfl (uAd rfl gU) ?_;refine uAf ?_;refine uAp ?_
        repeat (first | refine tR ?_ | refine bR ?_)
        refine uAv rfl ?_ (⟨⟨_,rfl,?_⟩,⟨⟨_,rfl,?_⟩,trivial⟩⟩)
        ·have := T.chks_hit (lv := lv + 1) (n := n + 1) (d := max d lv) hx h0 (by simpa using hc4)
         refine uBj ?_
         rw [hE,← T.chks_e t.kids (lv + 1) (n + 1) (max d lv),this,T.chk_e]
        ·have := T.chks_hit (lv := lv + 1) (n := n + 1) (d := max d lv) hx h0 (by simpa using hc4)
         rw [hchk,this]; rfl
        ·have := T.chks_hit (lv := lv + 1) (n := n + 1) (d := max d lv) hx h0 (by simpa using hc4)
         rw [hchk,this]; rfl
       ·have hx0 : x.nodesE=0:=by simpa using hc4
        have hst:=T.chks_step (lv:=lv + 1) (n:=n + 1) (d:=max d lv) hx h0 hx0
        refine uAq ?_;refine uAb ?_;refine uAa rfl rfl rfl (uAz rfl rfl gU gU rfl (IntWalk.i64_in _ (by omega))) ?_;refine uAa rfl rfl rfl (uAc rfl gU) ?_;refine uAf ?_;refine ⟨k + 1,⟨by omega,by rw [hst,T.chk_e,hx0]⟩,by omega,?_⟩;refine uAj ⟨⟨_,rfl,rfl⟩,⟨_,rfl,rfl⟩,⟨_,rfl,rfl⟩,⟨_,rfl,rfl⟩,⟨_,rfl,rfl⟩,⟨_,rfl,rfl⟩,trivial⟩ ⟨⟨_,rfl,by rw [hst]; rfl⟩,⟨_,rfl,by rw [hst]; rfl⟩,trivial⟩ trivial
      ·have hk' : k=t.kids.length:=by simp at hc3; omega
       subst hk'
       rw [List.take_length] at h0
       refine uAQ ?_
       repeat (first | refine uAE ?_ | refine uAD ?_ | refine uAC rfl ?_)
       refine uAe (uAb ?_);refine uAa rfl rfl rfl (uAd rfl gU) ?_;refine uAf ?_;refine uAp ?_
       repeat (first | refine tR ?_ | refine bR ?_)
       refine uAv rfl ?_ (⟨⟨_,rfl,?_⟩,⟨⟨_,rfl,?_⟩,trivial⟩⟩)
       ·refine uBj ?_
        rw [hE,← T.chks_e t.kids (lv + 1) (n + 1) (max d lv),h0]
       ·rw [hchk,List.take_length]
       ·rw [hchk,List.take_length]
theorem uJg (t : T) (h : t.size≤900000) : Ctr sys 117 [xm t] [] (xi (uDJ t)) none []:=by
 have q1:=T.chk_n t 1 0 0
 have q2:=T.chk_d t 1 0 0
 have q3:=t.depth_eq
 refine uAA Tryz.func117 rfl rfl rfl rfl rfl rfl ?_;refine uAe (uAb ?_);refine uAr rfl (uAX rfl rfl rfl rfl) ?_;refine uAa rfl rfl rfl (uAd rfl gU) ?_;refine uAf ?_;refine uAe (uAb ?_);refine uAr rfl (uAG rfl rfl rfl) ?_;refine uAr rfl (uAG rfl rfl rfl) ?_;refine uAr rfl (uAt rfl rfl rfl rfl rfl rfl rfl) ?_;refine uAr rfl (uAt rfl rfl rfl rfl rfl rfl rfl) ?_;refine uAf ?_;refine uAe ?_;refine uAe (uAb ?_);refine uAa rfl rfl rfl (uAo rfl gU rfl rfl rfl rfl rfl) ?_;refine uG9 [⟨.l 3,0,[.i .i64 0],[.i .i64 (t.chk 1 0 0).n]⟩,⟨.l 4,0,[.i .i64 0],[.i .i64 (t.chk 1 0 0).d]⟩] rfl rfl rfl rfl (by rfl) (by rfl) (by intro p hp; simp only [List.mem_cons,List.not_mem_nil,or_false] at hp; first | (subst hp; rfl) | (rcases hp with hp | hp <;> subst hp <;> rfl)) (by rfl) (uLm _ t 1 0 0 (Nat.le_refl _) (by omega) (by omega) (by omega) (by omega) (by omega)) rfl rfl rfl ?_;refine uAa rfl rfl rfl (uAd rfl gU) ?_;refine uAf ?_;refine uAk (s:=⟨[(3,_,_),(4,_,_),(5,_,_)],[(.l 3,_),(.l 4,_)],[],[]⟩) (uAj (⟨sx rfl,sx rfl,sx rfl,trivial⟩) (⟨sx rfl,sx rfl,trivial⟩) trivial) ?_;refine uAe (uAb ?_);refine uAa rfl rfl rfl (uAc rfl gU) ?_;refine uAa rfl rfl rfl (uAm rfl rfl gU gU rfl) ?_;refine uAf ?_;refine uAn rfl (fun hc=>?_) (fun hc=>?_)
 ·refine uAe (uAb ?_)
  refine uAa rfl rfl rfl (uAc rfl gU) ?_;refine uAa rfl rfl rfl (uAd rfl gU) ?_;refine uAf ?_;refine uAp ?_
  repeat (first | refine tR ?_ | refine bR ?_)
  refine uAv rfl ?_ trivial;refine uBj ?_
  rw [uDJ,if_pos (by simpa using hc)]
 ·have hz : t.nodesE=0:=by simpa using hc
  have q4:=q1.2.2 hz
  have q5:=q2 hz
  refine uAq ?_;refine uAe ?_;refine uAe (uAb ?_);refine uAa rfl rfl rfl (uAl rfl gU rfl rfl rfl rfl) ?_;refine uAa rfl rfl rfl (uAm rfl rfl gU gU rfl) ?_;refine uAa rfl rfl rfl (uAc rfl gU) ?_;refine uAa rfl rfl rfl (uAl rfl gU rfl rfl rfl rfl) ?_;refine uAa rfl rfl rfl (uAm rfl rfl (fun hh=>hh) gU rfl) ?_;refine uAa rfl rfl rfl (uAJ rfl rfl gU (fun _ hi=>gP rfl hi)) ?_;refine uAf ?_;refine uAk (s:=⟨[(16,_,_)],[],[],[]⟩) (uAj (⟨sx rfl,trivial⟩) trivial trivial) ?_;refine uAn rfl (fun hc2=>?_) (fun hc2=>?_)
  ·refine uAe (uAb ?_)
   refine uAa rfl rfl rfl (uAd rfl gU) ?_;refine uAf ?_;refine uAp ?_
   repeat (first | refine tR ?_ | refine bR ?_)
   refine uAv rfl ?_ trivial;refine uBj ?_
   simp only [Bool.or_eq_true,decide_eq_true_eq] at hc2
   rw [uDJ,if_neg (by simpa using hz),if_pos (by omega)]
  ·refine uAq ?_
   refine uAe (uAb ?_);refine uAa rfl rfl rfl (uAd rfl gU) ?_;refine uAf ?_;refine uAp ?_
   repeat (first | refine tR ?_ | refine bR ?_)
   refine uAv rfl ?_ trivial;refine uBj ?_
   simp only [Bool.or_eq_false_iff,decide_eq_false_iff_not] at hc2
   rw [uDJ,if_neg (by simpa using hz),if_neg (by omega)]
end Go.Proofs.YtnjjdbapadkomaaGreatDoor
namespace Go.Proofs.YtnjjdbapadkomaaGreatDoor
open Go Go.Abs
theorem T.len_sizes : ∀ l : List T,l.length≤T.sizes l
 | []=>by simp [T.sizes]
 | t :: l=>by have h1:=T.len_sizes l; have h2:=t.size_pos; simp only [T.sizes,List.length_cons]; omega
theorem T.rows_succ {ts : List T} {k : Nat} {x : T} (h : ts[k]? = some x) : T.rows (ts.take (k + 1))=T.rows (ts.take k)++[x.cells]:=by
 rw [T.take_succ h,T.rows_eq,T.rows_eq,List.map_append]; rfl
theorem T.rows_take {ts : List T} {k : Nat} (h : k < ts.length) : T.rows (ts.take (k + 1))=T.rows (ts.take k)++[(ts.getD k default).cells]:=T.rows_succ (T.getD_some h)
theorem uKv (ts : List T) (k : Nat) (x : T) (h : ts[k]? = some x) : x.size≤T.sizes ts:=by
 have h1:=T.sizes_take ts k x h
 have h2:=T.sizes_take_le ts (k + 1)
 omega
theorem uLj : ∀ (n : Nat) (t : T),t.size≤n→n≤2000000→Ctr sys 104 [xm t] [] (xi t.size) none []:=by
 intro n
 induction n with
 | zero=>intro t h; have := t.size_pos; omega
 | succ n ih =>
  intro t ht hn
  have hse:=t.size_eq
  have hrl:=T.rows_len t.kids
  have hls:=T.len_sizes t.kids
  refine uAA Tryz.func104 rfl rfl rfl rfl rfl rfl ?_;refine uAe (uAb ?_);refine uAr rfl (uAX rfl rfl rfl rfl) ?_;refine uAa rfl rfl rfl (uAd rfl gU) ?_;refine uAf ?_;refine uAe (uAb ?_);refine uAa rfl rfl rfl (uAd rfl gU) ?_;refine uAf ?_;refine uAe ?_;refine uAe (uAb ?_);refine uAa rfl rfl rfl (uAg rfl gU rfl rfl) ?_;refine uAa rfl rfl rfl (uAl rfl gU rfl rfl rfl rfl) ?_;refine uAS rfl rfl rfl rfl rfl gU rfl rfl ?_ (fun hh=>by simp at hh); intro hlen;refine uAa rfl rfl rfl (uAc rfl gU) ?_;refine uAf ?_;refine uAk (s:=⟨[(3,_,_),(7,_,_),(8,_,_),(9,_,_)],[],[],[]⟩) (uAj (⟨sx rfl,sx rfl,sx rfl,sx rfl,trivial⟩) trivial trivial) ?_;refine uAx ?_;refine uA6 (ι:=Nat) { t:=[(7,_,_),(8,_,_)],bx:=[],ow:=[] } (fun k=>[(9,true,xi (k : Int)),(3,true,xi (1 + T.sizes (t.kids.take k) : Nat))]) (fun k=>[]) (fun k=>k≤t.kids.length) (fun k=>t.kids.length - k) (0) (by simp) (uAj (⟨sx rfl,sx rfl,sx rfl,sx rfl,trivial⟩) trivial trivial) ?_
  intro k hok
  dsimp only [List.cons_append,List.nil_append]
  refine uAe (uAb ?_);refine uAa rfl rfl rfl (uAm rfl rfl gU gU rfl) ?_;refine uAf ?_;refine uAe ?_;refine uAn rfl (fun hc=>?_) (fun hc=>?_)
  ·try simp only [nn,T.rows_len,uAh] at hc
   have hlt : k < t.kids.length:=by omega
   have h1:=T.sizes_take _ _ _ (T.getD_some hlt)
   have h2:=T.getD_size hlt
   refine uAq ?_;refine uAe ?_;refine uAx ?_;refine uAe (uAb ?_);refine uAa rfl rfl rfl (uAy rfl rfl gU gU rfl rfl rfl (fun hh=>T.rows_at (by first | omega | (simp at hh; omega)))) ?_;refine uAa rfl rfl rfl (uAP rfl gU rfl rfl rfl rfl) ?_;refine uAr rfl (uAG rfl rfl rfl) ?_;refine uAr rfl (uAt rfl rfl rfl rfl rfl rfl rfl) ?_;refine uAf ?_;refine uAb ?_;refine uAa rfl rfl rfl (uAc rfl gU) ?_;refine uAa rfl rfl rfl (uAo rfl gU rfl rfl rfl rfl rfl) ?_;refine uAw rfl rfl rfl rfl rfl rfl gU gU (ih (t.kids.getD k default) (by omega) (by omega)) rfl ?_;refine uAa rfl rfl rfl (uAz rfl rfl gU gU rfl (IntWalk.i64_in _ (by omega))) ?_;refine uAa rfl rfl rfl (uAd rfl gU) ?_;refine uAf ?_;refine uAk (s:=⟨[(3,_,_),(7,_,_),(8,_,_),(9,_,_)],[],[],[]⟩) (uAj (⟨sx rfl,sx rfl,sx rfl,sx rfl,trivial⟩) trivial trivial) ?_;refine uAb ?_;refine uAa rfl rfl rfl (uAz rfl rfl gU gU rfl (IntWalk.i64_in _ (by omega))) ?_;refine uAa rfl rfl rfl (uAc rfl gU) ?_;refine uAf ?_;refine ⟨k + 1,?_,?_,uAj (⟨⟨_,rfl,?_⟩,⟨⟨_,rfl,?_⟩,⟨sx rfl,sx rfl,trivial⟩⟩⟩) trivial trivial⟩
   all_goals first | rfl | omega | exact tx (uBj (by rw [h1]; push_cast; omega))
  ·try simp only [nn,T.rows_len,uAh] at hc
   have : k=t.kids.length:=by omega
   subst this
   rw [List.take_length]
   refine uAQ ?_
   repeat (first | refine uAE ?_ | refine uAD ?_ | refine uAC rfl ?_)
   refine uAe (uAb ?_);refine uAa rfl rfl rfl (uAc rfl gU) ?_;refine uAa rfl rfl rfl (uAd rfl gU) ?_;refine uAf ?_;refine uAp ?_
   repeat (first | refine tR ?_ | refine bR ?_)
   refine uAv rfl ?_ trivial;exact uBj (by omega)
theorem uLc : ∀ (n : Nat) (t : T),t.size≤n→n≤2000000→Ctr sys 174 [xm t] [] (xm t) none []:=by
 intro n
 induction n with
 | zero=>intro t h; have := t.size_pos; omega
 | succ n ih =>
  intro t ht hn
  have hse:=t.size_eq
  have hrl:=T.rows_len t.kids
  have hls:=T.len_sizes t.kids
  refine uAA Tryz.func174 rfl rfl rfl rfl rfl rfl ?_;refine uAe (uAb ?_);refine uAr rfl (uAX rfl rfl rfl rfl) ?_;refine uAr rfl (uAG rfl rfl rfl) ?_;refine uAf ?_;refine uAe (uAb ?_);refine uAa rfl rfl rfl (uAg rfl gU rfl rfl) ?_;refine uAa rfl rfl rfl (uAl rfl gU rfl rfl rfl rfl) ?_;refine uAa rfl rfl rfl (uAd rfl gU) ?_;refine uAf ?_;refine uAk (s:=⟨[(1,_,_),(2,_,_),(3,_,_)],[(.l 1,_),(.l 2,_)],[],[]⟩) (uAj (⟨sx rfl,sx rfl,sx rfl,trivial⟩) (⟨sx rfl,sx rfl,trivial⟩) trivial) ?_;refine uAe (uAb ?_);refine uAa rfl rfl rfl (uAg rfl gU rfl rfl) ?_;refine uAr rfl (uHS rfl rfl rfl rfl rfl rfl) ?_;refine uAf ?_;refine uAe ?_;refine uAe (uAb ?_);refine uAa rfl rfl rfl (uAc rfl gU) ?_;refine uAS rfl rfl rfl rfl rfl gU rfl rfl ?_ (fun hh=>by simp at hh); intro hlen;refine uAa rfl rfl rfl (uAc rfl gU) ?_;refine uAf ?_;refine uAx ?_;refine uA6 (ι:=Nat) { t:=[(1,_,_),(2,_,_),(9,_,_),(10,_,_)],bx:=[(.l 2,_)],ow:=[(.b (.l 1) 3,_)] } (fun k=>[(11,true,xi (k : Int))]) (fun k=>[((.l 1),[.i .i64 t.kind, .s t.name, .i .i64 t.sort, .sl 4 (T.rows (t.kids.take k))])]) (fun k=>k≤t.kids.length) (fun k=>t.kids.length - k) (0) (by simp) (uAj (⟨sx rfl,sx rfl,sx rfl,sx rfl,sx rfl,trivial⟩) (⟨sx rfl,sx rfl,trivial⟩) (⟨rfl,trivial⟩)) ?_
  intro k hok
  dsimp only [List.cons_append,List.nil_append]
  have hrk:=T.rows_len (t.kids.take k)
  have htk : (t.kids.take k).length≤t.kids.length:=by rw [List.length_take]; omega
  refine uAe (uAb ?_);refine uAa rfl rfl rfl (uAm rfl rfl gU gU rfl) ?_;refine uAf ?_;refine uAe ?_;refine uAn rfl (fun hc=>?_) (fun hc=>?_)
  ·try simp only [nn,T.rows_len,uAh] at hc
   have hlt : k < t.kids.length:=by omega
   have h2:=T.getD_size hlt
   refine uAq ?_;refine uAe ?_;refine uAx ?_;refine uAe (uAb ?_);refine uAa rfl rfl rfl (uAy rfl rfl gU gU rfl rfl rfl (fun hh=>T.rows_at (by first | omega | (simp at hh; omega)))) ?_;refine uAa rfl rfl rfl (uAP rfl gU rfl rfl rfl rfl) ?_;refine uAr rfl (uAG rfl rfl rfl) ?_;refine uAr rfl (uAt rfl rfl rfl rfl rfl rfl rfl) ?_;refine uAf ?_;refine awp_drawn' (by kernel_rfl) ?_;refine uAi rfl rfl rfl rfl (uAg rfl gU rfl rfl) ?_;refine uCh rfl rfl rfl rfl rfl rfl rfl rfl rfl rfl rfl rfl ?_;refine uAI rfl rfl rfl rfl rfl rfl rfl gU rfl rfl rfl rfl rfl ?_;refine uAW rfl rfl rfl rfl rfl rfl rfl gU gU (ih (t.kids.getD k default) (by omega) (by omega)) rfl ?_;refine uCs (xs:=[_]) rfl rfl rfl rfl rfl rfl rfl rfl rfl rfl gU rfl ?_;refine uCa rfl rfl rfl rfl rfl rfl rfl rfl rfl rfl rfl (by first | omega | (simp only [List.length_append,List.length_singleton]; omega)) (by first | omega | (simp only [List.length_append,List.length_singleton]; omega)) ?_;refine uAi rfl rfl rfl rfl (uAg rfl gU rfl rfl) ?_;refine uCj rfl rfl rfl rfl rfl rfl rfl rfl rfl rfl rfl rfl ?_;refine uA2 (by kernel_rfl) ?_;refine uAk (s:=⟨[(1,_,_),(2,_,_),(9,_,_),(10,_,_),(11,_,_)],[(.l 1,_),(.l 2,_)],[(.b (.l 1) 3,_)],[]⟩) (uAj (⟨sx rfl,sx rfl,sx rfl,sx rfl,sx rfl,trivial⟩) (⟨sx rfl,sx rfl,trivial⟩) (⟨rfl,trivial⟩)) ?_
   refine uAb ?_;refine uAa rfl rfl rfl (uAz rfl rfl gU gU rfl (IntWalk.i64_in _ (by omega))) ?_;refine uAa rfl rfl rfl (uAc rfl gU) ?_;refine uAf ?_;refine ⟨k + 1,?_,?_,uAj (⟨⟨_,rfl,?_⟩,⟨sx rfl,sx rfl,sx rfl,sx rfl,trivial⟩⟩) (⟨⟨_,rfl,?_⟩,⟨sx rfl,trivial⟩⟩) (⟨rfl,trivial⟩)⟩
   ·omega
   ·omega
   ·rfl
   ·rw [T.rows_take hlt]; rfl
  ·try simp only [nn,T.rows_len,uAh] at hc
   have : k=t.kids.length:=by omega
   subst this
   rw [List.take_length]
   refine uAQ ?_
   repeat (first | refine uAE ?_ | refine uAD ?_ | refine uAC rfl ?_)
   refine uAe (uAb ?_);refine uAa rfl rfl rfl (uAo rfl gU rfl rfl rfl rfl rfl) ?_;refine uAr rfl (uAt rfl rfl rfl rfl rfl rfl rfl) ?_;refine uAf ?_;refine uAp ?_
   repeat (first | refine tR ?_ | refine bR ?_)
   refine uAv rfl ?_ trivial
   rfl
theorem uMU (t : T) (h : t.size≤2000000) : Ctr sys 162 [xm t, .v (.c (.sl 1 []))] [] (.tup [.agg t.cells, .c (.i .i64 0)]) none []:=by
 refine uAA Tryz.func162 rfl rfl rfl rfl rfl rfl ?_;refine uAe (uAb ?_);refine uAr rfl (uAX rfl rfl rfl rfl) ?_;refine uAr rfl (uAG rfl rfl rfl) ?_;refine uAa rfl rfl rfl (uAd rfl gU) ?_;refine uAf ?_;refine uAe ?_;refine uAe (uAb ?_);refine uAa rfl rfl rfl (uAc rfl gU) ?_;refine uAS rfl rfl rfl rfl rfl gU rfl rfl ?_ (fun hh=>by simp at hh); intro hlen;refine uAa rfl rfl rfl (uAc rfl gU) ?_;refine uAf ?_;refine uAk (s:=⟨[(2,_,_),(4,_,_),(8,_,_),(9,_,_),(10,_,_)],[(.l 2,_),(.l 4,_)],[],[]⟩) (uAj (⟨sx rfl,sx rfl,sx rfl,sx rfl,sx rfl,trivial⟩) (⟨sx rfl,sx rfl,trivial⟩) trivial) ?_;refine uAx ?_;refine uA6 (ι:=Nat) { t:=[(2,_,_),(4,_,_),(8,_,_),(9,_,_)],bx:=[(.l 2,_),(.l 4,_)],ow:=[] } (fun k=>[(10,true,xi (k : Int))]) (fun k=>[]) (fun k=>k=0) (fun k=>0) (0) (by simp) (uAj (⟨sx rfl,sx rfl,sx rfl,sx rfl,sx rfl,trivial⟩) (⟨sx rfl,sx rfl,trivial⟩) trivial) ?_
 intro k hok
 dsimp only [List.cons_append,List.nil_append]
 refine uAe (uAb ?_);refine uAa rfl rfl rfl (uAm rfl rfl gU gU rfl) ?_;refine uAf ?_;refine uAe ?_;refine uAn rfl (fun hc=>?_) (fun hc=>?_)
 ·try simp only [nn,T.rows_len,uAh] at hc
  exfalso; simp at hc; omega
 ·try simp only [nn,T.rows_len,uAh] at hc
  refine uAQ ?_
  repeat (first | refine uAE ?_ | refine uAD ?_ | refine uAC rfl ?_)
  refine uAe (uAb ?_);refine uAa rfl rfl rfl (uAo rfl gU rfl rfl rfl rfl rfl) ?_;refine uAw rfl rfl rfl rfl rfl rfl gU gU (uLc _ _ (Nat.le_refl _) (by omega)) rfl ?_;refine uAr rfl (uAt rfl rfl rfl rfl rfl rfl rfl) ?_;refine uAa rfl rfl rfl (uAd rfl gU) ?_;refine uAf ?_;refine uAp ?_
  repeat (first | refine tR ?_ | refine bR ?_)
  refine uAv rfl ?_ trivial
  rfl
theorem uGr (t : T) (h : t.size≤2000000) : Ctr sys 138 [xm t] [] (xm t) none []:=by
 refine uAA Tryz.func138 rfl rfl rfl rfl rfl rfl ?_;refine uAe (uAb ?_);refine uAr rfl (uAX rfl rfl rfl rfl) ?_;refine uAr rfl (uAG rfl rfl rfl) ?_;refine uAf ?_;refine uAe (uAb ?_);refine uAa rfl rfl rfl (uAo rfl gU rfl rfl rfl rfl rfl) ?_;refine uAw rfl rfl rfl rfl rfl rfl gU gU (uMU _ (by omega)) rfl ?_;refine uAa rfl rfl rfl (uAc rfl gU) ?_;refine uAa rfl rfl rfl (uAu rfl gU rfl) ?_;refine uAa rfl rfl rfl (uAu rfl gU rfl) ?_;refine uAr rfl (uAG rfl rfl rfl) ?_;refine uAr rfl (uAt rfl rfl rfl rfl rfl rfl rfl) ?_;refine uAa rfl rfl rfl (uAd rfl gU) ?_;refine uAf ?_;refine uAk (s:=⟨[(2,_,_),(3,_,_)],[(.l 2,_),(.l 3,_)],[],[]⟩) (uAj (⟨sx rfl,sx rfl,trivial⟩) (⟨sx rfl,sx rfl,trivial⟩) trivial) ?_;refine uAe (uAb ?_);refine uAa rfl rfl rfl (uAo rfl gU rfl rfl rfl rfl rfl) ?_;refine uAr rfl (uAt rfl rfl rfl rfl rfl rfl rfl) ?_;refine uAf ?_;refine uAp ?_
 repeat (first | refine tR ?_ | refine bR ?_)
 refine uAv rfl ?_ trivial
 rfl
end Go.Proofs.YtnjjdbapadkomaaGreatDoor
namespace Go.Proofs.YtnjjdbapadkomaaGreatDoor
open Go Go.Abs
namespace T
def cmp0 (a b : T) : Int :=
 if uB0 a.size b.size≠0 then uB0 a.size b.size else if uB0 a.kind b.kind≠0 then uB0 a.kind b.kind
 else if Op.bytesLess a.name b.name=true then -1 else if (!(Op.bytesLess a.name b.name || a.name == b.name))=true then 1
 else if uB0 a.sort b.sort≠0 then uB0 a.sort b.sort else uB0 a.kids.length b.kids.length
mutual
def cmp : T→T→Int
 | mk k n s ks,b=>if cmp0 (mk k n s ks) b≠0 then cmp0 (mk k n s ks) b else cmps ks b.kids
def cmps : List T→List T→Int
 | [],_=>0
 | _ :: _,[]=>0
 | x :: xs,y :: ys=>if cmp x y≠0 then cmp x y else cmps xs ys
end
theorem cmp_eq (a b : T) : a.cmp b=if cmp0 a b≠0 then cmp0 a b else cmps a.kids b.kids:=by cases a; rw [cmp]; rfl
theorem cmps_hit : ∀ (a b : List T) (k : Nat) (x y : T),a[k]? = some x→b[k]? = some y→cmps (a.take k) (b.take k)=0→x.cmp y≠0→cmps a b=x.cmp y
 | [],b,k,x,y,h,_,_,_=>by simp at h
 | _ :: _,[],k,x,y,_,h,_,_=>by simp at h
 | a :: ar,b :: br,0,x,y,h,h',_,hx=>by simp at h h'; subst h; subst h'; rw [cmps,if_pos hx]
 | a :: ar,b :: br,k + 1,x,y,h,h',h0,hx=>by
  rw [List.take_succ_cons,List.take_succ_cons,cmps] at h0
  rw [cmps]
  by_cases ht : a.cmp b=0
  ·rw [if_neg (by simpa using ht)] at h0
   rw [if_neg (by simpa using ht)]
   exact cmps_hit ar br k x y (by simpa using h) (by simpa using h') h0 hx
  ·rw [if_pos ht] at h0; exact absurd h0 ht
theorem cmps_step : ∀ (a b : List T) (k : Nat) (x y : T),a[k]? = some x→b[k]? = some y→cmps (a.take k) (b.take k)=0→x.cmp y=0→cmps (a.take (k + 1)) (b.take (k + 1))=0
 | [],b,k,x,y,h,_,_,_=>by simp at h
 | _ :: _,[],k,x,y,_,h,_,_=>by simp at h
 | a :: ar,b :: br,0,x,y,h,h',_,hx=>by simp at h h'; subst h; subst h'; simp [cmps,hx]
 | a :: ar,b :: br,k + 1,x,y,h,h',h0,hx=>by
  rw [List.take_succ_cons,List.take_succ_cons,cmps] at h0
  rw [List.take_succ_cons,List.take_succ_cons,cmps]
  by_cases ht : a.cmp b=0
  ·rw [if_neg (by simpa using ht)] at h0
   rw [if_neg (by simpa using ht)]
   exact cmps_step ar br k x y (by simpa using h) (by simpa using h') h0 hx
  ·rw [if_pos ht] at h0; exact absurd h0 ht
end T
theorem uJ8 {a b : Int} (h : uB0 a b=0) : a=b:=by
 unfold uB0 at h; split at h
 ·omega
 ·split at h <;> omega
def uO7 (a b : T) (k : Nat) : St:={ t:=[(2,true, .v (.ptr (.l 2) 0)),(3,true, .v (.ptr (.l 3) 0)),(9,true,xi k)],bx:=[(.l 2,a.cells),(.l 3,b.cells)],ow:=[] }
theorem uJc : ∀ (n : Nat) (a b : T),a.size≤n→n≤2000000→b.size≤2000000→Ctr sys 71 [xm a,xm b] [] (xi (a.cmp b)) none []:=by
 intro n
 induction n with
 | zero=>intro t _ h; have := t.size_pos; omega
 | succ n ih =>
  intro a b ha hn hb
  have hls:=T.len_sizes a.kids
  have hse:=a.size_eq
  refine uAA Tryz.func71 rfl rfl rfl rfl rfl rfl ?_;refine uAe (uAb ?_);refine uAr rfl (uAX rfl rfl rfl rfl) ?_;refine uAr rfl (uAX rfl rfl rfl rfl) ?_;refine uAa rfl rfl rfl (uAd rfl gU) ?_;refine uAf ?_;refine uAe ?_;refine uAe ?_;refine awp_drawn' (by kernel_rfl) ?_;refine uAI rfl rfl rfl rfl rfl rfl rfl gU rfl rfl rfl rfl rfl ?_;refine uAW rfl rfl rfl rfl rfl rfl rfl gU gU (uEN _ a (Nat.le_refl _) (by omega)) rfl ?_;refine uAI rfl rfl rfl rfl rfl rfl rfl gU rfl rfl rfl rfl rfl ?_;refine uAW rfl rfl rfl rfl rfl rfl rfl gU gU (uEN _ b (Nat.le_refl _) hb) rfl ?_;refine uAW rfl rfl rfl rfl rfl rfl rfl gU gU (uET _ _) rfl ?_;refine uAi rfl rfl rfl rfl (uAd rfl gU) ?_;refine uA2 (by kernel_rfl) ?_;refine uAk (s:=⟨[(2,_,_),(3,_,_),(5,_,_)],[(.l 2,_),(.l 3,_)],[],[]⟩) (uAj (⟨sx rfl,sx rfl,sx rfl,trivial⟩) (⟨sx rfl,sx rfl,trivial⟩) trivial) ?_;refine uAe (uAb ?_);refine uAa rfl rfl rfl (uAc rfl gU) ?_;refine uAa rfl rfl rfl (uAm rfl rfl gU gU rfl) ?_;refine uAf ?_;refine uAn rfl (fun hc=>?_) (fun hc=>?_)
  ·refine uAe (uAb ?_)
   refine uAa rfl rfl rfl (uAc rfl gU) ?_;refine uAa rfl rfl rfl (uAd rfl gU) ?_;refine uAf ?_;refine uAp ?_
   repeat (first | refine tR ?_ | refine bR ?_)
   refine uAv rfl ?_ trivial;refine uBj ?_
   rw [T.cmp_eq]
   have h0 : T.cmp0 a b=uB0 a.size b.size:=by rw [T.cmp0,if_pos (by simpa using hc)]
   rw [h0,if_pos (by simpa using hc)]
  ·have e1 : ¬ uB0 (a.size : Int) (b.size : Int)≠0:=by simpa using hc
   refine uAq ?_;refine uAe ?_;refine uAe (uAb ?_);refine uAa rfl rfl rfl (uAg rfl gU rfl rfl) ?_;refine uAa rfl rfl rfl (uAl rfl gU rfl rfl rfl rfl) ?_;refine uAa rfl rfl rfl (uAg rfl gU rfl rfl) ?_;refine uAa rfl rfl rfl (uAl rfl gU rfl rfl rfl rfl) ?_;refine uAw rfl rfl rfl rfl rfl rfl gU gU (uET _ _) rfl ?_;refine uAa rfl rfl rfl (uAd rfl gU) ?_;refine uAf ?_;refine uAk (s:=⟨[(2,_,_),(3,_,_),(6,_,_)],[(.l 2,_),(.l 3,_)],[],[]⟩) (uAj (⟨sx rfl,sx rfl,sx rfl,trivial⟩) (⟨sx rfl,sx rfl,trivial⟩) trivial) ?_;refine uAe (uAb ?_);refine uAa rfl rfl rfl (uAc rfl gU) ?_;refine uAa rfl rfl rfl (uAm rfl rfl gU gU rfl) ?_;refine uAf ?_;refine uAn rfl (fun hc2=>?_) (fun hc2=>?_)
   ·refine uAe (uAb ?_)
    refine uAa rfl rfl rfl (uAc rfl gU) ?_;refine uAa rfl rfl rfl (uAd rfl gU) ?_;refine uAf ?_;refine uAp ?_
    repeat (first | refine tR ?_ | refine bR ?_)
    refine uAv rfl ?_ trivial;refine uBj ?_
    have h0 : T.cmp0 a b=uB0 a.kind b.kind:=by rw [T.cmp0,if_neg e1,if_pos (by simpa using hc2)]
    rw [T.cmp_eq,h0,if_pos (by simpa using hc2)]
   ·have e2 : ¬ uB0 a.kind b.kind≠0:=by simpa using hc2
    refine uAq ?_;refine uAe ?_;refine uAe (uAb ?_);refine uAa rfl rfl rfl (uAg rfl gU rfl rfl) ?_;refine uAa rfl rfl rfl (uAl rfl gU rfl rfl rfl rfl) ?_;refine uAa rfl rfl rfl (uAg rfl gU rfl rfl) ?_;refine uAa rfl rfl rfl (uAl rfl gU rfl rfl rfl rfl) ?_;refine uAa rfl rfl rfl (uA9 rfl rfl gU gU rfl) ?_;refine uAf ?_;refine uAk (s:=⟨[(2,_,_),(3,_,_),(31,_,_)],[(.l 2,_),(.l 3,_)],[],[]⟩) (uAj (⟨sx rfl,sx rfl,sx rfl,trivial⟩) (⟨sx rfl,sx rfl,trivial⟩) trivial) ?_;refine uAn rfl (fun hc3=>?_) (fun hc3=>?_)
    ·refine uAe (uAb ?_)
     refine uAa rfl rfl rfl (uAd rfl gU) ?_;refine uAf ?_;refine uAp ?_
     repeat (first | refine tR ?_ | refine bR ?_)
     refine uAv rfl ?_ trivial;refine uBj ?_
     have h0 : T.cmp0 a b = -1:=by rw [T.cmp0,if_neg e1,if_neg e2,if_pos hc3]
     rw [T.cmp_eq,h0]; rfl
    ·refine uAq ?_
     refine uAe ?_;refine uAe (uAb ?_);refine uAa rfl rfl rfl (uAg rfl gU rfl rfl) ?_;refine uAa rfl rfl rfl (uAl rfl gU rfl rfl rfl rfl) ?_;refine uAa rfl rfl rfl (uAg rfl gU rfl rfl) ?_;refine uAa rfl rfl rfl (uAl rfl gU rfl rfl rfl rfl) ?_;refine uAa rfl rfl rfl (uA9 rfl rfl gU gU rfl) ?_;refine uAf ?_;refine uAk (s:=⟨[(2,_,_),(3,_,_),(36,_,_)],[(.l 2,_),(.l 3,_)],[],[]⟩) (uAj (⟨sx rfl,sx rfl,sx rfl,trivial⟩) (⟨sx rfl,sx rfl,trivial⟩) trivial) ?_;refine uAn rfl (fun hc4=>?_) (fun hc4=>?_)
     ·refine uAe (uAb ?_)
      refine uAa rfl rfl rfl (uAd rfl gU) ?_;refine uAf ?_;refine uAp ?_
      repeat (first | refine tR ?_ | refine bR ?_)
      refine uAv rfl ?_ trivial;refine uBj ?_
      have h0 : T.cmp0 a b=1:=by rw [T.cmp0,if_neg e1,if_neg e2,if_neg (by rw [hc3]; simp),if_pos hc4]
      rw [T.cmp_eq,h0]; rfl
     ·refine uAq ?_
      refine uAe ?_;refine uAe (uAb ?_);refine uAa rfl rfl rfl (uAg rfl gU rfl rfl) ?_;refine uAa rfl rfl rfl (uAl rfl gU rfl rfl rfl rfl) ?_;refine uAa rfl rfl rfl (uAg rfl gU rfl rfl) ?_;refine uAa rfl rfl rfl (uAl rfl gU rfl rfl rfl rfl) ?_;refine uAw rfl rfl rfl rfl rfl rfl gU gU (uET _ _) rfl ?_;refine uAa rfl rfl rfl (uAd rfl gU) ?_;refine uAf ?_;refine uAk (s:=⟨[(2,_,_),(3,_,_),(7,_,_)],[(.l 2,_),(.l 3,_)],[],[]⟩) (uAj (⟨sx rfl,sx rfl,sx rfl,trivial⟩) (⟨sx rfl,sx rfl,trivial⟩) trivial) ?_;refine uAe (uAb ?_);refine uAa rfl rfl rfl (uAc rfl gU) ?_;refine uAa rfl rfl rfl (uAm rfl rfl gU gU rfl) ?_;refine uAf ?_;refine uAn rfl (fun hc5=>?_) (fun hc5=>?_)
      ·refine uAe (uAb ?_)
       refine uAa rfl rfl rfl (uAc rfl gU) ?_;refine uAa rfl rfl rfl (uAd rfl gU) ?_;refine uAf ?_;refine uAp ?_
       repeat (first | refine tR ?_ | refine bR ?_)
       refine uAv rfl ?_ trivial;refine uBj ?_
       have h0 : T.cmp0 a b=uB0 a.sort b.sort:=by rw [T.cmp0,if_neg e1,if_neg e2,if_neg (by rw [hc3]; simp),if_neg (by rw [hc4]; simp),if_pos (by simpa using hc5)]
       rw [T.cmp_eq,h0,if_pos (by simpa using hc5)]
      ·have e5 : ¬ uB0 a.sort b.sort≠0:=by simpa using hc5
       have h0 : T.cmp0 a b=uB0 a.kids.length b.kids.length:=by rw [T.cmp0,if_neg e1,if_neg e2,if_neg (by rw [hc3]; simp),if_neg (by rw [hc4]; simp),if_neg e5]
       refine uAq ?_;refine uAe ?_;refine uAe (uAb ?_);refine uAa rfl rfl rfl (uAg rfl gU rfl rfl) ?_;refine uAa rfl rfl rfl (uAl rfl gU rfl rfl rfl rfl) ?_;refine uAS rfl rfl rfl rfl rfl gU rfl rfl ?_ (fun hh=>by simp at hh); intro hlen;refine uAa rfl rfl rfl (uAg rfl gU rfl rfl) ?_;refine uAa rfl rfl rfl (uAl rfl gU rfl rfl rfl rfl) ?_;refine uAS rfl rfl rfl rfl rfl gU rfl rfl ?_ (fun hh=>by simp at hh); intro hlen;refine uAw rfl rfl rfl rfl rfl rfl gU gU (uET _ _) rfl ?_;refine uAa rfl rfl rfl (uAd rfl gU) ?_;refine uAf ?_;refine uAk (s:=⟨[(2,_,_),(3,_,_),(8,_,_)],[(.l 2,_),(.l 3,_)],[],[]⟩) (uAj (⟨sx rfl,sx rfl,sx rfl,trivial⟩) (⟨sx rfl,sx rfl,trivial⟩) trivial) ?_;refine uAe (uAb ?_);refine uAa rfl rfl rfl (uAc rfl gU) ?_;refine uAa rfl rfl rfl (uAm rfl rfl gU gU rfl) ?_;refine uAf ?_;refine uAn rfl (fun hc6=>?_) (fun hc6=>?_)
       ·refine uAe (uAb ?_)
        refine uAa rfl rfl rfl (uAc rfl gU) ?_;refine uAa rfl rfl rfl (uAd rfl gU) ?_;refine uAf ?_;refine uAp ?_
        repeat (first | refine tR ?_ | refine bR ?_)
        refine uAv rfl ?_ trivial;refine uBj ?_
        simp only [T.rows_len] at hc6 ⊢
        rw [T.cmp_eq,h0,if_pos (by simpa using hc6)]
       ·simp only [T.rows_len] at hc6
        have e6 : uB0 (a.kids.length : Int) (b.kids.length : Int)=0:=by simpa using hc6
        have hll:=uJ8 e6
        have hll' : a.kids.length=b.kids.length:=by omega
        have hC : a.cmp b=T.cmps a.kids b.kids:=by rw [T.cmp_eq,h0,if_neg (by simpa using e6)]
        refine uAq ?_;refine uAe ?_;refine uAe (uAb ?_);refine uAa rfl rfl rfl (uAd rfl gU) ?_;refine uAf ?_;refine uAx ?_;refine uDn (uO7 a b) (fun k=>k≤a.kids.length∧T.cmps (a.kids.take k) (b.kids.take k)=0) (fun k=>a.kids.length - k) 0 ⟨Nat.zero_le _,by simp [T.cmps]⟩ ?_ ?_
        ·refine uAj ⟨⟨_,rfl,rfl⟩,⟨_,rfl,rfl⟩,⟨_,rfl,rfl⟩,trivial⟩ ⟨⟨_,rfl,rfl⟩,⟨_,rfl,rfl⟩,trivial⟩ trivial
        ·rintro k ⟨hk,hz⟩
         refine uAe ?_;refine uAe (uAb ?_);refine uAa rfl rfl rfl (uAc rfl gU) ?_;refine uAa rfl rfl rfl (uAg rfl gU rfl rfl) ?_;refine uAa rfl rfl rfl (uAl rfl gU rfl rfl rfl rfl) ?_;refine uAS rfl rfl rfl rfl rfl gU rfl rfl ?_ (fun hh=>by simp at hh); intro hlen;refine uAa rfl rfl rfl (uAm rfl rfl gU gU rfl) ?_;refine uAf ?_;refine uAk (s:=⟨[(2,_,_),(3,_,_),(9,_,_),(59,_,_)],[(.l 2,_),(.l 3,_)],[],[]⟩) (uAj (⟨sx rfl,sx rfl,sx rfl,sx rfl,trivial⟩) (⟨sx rfl,sx rfl,trivial⟩) trivial) ?_;refine uAn rfl (fun hc7=>?_) (fun hc7=>?_)
         ·rw [T.rows_len] at hc7
          have hlt : k < a.kids.length:=by simpa using hc7
          obtain ⟨x,hx⟩ : ∃ x,a.kids[k]? = some x:=⟨_,List.getElem?_eq_getElem hlt⟩
          obtain ⟨y,hy⟩ : ∃ y,b.kids[k]? = some y:=⟨_,List.getElem?_eq_getElem (by omega)⟩
          have q1:=T.size_kid hx
          have q2:=T.size_kid hy
          refine uAq ?_;refine uAe ?_;refine uAx ?_;refine uAe ?_;refine awp_drawn' (by kernel_rfl) ?_;refine uAi rfl rfl rfl rfl (uAg rfl gU rfl rfl) ?_;refine uA3 rfl rfl rfl rfl rfl rfl rfl gU rfl rfl rfl rfl ?_;refine uAi rfl rfl rfl rfl (uAc rfl gU) ?_;refine uAi rfl rfl rfl rfl (uAy rfl rfl gU gU rfl rfl rfl (fun _=>T.rows_get hx)) ?_;refine uAi rfl rfl rfl rfl (uAP rfl gU rfl rfl rfl rfl) ?_;refine uAi rfl rfl rfl rfl (uAg rfl gU rfl rfl) ?_;refine uA3 rfl rfl rfl rfl rfl rfl rfl gU rfl rfl rfl rfl ?_;refine uAi rfl rfl rfl rfl (uAc rfl gU) ?_;refine uAi rfl rfl rfl rfl (uAy rfl rfl gU gU rfl rfl rfl (fun _=>T.rows_get hy)) ?_;refine uAi rfl rfl rfl rfl (uAP rfl gU rfl rfl rfl rfl) ?_;refine uAW rfl rfl rfl rfl rfl rfl rfl gU gU (ih x y (by omega) (by omega) (by omega)) rfl ?_;refine uAi rfl rfl rfl rfl (uAd rfl gU) ?_;refine uA2 (by kernel_rfl) ?_;refine uAk (s:=⟨[(2,_,_),(3,_,_),(9,_,_),(10,_,_)],[(.l 2,_),(.l 3,_)],[],[]⟩) (uAj (⟨sx rfl,sx rfl,sx rfl,sx rfl,trivial⟩) (⟨sx rfl,sx rfl,trivial⟩) trivial) ?_;refine uAe (uAb ?_);refine uAa rfl rfl rfl (uAc rfl gU) ?_;refine uAa rfl rfl rfl (uAm rfl rfl gU gU rfl) ?_;refine uAf ?_;refine uAn rfl (fun hc8=>?_) (fun hc8=>?_)
          ·refine uAe (uAb ?_)
           refine uAa rfl rfl rfl (uAc rfl gU) ?_;refine uAa rfl rfl rfl (uAd rfl gU) ?_;refine uAf ?_;refine uAp ?_
           repeat (first | refine tR ?_ | refine bR ?_)
           refine uAv rfl ?_ trivial;exact uBj (by rw [hC,T.cmps_hit _ _ _ _ _ hx hy hz (by simpa using hc8)])
          ·refine uAq ?_
           refine uAb ?_;refine uAa rfl rfl rfl (uAc rfl gU) ?_;refine uAa rfl rfl rfl (uAz rfl rfl gU gU rfl (IntWalk.i64_in _ (by omega))) ?_;refine uAa rfl rfl rfl (uAd rfl gU) ?_;refine uAf ?_;refine ⟨k + 1,⟨by omega,T.cmps_step _ _ _ _ _ hx hy hz (by simpa using hc8)⟩,by omega,?_⟩;refine uAj ⟨⟨_,rfl,rfl⟩,⟨_,rfl,rfl⟩,⟨_,rfl,rfl⟩,trivial⟩ ⟨⟨_,rfl,rfl⟩,⟨_,rfl,rfl⟩,trivial⟩ trivial
         ·refine uAQ ?_
          repeat (first | refine uAE ?_ | refine uAD ?_ | refine uAC rfl ?_)
          refine uAe (uAb ?_);refine uAa rfl rfl rfl (uAd rfl gU) ?_;refine uAf ?_;refine uAp ?_
          repeat (first | refine tR ?_ | refine bR ?_)
          refine uAv rfl ?_ trivial
          rw [T.rows_len] at hc7
          have hke : k=a.kids.length:=by simp at hc7; omega
          subst hke
          rw [List.take_length,hll',List.take_length] at hz
          exact uBj (by rw [hC,hz])
theorem uGc (a b : T) (ha : a.size≤2000000) (hb : b.size≤2000000) : Ctr sys 20 [xm a,xm b] [] (xb (a.cmp b == 0)) none []:=by
 refine uAA Tryz.func20 rfl rfl rfl rfl rfl rfl ?_;refine uAe (uAb ?_);refine uAr rfl (uAX rfl rfl rfl rfl) ?_;refine uAr rfl (uAX rfl rfl rfl rfl) ?_;refine uAa rfl rfl rfl (uAd rfl gU) ?_;refine uAf ?_;refine uAe (uAb ?_);refine uAa rfl rfl rfl (uAo rfl gU rfl rfl rfl rfl rfl) ?_;refine uAa rfl rfl rfl (uAo rfl gU rfl rfl rfl rfl rfl) ?_;refine uAw rfl rfl rfl rfl rfl rfl gU gU (uJc _ a b (Nat.le_refl _) ha hb) rfl ?_;refine uAa rfl rfl rfl (uAm rfl rfl gU gU rfl) ?_;refine uAa rfl rfl rfl (uAd rfl gU) ?_;refine uAf ?_;refine uAp ?_
 repeat (first | refine tR ?_ | refine bR ?_)
 refine uAv rfl ?_ trivial
 rfl
end Go.Proofs.YtnjjdbapadkomaaGreatDoor
namespace Go.Proofs.YtnjjdbapadkomaaGreatDoor
open Go Go.Abs
def uF3 (a b : List T) : Bool:=decide (a.length=b.length) && (T.cmps a b == 0)
def uO1 (a b : List T) (k : Nat) : St:={ t:=[(0,true,xl a),(1,true,xl b),(5,true,xi k)],bx:=[],ow:=[] }
theorem uK7 (a b : List T) (ha : T.sizes a≤2000000) (hb : T.sizes b≤2000000) : Ctr sys 114 [xl a,xl b] [] (xb (uF3 a b)) none []:=by
 have hls:=T.len_sizes a
 refine uAA Tryz.func114 rfl rfl rfl rfl rfl rfl ?_;refine uAe (uAb ?_);refine uAa rfl rfl rfl (uAd rfl gU) ?_;refine uAf ?_;refine uAe ?_;refine uAe (uAb ?_);refine uAa rfl rfl rfl (uAc rfl gU) ?_;refine uAS rfl rfl rfl rfl rfl gU rfl rfl ?_ (fun hh=>by simp at hh); intro hlen;refine uAa rfl rfl rfl (uAc rfl gU) ?_;refine uAS rfl rfl rfl rfl rfl gU rfl rfl ?_ (fun hh=>by simp at hh); intro hlen;refine uAa rfl rfl rfl (uAm rfl rfl gU gU rfl) ?_;refine uAf ?_;refine uAk (s:=⟨[(0,_,_),(1,_,_),(10,_,_)],[],[],[]⟩) (uAj (⟨sx rfl,sx rfl,sx rfl,trivial⟩) trivial trivial) ?_;refine uAn rfl (fun hc=>?_) (fun hc=>?_)
 ·refine uAe (uAb ?_)
  refine uAa rfl rfl rfl (uAd rfl gU) ?_;refine uAf ?_;refine uAp ?_
  repeat (first | refine tR ?_ | refine bR ?_)
  refine uAv rfl ?_ trivial;refine uCG ?_
  simp only [T.rows_len,bne_iff_ne,ne_eq] at hc
  have : ¬ a.length=b.length:=by omega
  simp [uF3,this]
 ·simp only [T.rows_len,bne_eq_false_iff_eq] at hc
  have hll : a.length=b.length:=by omega
  refine uAq ?_;refine uAe ?_;refine uAe (uAb ?_);refine uAa rfl rfl rfl (uAd rfl gU) ?_;refine uAf ?_;refine uAx ?_;refine uDn (uO1 a b) (fun k=>k≤a.length∧T.cmps (a.take k) (b.take k)=0) (fun k=>a.length - k) 0 ⟨Nat.zero_le _,by simp [T.cmps]⟩ ?_ ?_
  ·refine uAj ⟨⟨_,rfl,rfl⟩,⟨_,rfl,rfl⟩,⟨_,rfl,rfl⟩,trivial⟩ trivial trivial
  ·rintro k ⟨hk,hz⟩
   refine uAe ?_;refine uAe (uAb ?_);refine uAa rfl rfl rfl (uAc rfl gU) ?_;refine uAa rfl rfl rfl (uAc rfl gU) ?_;refine uAS rfl rfl rfl rfl rfl gU rfl rfl ?_ (fun hh=>by simp at hh); intro hlen;refine uAa rfl rfl rfl (uAm rfl rfl gU gU rfl) ?_;refine uAf ?_;refine uAn rfl (fun hc7=>?_) (fun hc7=>?_)
   ·rw [T.rows_len] at hc7
    have hlt : k < a.length:=by simpa using hc7
    obtain ⟨x,hx⟩ : ∃ x,a[k]? = some x:=⟨_,List.getElem?_eq_getElem hlt⟩
    obtain ⟨y,hy⟩ : ∃ y,b[k]? = some y:=⟨_,List.getElem?_eq_getElem (by omega)⟩
    have q1:=uKv _ _ _ hx
    have q2:=uKv _ _ _ hy
    refine uAq ?_;refine uAe ?_;refine uAx ?_;refine uAe ?_;refine awp_drawn' (by kernel_rfl) ?_;refine uAi rfl rfl rfl rfl (uAc rfl gU) ?_;refine uAi rfl rfl rfl rfl (uAc rfl gU) ?_;refine uAi rfl rfl rfl rfl (uAy rfl rfl gU gU rfl rfl rfl (fun _=>T.rows_get hx)) ?_;refine uAi rfl rfl rfl rfl (uAP rfl gU rfl rfl rfl rfl) ?_;refine uAi rfl rfl rfl rfl (uAc rfl gU) ?_;refine uAi rfl rfl rfl rfl (uAc rfl gU) ?_;refine uAi rfl rfl rfl rfl (uAy rfl rfl gU gU rfl rfl rfl (fun _=>T.rows_get hy)) ?_;refine uAi rfl rfl rfl rfl (uAP rfl gU rfl rfl rfl rfl) ?_;refine uAW rfl rfl rfl rfl rfl rfl rfl gU gU (uGc x y (by omega) (by omega)) rfl ?_;refine uAi rfl rfl rfl rfl (uAZ rfl gU) ?_;refine uA2 (by kernel_rfl) ?_;refine uAk (s:=⟨[(0,_,_),(1,_,_),(5,_,_),(26,_,_)],[],[],[]⟩) (uAj (⟨sx rfl,sx rfl,sx rfl,sx rfl,trivial⟩) trivial trivial) ?_;refine uAn rfl (fun hc8=>?_) (fun hc8=>?_)
    ·refine uAe (uAb ?_)
     refine uAa rfl rfl rfl (uAd rfl gU) ?_;refine uAf ?_;refine uAp ?_
     repeat (first | refine tR ?_ | refine bR ?_)
     refine uAv rfl ?_ trivial
     have hne : x.cmp y≠0:=by simpa using hc8
     refine uCG ?_
     rw [uF3,T.cmps_hit _ _ _ _ _ hx hy hz hne]
     simp [hne]
    ·refine uAq ?_
     refine uAb ?_;refine uAa rfl rfl rfl (uAc rfl gU) ?_;refine uAa rfl rfl rfl (uAz rfl rfl gU gU rfl (IntWalk.i64_in _ (by omega))) ?_;refine uAa rfl rfl rfl (uAd rfl gU) ?_;refine uAf ?_;refine ⟨k + 1,⟨by omega,T.cmps_step _ _ _ _ _ hx hy hz (by simpa using hc8)⟩,by omega,?_⟩;refine uAj ⟨⟨_,rfl,rfl⟩,⟨_,rfl,rfl⟩,⟨_,rfl,rfl⟩,trivial⟩ trivial trivial
   ·refine uAQ ?_
    repeat (first | refine uAE ?_ | refine uAD ?_ | refine uAC rfl ?_)
    refine uAe (uAb ?_);refine uAa rfl rfl rfl (uAd rfl gU) ?_;refine uAf ?_;refine uAp ?_
    repeat (first | refine tR ?_ | refine bR ?_)
    refine uAv rfl ?_ trivial
    rw [T.rows_len] at hc7
    have hke : k=a.length:=by simp at hc7; omega
    subst hke
    rw [List.take_length,hll,List.take_length] at hz
    refine uCG ?_
    simp [uF3,hll,hz]
end Go.Proofs.YtnjjdbapadkomaaGreatDoor
namespace Go.Proofs.YtnjjdbapadkomaaGreatDoor
open Go Go.Abs
def Tk.nl (t : Tk) (b : Bool) : Tk:=if b=true then t else t.onl 0
def uBU (s : List UInt8) : List UInt8:=s.take (uCt true s)
theorem uEj {i : Bool} {c : UInt8} {r : List UInt8} (h1 : ¬(i=true∧c.toNat=92)) (h2 : ¬((if c.toNat=34 then !i else i)=false∧c.toNat=35∧(r.getD 0 0).toNat=35)) :
  uCt i (c :: r)=uCt (if c.toNat=34 then !i else i) r + 1:=by
 cases r with
 | nil=>simp [uCt]
 | cons d l =>
  rw [List.getD_cons_zero] at h2
  rw [uCt,if_neg h1,if_neg h2]
theorem uCE {c : UInt8} {r : List UInt8} (hc : c.toNat≠34) (h2 : ¬(c.toNat=35∧(r.getD 0 0).toNat=35)) : uBh (c :: r)=c :: uBh r:=by
 unfold uBh
 rw [uEj (by simp) (by rw [if_neg hc]; rintro ⟨-, q⟩; exact h2 q),if_neg hc,List.take_succ_cons]
theorem uDl {c : UInt8} {r : List UInt8} (hc : c.toNat=34) : uBh (c :: r)=c :: uBU r:=by
 unfold uBh uBU
 rw [uEj (by simp) (by rintro ⟨-, q,-⟩; omega),if_pos hc,List.take_succ_cons]; rfl
theorem uF7 {c : UInt8} {r : List UInt8} (hc : c.toNat=35) (hd : (r.getD 0 0).toNat=35) : uBh (c :: r)=[]:=by
 cases r with
 | nil=>simp at hd
 | cons d l =>
  rw [List.getD_cons_zero] at hd
  unfold uBh
  rw [uCt,if_neg (by simp),if_pos ⟨by rw [if_neg (by omega)],hc,hd⟩]; rfl
theorem uKA {c : UInt8} {r : List UInt8} (hc : c.toNat=34) : uBU (c :: r)=c :: uBh r:=by
 unfold uBh uBU
 rw [uEj (by rintro ⟨-, q⟩; omega) (by rintro ⟨-, q,-⟩; omega),if_pos hc,List.take_succ_cons]; rfl
theorem uDC {c : UInt8} {r : List UInt8} (h1 : c.toNat≠34) (h2 : c.toNat≠92) : uBU (c :: r)=c :: uBU r:=by
 unfold uBU
 rw [uEj (by rintro ⟨-, q⟩; omega) (by rw [if_neg h1]; rintro ⟨q,-⟩; simp at q),if_neg h1,List.take_succ_cons]
theorem uL1 {c d : UInt8} {r : List UInt8} (h : c.toNat=92) : uBU (c :: d :: r)=c :: d :: uBU r:=by
 unfold uBU
 rw [uCt,if_pos ⟨rfl,h⟩]; rfl
theorem uMJ (c : UInt8) : uBU [c]=[c]:=by unfold uBU; rw [uCt]; rfl
theorem uFX : uBh []=[]:=rfl
theorem uMd : uBU []=[]:=rfl
theorem uLv (b : UInt8) (l : List UInt8) : ([35,35] : List UInt8).isPrefixOf (b :: l)=(decide (b.toNat=35) && decide ((l.getD 0 0).toNat=35)):=by
 have hb : ∀ x : UInt8,((35 : UInt8) == x)=decide (x.toNat=35):=by
  intro x
  rw [Bool.eq_iff_iff]
  simp only [beq_iff_eq,decide_eq_true_eq]
  exact ⟨fun h=>by subst h; rfl,fun h=>UInt8.toNat_inj.1 (by rw [h]; rfl)⟩
 cases l with
 | nil=>simp [List.isPrefixOf,hb]
 | cons c r=>simp [List.isPrefixOf,hb]
theorem uH0 : ∀ (l : List UInt8),wdN (uBh l)=nmP l∧(uBh l).take (nmP l)=l.take (nmP l)∧(uBh l).drop (nmP l)=uBh (l.drop (nmP l))
 | []=>by simp [uFX,wdN,nmP]
 | b :: r=>by
  by_cases h : uB3 (b.toNat : Int)=true ∧ ¬(b.toNat=35∧(r.getD 0 0).toNat=35)
  ·have h34 : b.toNat≠34:=by
    intro q
    have := h.1
    rw [q] at this
    revert this; decide
   obtain ⟨i1,i2,i3⟩:=uH0 r
   rw [uCE h34 h.2,wdN,if_pos h.1,nmP,if_pos h,i1]
   exact ⟨rfl,by rw [List.take_succ_cons,List.take_succ_cons,i2],by rw [List.drop_succ_cons,List.drop_succ_cons,i3]⟩
  ·have hn : nmP (b :: r)=0:=by rw [nmP,if_neg h]
   rw [hn]
   refine ⟨?_,by simp,by simp⟩
   by_cases hq : b.toNat=35∧(r.getD 0 0).toNat=35
   ·rw [uF7 hq.1 hq.2]; rfl
   ·have hp : ¬uB3 (b.toNat : Int)=true:=fun q=>h ⟨q,hq⟩
    by_cases h34 : b.toNat=34
    ·rw [uDl h34,wdN,if_neg hp]
    ·rw [uCE h34 hq,wdN,if_neg hp]
theorem uJm : ∀ (l : List UInt8) (n : Nat) (v : Int),numA (uBh l) n v=numA l n v∧((numA l n v).1=true → ∃ j,(numA l n v).2.1=n + j∧(uBh l).drop j=uBh (l.drop j))
 | [],n,v=>by rw [uFX]; exact ⟨rfl,fun _=>⟨0,rfl,rfl⟩⟩
 | b :: r,n,v=>by
  by_cases h : uBK (b.toNat : Int)=true
  ·have hd : (48 : Int)≤b.toNat∧(b.toNat : Int)≤57:=by simpa [uBK] using h
   rw [uCE (by omega) (by omega),numA,if_pos h,numA,if_pos h]
   split
   ·exact ⟨rfl,fun q=>by simp at q⟩
   ·obtain ⟨i1,i2⟩:=uJm r (n + 1) (10 * v + ((b.toNat : Int) - 48))
    refine ⟨i1,fun q=>?_⟩
    obtain ⟨j,q1,q2⟩:=i2 q
    exact ⟨j + 1,by omega,by rw [List.drop_succ_cons,List.drop_succ_cons,q2]⟩
  ·have e : numA (b :: r) n v=(true,n,v):=by rw [numA,if_neg h]
   rw [e]
   refine ⟨?_,fun _=>⟨0,rfl,rfl⟩⟩
   by_cases hq : b.toNat=35∧(r.getD 0 0).toNat=35
   ·rw [uF7 hq.1 hq.2]; rfl
   ·by_cases h34 : b.toNat=34
    ·rw [uDl h34,numA,if_neg h]
    ·rw [uCE h34 hq,numA,if_neg h]
theorem uEA {c : UInt8} (h : hexB c=true) : c.toNat≠34∧c.toNat≠92:=by
 simp [hexB] at h
 omega
theorem take_getD' {α : Type} {l : List α} {d : α} {k j : Nat} (h : j < (l.take k).length) : (l.take k).getD j d=l.getD j d∧j < l.length:=by
 rw [List.length_take] at h
 refine ⟨?_,by omega⟩
 simp only [List.getD_eq_getElem?_getD]; rw [List.getElem?_take,if_pos (by omega)]
theorem uNB (d : UInt8) (r : List UInt8) : escE (d :: uBU r)=escE (d :: r)∧((escE (d :: r)).2≠0→(d :: uBU r).drop (escE (d :: r)).2=uBU ((d :: r).drop (escE (d :: r)).2)):=by
 have hx : (2≤(uBU r).length∧hexB ((uBU r).getD 0 0)=true∧hexB ((uBU r).getD 1 0)=true) ↔ (2≤r.length∧hexB (r.getD 0 0)=true∧hexB (r.getD 1 0)=true):=by
  constructor
  ·rintro ⟨q1,q2,q3⟩
   obtain ⟨e1,e2⟩:=take_getD' (l:=r) (d:=0) (k:=uCt true r) (j:=0) (by show 0 < (uBU r).length; omega)
   obtain ⟨e3,e4⟩:=take_getD' (l:=r) (d:=0) (k:=uCt true r) (j:=1) (by show 1 < (uBU r).length; omega)
   exact ⟨by omega,by rw [← e1]; exact q2,by rw [← e3]; exact q3⟩
  ·rintro ⟨q1,q2,q3⟩
   match r,q1 with
   | a :: b :: r,_ =>
    simp only [List.getD_cons_zero,List.getD_cons_succ] at q2 q3
    rw [uDC (uEA q2).1 (uEA q2).2,uDC (uEA q3).1 (uEA q3).2]
    exact ⟨by simp,q2,q3⟩
 by_cases hh : 2≤r.length∧hexB (r.getD 0 0)=true∧hexB (r.getD 1 0)=true
 ·have hb : ∃ a b t,r=a :: b :: t∧uBU r=a :: b :: uBU t:=by
   match r,hh with
   | a :: b :: t,⟨_,q2,q3⟩ =>
    simp only [List.getD_cons_zero,List.getD_cons_succ] at q2 q3
    exact ⟨a,b,t,rfl,by rw [uDC (uEA q2).1 (uEA q2).2,uDC (uEA q3).1 (uEA q3).2]⟩
  obtain ⟨a,b,t,rfl,hb⟩:=hb
  have e : escE (d :: uBU (a :: b :: t))=escE (d :: a :: b :: t):=by
   rw [hb,escE,escE]
   simp
  refine ⟨e,fun _=>?_⟩
  have h3 : (escE (d :: a :: b :: t)).2=1∨(escE (d :: a :: b :: t)).2=3∨(escE (d :: a :: b :: t)).2=0:=by
   rw [escE]
   repeat' split
   all_goals simp
  rcases h3 with h | h | h
  ·rw [h]; rfl
  ·rw [h,hb]; rfl
  ·contradiction
 ·have hh' : ¬(2≤(uBU r).length∧hexB ((uBU r).getD 0 0)=true∧hexB ((uBU r).getD 1 0)=true):=fun q=>hh (hx.1 q)
  have key : ∀ l : List UInt8,¬(2≤l.length∧hexB (l.getD 0 0)=true∧hexB (l.getD 1 0)=true)→escE (d :: l)=if d.toNat=110 then (10,1) else if d.toNat=116 then (9,1) else if d.toNat=34∨d.toNat=92 then (d,1) else (0,0):=by
   intro l hl
   rw [escE]
   repeat' (split <;> try rfl)
   rename_i q
   exact absurd q.2 hl
  rw [key _ hh',key _ hh]
  refine ⟨rfl,fun q=>?_⟩
  have h1 : (if d.toNat=110 then ((10 : UInt8),1) else if d.toNat=116 then (9,1) else if d.toNat=34∨d.toNat=92 then (d,1) else (0,0)).2=1:=by
   revert q
   repeat' split
   all_goals simp
  rw [h1]; rfl
theorem uG3 : ∀ (N : Nat) (r : List UInt8),r.length≤N → ∀ (n m i : Nat) (out : List UInt8),r.length < n→(uBU r).length < m →
  litA m (uBU r) i out=litA n r i out∧((litA n r i out).2≠0 → ∃ j,(litA n r i out).2=i + j∧(uBU r).drop j=uBh (r.drop j))
 | N,[],_,n,m,i,out,hn,hm=>by
  obtain ⟨n,rfl⟩ : ∃ k,n=k + 1:=⟨n - 1,by simp at hn; omega⟩
  obtain ⟨m,rfl⟩ : ∃ k,m=k + 1:=⟨m - 1,by omega⟩
  rw [uMd]
  exact ⟨rfl,fun q=>by simp [litA] at q⟩
 | 0,c :: r,h,_,_,_,_,_,_=>by simp at h
 | N + 1,c :: r,h,n,m,i,out,hn,hm=>by
  obtain ⟨n,rfl⟩ : ∃ k,n=k + 1:=⟨n - 1,by omega⟩
  obtain ⟨m,rfl⟩ : ∃ k,m=k + 1:=⟨m - 1,by omega⟩
  simp only [List.length_cons] at h hn
  by_cases h34 : c.toNat=34
  ·rw [uKA h34,litA,if_pos h34,litA,if_pos h34]
   exact ⟨rfl,fun _=>⟨1,rfl,rfl⟩⟩
  by_cases h92 : c.toNat=92
  ·cases r with
   | nil =>
    rw [uMJ,litA,if_neg h34,if_pos h92,litA,if_neg h34,if_pos h92]
    exact ⟨rfl,fun q=>by simp [escE] at q⟩
   | cons d r =>
    obtain ⟨e1,e2⟩:=uNB d r
    rw [uL1 h92] at hm ⊢
    rw [litA,if_neg h34,if_pos h92,litA,if_neg h34,if_pos h92,e1]
    split
    ·exact ⟨rfl,fun q=>by simp at q⟩
    ·rename_i hz
     rw [e2 hz]
     have hle:=uIT (d :: r)
     have hl2 : (uBU ((d :: r).drop (escE (d :: r)).2)).length < m:=by
      rw [← e2 hz,List.length_drop]
      simp only [List.length_cons] at hm ⊢
      omega
     obtain ⟨i1,i2⟩:=uG3 N ((d :: r).drop (escE (d :: r)).2) (by rw [List.length_drop]; omega) n m (i + 1 + (escE (d :: r)).2) (out++[(escE (d :: r)).1]) (by rw [List.length_drop]; omega) hl2
     refine ⟨i1,fun q=>?_⟩
     obtain ⟨j,q1,q2⟩:=i2 q
     refine ⟨1 + (escE (d :: r)).2 + j,by omega,?_⟩
     rw [show 1 + (escE (d :: r)).2 + j=((escE (d :: r)).2 + j) + 1 by omega,List.drop_succ_cons,List.drop_succ_cons,← List.drop_drop,← List.drop_drop,e2 hz,q2]
  ·rw [uDC h34 h92] at hm ⊢
   rw [litA,if_neg h34,if_neg h92,litA,if_neg h34,if_neg h92]
   split
   ·exact ⟨rfl,fun q=>by simp at q⟩
   ·obtain ⟨i1,i2⟩:=uG3 N r (by omega) n m (i + 1) (out++[c]) (by omega) (by simp only [List.length_cons] at hm; omega)
    refine ⟨i1,fun q=>?_⟩
    obtain ⟨j,q1,q2⟩:=i2 q
    exact ⟨j + 1,by omega,by rw [List.drop_succ_cons,List.drop_succ_cons,q2]⟩
theorem uLY {c : UInt8} {r : List UInt8} (hc : c.toNat=34) : litE (uBh (c :: r))=litE (c :: r)∧((litE (c :: r)).2≠0→(uBh (c :: r)).drop (litE (c :: r)).2=uBh ((c :: r).drop (litE (c :: r)).2)):=by
 rw [uDl hc]
 unfold litE
 simp only [List.drop_succ_cons,List.drop_zero,List.length_cons]
 obtain ⟨i1,i2⟩:=uG3 r.length r (Nat.le_refl _) (r.length + 1 + 1) ((uBU r).length + 1 + 1) 1 [] (by omega) (by omega)
 refine ⟨i1,fun q=>?_⟩
 obtain ⟨j,q1,q2⟩:=i2 q
 rw [q1,Nat.add_comm,List.drop_succ_cons,List.drop_succ_cons,q2]
theorem uMf {c : UInt8} {r : List UInt8} (k : Int) (h : ¬(c.toNat=35∧(r.getD 0 0).toNat=35)) :
  (uBM (uBh (c :: r)) k).2.2=(uBR (c :: r)).2.2∧((uBR (c :: r)).2.2=0→(uBM (uBh (c :: r)) k).1=(uBR (c :: r)).1.onl k∧(uBM (uBh (c :: r)) k).2.1=(uBR (c :: r)).2.1 ∧
   (uBh (c :: r)).drop (uBR (c :: r)).2.1=uBh ((c :: r).drop (uBR (c :: r)).2.1)):=by
 have h0 : (uBh (c :: r)).getD 0 0=c:=by
  by_cases h34 : c.toNat=34
  ·rw [uDl h34]; rfl
  ·rw [uCE h34 h]; rfl
 unfold uBM uBR
 rw [h0,List.getD_cons_zero]
 by_cases hl : uBo (c.toNat : Int)=true
 ·have hnl : nlE (c :: r)=nmP (c :: r):=by
   rw [nlE,nmP,if_pos ⟨by simp [uB3,hl],h⟩]; simp; omega
  obtain ⟨i1,i2,i3⟩:=uH0 (c :: r)
  rw [if_pos hl,if_pos hl,i1,hnl]
  split
  ·exact ⟨rfl,fun q=>by simp at q⟩
  ·rw [i2]
   exact ⟨rfl,fun _=>⟨rfl,rfl,i3⟩⟩
 rw [if_neg hl,if_neg hl]
 by_cases hd : uBK (c.toNat : Int)=true
 ·obtain ⟨i1,i2⟩:=uJm (c :: r) 0 0
  rw [if_pos hd,if_pos hd,i1]
  split
  ·rename_i hq
   obtain ⟨j,q1,q2⟩:=i2 hq
   refine ⟨rfl,fun _=>⟨rfl,rfl,?_⟩⟩
   dsimp only
   rw [q1,Nat.zero_add,q2]
  ·exact ⟨rfl,fun q=>by simp at q⟩
 rw [if_neg hd,if_neg hd]
 by_cases h34 : c.toNat=34
 ·obtain ⟨i1,i2⟩:=uLY (r:=r) h34
  rw [if_pos h34,if_pos h34,i1]
  split
  ·exact ⟨rfl,fun q=>by simp at q⟩
  ·rename_i hq
   exact ⟨rfl,fun _=>⟨rfl,rfl,i2 hq⟩⟩
 rw [if_neg h34,if_neg h34]
 split
 ·rw [uCE h34 h]
  exact ⟨rfl,fun _=>⟨rfl,rfl,rfl⟩⟩
 ·exact ⟨rfl,fun q=>by simp at q⟩
theorem uDA : ∀ (N : Nat) (l : List UInt8),l.length≤N→(∀ b ∈ l,b.toNat≠10) → ∀ (n m : Nat) (k : Int) (out : List Tk),l.length < n→(uBh l).length < m→uC0 m (uBh l) k out=uBv n l k out
 | N,[],_,_,n,m,k,out,hn,hm=>by
  obtain ⟨n,rfl⟩ : ∃ k,n=k + 1:=⟨n - 1,by simp at hn; omega⟩
  obtain ⟨m,rfl⟩ : ∃ k,m=k + 1:=⟨m - 1,by omega⟩
  rw [uFX,uC0,uBv,if_pos (.inl rfl)]
 | 0,c :: r,h,_,_,_,_,_,_,_=>by simp at h
 | N + 1,c :: r,h,hno,n,m,k,out,hn,hm=>by
  obtain ⟨n,rfl⟩ : ∃ k,n=k + 1:=⟨n - 1,by omega⟩
  obtain ⟨m,rfl⟩ : ∃ k,m=k + 1:=⟨m - 1,by omega⟩
  simp only [List.length_cons] at h hn
  have hc10:=hno c (by simp)
  by_cases hw : uCB c=true
  ·have hw2 : c.toNat=32∨c.toNat=9∨c.toNat=13:=by simp [uCB] at hw; omega
   have hin : wsp.contains c=true:=by
    rcases hw2 with q | q | q
    ·rw [show c=32 from UInt8.toNat_inj.1 q]; rfl
    ·rw [show c=9 from UInt8.toNat_inj.1 q]; rfl
    ·rw [show c=13 from UInt8.toNat_inj.1 q]; rfl
   have ht : uBC (c :: r)=uBC r:=by
    unfold uBC
    rw [List.dropWhile_cons,if_pos hin]
   have e1 : uBv (n + 1) (c :: r) k out=uBv (n + 1) r k out:=by rw [uBv,uBv,ht]
   have hb : uBh (c :: r)=c :: uBh r:=uCE (by omega) (by omega)
   rw [hb] at hm ⊢
   rw [uC0,if_pos hw,e1]
   exact uDA N r (by omega) (fun b hb=>hno b (by simp [hb])) (n + 1) m k out (by omega) (by simp only [List.length_cons] at hm; omega)
  ·have hin : ¬wsp.contains c=true:=by
    intro q
    apply hw
    have : c=32∨c=9∨c=13:=by simpa [wsp] using q
    rcases this with rfl | rfl | rfl <;> rfl
   have ht : uBC (c :: r)=c :: r:=by
    unfold uBC
    rw [List.dropWhile_cons,if_neg hin]
   by_cases h35 : c.toNat=35∧(r.getD 0 0).toNat=35
   ·rw [uF7 h35.1 h35.2,uC0,uBv,ht,if_pos (.inr (by rw [uLv]; simp only [h35.1,h35.2,decide_true,Bool.and_self]))]
   ·obtain ⟨e1,e2⟩:=uMf (c:=c) (r:=r) k h35
    have hne : 0 < (c :: r).length:=by simp
    have hnx:=uFH hne
    have hb : ∃ t,uBh (c :: r)=c :: t:=by
     by_cases h34 : c.toNat=34
     ·exact ⟨_,uDl h34⟩
     ·exact ⟨_,uCE h34 h35⟩
    obtain ⟨t,hb⟩:=hb
    have hb1 : 1≤(uBh (c :: r)).length:=by rw [hb]; simp
    rw [uBv,ht,if_neg (by
     rintro (q | q)
     ·cases q
     ·rw [uLv] at q; simp at q; exact h35 q)]
    have e3 : uC0 (m + 1) (uBh (c :: r)) k out=if (uBM (uBh (c :: r)) k).2.2≠0 then ([],(uBM (uBh (c :: r)) k).2.2) else uC0 m ((uBh (c :: r)).drop (uBM (uBh (c :: r)) k).2.1) k (out++[(uBM (uBh (c :: r)) k).1]):=by
     rw [hb,uC0,if_neg hw]
    rw [e3,e1]
    split
    ·rfl
    ·rename_i hz
     have hz:=Decidable.not_not.1 hz
     obtain ⟨q1,q2,q3⟩:=e2 hz
     have hge:=hnx.2 hz
     rw [q1,q2,q3]
     refine uDA N _ (by rw [List.length_drop]; simp only [List.length_cons]; omega) (fun b hb=>hno b (List.mem_of_mem_drop hb)) n m k _ (by rw [List.length_drop]; simp only [List.length_cons]; omega) ?_
     rw [← q3,List.length_drop]
     omega
def fin : List (List UInt8)→List (List UInt8)
 | []=>[]
 | [x]=>if x=[] then [] else [x]
 | x :: y :: r=>x :: fin (y :: r)
theorem uHA : ∀ (s line : List UInt8) (out : List (List UInt8)),∀ x r,spl s=x :: r→lnsA s line out=out++fin ((line++x) :: r)
 | [],line,out,x,r,h=>by
  simp only [spl,List.cons.injEq] at h
  obtain ⟨rfl,rfl⟩:=h
  rw [lnsA,fin,List.append_nil]
  split <;> simp
 | b :: l,line,out,x,r,h=>by
  rw [lnsA]
  rw [spl] at h
  split at h
  ·rename_i hb
   rw [if_pos hb]
   simp only [List.cons.injEq] at h
   obtain ⟨rfl,rfl⟩:=h
   cases hs : spl l with
   | nil=>exact absurd hs (uHb l)
   | cons y r =>
    rw [uHA l [] (out++[line]) y r hs,fin]
    simp
  ·rename_i hb
   rw [if_neg hb]
   split at h
   ·rename_i hs; exact absurd hs (uHb l)
   ·rename_i y t hs
    simp only [List.cons.injEq] at h
    obtain ⟨rfl,rfl⟩:=h
    rw [uHA l (line++[b]) out y t hs]
    simp
theorem uNo (s : List UInt8) : lnsR s=fin (spl s):=by
 cases hs : spl s with
 | nil=>exact absurd hs (uHb s)
 | cons x r =>
  unfold lnsR
  rw [uHA s [] [] x r hs]
  simp
theorem uFO : ∀ (s : List UInt8),∀ x ∈ spl s,∀ b ∈ x,b.toNat≠10
 | [],x,hx,b,hb=>by simp [spl] at hx; subst hx; simp at hb
 | c :: l,x,hx,b,hb=>by
  have ih:=uFO l
  rw [spl] at hx
  split at hx
  ·rcases List.mem_cons.1 hx with q | q
   ·subst q; simp at hb
   ·exact ih x q b hb
  ·rename_i hc
   split at hx
   ·simp at hx; subst hx; simp at hb; subst hb; exact hc
   ·rename_i y t hs
    rw [hs] at ih
    rcases List.mem_cons.1 hx with q | q
    ·subst q
     rcases List.mem_cons.1 hb with z | z
     ·subst z; exact hc
     ·exact ih y (by simp) b z
    ·exact ih x (by simp [q]) b hb
theorem uJx : ∀ (L : List (List UInt8)),(∀ x ∈ L,∀ b ∈ x,b.toNat≠10) → ∀ (k : Nat) (out : List Tk),uFP (fin L) k out=uCY L k out
 | [],_,k,out=>rfl
 | [x],h,k,out=>by
  have hl:=uDA x.length x (Nat.le_refl _) (h x (by simp)) (x.length + 1) ((uBh x).length + 1) (k : Int) out (by omega) (by omega)
  rw [fin]
  split
  ·rename_i hx
   subst hx
   rw [uCY,show (uBv (([] : List UInt8).length + 1) [] (k : Int) out)=(out,0) by rw [uBv,if_pos (.inl rfl)]]
   rfl
  ·rw [uCY,uFP,hl]
   rfl
 | x :: y :: r,h,k,out=>by
  have hl:=uDA x.length x (Nat.le_refl _) (h x (by simp)) (x.length + 1) ((uBh x).length + 1) (k : Int) out (by omega) (by omega)
  rw [fin,uCY,uFP,hl]
  split
  ·rfl
  ·exact uJx (y :: r) (fun z hz=>h z (List.mem_cons_of_mem _ hz)) (k + 1) _
theorem uM5 (s : List UInt8) : tokR s=tokP s:=by
 unfold tokR tokP
 rw [uNo,uJx _ (uFO s)]
end Go.Proofs.YtnjjdbapadkomaaGreatDoor
namespace Go.Proofs.YtnjjdbapadkomaaGreatDoor
open Go Go.Abs
theorem uIH : ∀ (l : List UInt8),nmP l=l.length→l.all (fun b=>uB3 (b.toNat : Int))=true
 | [],_=>rfl
 | b :: l,h=>by
  rw [nmP] at h
  split at h
  ·rename_i hq
   rw [List.all_cons,hq.1,uIH l (by simpa using h)]; rfl
  ·simp at h
theorem uGb {b : UInt8} (h : uB3 (b.toNat : Int)=true) : b.toNat≠10:=by
 intro q
 rw [q] at h
 revert h; decide
theorem uLF : ∀ (s : List UInt8),(∀ b ∈ s,b.toNat≠10)→spl s=[s]
 | [],_=>rfl
 | c :: l,h=>by
  rw [spl,if_neg (h c (by simp)),uLF l fun b hb=>h b (by simp [hb])]
theorem uI1 {c : UInt8} (h : uBo (c.toNat : Int)=true) : wsp.contains c=false:=by
 rw [Bool.eq_false_iff]
 intro q
 have : c=32∨c=9∨c=13:=by simpa [wsp] using q
 rcases this with rfl | rfl | rfl <;> revert h <;> decide
theorem uIt (n : Nat) (k : Int) (out : List Tk) : uBv n [] k out=(out,0):=by
 cases n with
 | zero=>rfl
 | succ n=>rw [uBv,if_pos (.inl rfl)]
theorem uIf : ∀ (n : Nat) (l : List UInt8) (k : Int) (out : List Tk),(uBv n l k out).2=0 → ∃ e,(uBv n l k out).1=out++e
 | 0,l,k,out,_=>⟨[],by simp [uBv]⟩
 | n + 1,l,k,out,h=>by
  rw [uBv] at h ⊢
  split
  ·exact ⟨[],by simp⟩
  ·rename_i h1
   rw [if_neg h1] at h
   split at h
   ·rename_i h2; exact absurd h h2
   ·rename_i h2
    rw [if_neg h2]
    obtain ⟨e,he⟩:=uIf n _ k _ h
    exact ⟨[(uBR (uBC l)).1.onl k]++e,by rw [he,List.append_assoc]⟩
def uAM (s : List UInt8) : Bool:=(((decide (s≠[])) && uBo ((s.getD 0 0).toNat : Int)) && decide (nlE s=s.length)) && decide (s.length≤24)
def rnmE (s : List UInt8) : Bool:=(((decide ((tokR s).2.2=0) && decide ((tokR s).1.length=1)) && decide (((tokR s).1.getD 0 tk0).kind=1)) && decide (((tokR s).1.getD 0 tk0).text=s)) && uCZ s
theorem uH7 {s : List UInt8} (hl : uBo ((s.getD 0 0).toNat : Int)=true) (hne : s≠[]) (hno : ∀ b ∈ s,b.toNat≠10) (h24 : nlE s≤24) (hs : s.length≤65536) :
  ∃ n,tokP s=if (uBv n (s.drop (nlE s)) 1 [⟨1,s.take (nlE s),0,[],1⟩]).2≠0 then ([],1,(uBv n (s.drop (nlE s)) 1 [⟨1,s.take (nlE s),0,[],1⟩]).2) else ((uBv n (s.drop (nlE s)) 1 [⟨1,s.take (nlE s),0,[],1⟩]).1,0,0):=by
 obtain ⟨c,r,rfl⟩ : ∃ c r,s=c :: r:=by
  cases s with
  | nil=>exact absurd rfl hne
  | cons c r=>exact ⟨c,r,rfl⟩
 rw [List.getD_cons_zero] at hl
 have ht : uBC (c :: r)=c :: r:=by
  unfold uBC
  rw [List.dropWhile_cons,uI1 hl]; rfl
 have hnx : uBR (c :: r)=(⟨1,(c :: r).take (nlE (c :: r)),0,[],0⟩,nlE (c :: r),0):=by
  rw [uBR,List.getD_cons_zero,if_pos hl,if_neg (by omega)]
 have h35 : c.toNat≠35:=by
  intro q
  rw [q] at hl
  revert hl; decide
 have hq1 : ¬(c :: r=[]∨[35,35].isPrefixOf (c :: r)=true):=by
  rintro (q | q)
  ·cases q
  ·rw [uLv] at q
   simp only [Bool.and_eq_true,decide_eq_true_eq] at q
   exact h35 q.1
 have hL : uBv ((c :: r).length + 1) (c :: r) ((1 : Nat) : Int) []=uBv (c :: r).length ((c :: r).drop (nlE (c :: r))) 1 [⟨1,(c :: r).take (nlE (c :: r)),0,[],1⟩]:=by
  rw [uBv,ht,if_neg hq1,hnx,if_neg (by simp)]; rfl
 refine ⟨(c :: r).length,?_⟩
 unfold tokP
 rw [if_neg (by omega),uLF _ hno,uCY,hL]; rfl
theorem uNv (s : List UInt8) (hs : s.length≤65536) : uAM s=rnmE s:=by
 unfold rnmE
 rw [uM5,Bool.eq_iff_iff]
 constructor
 ·intro h
  simp only [uAM,Bool.and_eq_true,decide_eq_true_eq] at h
  obtain ⟨⟨⟨h1,h2⟩,h3⟩,h4⟩:=h
  have hp:=List.length_pos_iff.2 h1
  have hall : s.all (fun b=>uB3 (b.toNat : Int))=true:=by
   obtain ⟨c,r,rfl⟩ : ∃ c r,s=c :: r:=by
    cases s with
    | nil=>exact absurd rfl h1
    | cons c r=>exact ⟨c,r,rfl⟩
   rw [List.getD_cons_zero] at h2
   have := uIH r (by unfold nlE at h3; simp at h3; omega)
   rw [List.all_cons,this,Bool.and_true]
   simp [uB3,h2]
  have hno : ∀ b ∈ s,b.toNat≠10 := fun b hb=>uGb (by have := List.all_eq_true.1 hall b hb; exact this)
  obtain ⟨n,hn⟩:=uH7 h2 h1 hno (by omega) hs
  rw [h3,List.drop_length,List.take_length,uIt] at hn
  rw [if_neg (by simp)] at hn
  rw [hn]
  simp [uCZ,hall,h4,h2]
  exact ⟨by omega,by simpa using h2⟩
 ·intro h
  simp only [Bool.and_eq_true,decide_eq_true_eq] at h
  obtain ⟨⟨⟨⟨h1,h2⟩,h3⟩,h4⟩,h5⟩:=h
  simp only [uCZ,Bool.and_eq_true,decide_eq_true_eq] at h5
  obtain ⟨⟨⟨g1,g2⟩,g3⟩,g4⟩:=h5
  have hne : s≠[]:=fun q=>by subst q; simp at g1
  have hno : ∀ b ∈ s,b.toNat≠10 := fun b hb=>uGb (by have := List.all_eq_true.1 g4 b hb; exact this)
  have hle:=uKT (s:=s) (by omega)
  obtain ⟨n,hn⟩:=uH7 g3 hne hno (by omega) hs
  have hfull : nlE s=s.length:=by
   by_cases hz : (uBv n (s.drop (nlE s)) 1 [⟨1,s.take (nlE s),0,[],1⟩]).2=0
   ·obtain ⟨e,he⟩:=uIf n _ 1 _ hz
    rw [if_neg (by rw [hz]; simp)] at hn
    rw [hn,he] at h4
    have h4 : s.take (nlE s)=s:=h4
    have := congrArg List.length h4
    rw [List.length_take] at this
    omega
   ·rw [if_pos hz] at hn
    rw [hn] at h1
    exact absurd h1 hz
  simp only [uAM,Bool.and_eq_true,decide_eq_true_eq]
  exact ⟨⟨⟨hne,g3⟩,hfull⟩,g2⟩
end Go.Proofs.YtnjjdbapadkomaaGreatDoor
namespace Go.Proofs.YtnjjdbapadkomaaGreatDoor
open Go Go.Abs
def errs {α : Type} (f : α→Int) : List α→Int
 | []=>0
 | x :: r=>if f x≠0 then f x else errs f r
theorem errs_zero {α : Type} {f : α→Int} : ∀ {l : List α},errs f l=0 ↔ ∀ x ∈ l,f x=0
 | []=>by simp [errs]
 | x :: r=>by
  rw [errs]
  split
  ·rename_i h; simp [h]
  ·rename_i h; rw [errs_zero (l:=r)]; simp at h ⊢; exact fun _=>h
abbrev NmB:=List UInt8→Bool
mutual
def rawE (nm : NmB) : T→Int
 | .mk k n s ks=>if k=1∨s≠0 then 10 else if nm n=false then 2 else uGm nm ks
def uGm (nm : NmB) : List T→Int
 | []=>0
 | t :: ts=>if rawE nm t≠0 then rawE nm t else uGm nm ts
end
theorem uLI (nm : NmB) (t : T) : rawE nm t=if t.kind=1∨t.sort≠0 then 10 else if nm t.name=false then 2 else uGm nm t.kids:=by cases t; rw [rawE]; rfl
theorem uFb (nm : NmB) : ∀ ts : List T,uGm nm ts=errs (rawE nm) ts
 | []=>by rw [uGm]; rfl
 | t :: ts=>by rw [uGm,uFb nm ts]; rfl
def uDG (nm : NmB) (t : T) : Int:=if uDJ t≠0 then uDJ t else rawE nm t
def msgE (nm : NmB) (t : T) : Int:=if uDG nm t≠0 then uDG nm t else if 40 < t.size then 3 else 0
def uCr (nm : NmB) (g : Gl) : Int:=if g.kind < 1∨5 < g.kind then 10 else if nm g.role=false∨(uBE g.kind=true∧nm g.wth=false) then 2 else if uBE g.kind=false∧g.wth≠[] then 1
 else if (uBE g.kind=true∧(g.data.length < 1∨4 < g.data.length))∨(uBE g.kind=false∧g.data.length≠1) then 6 else errs (msgE nm) g.data
def frE (nm : NmB) (f : Fs) : Int:=if nm f.role=false∨nm f.name=false then 2 else if f.sort < 2∨4 < f.sort then 10 else 0
def cntE (n : Nar) : Int:=if n.roles.length < 2 then 8 else if 4 < n.roles.length∨12 < n.fresh.length∨8 < n.tags.length then 3 else if n.steps.length=0 then 8 else if 8 < n.steps.length∨8 < n.goals.length then 3 else 0
def uDY (nm : NmB) (n : Nar) : Int:=if nm n.name=false then 2 else if cntE n≠0 then cntE n else if n.roles.all nm=false then 2 else if errs (frE nm) n.fresh≠0 then errs (frE nm) n.fresh else if n.tags.all nm=false then 2 else 0
def spE (nm : NmB) (s : Sp) : Int:=if nm s.frm=false∨nm s.dst=false then 2 else msgE nm s.msg
def narE (nm : NmB) (n : Nar) : Int:=if uDY nm n≠0 then uDY nm n else if errs (spE nm) n.steps≠0 then errs (spE nm) n.steps else errs (uCr nm) n.goals
def uDp (t : T) : Bool:=decide (t.kind=3) && decide (t.name=wPair) && decide (t.kids.length=2)
def untA : Nat→T→List T
 | 0,t=>[t]
 | n + 1,t=>if uDp t=true then t.kids.getD 0 default :: untA n (t.kids.getD 1 default) else [t]
def untE (t : T) : List T:=untA t.size t
def uDR : Nat→T→List UInt8
 | 0,_=>[]
 | n + 1,t=>if t.kind=2 then t.name else if uDp t=true then [60]++Lib.join ((untE t).map (uDR n)) [44,32]++[62] else t.name++[40]++Lib.join (t.kids.map (uDR n)) [44,32]++[41]
def uCz (t : T) : List UInt8:=uDR t.size t
def uCS (l : List T) : List UInt8:=Lib.join (l.map uCz) [44,32]
theorem uOy {t : T} (h : uDp t=true) : ∃ a b,t.kids=[a,b]:=by
 simp only [uDp,Bool.and_eq_true,decide_eq_true_eq] at h
 obtain ⟨_,h⟩:=h
 match hk : t.kids,h with
 | [a,b],_=>exact ⟨a,b,rfl⟩
theorem uCX {t : T} (h : uDp t=true) : t.size=1 + (t.kids.getD 0 default).size + (t.kids.getD 1 default).size:=by
 obtain ⟨a,b,hk⟩:=uOy h
 rw [T.size_eq,hk]
 simp [T.sizes]; omega
theorem uLL : ∀ (n : Nat) (t x : T),x ∈ untA n t→x.size≤t.size
 | 0,t,x,h=>by simp [untA] at h; subst h; omega
 | n + 1,t,x,h=>by
  rw [untA] at h
  split at h
  ·rename_i hp
   have hs:=uCX hp
   rcases List.mem_cons.1 h with q | q
   ·subst q; omega
   ·have := uLL n _ x q; omega
  ·simp at h; subst h; omega
theorem uID : ∀ (n : Nat) (t : T),T.sizes (untA n t)≤t.size
 | 0,t=>by simp [untA,T.sizes]
 | n + 1,t=>by
  rw [untA]
  split
  ·rename_i hp
   have hs:=uCX hp
   have := uID n (t.kids.getD 1 default)
   rw [T.sizes]; omega
  ·simp [T.sizes]
theorem uLE : ∀ (n : Nat) (t : T),1≤(untA n t).length∧(untA n t).length≤t.size
 | 0,t=>by have := t.size_pos; simp [untA]; omega
 | n + 1,t=>by
  rw [untA]
  split
  ·rename_i hp
   have hs:=uCX hp
   have := uLE n (t.kids.getD 1 default)
   have := (t.kids.getD 0 default).size_pos
   rw [List.length_cons]; omega
  ·have := t.size_pos; simp; omega
theorem uJQ : ∀ (n m : Nat) (t : T),t.size≤n→t.size≤m→untA n t=untA m t
 | 0,_,t,h,_=>by have := t.size_pos; omega
 | _,0,t,_,h=>by have := t.size_pos; omega
 | n + 1,m + 1,t,hn,hm=>by
  rw [untA,untA]
  split
  ·rename_i hp
   have hs:=uCX hp
   have := (t.kids.getD 0 default).size_pos
   rw [uJQ n m _ (by omega) (by omega)]
  ·rfl
theorem uIK (t : T) : untE t=if uDp t=true then t.kids.getD 0 default :: untE (t.kids.getD 1 default) else [t]:=by
 obtain ⟨m,hm⟩ : ∃ m,t.size=m + 1 := ⟨t.size - 1,by have := t.size_pos; omega⟩
 unfold untE
 rw [hm,untA]
 split
 ·rename_i hp
  have hs:=uCX hp
  rw [uJQ m _ _ (by omega) (Nat.le_refl _)]
 ·rfl
theorem uIN {t x : T} (hp : uDp t=true) (hx : x ∈ untE t) : x.size < t.size:=by
 have hs:=uCX hp
 have h0:=(t.kids.getD 0 default).size_pos
 rw [uIK,if_pos hp] at hx
 rcases List.mem_cons.1 hx with q | q
 ·subst q; have := (t.kids.getD 1 default).size_pos; omega
 ·have := uLL _ _ _ q; omega
theorem uFz {t : T} (hp : uDp t=true) : T.sizes (untE t) < t.size:=by
 have hs:=uCX hp
 rw [uIK,if_pos hp,T.sizes]
 have := uID (t.kids.getD 1 default).size (t.kids.getD 1 default)
 unfold untE; omega
theorem uG2 {x : T} : ∀ {l : List T},x ∈ l→x.size≤T.sizes l
 | [],h=>by simp at h
 | y :: l,h=>by
  rw [T.sizes]
  rcases List.mem_cons.1 h with q | q
  ·subst q; omega
  ·have := uG2 q; omega
theorem uFM {t x : T} (h : x ∈ t.kids) : x.size < t.size:=by
 have := uG2 h; have := t.size_eq; omega
theorem uEa : ∀ (n m : Nat) (t : T),t.size≤n→t.size≤m→uDR n t=uDR m t
 | 0,_,t,h,_=>by have := t.size_pos; omega
 | _,0,t,_,h=>by have := t.size_pos; omega
 | n + 1,m + 1,t,hn,hm=>by
  rw [uDR,uDR]
  split
  ·rfl
  split
  ·rename_i hp
   have e : (untE t).map (uDR n)=(untE t).map (uDR m):=List.map_congr_left fun x hx=>by
    have := uIN hp hx
    exact uEa n m x (by omega) (by omega)
   rw [e]
  ·have e : t.kids.map (uDR n)=t.kids.map (uDR m):=List.map_congr_left fun x hx=>by
    have := uFM hx
    exact uEa n m x (by omega) (by omega)
   rw [e]
theorem uKk (t : T) : uCz t=if t.kind=2 then t.name else if uDp t=true then [60]++uCS (untE t)++[62] else t.name++[40]++uCS t.kids++[41]:=by
 obtain ⟨m,hm⟩ : ∃ m,t.size=m + 1 := ⟨t.size - 1,by have := t.size_pos; omega⟩
 unfold uCS
 conv=>lhs; unfold uCz
 rw [hm,uDR]
 split
 ·rfl
 split
 ·rename_i hp
  have e : (untE t).map (uDR m)=(untE t).map uCz:=List.map_congr_left fun x hx=>by
   have := uIN hp hx
   exact uEa m x.size x (by omega) (by omega)
  rw [e]
 ·have e : t.kids.map (uDR m)=t.kids.map uCz:=List.map_congr_left fun x hx=>by
   have := uFM hx
   exact uEa m x.size x (by omega) (by omega)
  rw [e]
mutual
def okB : T→Bool
 | .mk k n _ ks=>(decide (k=2) || decide (k=3)) && decide (n.length≤24) && okBs ks
def okBs : List T→Bool
 | []=>true
 | t :: ts=>okB t && okBs ts
end
theorem uM8 (t : T) : okB t=((decide (t.kind=2) || decide (t.kind=3)) && decide (t.name.length≤24) && okBs t.kids):=by cases t; rw [okB]; rfl
theorem uJs : ∀ {l : List T},okBs l=true → ∀ x ∈ l,okB x=true
 | [],_,x,h=>by simp at h
 | y :: l,h,x,hx=>by
  rw [okBs,Bool.and_eq_true] at h
  rcases List.mem_cons.1 hx with q | q
  ·subst q; exact h.1
  ·exact uJs h.2 x q
theorem uJd {t : T} (h : okB t=true) : ∀ x ∈ t.kids,okB x=true:=by
 rw [uM8,Bool.and_eq_true] at h
 exact uJs h.2
theorem uG5 {t : T} (h : okB t=true) : (t.kind=2∨t.kind=3)∧t.name.length≤24:=by
 rw [uM8] at h
 simp only [Bool.and_eq_true,Bool.or_eq_true,decide_eq_true_eq] at h
 exact h.1
theorem uJb : ∀ (n : Nat) {t : T},okB t=true → ∀ x ∈ untA n t,okB x=true
 | 0,t,h,x,hx=>by simp [untA] at hx; subst hx; exact h
 | n + 1,t,h,x,hx=>by
  rw [untA] at hx
  split at hx
  ·rename_i hp
   obtain ⟨a,b,hk⟩:=uOy hp
   have hkk:=uJd h
   rw [hk] at hx hkk
   rcases List.mem_cons.1 hx with q | q
   ·subst q; exact hkk _ (by simp)
   ·exact uJb n (hkk b (by simp)) x q
  ·simp at hx; subst hx; exact h
theorem uOh {t : T} (h : uCf t=0) : (t.kind=1∨t.kind=2∨t.kind=3)∧t.name.length≤24:=by
 unfold uCf at h
 split at h
 ·split at h
  ·rename_i hq hn
   simp only [uCZ,Bool.and_eq_true,decide_eq_true_eq] at hn
   exact ⟨by omega,hn.1.1.2⟩
  ·simp at h
 ·simp at h
mutual
theorem uOA (nm : NmB) : ∀ (t : T),t.nodesE=0→rawE nm t=0→okB t=true
 | .mk k n s ks,h1,h2=>by
  rw [T.nodesE] at h1
  rw [rawE] at h2
  rw [okB]
  split at h1
  ·rename_i hz; exact absurd h1 hz
  ·rename_i hz
   have hz:=Decidable.not_not.1 hz
   split at h2
   ·simp at h2
   ·rename_i hk
    split at h2
    ·simp at h2
    ·rw [uNL nm ks h1 h2]
     have hq:=uOh hz
     have q1 : k=1∨k=2∨k=3:=hq.1
     have q2 : n.length≤24:=hq.2
     simp only [Bool.and_true,Bool.and_eq_true,Bool.or_eq_true,decide_eq_true_eq]
     exact ⟨by omega,q2⟩
theorem uNL (nm : NmB) : ∀ (ts : List T),T.nodesEs ts=0→uGm nm ts=0→okBs ts=true
 | [],_,_=>rfl
 | t :: ts,h1,h2=>by
  rw [T.nodesEs] at h1
  rw [uGm] at h2
  rw [okBs]
  split at h1
  ·rename_i hz; exact absurd h1 hz
  ·rename_i hz
   split at h2
   ·rename_i hy; exact absurd h2 hy
   ·rename_i hy
    rw [uOA nm t (Decidable.not_not.1 hz) (Decidable.not_not.1 hy),uNL nm ts h1 h2]; rfl
end
theorem uNP {nm : NmB} {t : T} (h : uDG nm t=0) : okB t=true∧t.size≤400:=by
 unfold uDG at h
 split at h
 ·rename_i hz; exact absurd h hz
 ·rename_i hz
  have hz:=Decidable.not_not.1 hz
  unfold uDJ at hz
  split at hz
  ·rename_i hy; exact absurd hz hy
  ·rename_i hy
   split at hz
   ·simp at hz
   ·exact ⟨uOA nm t (Decidable.not_not.1 hy) h,by omega⟩
def uEz (L : List (List UInt8)) : Nat:=(L.map fun x=>x.length + 2).sum
theorem uIp : ∀ (L : List (List UInt8)),(Lib.joinTail [44,32] L).length=uEz L
 | []=>rfl
 | x :: L=>by
  have e : Lib.joinTail [44,32] (x :: L)=[44,32]++(x++Lib.joinTail [44,32] L):=by simp [Lib.joinTail]
  rw [e]
  have := uIp L
  simp only [List.length_append,List.length_cons,List.length_nil,uEz,List.map_cons,List.sum_cons] at this ⊢
  omega
theorem uEX : ∀ (L : List (List UInt8)),(Lib.join L [44,32]).length≤uEz L∧(L≠[]→(Lib.join L [44,32]).length + 2=uEz L)
 | []=>by simp [Lib.join_nil]
 | x :: L=>by
  have := uIp L
  rw [Lib.join_cons,List.length_append]
  simp only [uEz,List.map_cons,List.sum_cons] at this ⊢
  exact ⟨by omega,fun _=>by omega⟩
theorem uDP : ∀ (l : List T),(∀ x ∈ l,(uCz x).length + 2≤28 * x.size)→uEz (l.map uCz)≤28 * T.sizes l
 | [],_=>by simp [uEz,T.sizes]
 | x :: l,h=>by
  have h1:=h x (by simp)
  have h2:=uDP l fun y hy=>h y (by simp [hy])
  simp only [uEz,List.map_cons,List.sum_cons,T.sizes] at h2 ⊢
  omega
theorem text_len : ∀ (n : Nat) (t : T),t.size≤n→okB t=true→(uCz t).length + 2≤28 * t.size
 | 0,t,h,_=>by have := t.size_pos; omega
 | n + 1,t,h,ho=>by
  have hp:=t.size_pos
  have hn:=(uG5 ho).2
  rw [uKk]
  split
  ·omega
  split
  ·rename_i hq
   have h1 := uDP (untE t) fun x hx=>text_len n x (by have := uIN hq hx; omega) (uJb _ ho x hx)
   have h2:=uFz hq
   have h3 := (uEX ((untE t).map uCz)).2 (by have := (uLE t.size t).1; intro q; rw [← List.length_map (f := uCz)] at this; show False; unfold untE at q; rw [q] at this; simp at this)
   unfold uCS
   simp only [List.length_append,List.length_cons,List.length_nil]
   omega
  ·have h1 := uDP t.kids fun x hx=>text_len n x (by have := uFM hx; omega) (uJd ho x hx)
   have h2:=t.size_eq
   have h3:=uEX (t.kids.map uCz)
   unfold uCS
   simp only [List.length_append,List.length_cons,List.length_nil]
   by_cases hk : t.kids.map uCz=[]
   ·rw [hk,Lib.join_nil]; simp; omega
   ·have := h3.2 hk; omega
theorem uI4 {t : T} (h : okB t=true) : (uCz t).length + 2≤28 * t.size:=text_len t.size t (Nat.le_refl _) h
theorem uKb {l : List T} (h : ∀ x ∈ l,okB x=true) : (uCS l).length≤28 * T.sizes l:=by
 have h1:=uDP l fun x hx=>uI4 (h x hx)
 have h2:=(uEX (l.map uCz)).1
 unfold uCS; omega
def uHG (g : Gl) : List UInt8:=kindW.getD (g.kind - 1).toNat []++[32]++g.role++(if uBE g.kind=true then [32]++g.wth else [])++[58,32]++uCS g.data
def hFresh : List UInt8:=[32,32,102,114,101,115,104,32]
def hProt : List UInt8:=[112,114,111,116,111,99,111,108,32]
def hRole : List UInt8:=[32,32,114,111,108,101,32]
def hTag : List UInt8:=[32,32,116,97,103,32]
def hMsg : List UInt8:=[32,32,109,101,115,115,97,103,101,32]
def hGoal : List UInt8:=[32,32,103,111,97,108,32]
def arrow : List UInt8:=[32,45,62,32]
end Go.Proofs.YtnjjdbapadkomaaGreatDoor
namespace Go.Proofs.YtnjjdbapadkomaaGreatDoor
open Go Go.Proofs Go.Shelf
def uLi : Go.Shelf.Ren:=⟨fun | 99=>25 | 206=>77 | n=>n,fun | 9=>9 | 4=>4 | 3=>3 | n=>n,fun | n=>n⟩
theorem uOH : Go.Proofs.Lays.n99 Tryz.prog uLi:={
 mixed:=by kernel_rfl
 f99:=Tryz.func25.trans (congrArg some (by kernel_rfl))
 f206:=Tryz.func77.trans (congrArg some (by kernel_rfl))
 t3:=Tryz.underlying3
 a3:=Tryz.isAgg3
 z3:=Tryz.sizeOf3
 v3:=Tryz.zeroValue3
 t4:=Tryz.underlying4
 a4:=Tryz.isAgg4
 z4:=Tryz.sizeOf4
 v4:=Tryz.zeroValue4
 t9:=Tryz.underlying9
 a9:=Tryz.isAgg9
 z9:=Tryz.sizeOf9
 v9:=Tryz.zeroValue9 }
def uKG : Go.Shelf.Ren:=⟨fun | 137=>151 | 217=>167 | 266=>177 | n=>n,fun | 9=>9 | 5=>5 | 3=>3 | n=>n,fun | n=>n⟩
theorem uOl : Go.Proofs.Lays.n137 Tryz.prog uKG:={
 mixed:=by kernel_rfl
 f137:=Tryz.func151.trans (congrArg some (by kernel_rfl))
 f217:=Tryz.func167.trans (congrArg some (by kernel_rfl))
 f266:=Tryz.func177.trans (congrArg some (by kernel_rfl))
 t3:=Tryz.underlying3
 a3:=Tryz.isAgg3
 z3:=Tryz.sizeOf3
 v3:=Tryz.zeroValue3
 t5:=Tryz.underlying5
 a5:=Tryz.isAgg5
 z5:=Tryz.sizeOf5
 v5:=Tryz.zeroValue5
 t9:=Tryz.underlying9
 a9:=Tryz.isAgg9
 z9:=Tryz.sizeOf9
 v9:=Tryz.zeroValue9 }
def uJO : Go.Shelf.Ren:=⟨fun | 161=>107 | 231=>145 | 227=>146 | 233=>147 | 235=>148 | 228=>163 | 197=>164 | 151=>165 | 260=>175 | 152=>176 | 137=>151 | 119=>182 | 224=>180 | 225=>179 | 217=>167 | 266=>177 | n=>n,fun | 9=>9 | 4=>4 | 3=>3 | 5=>5 | 117=>159 | 116=>158 | 0=>0 | 124=>162 | 105=>178 | 21=>21 | 119=>186 | 46=>185 | 139=>189 | 138=>188 | n=>n,fun | 3=>1 | 4=>2 | n=>n⟩
theorem uOd : Go.Proofs.Lays.n161 Tryz.prog uJO:={
 mixed:=by kernel_rfl
 f119:=Tryz.func182.trans (congrArg some (by kernel_rfl))
 f137:=Tryz.func151.trans (congrArg some (by kernel_rfl))
 f151:=Tryz.func165.trans (congrArg some (by kernel_rfl))
 f152:=Tryz.func176.trans (congrArg some (by kernel_rfl))
 f161:=Tryz.func107.trans (congrArg some (by kernel_rfl))
 f197:=Tryz.func164.trans (congrArg some (by kernel_rfl))
 f217:=Tryz.func167.trans (congrArg some (by kernel_rfl))
 f224:=Tryz.func180.trans (congrArg some (by kernel_rfl))
 f225:=Tryz.func179.trans (congrArg some (by kernel_rfl))
 f227:=Tryz.func146.trans (congrArg some (by kernel_rfl))
 f228:=Tryz.func163.trans (congrArg some (by kernel_rfl))
 f231:=Tryz.func145.trans (congrArg some (by kernel_rfl))
 f233:=Tryz.func147.trans (congrArg some (by kernel_rfl))
 f235:=Tryz.func148.trans (congrArg some (by kernel_rfl))
 f260:=Tryz.func175.trans (congrArg some (by kernel_rfl))
 f266:=Tryz.func177.trans (congrArg some (by kernel_rfl))
 t0:=Tryz.underlying0
 a0:=Tryz.isAgg0
 z0:=Tryz.sizeOf0
 v0:=Tryz.zeroValue0
 t3:=Tryz.underlying3
 a3:=Tryz.isAgg3
 z3:=Tryz.sizeOf3
 v3:=Tryz.zeroValue3
 t4:=Tryz.underlying4
 a4:=Tryz.isAgg4
 z4:=Tryz.sizeOf4
 v4:=Tryz.zeroValue4
 t5:=Tryz.underlying5
 a5:=Tryz.isAgg5
 z5:=Tryz.sizeOf5
 v5:=Tryz.zeroValue5
 t9:=Tryz.underlying9
 a9:=Tryz.isAgg9
 z9:=Tryz.sizeOf9
 v9:=Tryz.zeroValue9
 t21:=Tryz.underlying21
 a21:=Tryz.isAgg21
 z21:=Tryz.sizeOf21
 v21:=Tryz.zeroValue21
 t46:=Tryz.underlying185
 a46:=Tryz.isAgg185
 z46:=Tryz.sizeOf185
 v46:=Tryz.zeroValue185
 t105:=Tryz.underlying178
 a105:=Tryz.isAgg178
 z105:=Tryz.sizeOf178
 v105:=Tryz.zeroValue178
 t116:=Tryz.underlying158
 a116:=Tryz.isAgg158
 z116:=Tryz.sizeOf158
 t117:=Tryz.underlying159
 a117:=Tryz.isAgg159
 z117:=Tryz.sizeOf159
 v117:=Tryz.zeroValue159
 t119:=Tryz.underlying186
 a119:=Tryz.isAgg186
 z119:=Tryz.sizeOf186
 t124:=Tryz.underlying162
 a124:=Tryz.isAgg162
 z124:=Tryz.sizeOf162
 v124:=Tryz.zeroValue162
 t138:=Tryz.underlying188
 a138:=Tryz.isAgg188
 z138:=Tryz.sizeOf188
 v138:=Tryz.zeroValue188
 t139:=Tryz.underlying189
 a139:=Tryz.isAgg189
 z139:=Tryz.sizeOf189
 v139:=Tryz.zeroValue189
 g3:=by kernel_rfl
 g4:=by kernel_rfl }
def uGu : Go.Shelf.Ren:=⟨fun | 156=>40 | 165=>89 | 166=>90 | 169=>91 | 240=>134 | 241=>135 | 276=>160 | 277=>161 | n=>n,fun | 31=>22 | 9=>9 | 3=>3 | 4=>4 | 0=>0 | 20=>20 | 72=>121 | 76=>125 | 70=>119 | 37=>45 | 75=>124 | 127=>150 | 164=>173 | 5=>5 | 80=>127 | n=>n,fun | n=>n⟩
theorem uLX : Go.Proofs.Lays.n156 Tryz.prog uGu:={
 mixed:=by kernel_rfl
 f156:=Tryz.func40.trans (congrArg some (by kernel_rfl))
 f165:=Tryz.func89.trans (congrArg some (by kernel_rfl))
 f166:=Tryz.func90.trans (congrArg some (by kernel_rfl))
 f169:=Tryz.func91.trans (congrArg some (by kernel_rfl))
 f240:=Tryz.func134.trans (congrArg some (by kernel_rfl))
 f241:=Tryz.func135.trans (congrArg some (by kernel_rfl))
 f276:=Tryz.func160.trans (congrArg some (by kernel_rfl))
 f277:=Tryz.func161.trans (congrArg some (by kernel_rfl))
 t0:=Tryz.underlying0
 a0:=Tryz.isAgg0
 z0:=Tryz.sizeOf0
 v0:=Tryz.zeroValue0
 t3:=Tryz.underlying3
 a3:=Tryz.isAgg3
 z3:=Tryz.sizeOf3
 v3:=Tryz.zeroValue3
 t4:=Tryz.underlying4
 a4:=Tryz.isAgg4
 z4:=Tryz.sizeOf4
 v4:=Tryz.zeroValue4
 t9:=Tryz.underlying9
 a9:=Tryz.isAgg9
 z9:=Tryz.sizeOf9
 v9:=Tryz.zeroValue9
 t20:=Tryz.underlying20
 a20:=Tryz.isAgg20
 z20:=Tryz.sizeOf20
 v20:=Tryz.zeroValue20
 t31:=Tryz.underlying22
 a31:=Tryz.isAgg22
 z31:=Tryz.sizeOf22
 v31:=Tryz.zeroValue22
 t37:=Tryz.underlying45
 a37:=Tryz.isAgg45
 z37:=Tryz.sizeOf45
 v37:=Tryz.zeroValue45
 t70:=Tryz.underlying119
 a70:=Tryz.isAgg119
 z70:=Tryz.sizeOf119
 v70:=Tryz.zeroValue119
 t72:=Tryz.underlying121
 a72:=Tryz.isAgg121
 z72:=Tryz.sizeOf121
 v72:=Tryz.zeroValue121
 t75:=Tryz.underlying124
 a75:=Tryz.isAgg124
 z75:=Tryz.sizeOf124
 v75:=Tryz.zeroValue124
 t76:=Tryz.underlying125
 a76:=Tryz.isAgg125
 z76:=Tryz.sizeOf125
 v76:=Tryz.zeroValue125
 t127:=Tryz.underlying150
 a127:=Tryz.isAgg150
 z127:=Tryz.sizeOf150
 v127:=Tryz.zeroValue150
 t164:=Tryz.underlying173
 a164:=Tryz.isAgg173
 z164:=Tryz.sizeOf173
 v164:=Tryz.zeroValue173 }
def uIY : Go.Shelf.Ren:=⟨fun | 146=>88 | 221=>133 | 268=>157 | 138=>158 | 143=>159 | 195=>171 | 197=>164 | 218=>172 | 219=>173 | 260=>175 | 217=>167 | 225=>179 | 224=>180 | 267=>181 | 266=>177 | 314=>183 | n=>n,fun | 9=>9 | 31=>22 | 3=>3 | 4=>4 | 0=>0 | 105=>178 | 21=>21 | 5=>5 | 46=>185 | 119=>186 | 139=>189 | 138=>188 | 146=>192 | 51=>191 | n=>n,fun | 1=>0 | 3=>1 | 4=>2 | n=>n⟩
theorem laysM146 : Go.Proofs.LaysM.n146 Tryz.prog uIY:={
 mixed:=by kernel_rfl
 f138:=Tryz.func158.trans (congrArg some (by kernel_rfl))
 f143:=Tryz.func159.trans (congrArg some (by kernel_rfl))
 f146:=Tryz.func88.trans (congrArg some (by kernel_rfl))
 f195:=Tryz.func171.trans (congrArg some (by kernel_rfl))
 f197:=Tryz.func164.trans (congrArg some (by kernel_rfl))
 f217:=Tryz.func167.trans (congrArg some (by kernel_rfl))
 f218:=Tryz.func172.trans (congrArg some (by kernel_rfl))
 f219:=Tryz.func173.trans (congrArg some (by kernel_rfl))
 f221:=Tryz.func133.trans (congrArg some (by kernel_rfl))
 f224:=Tryz.func180.trans (congrArg some (by kernel_rfl))
 f225:=Tryz.func179.trans (congrArg some (by kernel_rfl))
 f260:=Tryz.func175.trans (congrArg some (by kernel_rfl))
 f266:=Tryz.func177.trans (congrArg some (by kernel_rfl))
 f267:=Tryz.func181.trans (congrArg some (by kernel_rfl))
 f268:=Tryz.func157.trans (congrArg some (by kernel_rfl))
 f314:=Tryz.func183.trans (congrArg some (by kernel_rfl))
 t0:=Tryz.underlying0
 a0:=Tryz.isAgg0
 z0:=Tryz.sizeOf0
 v0:=Tryz.zeroValue0
 t3:=Tryz.underlying3
 a3:=Tryz.isAgg3
 z3:=Tryz.sizeOf3
 v3:=Tryz.zeroValue3
 t4:=Tryz.underlying4
 a4:=Tryz.isAgg4
 z4:=Tryz.sizeOf4
 v4:=Tryz.zeroValue4
 t5:=Tryz.underlying5
 a5:=Tryz.isAgg5
 z5:=Tryz.sizeOf5
 v5:=Tryz.zeroValue5
 t9:=Tryz.underlying9
 a9:=Tryz.isAgg9
 z9:=Tryz.sizeOf9
 v9:=Tryz.zeroValue9
 t21:=Tryz.underlying21
 a21:=Tryz.isAgg21
 z21:=Tryz.sizeOf21
 v21:=Tryz.zeroValue21
 t31:=Tryz.underlying22
 a31:=Tryz.isAgg22
 z31:=Tryz.sizeOf22
 v31:=Tryz.zeroValue22
 t46:=Tryz.underlying185
 a46:=Tryz.isAgg185
 z46:=Tryz.sizeOf185
 v46:=Tryz.zeroValue185
 t51:=Tryz.underlying191
 a51:=Tryz.isAgg191
 z51:=Tryz.sizeOf191
 v51:=Tryz.zeroValue191
 t105:=Tryz.underlying178
 a105:=Tryz.isAgg178
 z105:=Tryz.sizeOf178
 v105:=Tryz.zeroValue178
 t119:=Tryz.underlying186
 a119:=Tryz.isAgg186
 z119:=Tryz.sizeOf186
 t138:=Tryz.underlying188
 a138:=Tryz.isAgg188
 z138:=Tryz.sizeOf188
 v138:=Tryz.zeroValue188
 t139:=Tryz.underlying189
 a139:=Tryz.isAgg189
 z139:=Tryz.sizeOf189
 v139:=Tryz.zeroValue189
 t146:=Tryz.underlying192
 a146:=Tryz.isAgg192
 z146:=Tryz.sizeOf192
 v146:=Tryz.zeroValue192
 g1:=by kernel_rfl
 g3:=by kernel_rfl
 g4:=by kernel_rfl
 i0:=by kernel_rfl
 i3:=by kernel_rfl
 i4:=by kernel_rfl
 i5:=by kernel_rfl
 i9:=by kernel_rfl
 i21:=by kernel_rfl
 i31:=by kernel_rfl
 i46:=by kernel_rfl
 i51:=by kernel_rfl
 i105:=by kernel_rfl
 i138:=by kernel_rfl
 i139:=by kernel_rfl
 i146:=by kernel_rfl
 m1:=by kernel_rfl
 s1_3:=fun w h=>Go.Proofs.cell_of_shapedOpen_int (zero:=#[.int .i64 0]) (t:=3) h (of_decide_eq_true (by kernel_rfl)) (by kernel_rfl) rfl (by kernel_rfl) (by kernel_rfl) Tryz.underlying3
 m3:=by kernel_rfl
 m4:=by kernel_rfl }
theorem uEn : Builder.Extra Tryz.prog uGu:={
 sizeBuilder:=by kernel_rfl
 liesBuilder:=by kernel_rfl
 t5:=Tryz.underlying5
 a5:=Tryz.isAgg5
 z5:=Tryz.sizeOf5
 v5:=Tryz.zeroValue5
 infoByte:=by kernel_rfl
 cellsByte:=by kernel_rfl
 sizeByte:=by kernel_rfl
 neB5:=by decide }
end Go.Proofs.YtnjjdbapadkomaaGreatDoor
namespace Go.Proofs.YtnjjdbapadkomaaGreatDoor
open Go Go.Abs
open Go.RowKit (Below)
theorem uEB (s p : List UInt8) : Ctr sys 25 [xs s,xs p] [] (xb (p.isPrefixOf s)) none []:=by
 refine uKd [.string ⟨s.toArray⟩, .string ⟨p.toArray⟩] ⟨_,Tryz.func25,by kernel_rfl,by kernel_rfl⟩ (fun w G vs h=>?_) (fun w=>Any.strings_HasPrefix uOH ⟨s.toArray⟩ ⟨p.toArray⟩ w) (fun w G=>CRep.b _)
 match vs,h with
 | [u,v],⟨h1,h2,_⟩=>rw [XRep.str h1,XRep.str h2]
theorem uOf {c : UInt8} {n : Int} (h : n=(c.toNat : Int)) : n.toNat.toUInt8=c:=by
 subst h
 rw [Int.toNat_natCast]
 exact UInt8.ofNat_toNat
theorem uDE (s : List UInt8) (c : UInt8) (n : Int) (h : n=(c.toNat : Int)) : Ctr sys 151 [xs s,xu n] [] (xi (Lib.indexByte s c)) none []:=by
 refine uKd [.string ⟨s.toArray⟩, .int .u8 n] ⟨_,Tryz.func151,by kernel_rfl,by kernel_rfl⟩ (fun w G vs hv=>?_) (fun w=>by
  have := Any.strings_IndexByte uOl ⟨s.toArray⟩ n w
  rw [uOf h] at this
  exact this) (fun w G=>CRep.i _ _)
 match vs,hv with
 | [u,v],⟨h1,h2,_⟩=>rw [XRep.str h1,XRep.int h2]
theorem uHQ (s : List UInt8) (hs : s.length≤2000000) : Ctr sys 107 [xs s,xs [32,9,13]] [] (xs (uBC s)) none []:=by
 have hl:=uF0 s
 refine uIa (v:=.string ⟨(uBC s).toArray⟩) ⟨_,Tryz.func107,by kernel_rfl,by kernel_rfl⟩ (fun w G vs hv hwf hgl=>?_) (fun w G=>CRep.s _ (by omega))
 have := Any.strings_TrimLeft_laid uOd (by kernel_rfl) ⟨s.toArray⟩ ⟨#[32,9,13]⟩ w (by decide) (fun j b hj=>by
  match j,hj with
  | 0,hj=>simp at hj; subst hj; decide
  | 1,hj=>simp at hj; subst hj; decide
  | 2,hj=>simp at hj; subst hj; decide
  | j + 3,hj=>simp at hj)
 match vs,hv with
 | [u,v],⟨h1,h2,_⟩ =>
  rw [XRep.str h1,XRep.str h2]
  exact this
theorem uJX {b : UInt8} {l : List UInt8} (hb : b≠10) : ∀ (k : Nat),Lib.splitK [10] 0 k (b :: l)=match Lib.splitK [10] 0 k l with
  | []=>[[b]]
  | x :: r=>(b :: x) :: r
 | 0=>rfl
 | k + 1=>by
  have hp : ([10] : List UInt8).isPrefixOf (b :: l)=false:=by simp [List.isPrefixOf,Ne.symm hb]
  have hix : Lib.index (b :: l) [10]=if Lib.index l [10] == -1 then -1 else Lib.index l [10] + 1:=by rw [Lib.index,hp]; simp
  have hge:=Lib.index_ge l [10]
  rw [Lib.splitK,Lib.splitK,hix]
  by_cases hm : Lib.index l [10] = -1
  ·rw [hm]; rfl
  ·rw [if_neg (c:=(Lib.index l [10] == -1)=true) (by simpa using hm),if_neg (c:=(Lib.index l [10] + 1 == -1)=true) (by simp; omega),if_neg (c:=(Lib.index l [10] == -1)=true) (by simpa using hm)]
   have e : (Lib.index l [10] + 1).toNat=(Lib.index l [10]).toNat + 1:=by omega
   rw [e]
   simp only [Nat.add_zero,List.take_succ_cons,List.length_cons,List.length_nil,Nat.zero_add]
   congr 1
theorem uKc : ∀ (s : List UInt8),Lib.splitK [10] 0 (Lib.count s [10]) s=spl s
 | []=>rfl
 | b :: l=>by
  have ih:=uKc l
  by_cases hb : b=10
  ·subst hb
   have hix : Lib.index (10 :: l) [10]=0:=by rw [Lib.index]; simp [List.isPrefixOf]
   rw [Lib.count_cons_eq,Nat.add_comm,Lib.splitK,hix]
   simp only [spl]
   rw [if_neg (by decide),if_pos (by rfl)]
   simp only [List.length_cons,List.length_nil,Int.toNat_zero,Nat.zero_add,List.take_zero,List.drop_succ_cons,List.drop_zero]
   rw [ih]
  ·rw [Lib.count_cons_ne b 10 l hb,uJX hb,ih,spl,if_neg (c:=b.toNat=10) (fun q=>hb (UInt8.toNat_inj.1 q))]
   all_goals (cases spl l <;> rfl)
theorem uMF (s : List UInt8) : (Lib.splitB ⟨#[10]⟩ 0 (Lib.countB ⟨s.toArray⟩ ⟨#[10]⟩) ⟨s.toArray⟩).map (·.data.toList)=spl s:=by
 rw [Lib.splitB_data]
 exact uKc s
theorem uJz {w : World} {S : Nat→Nat→Prop} : ∀ (bs : List ByteArray),(∀ b ∈ bs,b.data.toList.length≤9223372036854775807)→All2 (CRep w S) (bs.map fun b=>C.s b.data.toList) (bs.map Value.string)
 | [],_=>trivial
 | b :: bs,h=>⟨CRep.s b.data.toList (h b (by simp)),uJz bs fun x hx=>h x (by simp [hx])⟩
theorem uHt (s : List UInt8) (hs : s.length≤2000000) : Ctr sys 88 [xs s,xs [10]] [] (xss (spl s)) none []:=by
 have hsp:=uMF s
 have hlen:=uGI s
 have hl2 : (Lib.splitB ⟨#[10]⟩ 0 (Lib.countB ⟨s.toArray⟩ ⟨#[10]⟩) ⟨s.toArray⟩).length=(spl s).length:=by rw [← hsp,List.length_map]
 have hcnt:=Lib.splitB_all ⟨#[10]⟩ (by decide) 0 (Lib.countB ⟨s.toArray⟩ ⟨#[10]⟩) ⟨s.toArray⟩ rfl
 have key:=uMI (Z:=sys) (f:=88) (args:=[xs s,xs [10]]) (cs:=(Lib.splitB ⟨#[10]⟩ 0 (Lib.countB ⟨s.toArray⟩ ⟨#[10]⟩) ⟨s.toArray⟩).map fun b=>C.s b.data.toList) (vals:=(Lib.splitB ⟨#[10]⟩ 0 (Lib.countB ⟨s.toArray⟩ ⟨#[10]⟩) ⟨s.toArray⟩).map Value.string) (ty:=9)
  ⟨_,Tryz.func88,by kernel_rfl,by kernel_rfl⟩ (by rw [List.length_map]; omega) (fun w S=>uJz _ fun b hb=>by
   have h1 : b.data.toList ∈ spl s:=by rw [← hsp]; exact List.mem_map_of_mem (f:=(·.data.toList)) hb
   have := uIU s _ h1
   omega) (fun w G vs hv hgl=>by
   obtain ⟨m,hm⟩:=(hgl (0,intAt) (by simp [sys])).2.1.cell
   have := Any.strings_Split { laysM146 with } (by kernel_rfl) ⟨s.toArray⟩ ⟨#[10]⟩ m w (by show s.length < _; omega) hm (by decide)
   match vs,hv with
   | [u,v],⟨h1,h2,_⟩ =>
    rw [XRep.str h1,XRep.str h2]
    refine this.mono ?_
    rintro e w' ⟨he,hw⟩
    refine ⟨?_,hw⟩
    rw [he,List.length_map,hcnt])
 have e : ((Lib.splitB ⟨#[10]⟩ 0 (Lib.countB ⟨s.toArray⟩ ⟨#[10]⟩) ⟨s.toArray⟩).map fun b=>C.s b.data.toList).map (fun c=>[c])=strR (spl s):=by
  rw [← hsp,strR,List.map_map,List.map_map]
  rfl
 rw [e] at key
 exact key
end Go.Proofs.YtnjjdbapadkomaaGreatDoor
namespace Go.Proofs.YtnjjdbapadkomaaGreatDoor
open Go Go.Proofs Go.RowKit
open Go.Abs (uDg BdSys)
theorem uOP : (Tryz.prog.info? 121).map (·.size)=some 2:=by kernel_rfl
theorem uOu : ∃ j,Tryz.prog.info? 121=some j∧j.size=2:=Option.map_eq_some_iff.1 uOP
set_option maxHeartbeats 2000000 in
set_option maxRecDepth 100000 in
theorem uGQ (b : Nat) (w : World) (h0 : w.cell? ⟨b,0,none⟩=some (.pointer (some ⟨b,0,none⟩))) :
  Calls Tryz.prog 134 #[.pointer (some ⟨b,0,none⟩)] w fun e w'=>e = .returned (.tuple #[])∧w'=w:=by
 obtain ⟨j,hj,_⟩:=uOu
 go_enter Tryz.func134,Tryz.ntmps134
 go_wp2
 rw [Lib.run_neq_ptr_same w _ Tryz.underlying119 hj]
 go_wp2
 go_end0
 exact ⟨rfl,rfl⟩
set_option maxHeartbeats 2000000 in
set_option maxRecDepth 100000 in
theorem uGD (b : Nat) (w : World) (h0 : w.cell? ⟨b,0,none⟩=some (.pointer none)) (hsh : w.shape? b=some (121,2)) (hfz : w.frozen? ⟨b,0,none⟩=false) :
  Calls Tryz.prog 134 #[.pointer (some ⟨b,0,none⟩)] w fun e w'=>e = .returned (.tuple #[])∧w'=w.setCell ⟨b,0,none⟩ (.pointer (some ⟨b,0,none⟩)):=by
 obtain ⟨j,hj,hjs⟩:=uOu
 go_enter Tryz.func134,Tryz.ntmps134
 go_wp2
 rw [Lib.run_to_unsafe w ⟨b,0,none⟩ Tryz.underlying119 Tryz.underlying173 hj (by rw [hjs]; decide) hsh (Nat.zero_lt_succ 1)]
 simp only [Result.andThen]
 rw [Oper.upon_value]
 go_wp2
 rw [run_callFunc_extern Tryz.func160 (by kernel_rfl) (by kernel_rfl) (by kernel_rfl) (e:=Extern.AbiNoEscape.same) (by kernel_rfl)]
 rw [Lib.run_noEscape]
 simp only [Result.andThen]
 rw [Oper.upon_value]
 go_wp2
 rw [Lib.run_from_unsafe w ⟨b,0,none⟩ Tryz.underlying173 Tryz.underlying119 hj hsh (by kernel_rfl)]
 simp only [Result.andThen]
 rw [Oper.upon_value]
 go_wp2
 go_end0
 exact ⟨rfl,rfl⟩
theorem uHm {P : Program} {ops : Array Oper} {rest : List Oper} {o : Oper} {a : Act} {w w1 : World} {Q : Exit→Act→World→Prop} {v : Value} (hgd : o.guard=none)
  (hrun : (execOp a.eval o).run P w = .ok (.value v) w1) (h : wpList P ops Q rest (a.put o.dst v) w1) : wpList P ops Q (o :: rest) a w:=by
 unfold wpList
 have hw : Region.wanted o (yielded ops a.tmps)=true:=by simp [Region.wanted,hgd]
 rw [hw]
 simp only [if_true]
 refine .inl ?_
 unfold Oper.wp
 rw [hrun,Oper.upon_value]
 exact h
theorem uE0 (b : Nat) (w w0 : World) (h : uDg b w w0) (hsh : w.shape? b=some (121,2)) (hfz : w.frozen? ⟨b,0,none⟩=false) :
  Calls Tryz.prog 134 #[.pointer (some ⟨b,0,none⟩)] w fun e w'=>e = .returned (.tuple #[])∧w'=w0:=by
 rcases h with ⟨h,rfl⟩ | ⟨h,rfl⟩
 ·exact uGD b w h hsh hfz
 ·exact uGQ b _ h
set_option maxHeartbeats 2000000 in
set_option maxRecDepth 100000 in
theorem uFT (b : Nat) (w w0 w1 : World) (v' : Value) (uo : Option Addr) (un uc : Nat) (s : ByteArray) (h : uDg b w w0) (hsh : w.shape? b=some (121,2)) (hfz : w.frozen? ⟨b,0,none⟩=false)
  (h1 : w0.cell? ⟨b,1,none⟩=some v') (hap : (Builtin.append_ #[45,9] 45 #[v', .string s]).run Tryz.prog w0 = .ok (.slice uo un uc) w1) (h2 : w1.cell? ⟨b,1,none⟩=some v') (hf1 : w1.frozen? ⟨b,1,none⟩=false) :
  Calls Tryz.prog 90 #[.pointer (some ⟨b,0,none⟩), .string s] w fun e w'=>e = .returned (.tuple #[.int .i64 s.size, .nilIface])∧w'=w1.setCell ⟨b,1,none⟩ (.slice uo un uc):=by
 go_enter Tryz.func90,Tryz.ntmps90
 go_wp2_with (go_at_call 134; refine (uE0 b w w0 h hsh hfz).mono ?_)
 rintro e w' ⟨rfl,rfl⟩
 go_wp2_with (at_builtin; refine uHm rfl (v:=.slice uo un uc) (w1:=w1) ?hr ?_)
 case hr=>simp [execOp,Go.resolve,invoke,builtin,Act.eval,Act.put,hap]
 go_wp2
 go_ret2
 exact ⟨rfl,rfl⟩
set_option maxHeartbeats 2000000 in
set_option maxRecDepth 100000 in
theorem uHv (b : Nat) (w w0 w1 : World) (v' : Value) (uo : Option Addr) (un uc : Nat) (c : Int) (h : uDg b w w0) (hsh : w.shape? b=some (121,2)) (hfz : w.frozen? ⟨b,0,none⟩=false)
  (h1 : w0.cell? ⟨b,1,none⟩=some v') (hap : (Builtin.append_ #[45,45] 45 #[v', .slice (some ⟨w0.heap.size,0,none⟩) 1 1]).run Tryz.prog (w0.alloc (.cells #[.int .u8 c] 5)) = .ok (.slice uo un uc) w1) (h2 : w1.cell? ⟨b,1,none⟩=some v') (hf1 : w1.frozen? ⟨b,1,none⟩=false) :
  Calls Tryz.prog 166 #[.pointer (some ⟨b,0,none⟩), .int .u8 c] w fun e w'=>e = .returned .nilIface∧w'=w1.setCell ⟨b,1,none⟩ (.slice uo un uc):=by
 go_enter Tryz.func166,Tryz.ntmps166
 go_wp2_with (go_at_call 134; refine (uE0 b w w0 h hsh hfz).mono ?_)
 rintro e w' ⟨rfl,rfl⟩
 go_wp2_with (at_builtin; refine uHm rfl (v:=.slice uo un uc) (w1:=w1) ?hr ?_)
 case hr=>simp [execOp,Go.resolve,invoke,builtin,Act.eval,Act.put,hap]
 go_wp2
 go_ret
 exact ⟨rfl,rfl⟩
set_option maxHeartbeats 2000000 in
set_option maxRecDepth 100000 in
theorem uKt (b : Nat) (w w1 w2 : World) (ao : Option Addr) (n cap : Nat) (p : Value) (s : ByteArray) (h1 : w.cell? ⟨b,1,none⟩=some (.slice ao n cap))
  (hsd : (Builtin.unsafeSliceData_ #[45] 150 #[.slice ao n cap]).run Tryz.prog w.drew = .ok p w1) (h2 : w1.cell? ⟨b,1,none⟩=some (.slice ao n cap))
  (hus : (Builtin.unsafeString_ #[150,3] 9 #[p, .int .i64 n]).run Tryz.prog w1 = .ok (.string s) w2) :
  Calls Tryz.prog 91 #[.pointer (some ⟨b,0,none⟩)] w fun e w'=>e = .returned (.string s)∧w'=w2:=by
 have c1 : w.drew.cell? ⟨b,1,none⟩=some (.slice ao n cap):=h1
 go_enter Tryz.func91,Tryz.ntmps91
 go_wp2
 go_region
 all_goals (go_wp2; go_ret; exact ⟨rfl,rfl⟩)
theorem uOU : (Tryz.prog.info? 5).map (fun j=>(j.size,j.bytes,j.zero))=some (1,1,some (.int .u8 0)):=by kernel_rfl
theorem infoU : ∃ j,Tryz.prog.info? 5=some j∧j.size=1∧j.bytes=1∧j.zero=some (.int .u8 0):=by
 obtain ⟨j,h1,h2⟩:=Option.map_eq_some_iff.1 uOU
 simp only [Prod.mk.injEq] at h2
 exact ⟨j,h1,h2⟩
theorem enW0 : Abs.Enters sys 90:=⟨_,Tryz.func90,by kernel_rfl,by kernel_rfl⟩
theorem enB0 : Abs.Enters sys 166:=⟨_,Tryz.func166,by kernel_rfl,by kernel_rfl⟩
theorem enS0 : Abs.Enters sys 91:=⟨_,Tryz.func91,by kernel_rfl,by kernel_rfl⟩
noncomputable def bds : BdSys sys where
 tB:=121
 tS:=45
 tStr:=9
 tU:=5
 tPU:=150
 tI:=3
 tN:=121 * 4096 + 5
 hN1:=rfl
 hN2:=rfl
 fW:=90
 fB:=166
 hasB:=true
 fS:=91
 jf:=infoU.choose
 hu:=Tryz.underlying45
 hstr:=Tryz.underlying9
 hpu:=Tryz.underlying150
 hinfo:=infoU.choose_spec.1
 hsz:=infoU.choose_spec.2.1
 hby:=infoU.choose_spec.2.2.1
 hze:=infoU.choose_spec.2.2.2
 hcells:=(show Tryz.prog.cellsOf 5=1 by kernel_rfl)
 enW:=enW0
 enB:=fun _=>enB0
 enS:=enS0
 ws:=fun b w w0 w1 v' uo un uc s h1 h2 h3 h4 h5 h6 h7=>uFT b w w0 w1 v' uo un uc s h1 h2 h3 h4 h5 h6 h7
 wb:=fun _ b w w0 w1 v' uo un uc c h1 h2 h3 h4 h5 h6 h7=>uHv b w w0 w1 v' uo un uc c h1 h2 h3 h4 h5 h6 h7
 st:=fun b w w1 w2 ao n cap p s h1 h2 h3 h4=>uKt b w w1 w2 ao n cap p s h1 h2 h3 h4
end Go.Proofs.YtnjjdbapadkomaaGreatDoor
namespace Go.Proofs.YtnjjdbapadkomaaGreatDoor
open Go Go.Abs
theorem uD5 (n : Int) : Ctr sys 141 [xu n] [] (xb (uBo n)) none []:=by
 refine uAA Tryz.func141 rfl rfl rfl rfl rfl rfl ?_;refine uAe (uAb ?_);refine uAa rfl rfl rfl (uAd rfl gU) ?_;refine uAf ?_;refine uAe (uAb ?_);refine uAa rfl rfl rfl (uAc rfl gU) ?_;refine uAa rfl rfl rfl (uAm rfl rfl gU gU rfl) ?_;refine uAa rfl rfl rfl (uAc rfl gU) ?_;refine uAa rfl rfl rfl (uAc rfl gU) ?_;refine uAa rfl rfl rfl (uAm rfl rfl (fun hh=>hh) gU rfl) ?_;refine uAa rfl rfl rfl (uAV rfl rfl gU (fun _ hi=>gP rfl hi)) ?_;refine uAa rfl rfl rfl (uAc rfl gU) ?_;refine uAa rfl rfl rfl (uAc rfl gU) ?_;refine uAa rfl rfl rfl (uAm rfl rfl (fun hh=>hh) gU rfl) ?_;refine uAa rfl rfl rfl (uAc rfl (fun hh=>hh)) ?_;refine uAa rfl rfl rfl (uAc rfl gU) ?_;refine uAa rfl rfl rfl (uAm rfl rfl (fun hh=>hh) gU rfl) ?_;refine uAa rfl rfl rfl (uAV rfl rfl (fun hh=>hh) (fun hh hi=>gP hh hi)) ?_;refine uAa rfl rfl rfl (uAJ rfl rfl gU (fun _ hi=>gP rfl hi)) ?_;refine uAa rfl rfl rfl (uAd rfl gU) ?_;refine uAf ?_;refine uAp ?_
 repeat (first | refine tR ?_ | refine bR ?_)
 refine uAv rfl ?_ trivial
 rfl
theorem uEF (n : Int) : Ctr sys 149 [xu n] [] (xb (uBK n)) none []:=by
 refine uAA Tryz.func149 rfl rfl rfl rfl rfl rfl ?_;refine uAe (uAb ?_);refine uAa rfl rfl rfl (uAd rfl gU) ?_;refine uAf ?_;refine uAe (uAb ?_);refine uAa rfl rfl rfl (uAc rfl gU) ?_;refine uAa rfl rfl rfl (uAm rfl rfl gU gU rfl) ?_;refine uAa rfl rfl rfl (uAc rfl gU) ?_;refine uAa rfl rfl rfl (uAc rfl gU) ?_;refine uAa rfl rfl rfl (uAm rfl rfl (fun hh=>hh) gU rfl) ?_;refine uAa rfl rfl rfl (uAV rfl rfl gU (fun _ hi=>gP rfl hi)) ?_;refine uAa rfl rfl rfl (uAd rfl gU) ?_;refine uAf ?_;refine uAp ?_
 repeat (first | refine tR ?_ | refine bR ?_)
 refine uAv rfl ?_ trivial
 rfl
theorem pre2 (b : UInt8) (l : List UInt8) : ([35,35] : List UInt8).isPrefixOf (b :: l)=(decide (b.toNat=35) && decide ((l.getD 0 0).toNat=35)):=by
 have hb : ∀ x : UInt8,((35 : UInt8) == x)=decide (x.toNat=35):=by
  intro x
  rw [Bool.eq_iff_iff]
  simp only [beq_iff_eq,decide_eq_true_eq]
  exact ⟨fun h=>by subst h; rfl,fun h=>UInt8.toNat_inj.1 (by rw [h]; rfl)⟩
 cases l with
 | nil=>simp [List.isPrefixOf,hb]
 | cons c r=>simp [List.isPrefixOf,hb]
theorem uEo (s : List UInt8) (hs : s.length≤9223372036854775807) : Ctr sys 142 [xs s] [] (xi (nlE s : Nat)) none []:=by
 refine uAA Tryz.func142 rfl rfl rfl rfl rfl rfl ?_;refine uAe (uAb ?_);refine uAa rfl rfl rfl (uAd rfl gU) ?_;refine uAf ?_;refine uAe (uAb ?_);refine uAa rfl rfl rfl (uAd rfl gU) ?_;refine uAf ?_;refine uAe ?_;refine uAx ?_;refine uA6 (ι:=Nat) { t:=[(0,_,_)],bx:=[],ow:=[] } (fun k=>[(3,true,xi (k : Int))]) (fun k=>[]) (fun k=>1≤k∧(k≤s.length∨k=1)∧nmP (s.drop k) + k=nlE s) (fun k=>s.length - k) (1) (⟨by omega,by omega,by unfold nlE; omega⟩) (uAj (⟨sx rfl,sx rfl,trivial⟩) trivial trivial) ?_
 intro k hok
 dsimp only [List.cons_append,List.nil_append]
 obtain ⟨hk1,hk,hi⟩:=hok
 refine uAe ?_;refine uAe (uAb ?_);refine uAa rfl rfl rfl (uAc rfl gU) ?_;refine uAa rfl rfl rfl (uAc rfl gU) ?_;refine uBw rfl rfl rfl rfl rfl gU (Tryz.underlying9) ?_ (fun hh=>by simp at hh); intro hlen;refine uAa rfl rfl rfl (uAm rfl rfl gU gU rfl) ?_;refine uAa rfl rfl rfl (uAc rfl gU) ?_;refine uAa rfl rfl rfl (uAc rfl gU) ?_;refine uAa rfl rfl rfl (uAc rfl gU) ?_;refine uAa rfl rfl rfl (uAF (j:=k) rfl rfl (fun hh=>hh) (fun hh=>hh) Tryz.underlying9 (by first | omega | (simp at hh ⊢; omega)) (fun hh=>by first | omega | (simp at hh ⊢; omega))) ?_;refine uAw rfl rfl rfl rfl rfl rfl gU (fun hh=>gA ((fun hh=>hh) hh) (rfl)) (uD5 _) rfl ?_;refine uAa rfl rfl rfl (uAc rfl (fun hh=>hh)) ?_;refine uAa rfl rfl rfl (uAc rfl gU) ?_;refine uAa rfl rfl rfl (uAc rfl gU) ?_;refine uBq (s:=⟨[(0,_,_),(3,_,_),(8,_,_),(13,_,_),(14,_,_),(15,_,_)],[],[],[]⟩) (uAj (⟨sx rfl,sx rfl,sx rfl,sx rfl,sx rfl,sx rfl,trivial⟩) trivial trivial) ?_;refine uAa rfl rfl rfl (uAF (j:=k) rfl rfl (fun hh=>hh) (fun hh=>hh) Tryz.underlying9 (by first | omega | (simp at hh ⊢; omega)) (fun hh=>by first | omega | (simp at hh ⊢; omega))) ?_;refine uAw rfl rfl rfl rfl rfl rfl gU (fun hh=>gA ((fun hh=>hh) hh) (rfl)) (uEF _) rfl ?_;refine uAa rfl rfl rfl (uAJ rfl rfl (fun hh=>hh) (fun hh hi=>gP hh hi)) ?_
 refine uAa rfl rfl rfl (uAc rfl (fun hh=>hh)) ?_;refine uAa rfl rfl rfl (uAc rfl gU) ?_;refine uAa rfl rfl rfl (uAc rfl gU) ?_;refine uAa rfl rfl rfl (uAF (j:=k) rfl rfl (fun hh=>hh) (fun hh=>hh) Tryz.underlying9 (by first | omega | (simp at hh ⊢; omega)) (fun hh=>by first | omega | (simp at hh ⊢; omega))) ?_;refine uAa rfl rfl rfl (uAm rfl rfl (fun hh=>hh) gU rfl) ?_;refine uAa rfl rfl rfl (uAJ rfl rfl (fun hh=>hh) (fun hh hi=>gP hh hi)) ?_;refine uAa rfl rfl rfl (uAc rfl (fun hh=>hh)) ?_;refine uAa rfl rfl rfl (uAc rfl gU) ?_;refine uAa rfl rfl rfl (uAc rfl gU) ?_;refine uBq (s:=⟨[(0,_,_),(3,_,_),(8,_,_),(25,_,_),(26,_,_),(27,_,_)],[],[],[]⟩) (uAj (⟨sx rfl,sx rfl,sx rfl,sx rfl,sx rfl,sx rfl,trivial⟩) trivial trivial) ?_;refine uAa rfl rfl rfl (uAF (j:=k) rfl rfl (fun hh=>hh) (fun hh=>hh) Tryz.underlying9 (by first | omega | (simp at hh ⊢; omega)) (fun hh=>by first | omega | (simp at hh ⊢; omega))) ?_;refine uAa rfl rfl rfl (uAm rfl rfl (fun hh=>hh) gU rfl) ?_;refine uAa rfl rfl rfl (uAJ rfl rfl (fun hh=>hh) (fun hh hi=>gP hh hi)) ?_;refine uAa rfl rfl rfl (uAV rfl rfl gU (fun _ hi=>gP rfl hi)) ?_;refine uAf ?_;refine uAn rfl (fun hc=>?_) (fun hc=>?_)
 ·try simp only [nn] at hc
  rw [uBi (by omega),nmP] at hi
  refine uAq ?_;refine uAx ?_;refine uAe ?_;refine uAe (uAb ?_);refine uAa rfl rfl rfl (uAc rfl gU) ?_;refine uAa rfl rfl rfl (uAc rfl gU) ?_;refine uAa rfl rfl rfl (uBr (l:=k) rfl gU Tryz.underlying9 (fun _=>⟨_,_,_,rfl,gU,by first | omega | (simp at hh ⊢; omega)⟩) (fun _=>rfl) (fun hh=>by first | omega | (simp at hh ⊢; omega)) (fun hh=>by first | omega | (simp at hh ⊢; omega))) ?_;refine uAw rfl rfl rfl rfl rfl rfl gU gU (uEB _ _) rfl ?_;refine uAf ?_;refine uAk (s:=⟨[(0,_,_),(3,_,_),(35,_,_)],[],[],[]⟩) (uAj (⟨sx rfl,sx rfl,sx rfl,trivial⟩) trivial trivial) ?_;refine uAn rfl (fun hc2=>?_) (fun hc2=>?_)
  ·try simp only [nn] at hc2
   rw [List.take_length,uBi (by omega),pre2] at hc2
   refine uAQ ?_
   repeat (first | refine uAE ?_ | refine uAD ?_ | refine uAC rfl ?_)
   refine uAe (uAb ?_);refine uAa rfl rfl rfl (uAc rfl gU) ?_;refine uAa rfl rfl rfl (uAd rfl gU) ?_;refine uAf ?_;refine uAp ?_
   repeat (first | refine tR ?_ | refine bR ?_)
   refine uAv rfl ?_ trivial
   (have hn:=hi; rw [if_neg (by intro q; simp only [Bool.and_eq_true,decide_eq_true_eq] at hc2; exact q.2 hc2)] at hn; exact uBj (by omega))
  ·try simp only [nn] at hc2
   rw [List.take_length,uBi (by omega),pre2] at hc2
   have hn:=hi
   rw [if_pos ⟨by simp only [uB3]; grind,by simpa using hc2⟩] at hn
   refine uAq ?_;refine uAb ?_;refine uAa rfl rfl rfl (uAc rfl gU) ?_;refine uAa rfl rfl rfl (uAz rfl rfl gU gU rfl (IntWalk.i64_in _ (by omega))) ?_;refine uAa rfl rfl rfl (uAd rfl gU) ?_;refine uAf ?_;refine ⟨k + 1,?_,?_,uAj (⟨⟨_,rfl,?_⟩,⟨sx rfl,trivial⟩⟩) trivial trivial⟩
   all_goals (first | rfl | omega | exact ⟨by omega,by omega,by omega⟩)
 ·try simp only [nn] at hc
  refine uAQ ?_
  repeat (first | refine uAE ?_ | refine uAD ?_ | refine uAC rfl ?_)
  refine uAe (uAb ?_);refine uAa rfl rfl rfl (uAc rfl gU) ?_;refine uAa rfl rfl rfl (uAd rfl gU) ?_;refine uAf ?_;refine uAp ?_
  repeat (first | refine tR ?_ | refine bR ?_)
  refine uAv rfl ?_ trivial
  (have hn : nmP (s.drop k)=0:=by { by_cases hlt : k < s.length; { rw [uBi hlt,nmP,if_neg (by simp only [uB3]; grind)] }; { rw [List.drop_of_length_le (by omega)]; rfl } }; exact uBj (by omega))
theorem hexI : ∀ n : Fin 256,Lib.indexByte hexs (UInt8.ofNat n.val)=if hexB (UInt8.ofNat n.val)=true then hexV (UInt8.ofNat n.val) else -1:=by decide +kernel
theorem uIk (c : UInt8) : Lib.indexByte hexs c=if hexB c=true then hexV c else -1:=by
 have := hexI ⟨c.toNat,c.toNat_lt⟩
 rwa [show UInt8.ofNat c.toNat=c from UInt8.ofNat_toNat] at this
theorem uD9 {c : UInt8} (h : hexB c=true) : 0≤hexV c∧hexV c≤15:=by
 simp [hexB] at h
 unfold hexV
 split <;> omega
theorem symI : ∀ n : Fin 256,(decide (0≤Lib.indexByte syms (UInt8.ofNat n.val)))=symB (UInt8.ofNat n.val):=by decide +kernel
theorem uL8 (c : UInt8) : decide (0≤Lib.indexByte syms c)=symB c:=by
 have := symI ⟨c.toNat,c.toNat_lt⟩
 rwa [show UInt8.ofNat c.toNat=c from UInt8.ofNat_toNat] at this
theorem uNj {x : Int} {n : Nat} (h : x=n) (hn : n < 256) : x=((UInt8.ofNat n).toNat : Int):=by
 rw [h,UInt8.toNat_ofNat']; omega
theorem uJn {n i : Nat} {l out : List UInt8} (h : l=[]) : litA n l i out=([],0):=by subst h; cases n <;> rfl
end Go.Proofs.YtnjjdbapadkomaaGreatDoor
namespace Go.Proofs.YtnjjdbapadkomaaGreatDoor
open Go Go.Abs
theorem uLu {s : List UInt8} {k : Nat} (h : k < s.length) : escE (s.drop k)=if (s.getD k 0).toNat=110 then (10,1) else if (s.getD k 0).toNat=116 then (9,1) else if (s.getD k 0).toNat=34∨(s.getD k 0).toNat=92 then (s.getD k 0,1)
  else if (s.getD k 0).toNat=120∧k + 2 < s.length∧hexB (s.getD (k + 1) 0)=true∧hexB (s.getD (k + 2) 0)=true then (UInt8.ofNat (16 * hexV (s.getD (k + 1) 0) + hexV (s.getD (k + 2) 0)).toNat,3) else (0,0):=by
 have e : (2≤s.length - (k + 1))=(k + 2 < s.length):=propext (by omega)
 rw [uBi h,escE,uIw,uIw,List.length_drop]
 simp only [e,Nat.add_zero]
theorem uNb {s : List UInt8} {k : Nat} (h : s.length≤k) : escE (s.drop k)=(0,0):=by
 rw [List.drop_of_length_le h]; rfl
theorem uH8 {s out : List UInt8} {n k : Nat} (h : k < s.length) : litA (n + 1) (s.drop k) k out=if (s.getD k 0).toNat=34 then (out,k + 1)
  else if (s.getD k 0).toNat=92 then (if (escE (s.drop (k + 1))).2=0 then ([],0) else litA n (s.drop (k + 1 + (escE (s.drop (k + 1))).2)) (k + 1 + (escE (s.drop (k + 1))).2) (out++[(escE (s.drop (k + 1))).1]))
  else if (s.getD k 0).toNat < 32∨126 < (s.getD k 0).toNat then ([],0) else litA n (s.drop (k + 1)) (k + 1) (out++[s.getD k 0]):=by
 rw [uBi h,litA,List.drop_drop]
theorem uLV {c : UInt8} (h : ¬Lib.indexByte hexs c < 0) : hexB c=true∧Lib.indexByte hexs c=hexV c:=by
 rw [uIk] at h ⊢
 by_cases hb : hexB c=true
 ·rw [if_pos hb]; exact ⟨hb,rfl⟩
 ·rw [if_neg hb] at h; omega
theorem hex_neg' {c : UInt8} (h : Lib.indexByte hexs c < 0) : hexB c≠true:=by
 intro hb
 rw [uIk,if_pos hb] at h
 have := uD9 hb
 omega
theorem uMy (s : List UInt8) (h : 0 < s.length) (hs : s.length≤2000000) : Ctr sys 150 [xs s] [] (xsn (litE s)) none []:=by
 refine uAA Tryz.func150 rfl rfl rfl rfl rfl rfl ?_;refine uAe (uAb ?_);refine uAa rfl rfl rfl (uAd rfl gU) ?_;refine uAa rfl rfl rfl (uAd rfl gU) ?_;refine uAf ?_;refine uAe (uAb ?_);refine uAr rfl (uIZ (u:=495621) rfl rfl rfl rfl rfl) ?_;refine uAf ?_;refine uAe ?_;refine uAe (uAb ?_);refine uAa rfl rfl rfl (uAd rfl gU) ?_;refine uAf ?_;refine uAx ?_;refine uA6 (ι:=Nat × List UInt8) { t:=[(0,_,_),(4,_,_)],bx:=[],ow:=[((.b (.bd 495621 4) 1),_)] } (fun p=>[(5,true,xi (p.1 : Int))]) (fun p=>[((.bd 495621 4),[.bl, .sl 1 (uBt p.2)])]) (fun p=>p.1≤s.length∧p.2.length≤p.1 ∧ ∃ n,s.length < n + p.1∧litA n (s.drop p.1) p.1 p.2=litE s) (fun p=>s.length - p.1) ((1,[])) (⟨by dsimp only; omega,by simp,s.length + 1,by dsimp only; omega,rfl⟩) (uAj (⟨sx rfl,sx rfl,sx rfl,trivial⟩) (⟨sx rfl,trivial⟩) (⟨rfl,trivial⟩)) ?_
 intro p hok
 dsimp only [List.cons_append,List.nil_append] at *
 obtain ⟨k,out⟩:=p
 dsimp only at hok ⊢
 obtain ⟨hk,ho,n,hn,hi⟩:=hok
 obtain ⟨n,rfl⟩ : ∃ m,n=m + 1:=⟨n - 1,by omega⟩
 have hu:=(s.getD k 0).toNat_lt
 have hu1:=(s.getD (k + 1) 0).toNat_lt
 refine uAe ?_;refine uAe (uAb ?_);refine uAa rfl rfl rfl (uAc rfl gU) ?_;refine uAa rfl rfl rfl (uAc rfl gU) ?_;refine uBw rfl rfl rfl rfl rfl gU (Tryz.underlying9) ?_ (fun hh=>by simp at hh); intro hlen;refine uAa rfl rfl rfl (uAm rfl rfl gU gU rfl) ?_;refine uAf ?_;refine uAn rfl (fun hc=>?_) (fun hc=>?_)
 ·try simp only [nn] at hc
  rw [uH8 (by omega)] at hi
  refine uAq ?_;refine uAe ?_;refine uAx ?_;refine uAe (uAb ?_);refine uAa rfl rfl rfl (uAc rfl gU) ?_;refine uAa rfl rfl rfl (uAc rfl gU) ?_;refine uAa rfl rfl rfl (uAF (j:=k) rfl rfl gU gU Tryz.underlying9 (by omega) (fun hh=>by omega)) ?_;refine uAa rfl rfl rfl (uAd rfl gU) ?_;refine uAf ?_;refine uAk (s:=⟨[(0,_,_),(4,_,_),(5,_,_),(6,_,_)],[(.bd 495621 4,_)],[((.b (.bd 495621 4) 1),_)],[]⟩) (uAj (⟨sx rfl,sx rfl,sx rfl,sx rfl,trivial⟩) (⟨sx rfl,trivial⟩) (⟨rfl,trivial⟩)) ?_;refine uAx ?_;refine uAe (uAb ?_);refine uAa rfl rfl rfl (uAc rfl gU) ?_;refine uAa rfl rfl rfl (uAm rfl rfl gU gU rfl) ?_;refine uAa rfl rfl rfl (uAd rfl gU) ?_;refine uAf ?_;refine uAn rfl (fun hc2=>?_) (fun hc2=>?_)
  ·try simp only [nn] at hc2
   rw [if_pos (by omega)] at hi
   refine uAe (uAb ?_);refine uO2 bds rfl rfl rfl rfl rfl rfl rfl rfl ?_;refine uAa rfl rfl rfl (uAc rfl gU) ?_;refine uAa rfl rfl rfl (uAz rfl rfl gU gU rfl (IntWalk.i64_in _ (by omega))) ?_;refine uAa rfl rfl rfl (uAd rfl gU) ?_;refine uAa rfl rfl rfl (uAd rfl gU) ?_;refine uAf ?_;refine uAp ?_
   repeat (first | refine tR ?_ | refine bR ?_)
   refine uAv rfl ?_ trivial
   (rw [← hi]; rfl)
  ·try simp only [nn] at hc2
   rw [if_neg (by omega)] at hi
   refine uAe (uAb ?_);refine uAa rfl rfl rfl (uAc rfl gU) ?_;refine uAa rfl rfl rfl (uAm rfl rfl gU gU rfl) ?_;refine uAa rfl rfl rfl (uAd rfl gU) ?_;refine uAf ?_;refine uAk (s:=⟨[(0,_,_),(4,_,_),(5,_,_),(6,_,_),(24,_,_)],[(.bd 495621 4,_)],[((.b (.bd 495621 4) 1),_)],[]⟩) (uAj (⟨sx rfl,sx rfl,sx rfl,sx rfl,sx rfl,trivial⟩) (⟨sx rfl,trivial⟩) (⟨rfl,trivial⟩)) ?_;refine uAn rfl (fun hc3=>?_) (fun hc3=>?_)
   ·try simp only [nn] at hc3
    rw [if_pos (by omega)] at hi
    refine uAe (uAb ?_);refine uAa rfl rfl rfl (uAc rfl gU) ?_;refine uAa rfl rfl rfl (uAz rfl rfl gU gU rfl (IntWalk.i64_in _ (by omega))) ?_;refine uAa rfl rfl rfl (uAd rfl gU) ?_;refine uAf ?_;refine uAe ?_;refine uAe (uAb ?_);refine uAa rfl rfl rfl (uAc rfl gU) ?_;refine uAa rfl rfl rfl (uAc rfl gU) ?_;refine uBw rfl rfl rfl rfl rfl gU (Tryz.underlying9) ?_ (fun hh=>by simp at hh); intro hlen;refine uAa rfl rfl rfl (uAm rfl rfl gU gU rfl) ?_;refine uAf ?_;refine uAk (s:=⟨[(0,_,_),(4,_,_),(5,_,_),(32,_,_)],[(.bd 495621 4,_)],[((.b (.bd 495621 4) 1),_)],[]⟩) (uAj (⟨sx rfl,sx rfl,sx rfl,sx rfl,trivial⟩) (⟨sx rfl,trivial⟩) (⟨rfl,trivial⟩)) ?_;refine uAn rfl (fun hc4=>?_) (fun hc4=>?_)
    ·try simp only [nn] at hc4
     rw [uNb (by omega),if_pos rfl] at hi
     refine uAe (uAb ?_);refine uAa rfl rfl rfl (uAd rfl gU) ?_;refine uAa rfl rfl rfl (uAd rfl gU) ?_;refine uAf ?_;refine uAp ?_
     repeat (first | refine tR ?_ | refine bR ?_)
     refine uAv rfl ?_ trivial
     (rw [← hi]; rfl)
    ·try simp only [nn] at hc4
     have he:=uLu (s:=s) (k:=k + 1) (by omega)
     refine uAq ?_;refine uAe (uAb ?_);refine uAa rfl rfl rfl (uAc rfl gU) ?_;refine uAa rfl rfl rfl (uAc rfl gU) ?_;refine uAa rfl rfl rfl (uAF (j:=k + 1) rfl rfl gU gU Tryz.underlying9 (by omega) (fun hh=>by omega)) ?_;refine uAf ?_;refine uAx ?_;refine uAe (uAb ?_);refine uAa rfl rfl rfl (uAm rfl rfl gU gU rfl) ?_;refine uAa rfl rfl rfl (uAd rfl gU) ?_;refine uAf ?_;refine uAk (s:=⟨[(0,_,_),(4,_,_),(5,_,_),(35,_,_),(36,_,_)],[(.bd 495621 4,_)],[((.b (.bd 495621 4) 1),_)],[]⟩) (uAj (⟨sx rfl,sx rfl,sx rfl,sx rfl,sx rfl,trivial⟩) (⟨sx rfl,trivial⟩) (⟨rfl,trivial⟩)) ?_;refine uAn rfl (fun hc5=>?_) (fun hc5=>?_)
     ·try simp only [nn] at hc5
      rw [if_pos (by omega)] at he
      rw [he,if_neg (by simp)] at hi
      refine uAb ?_;refine uGa bds (c:=10) rfl rfl rfl rfl rfl rfl rfl rfl rfl (by (try simp only [List.length_append,List.length_singleton]); omega) ?_;refine uAf ?_;refine uAb ?_;refine uAa rfl rfl rfl (uAc rfl gU) ?_;refine uAa rfl rfl rfl (uAz rfl rfl gU gU rfl (IntWalk.i64_in _ (by omega))) ?_;refine uAa rfl rfl rfl (uAd rfl gU) ?_;refine uAf ?_;refine ⟨(k + 2,out++[10]),?_,?_,uAj (⟨⟨_,rfl,?_⟩,⟨sx rfl,sx rfl,trivial⟩⟩) (⟨⟨_,rfl,?_⟩,trivial⟩) (⟨rfl,trivial⟩)⟩
      all_goals (first | rfl | omega | (refine ⟨by omega,by simp; omega,n,by omega,hi⟩))
     ·try simp only [nn] at hc5
      rw [if_neg (by omega)] at he
      refine uAe (uAb ?_);refine uAa rfl rfl rfl (uAm rfl rfl gU gU rfl) ?_;refine uAa rfl rfl rfl (uAd rfl gU) ?_;refine uAf ?_;refine uAn rfl (fun hc6=>?_) (fun hc6=>?_)
      ·try simp only [nn] at hc6
       rw [if_pos (by omega)] at he
       rw [he,if_neg (by simp)] at hi
       refine uAb ?_;refine uGa bds (c:=9) rfl rfl rfl rfl rfl rfl rfl rfl rfl (by (try simp only [List.length_append,List.length_singleton]); omega) ?_;refine uAf ?_;refine uAb ?_;refine uAa rfl rfl rfl (uAc rfl gU) ?_;refine uAa rfl rfl rfl (uAz rfl rfl gU gU rfl (IntWalk.i64_in _ (by omega))) ?_;refine uAa rfl rfl rfl (uAd rfl gU) ?_;refine uAf ?_;refine ⟨(k + 2,out++[9]),?_,?_,uAj (⟨⟨_,rfl,?_⟩,⟨sx rfl,sx rfl,trivial⟩⟩) (⟨⟨_,rfl,?_⟩,trivial⟩) (⟨rfl,trivial⟩)⟩
       all_goals (first | rfl | omega | (refine ⟨by omega,by simp; omega,n,by omega,hi⟩))
      ·try simp only [nn] at hc6
       rw [if_neg (by omega)] at he
       refine uAe ?_;refine uAe (uAb ?_);refine uAa rfl rfl rfl (uAm rfl rfl gU gU rfl) ?_;refine uAa rfl rfl rfl (uAd rfl gU) ?_;refine uAf ?_;refine uAn rfl (fun hc7=>?_) (fun hc7=>?_)
       ·try simp only [nn] at hc7
        rw [if_pos (by omega)] at he
        rw [he,if_neg (by simp)] at hi
        refine uAq ?_;refine uAn rfl (fun hc8=>?_) (fun hc8=>?_)
        ·try simp only [nn] at hc8
         refine uAb ?_;refine uAa rfl rfl rfl (uAc rfl gU) ?_;refine uAa rfl rfl rfl (uAc rfl gU) ?_;refine uAa rfl rfl rfl (uAF (j:=k + 1) rfl rfl gU gU Tryz.underlying9 (by omega) (fun hh=>by omega)) ?_;refine uGa bds (c:=s.getD (k + 1) 0) rfl rfl rfl rfl rfl rfl (by rfl) rfl rfl (by (try simp only [List.length_append,List.length_singleton]); omega) ?_;refine uAf ?_;refine uAk (s:=⟨[(0,_,_),(4,_,_),(5,_,_)],[(.bd 495621 4,_)],[((.b (.bd 495621 4) 1),_)],[]⟩) (uAj (⟨sx rfl,sx rfl,sx rfl,trivial⟩) (⟨sx rfl,trivial⟩) (⟨rfl,trivial⟩)) ?_;refine uAb ?_;refine uAa rfl rfl rfl (uAc rfl gU) ?_;refine uAa rfl rfl rfl (uAz rfl rfl gU gU rfl (IntWalk.i64_in _ (by omega))) ?_;refine uAa rfl rfl rfl (uAd rfl gU) ?_;refine uAf ?_;refine ⟨(k + 2,out++[s.getD (k + 1) 0]),?_,?_,uAj (⟨⟨_,rfl,?_⟩,⟨sx rfl,sx rfl,trivial⟩⟩) (⟨⟨_,rfl,?_⟩,trivial⟩) (⟨rfl,trivial⟩)⟩
         all_goals (first | rfl | omega | (refine ⟨by omega,by simp; omega,n,by omega,hi⟩))
        ·try simp only [nn] at hc8
         exfalso; omega
       ·try simp only [nn] at hc7
        refine uAb ?_;refine uAa rfl rfl rfl (uAm rfl rfl gU gU rfl) ?_;refine uAa rfl rfl rfl (uAd rfl gU) ?_;refine uAf ?_;refine uAk (s:=⟨[(0,_,_),(4,_,_),(5,_,_),(35,_,_),(42,_,_)],[(.bd 495621 4,_)],[((.b (.bd 495621 4) 1),_)],[]⟩) (uAj (⟨sx rfl,sx rfl,sx rfl,sx rfl,sx rfl,trivial⟩) (⟨sx rfl,trivial⟩) (⟨rfl,trivial⟩)) ?_;refine uAn rfl (fun hc8=>?_) (fun hc8=>?_)
        ·try simp only [nn] at hc8
         rw [if_pos (by omega)] at he
         rw [he,if_neg (by simp)] at hi
         refine uAb ?_;refine uAa rfl rfl rfl (uAc rfl gU) ?_;refine uAa rfl rfl rfl (uAc rfl gU) ?_;refine uAa rfl rfl rfl (uAF (j:=k + 1) rfl rfl gU gU Tryz.underlying9 (by omega) (fun hh=>by omega)) ?_;refine uGa bds (c:=s.getD (k + 1) 0) rfl rfl rfl rfl rfl rfl (by rfl) rfl rfl (by (try simp only [List.length_append,List.length_singleton]); omega) ?_;refine uAf ?_;refine uAb ?_;refine uAa rfl rfl rfl (uAc rfl gU) ?_;refine uAa rfl rfl rfl (uAz rfl rfl gU gU rfl (IntWalk.i64_in _ (by omega))) ?_;refine uAa rfl rfl rfl (uAd rfl gU) ?_;refine uAf ?_;refine ⟨(k + 2,out++[s.getD (k + 1) 0]),?_,?_,uAj (⟨⟨_,rfl,?_⟩,⟨sx rfl,sx rfl,trivial⟩⟩) (⟨⟨_,rfl,?_⟩,trivial⟩) (⟨rfl,trivial⟩)⟩
         all_goals (first | rfl | omega | (refine ⟨by omega,by simp; omega,n,by omega,hi⟩))
        ·try simp only [nn] at hc8
         rw [if_neg (by omega)] at he
         refine uAe (uAb ?_);refine uAa rfl rfl rfl (uAm rfl rfl gU gU rfl) ?_;refine uAa rfl rfl rfl (uAd rfl gU) ?_;refine uAf ?_;refine uAn rfl (fun hc9=>?_) (fun hc9=>?_)
         ·try simp only [nn] at hc9
          refine uAe ?_;refine uAe (uAb ?_);refine uAa rfl rfl rfl (uAc rfl gU) ?_;refine uAa rfl rfl rfl (uAz rfl rfl gU gU rfl (IntWalk.i64_in _ (by omega))) ?_;refine uAa rfl rfl rfl (uAc rfl gU) ?_;refine uBw rfl rfl rfl rfl rfl gU (Tryz.underlying9) ?_ (fun hh=>by simp at hh); intro hlen;refine uAa rfl rfl rfl (uAm rfl rfl gU gU rfl) ?_;refine uAf ?_;refine uAk (s:=⟨[(0,_,_),(4,_,_),(5,_,_),(55,_,_)],[(.bd 495621 4,_)],[((.b (.bd 495621 4) 1),_)],[]⟩) (uAj (⟨sx rfl,sx rfl,sx rfl,sx rfl,trivial⟩) (⟨sx rfl,trivial⟩) (⟨rfl,trivial⟩)) ?_;refine uAn rfl (fun hca=>?_) (fun hca=>?_)
          ·try simp only [nn] at hca
           rw [if_neg (by omega)] at he
           rw [he,if_pos rfl] at hi
           refine uAe (uAb ?_);refine uAa rfl rfl rfl (uAd rfl gU) ?_;refine uAa rfl rfl rfl (uAd rfl gU) ?_;refine uAf ?_;refine uAp ?_
           repeat (first | refine tR ?_ | refine bR ?_)
           refine uAv rfl ?_ trivial
           (rw [← hi]; rfl)
          ·try simp only [nn] at hca
           refine uAq ?_;refine uAe ?_;refine awp_drawn' (by kernel_rfl) ?_;refine uAi rfl rfl rfl rfl (uAc rfl gU) ?_;refine uAi rfl rfl rfl rfl (uAc rfl gU) ?_;refine uAi rfl rfl rfl rfl (uAz rfl rfl gU gU rfl (IntWalk.i64_in _ (by omega))) ?_;refine uAi rfl rfl rfl rfl (uAF (j:=k + 1 + 1) rfl rfl gU gU Tryz.underlying9 (by omega) (fun hh=>by omega)) ?_;refine uAW rfl rfl rfl rfl rfl rfl rfl gU gU (uDE hexs _ _ rfl) rfl ?_;refine uAi rfl rfl rfl rfl (uAc rfl gU) ?_;refine uAi rfl rfl rfl rfl (uAc rfl gU) ?_;refine uAi rfl rfl rfl rfl (uAz rfl rfl gU gU rfl (IntWalk.i64_in _ (by omega))) ?_;refine uAi rfl rfl rfl rfl (uAF (j:=k + 1 + 2) rfl rfl gU gU Tryz.underlying9 (by omega) (fun hh=>by omega)) ?_;refine uAW rfl rfl rfl rfl rfl rfl rfl gU gU (uDE hexs _ _ rfl) rfl ?_;refine uAi rfl rfl rfl rfl (uAd rfl gU) ?_;refine uAi rfl rfl rfl rfl (uAd rfl gU) ?_;refine uA2 (by kernel_rfl) ?_;refine uAk (s:=⟨[(0,_,_),(4,_,_),(5,_,_),(7,_,_),(8,_,_)],[(.bd 495621 4,_)],[((.b (.bd 495621 4) 1),_)],[]⟩) (uAj (⟨sx rfl,sx rfl,sx rfl,sx rfl,sx rfl,trivial⟩) (⟨sx rfl,trivial⟩) (⟨(ak rfl (ak rfl (ak rfl (ak rfl (ak rfl (ak rfl (ak rfl (ak rfl (ak rfl (ak rfl (ak rfl (ak rfl (rfl))))))))))))),trivial⟩)) ?_;refine uAe ?_;refine uAe (uAb ?_);refine uAa rfl rfl rfl (uAc rfl gU) ?_
           refine uAa rfl rfl rfl (uAm rfl rfl gU gU rfl) ?_;refine uAa rfl rfl rfl (uAc rfl gU) ?_;refine uAa rfl rfl rfl (uAc rfl gU) ?_;refine uAa rfl rfl rfl (uAm rfl rfl (fun hh=>hh) gU rfl) ?_;refine uAa rfl rfl rfl (uAJ rfl rfl gU (fun _ hi=>gP rfl hi)) ?_;refine uAf ?_;refine uAk (s:=⟨[(0,_,_),(4,_,_),(5,_,_),(7,_,_),(8,_,_),(71,_,_)],[(.bd 495621 4,_)],[((.b (.bd 495621 4) 1),_)],[]⟩) (uAj (⟨sx rfl,sx rfl,sx rfl,sx rfl,sx rfl,sx rfl,trivial⟩) (⟨sx rfl,trivial⟩) (⟨rfl,trivial⟩)) ?_;refine uAn rfl (fun hcb=>?_) (fun hcb=>?_)
           ·try simp only [nn] at hcb
            have hx : ¬(hexB (s.getD (k + 1 + 1) 0)=true∧hexB (s.getD (k + 1 + 2) 0)=true):=by
             intro q
             rcases hcb with hq | hq
             ·exact hex_neg' hq q.1
             ·exact hex_neg' hq q.2
            rw [if_neg (fun q=>hx q.2.2)] at he
            rw [he,if_pos rfl] at hi
            refine uAe (uAb ?_);refine uAa rfl rfl rfl (uAd rfl gU) ?_;refine uAa rfl rfl rfl (uAd rfl gU) ?_;refine uAf ?_;refine uAp ?_
            repeat (first | refine tR ?_ | refine bR ?_)
            refine uAv rfl ?_ trivial
            (rw [← hi]; rfl)
           ·try simp only [nn] at hcb
            obtain ⟨x1,x2⟩:=uLV (c:=s.getD (k + 1 + 1) 0) (by omega)
            obtain ⟨y1,y2⟩:=uLV (c:=s.getD (k + 1 + 2) 0) (by omega)
            have x3:=uD9 x1
            have y3:=uD9 y1
            rw [if_pos ⟨by omega,by omega,x1,y1⟩] at he
            rw [he,if_neg (by simp)] at hi
            refine uAq ?_;refine uAe (uAb ?_);refine uAa rfl rfl rfl (uAc rfl gU) ?_;refine uAa rfl rfl rfl (uAz rfl rfl gU gU rfl (IntWalk.i64_in _ (by omega))) ?_;refine uAa rfl rfl rfl (uAc rfl gU) ?_;refine uAa rfl rfl rfl (uAz rfl rfl gU gU rfl (IntWalk.i64_in _ (by omega))) ?_;refine uAa rfl rfl rfl (uDx rfl gU ⟨_,Tryz.underlying3⟩ (Tryz.underlying5) (IntWalk.u8_in _ (by omega))) ?_;refine uGa bds (c:=UInt8.ofNat (16 * hexV (s.getD (k + 1 + 1) 0) + hexV (s.getD (k + 1 + 2) 0)).toNat) rfl rfl rfl rfl rfl rfl (by exact uNj (by omega) (by omega)) rfl rfl (by (try simp only [List.length_append,List.length_singleton]); omega) ?_;refine uAf ?_;refine uAk (s:=⟨[(0,_,_),(4,_,_),(5,_,_)],[(.bd 495621 4,_)],[((.b (.bd 495621 4) 1),_)],[]⟩) (uAj (⟨sx rfl,sx rfl,sx rfl,trivial⟩) (⟨sx rfl,trivial⟩) (⟨rfl,trivial⟩)) ?_;refine uAb ?_;refine uAa rfl rfl rfl (uAc rfl gU) ?_;refine uAa rfl rfl rfl (uAz rfl rfl gU gU rfl (IntWalk.i64_in _ (by omega))) ?_;refine uAa rfl rfl rfl (uAd rfl gU) ?_;refine uAf ?_;refine uAb ?_;refine uAa rfl rfl rfl (uAc rfl gU) ?_;refine uAa rfl rfl rfl (uAz rfl rfl gU gU rfl (IntWalk.i64_in _ (by omega))) ?_;refine uAa rfl rfl rfl (uAd rfl gU) ?_;refine uAf ?_;refine ⟨(k + 4,out++[UInt8.ofNat (16 * hexV (s.getD (k + 1 + 1) 0) + hexV (s.getD (k + 1 + 2) 0)).toNat]),?_,?_,uAj (⟨⟨_,rfl,?_⟩,⟨sx rfl,sx rfl,trivial⟩⟩) (⟨⟨_,rfl,?_⟩,trivial⟩) (⟨rfl,trivial⟩)⟩
            all_goals (first | rfl | omega | (refine ⟨by omega,by simp; omega,n,by omega,hi⟩))
         ·try simp only [nn] at hc9
          rw [if_neg (by omega)] at he
          rw [he,if_pos rfl] at hi
          refine uAe (uAb ?_);refine uAa rfl rfl rfl (uAd rfl gU) ?_;refine uAa rfl rfl rfl (uAd rfl gU) ?_;refine uAf ?_;refine uAp ?_
          repeat (first | refine tR ?_ | refine bR ?_)
          refine uAv rfl ?_ trivial
          (rw [← hi]; rfl)
   ·try simp only [nn] at hc3
    rw [if_neg (by omega)] at hi
    refine uAe (uAb ?_);refine uAa rfl rfl rfl (uAc rfl gU) ?_;refine uAa rfl rfl rfl (uAm rfl rfl gU gU rfl) ?_;refine uAa rfl rfl rfl (uAc rfl gU) ?_;refine uAa rfl rfl rfl (uAc rfl gU) ?_;refine uAa rfl rfl rfl (uAm rfl rfl (fun hh=>hh) gU rfl) ?_;refine uAa rfl rfl rfl (uAV rfl rfl gU (fun _ hi=>gP rfl hi)) ?_;refine uAa rfl rfl rfl (uAd rfl gU) ?_;refine uAf ?_;refine uAk (s:=⟨[(0,_,_),(4,_,_),(5,_,_),(6,_,_),(80,_,_)],[(.bd 495621 4,_)],[((.b (.bd 495621 4) 1),_)],[]⟩) (uAj (⟨sx rfl,sx rfl,sx rfl,sx rfl,sx rfl,trivial⟩) (⟨sx rfl,trivial⟩) (⟨rfl,trivial⟩)) ?_;refine uAn rfl (fun hc4=>?_) (fun hc4=>?_)
    ·try simp only [nn] at hc4
     rw [if_neg (by omega)] at hi
     refine uAb ?_;refine uAa rfl rfl rfl (uAc rfl gU) ?_;refine uGa bds (c:=s.getD k 0) rfl rfl rfl rfl rfl rfl (by rfl) rfl rfl (by (try simp only [List.length_append,List.length_singleton]); omega) ?_;refine uAf ?_;refine uAb ?_;refine uAa rfl rfl rfl (uAc rfl gU) ?_;refine uAa rfl rfl rfl (uAz rfl rfl gU gU rfl (IntWalk.i64_in _ (by omega))) ?_;refine uAa rfl rfl rfl (uAd rfl gU) ?_;refine uAf ?_;refine ⟨(k + 1,out++[s.getD k 0]),?_,?_,uAj (⟨⟨_,rfl,?_⟩,⟨sx rfl,sx rfl,trivial⟩⟩) (⟨⟨_,rfl,?_⟩,trivial⟩) (⟨rfl,trivial⟩)⟩
     all_goals (first | rfl | omega | (refine ⟨by omega,by simp; omega,n,by omega,hi⟩))
    ·try simp only [nn] at hc4
     rw [if_pos (by omega)] at hi
     refine uAe (uAb ?_);refine uAa rfl rfl rfl (uAd rfl gU) ?_;refine uAa rfl rfl rfl (uAd rfl gU) ?_;refine uAf ?_;refine uAp ?_
     repeat (first | refine tR ?_ | refine bR ?_)
     refine uAv rfl ?_ trivial
     (rw [← hi]; rfl)
 ·try simp only [nn] at hc
  rw [uJn (List.drop_of_length_le (by omega))] at hi
  refine uAQ ?_
  repeat (first | refine uAE ?_ | refine uAD ?_ | refine uAC rfl ?_)
  refine uAe (uAb ?_);refine uAa rfl rfl rfl (uAd rfl gU) ?_;refine uAa rfl rfl rfl (uAd rfl gU) ?_;refine uAf ?_;refine uAp ?_
  repeat (first | refine tR ?_ | refine bR ?_)
  refine uAv rfl ?_ trivial
  (rw [← hi]; rfl)
end Go.Proofs.YtnjjdbapadkomaaGreatDoor
namespace Go.Proofs.YtnjjdbapadkomaaGreatDoor
open Go Go.Abs
theorem uIA {n : Int} (h : uBK n=true) : 48≤n∧n≤57:=by simpa [uBK] using h
theorem uL7 (s : List UInt8) (h : 0 < s.length) (hs : s.length≤2000000) : Ctr sys 108 [xs s] [] (xnx (uBR s)) none []:=by
 have h1:=uKT h
 have h3:=uJf s h
 refine uAA Tryz.func108 rfl rfl rfl rfl rfl rfl ?_;refine uAe (uAb ?_);refine uAr rfl (uAG rfl rfl rfl) ?_;refine uAa rfl rfl rfl (uAd rfl gU) ?_;refine uAa rfl rfl rfl (uAd rfl gU) ?_;refine uAf ?_;refine uAe ?_;refine uAe (uAb ?_);refine uAa rfl rfl rfl (uAc rfl gU) ?_;refine uAa rfl rfl rfl (uAF (j:=0) rfl rfl gU gU Tryz.underlying9 (by first | omega | (simp at hh ⊢; omega)) (fun hh=>by first | omega | (simp at hh ⊢; omega))) ?_;refine uAa rfl rfl rfl (uAd rfl gU) ?_;refine uAf ?_;refine uAk (s:=⟨[(0,_,_),(2,_,_),(5,_,_)],[(.l 2,_)],[],[]⟩) (uAj (⟨sx rfl,sx rfl,sx rfl,trivial⟩) (⟨sx rfl,trivial⟩) trivial) ?_;refine uAx ?_;refine uAe (uAb ?_);refine uAa rfl rfl rfl (uAc rfl gU) ?_;refine uAw rfl rfl rfl rfl rfl rfl gU gU (uD5 _) rfl ?_;refine uAa rfl rfl rfl (uAd rfl gU) ?_;refine uAf ?_;refine uAn rfl (fun hc=>?_) (fun hc=>?_)
 ·try simp only [nn] at hc
  rw [uBR,if_pos hc]
  refine uAe (uAb ?_);refine uAa rfl rfl rfl (uAc rfl gU) ?_;refine uAw rfl rfl rfl rfl rfl rfl gU gU (uEo _ (by omega)) rfl ?_;refine uAa rfl rfl rfl (uAd rfl gU) ?_;refine uAf ?_;refine uAk (s:=⟨[(0,_,_),(2,_,_),(6,_,_)],[(.l 2,_)],[],[]⟩) (uAj (⟨sx rfl,sx rfl,sx rfl,trivial⟩) (⟨sx rfl,trivial⟩) trivial) ?_;refine uAe ?_;refine uAe (uAb ?_);refine uAa rfl rfl rfl (uAc rfl gU) ?_;refine uAa rfl rfl rfl (uAm rfl rfl gU gU rfl) ?_;refine uAf ?_;refine uAn rfl (fun hc2=>?_) (fun hc2=>?_)
  ·try simp only [nn] at hc2
   refine uAe (uAb ?_);refine uAa rfl rfl rfl (uAY rfl Tryz.underlying50 rfl gU) ?_;refine uAr rfl (uAt rfl rfl rfl rfl rfl rfl rfl) ?_;refine uAa rfl rfl rfl (uAd rfl gU) ?_;refine uAa rfl rfl rfl (uAd rfl gU) ?_;refine uAf ?_;refine uAp ?_
   repeat (first | refine tR ?_ | refine bR ?_)
   refine uAv rfl ?_ trivial
   (rw [if_pos (by omega)]; rfl)
  ·try simp only [nn] at hc2
   refine uAq ?_;refine uAe (uAb ?_);refine uAa rfl rfl rfl (uAc rfl gU) ?_;refine uAa rfl rfl rfl (uAc rfl gU) ?_;refine uAa rfl rfl rfl (uBr (h':=(nlE s)) rfl gU Tryz.underlying9 (fun _=>rfl) (fun _=>⟨_,_,_,rfl,gU,by first | omega | (simp at hh ⊢; omega)⟩) (fun hh=>by first | omega | (simp at hh ⊢; omega)) (fun hh=>by first | omega | (simp at hh ⊢; omega))) ?_;refine uAa rfl rfl rfl (uAY rfl Tryz.underlying50 rfl gU) ?_;refine uAa rfl rfl rfl (uAc rfl gU) ?_;refine uAr rfl (uAt rfl rfl rfl rfl rfl rfl rfl) ?_;refine uAa rfl rfl rfl (uAd rfl gU) ?_;refine uAa rfl rfl rfl (uAd rfl gU) ?_;refine uAf ?_;refine uAp ?_
   repeat (first | refine tR ?_ | refine bR ?_)
   refine uAv rfl ?_ trivial
   (rw [if_neg (by omega)]; rfl)
 ·try simp only [nn] at hc
  rw [uBR,if_neg (by rw [hc]; exact Bool.false_ne_true)]
  refine uAe (uAb ?_);refine uAa rfl rfl rfl (uAc rfl gU) ?_;refine uAw rfl rfl rfl rfl rfl rfl gU gU (uEF _) rfl ?_;refine uAa rfl rfl rfl (uAd rfl gU) ?_;refine uAf ?_;refine uAk (s:=⟨[(0,_,_),(2,_,_),(5,_,_),(27,_,_)],[(.l 2,_)],[],[]⟩) (uAj (⟨sx rfl,sx rfl,sx rfl,sx rfl,trivial⟩) (⟨sx rfl,trivial⟩) trivial) ?_;refine uAn rfl (fun hc2=>?_) (fun hc2=>?_)
  ·try simp only [nn] at hc2
   rw [if_pos hc2]
   refine uAe (uAb ?_);refine uAa rfl rfl rfl (uAd rfl gU) ?_;refine uAa rfl rfl rfl (uAd rfl gU) ?_;refine uAf ?_;refine uAe ?_;refine uAx ?_;refine uA6 (ι:=Nat × Int) { t:=[(0,_,_),(2,_,_)],bx:=[(.l 2,_)],ow:=[] } (fun p=>[(7,true,xi (p.1 : Int)),(8,true,xi p.2)]) (fun p=>[]) (fun p=>p.1≤s.length∧0≤p.2∧p.2≤9223372036854775807∧numA (s.drop p.1) p.1 p.2=numA s 0 0) (fun p=>s.length - p.1) ((0,0)) (⟨by simp,by simp,by simp,rfl⟩) (uAj (⟨sx rfl,sx rfl,sx rfl,sx rfl,trivial⟩) (⟨sx rfl,trivial⟩) trivial) ?_
   intro p hok
   dsimp only [List.cons_append,List.nil_append] at *
   obtain ⟨k,v⟩:=p
   dsimp only at hok ⊢
   obtain ⟨hk,hv0,hv1,hi⟩:=hok
   refine uAe ?_;refine uAe (uAb ?_);refine uAa rfl rfl rfl (uAc rfl gU) ?_;refine uAa rfl rfl rfl (uAc rfl gU) ?_;refine uBw rfl rfl rfl rfl rfl gU (Tryz.underlying9) ?_ (fun hh=>by simp at hh); intro hlen;refine uAa rfl rfl rfl (uAm rfl rfl gU gU rfl) ?_;refine uAa rfl rfl rfl (uAc rfl gU) ?_;refine uAa rfl rfl rfl (uAc rfl gU) ?_;refine uAa rfl rfl rfl (uAc rfl gU) ?_;refine uAa rfl rfl rfl (uAF (j:=k) rfl rfl (fun hh=>hh) (fun hh=>hh) Tryz.underlying9 (by first | omega | (simp at hh ⊢; omega)) (fun hh=>by first | omega | (simp at hh ⊢; omega))) ?_;refine uAw rfl rfl rfl rfl rfl rfl gU (fun hh=>gA ((fun hh=>hh) hh) (rfl)) (uEF _) rfl ?_;refine uAa rfl rfl rfl (uAV rfl rfl gU (fun _ hi=>gP rfl hi)) ?_;refine uAf ?_;refine uAk (s:=⟨[(0,_,_),(2,_,_),(7,_,_),(8,_,_),(39,_,_)],[(.l 2,_)],[],[]⟩) (uAj (⟨sx rfl,sx rfl,sx rfl,sx rfl,sx rfl,trivial⟩) (⟨sx rfl,trivial⟩) trivial) ?_;refine uAn rfl (fun hc3=>?_) (fun hc3=>?_)
   ·try simp only [nn] at hc3
    have hd:=uIA hc3.2
    rw [uBi (by omega),numA,if_pos hc3.2] at hi
    refine uAq ?_;refine uAx ?_;refine uAe (uAb ?_);refine uAa rfl rfl rfl (uAc rfl gU) ?_;refine uAa rfl rfl rfl (uAc rfl gU) ?_;refine uAa rfl rfl rfl (uAF (j:=k) rfl rfl gU gU Tryz.underlying9 (by first | omega | (simp at hh ⊢; omega)) (fun hh=>by first | omega | (simp at hh ⊢; omega))) ?_;refine uAa rfl rfl rfl (uAz rfl rfl gU gU rfl (IntWalk.u8_in _ (by omega))) ?_;refine uAa rfl rfl rfl (uDx rfl gU ⟨_,Tryz.underlying5⟩ (Tryz.underlying2) (IntWalk.i64_in _ (by omega))) ?_;refine uAa rfl rfl rfl (uAd rfl gU) ?_;refine uAf ?_;refine uAk (s:=⟨[(0,_,_),(2,_,_),(7,_,_),(8,_,_),(9,_,_)],[(.l 2,_)],[],[]⟩) (uAj (⟨sx rfl,sx rfl,sx rfl,sx rfl,sx rfl,trivial⟩) (⟨sx rfl,trivial⟩) trivial) ?_;refine uAe ?_;refine uAe (uAb ?_);refine uAa rfl rfl rfl (uAc rfl gU) ?_;refine uAa rfl rfl rfl (uAc rfl gU) ?_;refine uAa rfl rfl rfl (uAz rfl rfl gU gU rfl (IntWalk.i64_in _ (by omega))) ?_;refine uAa rfl rfl rfl (uH1 rfl rfl gU gU (fun hh=>by first | omega | (simp at hh ⊢; omega)) (fun hh=>(congrArg IntKind.i64.wrap (Int.tdiv_eq_ediv_of_nonneg (by first | omega | (simp at hh ⊢; omega)))).trans (IntWalk.i64_in _ (by omega)))) ?_;refine uAa rfl rfl rfl (uAm rfl rfl gU gU rfl) ?_;refine uAf ?_;refine uAk (s:=⟨[(0,_,_),(2,_,_),(7,_,_),(8,_,_),(9,_,_),(49,_,_)],[(.l 2,_)],[],[]⟩) (uAj (⟨sx rfl,sx rfl,sx rfl,sx rfl,sx rfl,sx rfl,trivial⟩) (⟨sx rfl,trivial⟩) trivial) ?_
    refine uAn rfl (fun hc4=>?_) (fun hc4=>?_)
    ·try simp only [nn] at hc4
     rw [if_pos (by omega)] at hi
     refine uAe (uAb ?_);refine uAa rfl rfl rfl (uAY rfl Tryz.underlying50 rfl gU) ?_;refine uAr rfl (uAt rfl rfl rfl rfl rfl rfl rfl) ?_;refine uAa rfl rfl rfl (uAd rfl gU) ?_;refine uAa rfl rfl rfl (uAd rfl gU) ?_;refine uAf ?_;refine uAp ?_
     repeat (first | refine tR ?_ | refine bR ?_)
     refine uAv rfl ?_ trivial
     (rw [← hi]; rfl)
    ·try simp only [nn] at hc4
     rw [if_neg (by omega)] at hi
     refine uAq ?_;refine uAe (uAb ?_);refine uAa rfl rfl rfl (uAc rfl gU) ?_;refine uAa rfl rfl rfl (uAz rfl rfl gU gU rfl (IntWalk.i64_in _ (by omega))) ?_;refine uAa rfl rfl rfl (uAc rfl gU) ?_;refine uAa rfl rfl rfl (uAz rfl rfl gU gU rfl (IntWalk.i64_in _ (by omega))) ?_;refine uAa rfl rfl rfl (uAd rfl gU) ?_;refine uAf ?_;refine uAk (s:=⟨[(0,_,_),(2,_,_),(7,_,_),(8,_,_)],[(.l 2,_)],[],[]⟩) (uAj (⟨sx rfl,sx rfl,sx rfl,sx rfl,trivial⟩) (⟨sx rfl,trivial⟩) trivial) ?_;refine uAb ?_;refine uAa rfl rfl rfl (uAc rfl gU) ?_;refine uAa rfl rfl rfl (uAz rfl rfl gU gU rfl (IntWalk.i64_in _ (by omega))) ?_;refine uAa rfl rfl rfl (uAd rfl gU) ?_;refine uAf ?_;refine ⟨(k + 1,10 * v + (((s.getD k 0).toNat : Int) - 48)),?_,?_,uAj (⟨⟨_,rfl,?_⟩,⟨⟨_,rfl,?_⟩,⟨sx rfl,sx rfl,trivial⟩⟩⟩) (⟨sx rfl,trivial⟩) trivial⟩
     all_goals (first | rfl | omega | exact ⟨by omega,by omega,by omega,hi⟩)
   ·try simp only [nn] at hc3
    have hn : numA (s.drop k) k v=(true,k,v):=by
     by_cases hlt : k < s.length
     ·rw [uBi hlt,numA,if_neg]
      intro q
      rcases hc3 with z | z
      ·omega
      ·rw [q] at z; simp at z
     ·rw [List.drop_of_length_le (by omega)]; rfl
    rw [hn] at hi
    refine uAQ ?_
    repeat (first | refine uAE ?_ | refine uAD ?_ | refine uAC rfl ?_)
    refine uAe (uAb ?_);refine uAa rfl rfl rfl (uAc rfl gU) ?_;refine uAa rfl rfl rfl (uAY rfl Tryz.underlying50 rfl gU) ?_;refine uAa rfl rfl rfl (uAc rfl gU) ?_;refine uAr rfl (uAt rfl rfl rfl rfl rfl rfl rfl) ?_;refine uAa rfl rfl rfl (uAd rfl gU) ?_;refine uAa rfl rfl rfl (uAd rfl gU) ?_;refine uAf ?_;refine uAp ?_
    repeat (first | refine tR ?_ | refine bR ?_)
    refine uAv rfl ?_ trivial
    (rw [← hi]; rfl)
  ·try simp only [nn] at hc2
   rw [if_neg (by rw [hc2]; exact Bool.false_ne_true)]
   refine uAe (uAb ?_);refine uAa rfl rfl rfl (uAc rfl gU) ?_;refine uAa rfl rfl rfl (uAm rfl rfl gU gU rfl) ?_;refine uAa rfl rfl rfl (uAd rfl gU) ?_;refine uAf ?_;refine uAn rfl (fun hc3=>?_) (fun hc3=>?_)
   ·try simp only [nn] at hc3
    rw [if_pos (by omega)]
    refine uAe (uAb ?_);refine uAa rfl rfl rfl (uAc rfl gU) ?_;refine uAw rfl rfl rfl rfl rfl rfl gU gU (uMy _ (by omega) (by omega)) rfl ?_;refine uAa rfl rfl rfl (uAc rfl gU) ?_;refine uAa rfl rfl rfl (uAu rfl gU rfl) ?_;refine uAa rfl rfl rfl (uAu rfl gU rfl) ?_;refine uAa rfl rfl rfl (uAd rfl gU) ?_;refine uAa rfl rfl rfl (uAd rfl gU) ?_;refine uAf ?_;refine uAk (s:=⟨[(2,_,_),(10,_,_),(11,_,_)],[(.l 2,_)],[],[]⟩) (uAj (⟨sx rfl,sx rfl,sx rfl,trivial⟩) (⟨sx rfl,trivial⟩) trivial) ?_;refine uAe ?_;refine uAe (uAb ?_);refine uAa rfl rfl rfl (uAc rfl gU) ?_;refine uAa rfl rfl rfl (uAm rfl rfl gU gU rfl) ?_;refine uAf ?_;refine uAn rfl (fun hc4=>?_) (fun hc4=>?_)
    ·try simp only [nn] at hc4
     refine uAe (uAb ?_);refine uAa rfl rfl rfl (uAY rfl Tryz.underlying50 rfl gU) ?_;refine uAr rfl (uAt rfl rfl rfl rfl rfl rfl rfl) ?_;refine uAa rfl rfl rfl (uAd rfl gU) ?_;refine uAa rfl rfl rfl (uAd rfl gU) ?_;refine uAf ?_;refine uAp ?_
     repeat (first | refine tR ?_ | refine bR ?_)
     refine uAv rfl ?_ trivial
     (rw [if_pos (by omega)]; rfl)
    ·try simp only [nn] at hc4
     refine uAq ?_;refine uAe (uAb ?_);refine uAa rfl rfl rfl (uAc rfl gU) ?_;refine uAa rfl rfl rfl (uAY rfl Tryz.underlying50 rfl gU) ?_;refine uAa rfl rfl rfl (uAc rfl gU) ?_;refine uAr rfl (uAt rfl rfl rfl rfl rfl rfl rfl) ?_;refine uAa rfl rfl rfl (uAd rfl gU) ?_;refine uAa rfl rfl rfl (uAd rfl gU) ?_;refine uAf ?_;refine uAp ?_
     repeat (first | refine tR ?_ | refine bR ?_)
     refine uAv rfl ?_ trivial
     (rw [if_neg (by omega)]; rfl)
   ·try simp only [nn] at hc3
    rw [if_neg (by omega)]
    have hs4:=uL8 (s.getD 0 0)
    refine uAe (uAb ?_);refine uAa rfl rfl rfl (uAc rfl gU) ?_;refine uAw rfl rfl rfl rfl rfl rfl gU gU (uDE syms (s.getD 0 0) _ rfl) rfl ?_;refine uAa rfl rfl rfl (uAm rfl rfl gU gU rfl) ?_;refine uAa rfl rfl rfl (uAd rfl gU) ?_;refine uAf ?_;refine uAk (s:=⟨[(0,_,_),(2,_,_),(74,_,_)],[(.l 2,_)],[],[]⟩) (uAj (⟨sx rfl,sx rfl,sx rfl,trivial⟩) (⟨sx rfl,trivial⟩) trivial) ?_;refine uAn rfl (fun hc4=>?_) (fun hc4=>?_)
    ·try simp only [nn] at hc4
     rw [if_pos (by rw [← hs4]; exact decide_eq_true (by omega))]
     refine uAe (uAb ?_);refine uAa rfl rfl rfl (uAc rfl gU) ?_;refine uAa rfl rfl rfl (uBr (h':=1) rfl gU Tryz.underlying9 (fun _=>rfl) (fun _=>⟨_,_,_,rfl,gU,by first | omega | (simp at hh ⊢; omega)⟩) (fun hh=>by first | omega | (simp at hh ⊢; omega)) (fun hh=>by first | omega | (simp at hh ⊢; omega))) ?_;refine uAa rfl rfl rfl (uAY rfl Tryz.underlying50 rfl gU) ?_;refine uAr rfl (uAt rfl rfl rfl rfl rfl rfl rfl) ?_;refine uAa rfl rfl rfl (uAd rfl gU) ?_;refine uAa rfl rfl rfl (uAd rfl gU) ?_;refine uAf ?_;refine uAp ?_
     repeat (first | refine tR ?_ | refine bR ?_)
     refine uAv rfl ?_ trivial
     rfl
    ·try simp only [nn] at hc4
     rw [if_neg (by rw [← hs4,decide_eq_false (by omega)]; exact Bool.false_ne_true)]
     refine uAq ?_;refine uAe (uAb ?_);refine uAa rfl rfl rfl (uAY rfl Tryz.underlying50 rfl gU) ?_;refine uAr rfl (uAt rfl rfl rfl rfl rfl rfl rfl) ?_;refine uAa rfl rfl rfl (uAd rfl gU) ?_;refine uAa rfl rfl rfl (uAd rfl gU) ?_;refine uAf ?_;refine uAp ?_
     repeat (first | refine tR ?_ | refine bR ?_)
     refine uAv rfl ?_ trivial
     rfl
end Go.Proofs.YtnjjdbapadkomaaGreatDoor
namespace Go.Proofs.YtnjjdbapadkomaaGreatDoor
open Go Go.Abs
theorem uK9 {n : Nat} {l : List UInt8} {k : Int} {out : List Tk} (h : ¬(uBC l=[]∨[35,35].isPrefixOf (uBC l)=true)) (he : (uBR (uBC l)).2.2=0) :
  uBv (n + 1) l k out=uBv n ((uBC l).drop (uBR (uBC l)).2.1) k (out++[(uBR (uBC l)).1.onl k]):=by
 rw [uBv,if_neg h,if_neg (by rw [he]; exact fun q=>q rfl)]
theorem uGn (s : List UInt8) (hs : s.length≤9223372036854775807) : Ctr sys 58 [xs s] [] (uNx (tokP s)) none []:=by
 have hsl:=uGI s
 refine uAA Tryz.func58 rfl rfl rfl rfl rfl rfl ?_;refine uAe (uAb ?_);refine uAr rfl (uBy (.inr rfl) rfl rfl) ?_;refine uAa rfl rfl rfl (uAd rfl gU) ?_;refine uAa rfl rfl rfl (uAd rfl gU) ?_;refine uAf ?_;refine uAe ?_;refine uAe (uAb ?_);refine uAa rfl rfl rfl (uAc rfl gU) ?_;refine uBw rfl rfl rfl rfl rfl gU (Tryz.underlying9) ?_ (fun hh=>by simp at hh); intro hlen;refine uAa rfl rfl rfl (uAm rfl rfl gU gU rfl) ?_;refine uAf ?_;refine uAk (s:=⟨[(0,_,_),(13,_,_)],[],[],[]⟩) (uAj (⟨sx rfl,sx rfl,trivial⟩) trivial trivial) ?_;refine uAn rfl (fun hc=>?_) (fun hc=>?_)
 ·try simp only [nn,uAh,Tk.rows_len] at hc
  refine uAe (uAb ?_);refine uAr rfl (uBy (.inr rfl) rfl rfl) ?_;refine uAa rfl rfl rfl (uAd rfl gU) ?_;refine uAa rfl rfl rfl (uAd rfl gU) ?_;refine uAf ?_;refine uAp ?_
  repeat (first | refine tR ?_ | refine bR ?_)
  refine uAv rfl ?_ trivial
  (rw [tokP,if_pos (by omega)]; rfl)
 ·try simp only [nn,uAh,Tk.rows_len] at hc
  rw [tokP,if_neg (by omega)]
  refine uAq ?_;refine uAe (uAb ?_);refine uAr rfl (uBy (.inr rfl) rfl rfl) ?_;refine uAf ?_;refine uAe ?_;refine uAe (uAb ?_);refine uAa rfl rfl rfl (uAc rfl gU) ?_;refine uAw rfl rfl rfl rfl rfl rfl gU gU (uHt _ (by omega)) rfl ?_;refine uAS rfl rfl rfl rfl rfl gU rfl rfl ?_ (fun hh=>by simp at hh); intro hlen;refine uAa rfl rfl rfl (uAc rfl gU) ?_;refine uAf ?_;refine uAk (s:=⟨[(5,_,_),(15,_,_),(16,_,_),(17,_,_)],[],[(.t 5,_)],[]⟩) (uAj (⟨sx rfl,sx rfl,sx rfl,sx rfl,trivial⟩) trivial (⟨rfl,trivial⟩)) ?_;refine uAx ?_;refine uA6 (ι:=Nat × List Tk) { t:=[(15,_,_),(16,_,_)],bx:=[],ow:=[(.t 5,_)] } (fun p=>[(17,true,xi (p.1 : Int)),(5,true,xts p.2)]) (fun p=>[]) (fun p=>p.1≤(spl s).length∧p.2.length≤70000 * p.1∧uCY ((spl s).drop p.1) (p.1 + 1) p.2=uCY (spl s) 1 []) (fun p=>(spl s).length - p.1) ((0,[])) (⟨by simp,by simp,rfl⟩) (uAj (⟨sx rfl,sx rfl,sx rfl,sx rfl,trivial⟩) trivial (⟨rfl,trivial⟩)) ?_
  intro p hok
  dsimp only [List.cons_append,List.nil_append] at *
  obtain ⟨k,out⟩:=p
  dsimp only at hok ⊢
  obtain ⟨hk,ho,hi⟩:=hok
  refine uAe (uAb ?_);refine uAa rfl rfl rfl (uAm rfl rfl gU gU rfl) ?_;refine uAf ?_;refine uAe ?_;refine uAn rfl (fun hc2=>?_) (fun hc2=>?_)
  ·try simp only [nn,uAh,Tk.rows_len] at hc2
   rw [uG0 (d:=[]) (by omega),uCY] at hi
   have hL:=uN5 s k
   refine uAq ?_;refine uAe ?_;refine uAx ?_;refine uAe (uAb ?_);refine uAa rfl rfl rfl (uAc rfl gU) ?_;refine uAa rfl rfl rfl (uAy rfl rfl gU gU rfl rfl rfl (fun hh=>uC3 (by first | omega | (simp at hh ⊢; omega)))) ?_;refine uAa rfl rfl rfl (uAR rfl gU rfl rfl rfl) ?_;refine uAa rfl rfl rfl (uAd rfl gU) ?_;refine uAa rfl rfl rfl (uAd rfl gU) ?_;refine uAf ?_;refine uAk (s:=⟨[(5,_,_),(6,_,_),(7,_,_),(15,_,_),(16,_,_),(17,_,_)],[],[(.t 5,_)],[]⟩) (uAj (⟨sx rfl,sx rfl,sx rfl,sx rfl,sx rfl,sx rfl,trivial⟩) trivial (⟨rfl,trivial⟩)) ?_;refine uAx ?_;refine uA6 (ι:=List UInt8 × List Tk) { t:=[(6,_,_),(15,_,_),(16,_,_),(17,_,_)],bx:=[],ow:=[(.t 5,_)] } (fun q=>[(7,true,xs q.1),(5,true,xts q.2)]) (fun q=>[]) (fun q=>q.1.length≤((spl s).getD k []).length∧q.2.length + q.1.length≤out.length + ((spl s).getD k []).length ∧ ∃ n,q.1.length < n∧uBv n q.1 ((k + 1 : Nat) : Int) q.2=uBv (((spl s).getD k []).length + 1) ((spl s).getD k []) ((k + 1 : Nat) : Int) out) (fun q=>q.1.length) (((spl s).getD k [],out)) (⟨by simp,by simp,_,by dsimp only; omega,rfl⟩) (uAj (⟨sx rfl,sx rfl,sx rfl,sx rfl,sx rfl,sx rfl,trivial⟩) trivial (⟨rfl,trivial⟩)) ?_
   intro q hokq
   dsimp only [List.cons_append,List.nil_append] at *
   obtain ⟨l,o2⟩:=q
   dsimp only at hokq ⊢
   obtain ⟨hl,ho2,n,hn,hi2⟩:=hokq
   obtain ⟨n,rfl⟩ : ∃ m,n=m + 1:=⟨n - 1,by omega⟩
   have htl:=uF0 l
   refine uAx ?_;refine uAe (uAb ?_);refine uAa rfl rfl rfl (uAc rfl gU) ?_;refine uAw rfl rfl rfl rfl rfl rfl gU gU (uHQ _ (by omega)) rfl ?_;refine uAa rfl rfl rfl (uAd rfl gU) ?_;refine uAf ?_;refine uAe ?_;refine uAe (uAb ?_);refine uAa rfl rfl rfl (uAc rfl gU) ?_;refine uAa rfl rfl rfl (uA9 rfl rfl gU gU rfl) ?_;refine uAa rfl rfl rfl (uAc rfl gU) ?_;refine uAa rfl rfl rfl (uAc rfl gU) ?_;refine uAw rfl rfl rfl rfl rfl rfl gU (fun hh=>gA ((fun hh=>hh) hh) (gA rfl (rfl))) (uEB _ _) rfl ?_;refine uAa rfl rfl rfl (uAJ rfl rfl gU (fun _ hi=>gP rfl hi)) ?_;refine uAf ?_;refine uAk (s:=⟨[(5,_,_),(6,_,_),(7,_,_),(15,_,_),(16,_,_),(17,_,_),(29,_,_)],[],[(.t 5,_)],[]⟩) (uAj (⟨sx rfl,sx rfl,sx rfl,sx rfl,sx rfl,sx rfl,sx rfl,trivial⟩) trivial (⟨rfl,trivial⟩)) ?_;refine uAn rfl (fun hc3=>?_) (fun hc3=>?_)
   ·try simp only [nn,uAh,Tk.rows_len] at hc3
    rw [uBv,if_pos hc3] at hi2
    rw [← hi2] at hi
    refine uAQ ?_
    repeat (first | refine uAE ?_ | refine uAD ?_ | refine uAC rfl ?_)
    refine uAb ?_;refine uAa rfl rfl rfl (uAz rfl rfl gU gU rfl (IntWalk.i64_in _ (by omega))) ?_;refine uAa rfl rfl rfl (uAc rfl gU) ?_;refine uAf ?_;refine ⟨(k + 1,o2),?_,?_,uAj (⟨⟨_,rfl,?_⟩,⟨⟨_,rfl,?_⟩,⟨sx rfl,sx rfl,trivial⟩⟩⟩) trivial (⟨rfl,trivial⟩)⟩
    all_goals first | rfl | omega | (refine ⟨by dsimp only; omega,by dsimp only; omega,?_⟩; exact hi)
   ·try simp only [nn,uAh,Tk.rows_len] at hc3
    have hne : 0 < (uBC l).length:=List.length_pos_iff.2 fun q=>hc3.1 q
    have hnx:=uFH hne
    refine uAq ?_;refine uAe (uAb ?_);refine uAa rfl rfl rfl (uAc rfl gU) ?_;refine uAw rfl rfl rfl rfl rfl rfl gU gU (uL7 _ hne (by omega)) rfl ?_;refine uAa rfl rfl rfl (uAc rfl gU) ?_;refine uAa rfl rfl rfl (uAu rfl gU rfl) ?_;refine uAa rfl rfl rfl (uAu rfl gU rfl) ?_;refine uAa rfl rfl rfl (uAu rfl gU rfl) ?_;refine uAr rfl (uAG rfl rfl rfl) ?_;refine uAr rfl (uAt rfl rfl rfl rfl rfl rfl rfl) ?_;refine uAa rfl rfl rfl (uAd rfl gU) ?_;refine uAa rfl rfl rfl (uAd rfl gU) ?_;refine uAf ?_;refine uAk (s:=⟨[(5,_,_),(6,_,_),(7,_,_),(8,_,_),(9,_,_),(10,_,_),(15,_,_),(16,_,_),(17,_,_)],[(.l 8,_)],[(.t 5,_)],[]⟩) (uAj (⟨sx rfl,sx rfl,sx rfl,sx rfl,sx rfl,sx rfl,sx rfl,sx rfl,sx rfl,trivial⟩) (⟨sx rfl,trivial⟩) (⟨rfl,trivial⟩)) ?_;refine uAe ?_;refine uAe (uAb ?_);refine uAa rfl rfl rfl (uAc rfl gU) ?_;refine uAa rfl rfl rfl (uAm rfl rfl gU gU rfl) ?_;refine uAf ?_;refine uAn rfl (fun hc4=>?_) (fun hc4=>?_)
    ·try simp only [nn,uAh,Tk.rows_len] at hc4
     rw [uBv,if_neg (by intro q; rcases q with q | q; exact hc3.1 q; rw [q] at hc3; simp at hc3),if_pos hc4] at hi2
     rw [← hi2,if_pos hc4] at hi
     refine uAe (uAb ?_);refine uAa rfl rfl rfl (uAc rfl gU) ?_;refine uAa rfl rfl rfl (uAz rfl rfl gU gU rfl (IntWalk.i64_in _ (by omega))) ?_;refine uAa rfl rfl rfl (uAc rfl gU) ?_;refine uAr rfl (uBy (.inr rfl) rfl rfl) ?_;refine uAa rfl rfl rfl (uAd rfl gU) ?_;refine uAa rfl rfl rfl (uAd rfl gU) ?_;refine uAf ?_;refine uAp ?_
     repeat (first | refine tR ?_ | refine bR ?_)
     refine uAv rfl ?_ trivial
     (rw [← hi]; rfl)
    ·try simp only [nn,uAh,Tk.rows_len] at hc4
     have h4:=hnx.2 hc4
     rw [uK9 (by intro q; rcases q with q | q; exact hc3.1 q; rw [q] at hc3; simp at hc3) hc4] at hi2
     refine uAq ?_;refine uAe (uAb ?_);refine uAa rfl rfl rfl (uAc rfl gU) ?_;refine uAa rfl rfl rfl (uAz rfl rfl gU gU rfl (IntWalk.i64_in _ (by omega))) ?_;refine uAa rfl rfl rfl (uAg rfl gU rfl rfl) ?_;refine uAr rfl (uAt rfl rfl rfl rfl rfl rfl rfl) ?_;refine uAf ?_;refine uAk (s:=⟨[(5,_,_),(6,_,_),(7,_,_),(8,_,_),(9,_,_),(15,_,_),(16,_,_),(17,_,_)],[(.l 8,_)],[(.t 5,_)],[]⟩) (uAj (⟨sx rfl,sx rfl,sx rfl,sx rfl,sx rfl,sx rfl,sx rfl,sx rfl,trivial⟩) (⟨sx rfl,trivial⟩) (⟨rfl,trivial⟩)) ?_;refine uAe (uAb ?_);refine uAr rfl (uAL (.inl rfl) rfl rfl rfl) ?_;refine uAa rfl rfl rfl (uAo rfl gU rfl rfl rfl rfl rfl) ?_;refine uAH (xs:=[_]) rfl rfl rfl rfl rfl rfl rfl rfl rfl gU rfl ?_;refine uAr rfl (uA0 rfl rfl rfl rfl rfl rfl rfl (by first | omega | (simp only [List.length_append,List.length_singleton,Tk.rows_len,uAh]; omega)) (by first | omega | (simp only [List.length_append,List.length_singleton,Tk.rows_len,uAh]; omega))) ?_;refine uAr rfl (uAL (.inr rfl) rfl rfl rfl) ?_;refine uAf ?_;refine uAk (s:=⟨[(5,_,_),(6,_,_),(7,_,_),(9,_,_),(15,_,_),(16,_,_),(17,_,_)],[],[(.t 5,_)],[]⟩) (uAj (⟨sx rfl,sx rfl,sx rfl,sx rfl,sx rfl,sx rfl,sx rfl,trivial⟩) trivial (⟨rfl,trivial⟩)) ?_;refine uAb ?_
     refine uAa rfl rfl rfl (uAc rfl gU) ?_;refine uAa rfl rfl rfl (uAc rfl gU) ?_;refine uAa rfl rfl rfl (uBr (l:=(uBR (uBC l)).2.1) rfl gU Tryz.underlying9 (fun _=>⟨_,_,_,rfl,gU,by first | omega | (simp at hh ⊢; omega)⟩) (fun _=>rfl) (fun hh=>by first | omega | (simp at hh ⊢; omega)) (fun hh=>by first | omega | (simp at hh ⊢; omega))) ?_;refine uAa rfl rfl rfl (uAd rfl gU) ?_;refine uAf ?_;refine ⟨((uBC l).drop (uBR (uBC l)).2.1,o2++[(uBR (uBC l)).1.onl ((k + 1 : Nat) : Int)]),?_,?_,uAj (⟨⟨_,rfl,?_⟩,⟨⟨_,rfl,?_⟩,⟨sx rfl,sx rfl,sx rfl,sx rfl,trivial⟩⟩⟩) trivial (⟨rfl,trivial⟩)⟩
     all_goals first | rfl | exact tx (uJt o2 ((uBR (uBC l)).1.onl ((k + 1 : Nat) : Int))) | exact tx (congrArg xs (by rw [List.take_length])) | (simp only [List.take_length,List.length_drop,List.length_append,List.length_singleton]; omega) | (refine ⟨?_,?_,n,?_,hi2⟩ <;> (simp only [List.length_drop,List.length_append,List.length_singleton]; omega))
  ·try simp only [nn,uAh,Tk.rows_len] at hc2
   rw [List.drop_of_length_le (by omega),uCY] at hi
   refine uAQ ?_
   repeat (first | refine uAE ?_ | refine uAD ?_ | refine uAC rfl ?_)
   refine uAe (uAb ?_);refine uAr rfl (uAL (.inl rfl) rfl rfl rfl) ?_;refine uAr rfl (uAL (.inr rfl) rfl rfl rfl) ?_;refine uAa rfl rfl rfl (uAd rfl gU) ?_;refine uAa rfl rfl rfl (uAd rfl gU) ?_;refine uAf ?_;refine uAp ?_
   repeat (first | refine tR ?_ | refine bR ?_)
   refine uAv rfl ?_ trivial
   (rw [← hi]; rfl)
end Go.Proofs.YtnjjdbapadkomaaGreatDoor
