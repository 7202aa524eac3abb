/- Our abstract program logic and contracts of this seat's functions, part 4: no statement of its own (long names of ours are shortened by a program). -/
import Derived.Test.YteidahabkfgfjaaGreatM3
import Derived.Lib.Join
import Derived.RangeFuncNested
import Derived.RangeFuncLeaves
import Derived.Shelf.Abstract
import Derived.WalkKit
import Derived.OwnWalkIn
import Derived.TacticsInMore
import Derived.LoopNIn
import Derived.LoopIn
import Derived.KernelRfl
set_option linter.unusedVariables false
set_option linter.unusedSimpArgs false
namespace Go.Proofs.YteidahabkfgfjaaGreat
open Go Go.Abs
abbrev xtb (R : List (List UInt8)) (u : Value) : X:=.v (.agg [.sl 1 (strR R), .o u])
theorem U6 (t : T) (w : List UInt8) (k : Int) : Ctr sys 78 [xm t,xs w,xi k] [] (xb (isT t w k)) none []:=by
 have hr:=T.rows_len t.kids
 refine D1 Tryz.func78 J J J J J J ?_;refine A8 (A6 ?_);refine C3 J (E2 J J J J) ?_;refine A5 J J J (A9 J gU) ?_;refine B0 ?_;refine A8 (A6 ?_);refine A5 J J J (B1 J gU J J) ?_;refine A5 J J J (B2 J gU J J J J) ?_;refine A5 J J J (B6 J J gU gU J) ?_;refine A5 J J J (A7 J gU) ?_;refine A5 J J J (B1 J gU J J) ?_;refine A5 J J J (B2 J (fun hh=>hh) J J J J) ?_;refine A5 J J J (A7 J gU) ?_;refine A5 J J J (H1 J J (fun hh=>hh) (fun hh=>hh) J) ?_;refine A5 J J J (E4 J J gU (fun _ hi=>gP J hi)) ?_;refine A5 J J J (A7 J gU) ?_;refine H5 (s:=⟨[(2,_,_),(3,_,_),(16,_,_)],[(.l 3,_)],[],[]⟩) (B3 (⟨U J,U J,U J,O⟩) (⟨U J,O⟩) O) ?_;refine A5 J J J (B1 J gU J J) ?_;refine A5 J J J (B2 J (fun hh=>hh) J J J J) ?_;refine A5 J J J (G7 J (fun hh=>hh) J J) ?_;refine A5 J J J (A7 J gU) ?_;refine A5 J J J (B6 J J (fun hh=>hh) (fun hh=>hh) J) ?_;refine A5 J J J (E4 J J gU (fun _ hi=>gP J hi)) ?_;refine A5 J J J (A9 J gU) ?_
 refine B0 ?_;refine C1 ?_
 repeat(first|refine tR ?_|refine bR ?_)
 refine C5 J ?_ O;refine N0 ?_
 rw[Bool.eq_iff_iff]
 simp [isT,hr,and_assoc]
theorem Di (R : List (List UInt8)) (u : Value) (t : T) : Ctr sys 81 [xtb R u,xm t] [] (xb (Ek R t)) none []:=by
 refine D1 Tryz.func81 J J J J J J ?_;refine A8 (A6 ?_);refine C3 J (E2 J J J J) ?_;refine C3 J (E2 J J J J) ?_;refine A5 J J J (A9 J gU) ?_;refine B0 ?_;refine A8 (A6 ?_);refine A5 J J J (B1 J gU J J) ?_;refine A5 J J J (B2 J gU J J J J) ?_;refine A5 J J J (B6 J J gU gU J) ?_;refine A5 J J J (A7 J gU) ?_;refine A5 J J J (B1 J gU J J) ?_;refine A5 J J J (B2 J (fun hh=>hh) J J J J) ?_;refine A5 J J J (B1 J gU J J) ?_;refine A5 J J J (B2 J (fun hh=>hh) J J J J) ?_;refine C8 J J J J J J gU (fun hh=>gA ((fun hh=>hh) hh) (gA ((fun hh=>hh) hh) (rfl))) (O5 _ _) J ?_;refine H5 (s:=⟨[(8,_,_),(13,_,_)],[],[],[]⟩) (B3 (⟨U J,U J,O⟩) O O) ?_;refine A5 J J J (E4 J J gU (fun _ hi=>gP J hi)) ?_;refine A5 J J J (A9 J gU) ?_;refine B0 ?_;refine C1 ?_
 repeat(first|refine tR ?_|refine bR ?_)
 refine C5 J ?_ O;refine N0 ?_
 rw[Bool.eq_iff_iff]
 simp [Ek]
theorem Jn (R : List (List UInt8)) (u : Value) (t : T) : Ctr sys 80 [xtb R u,xm t] [] (xb (Gn R t)) none []:=by
 have hr:=T.rows_len t.kids
 refine D1 Tryz.func80 J J J J J J ?_;refine A8 (A6 ?_);refine C3 J (E2 J J J J) ?_;refine C3 J (E2 J J J J) ?_;refine A5 J J J (A9 J gU) ?_;refine B0 ?_;refine A8 ?_;refine awp_drawn' (by kernel_rfl) ?_;refine D5 J J J J J J J gU J J J J J ?_;refine F3 J J J J J J J gU gU (U6 _ _ _) J ?_;refine B9 J J J J (A7 J gU) ?_;refine D5 J J J J J J J gU J J J J J ?_;refine B9 J J J J (B1 J gU J J) ?_;refine L9 J J J J J J J (fun hh=>hh) J J J J ?_;refine B9 J J J J (C7 (j:=0) J J (fun hh=>hh) gU J J (by first|omega|(simp at hh ⊢; omega)|(simp [isT] at hh ⊢; omega)) (fun hh=>T.rows_at (by first|omega|(simp at hh ⊢; omega)|(simp [isT] at hh ⊢; omega)))) ?_;refine B9 J J J J (D6 J (fun hh=>hh) J J J J) ?_;refine F3 J J J J J J J gU (fun hh=>gA ((fun hh=>hh) hh) (gA ((fun hh=>hh) hh) (rfl))) (Di _ _ _) J ?_;refine B9 J J J J (E4 J J gU (fun _ hi=>gP J hi)) ?_;refine B9 J J J J (A9 J gU) ?_;refine F8 (by kernel_rfl) ?_;refine C1 ?_
 repeat(first|refine tR ?_|refine bR ?_)
 refine C5 J ?_ O
 rfl
theorem Lp (R : List (List UInt8)) (u : Value) (t : T) : Ctr sys 79 [xtb R u,xm t] [] (xb (pubT R t)) none []:=by
 have hr:=T.rows_len t.kids
 refine D1 Tryz.func79 J J J J J J ?_;refine A8 (A6 ?_);refine C3 J (E2 J J J J) ?_;refine C3 J (E2 J J J J) ?_;refine A5 J J J (A9 J gU) ?_;refine B0 ?_;refine A8 ?_;refine awp_drawn' (by kernel_rfl) ?_;refine D5 J J J J J J J gU J J J J J ?_;refine F3 J J J J J J J gU gU (U6 _ _ _) J ?_;refine B9 J J J J (A7 J gU) ?_;refine D5 J J J J J J J gU J J J J J ?_;refine B9 J J J J (B1 J gU J J) ?_;refine L9 J J J J J J J (fun hh=>hh) J J J J ?_;refine B9 J J J J (C7 (j:=0) J J (fun hh=>hh) gU J J (by first|omega|(simp at hh ⊢; omega)|(simp [isT] at hh ⊢; omega)) (fun hh=>T.rows_at (by first|omega|(simp at hh ⊢; omega)|(simp [isT] at hh ⊢; omega)))) ?_;refine B9 J J J J (D6 J (fun hh=>hh) J J J J) ?_;refine F3 J J J J J J J gU (fun hh=>gA ((fun hh=>hh) hh) (gA ((fun hh=>hh) hh) (rfl))) (Jn _ _ _) J ?_;refine B9 J J J J (E4 J J gU (fun _ hi=>gP J hi)) ?_;refine B9 J J J J (A9 J gU) ?_;refine F8 (by kernel_rfl) ?_;refine C1 ?_
 repeat(first|refine tR ?_|refine bR ?_)
 refine C5 J ?_ O
 rfl
theorem Ll (R : List (List UInt8)) (u : Value) (a b : List UInt8) : Ctr sys 40 [xtb R u,xs a,xs b] [] (xi (twoE R a b)) none []:=by
 refine D1 Tryz.func40 J J J J J J ?_;refine A8 (A6 ?_);refine C3 J (E2 J J J J) ?_;refine A5 J J J (A9 J gU) ?_;refine B0 ?_;refine A8 ?_;refine C4 ?_;refine A8 (A6 ?_);refine A5 J J J (B1 J gU J J) ?_;refine A5 J J J (B2 J gU J J J J) ?_;refine A5 J J J (A7 J gU) ?_;refine C8 J J J J J J gU gU (O5 _ _) J ?_;refine A5 J J J (F2 J gU) ?_;refine A5 J J J (A7 J gU) ?_;refine A5 J J J (B1 J gU J J) ?_;refine A5 J J J (B2 J (fun hh=>hh) J J J J) ?_;refine A5 J J J (A7 J gU) ?_;refine C8 J J J J J J gU (fun hh=>gA ((fun hh=>hh) hh) (gA ((fun hh=>hh) hh) (rfl))) (O5 _ _) J ?_;refine H5 (s:=⟨[(1,_,_),(2,_,_),(13,_,_),(17,_,_)],[],[],[]⟩) (B3 (⟨U J,U J,U J,U J,O⟩) O O) ?_;refine A5 J J J (F2 J (fun hh=>hh)) ?_;refine A5 J J J (D9 J J gU (fun _ hi=>gP J hi)) ?_;refine A5 J J J (A9 J gU) ?_;refine B0 ?_;refine B8 J (fun hc=>?_) (fun hc=>?_)
 ·try simp only [nn,B4,nq] at hc
  refine A8 (A6 ?_);refine A5 J J J (A9 J gU) ?_;refine B0 ?_;refine C1 ?_
  repeat(first|refine tR ?_|refine bR ?_)
  refine C5 J ?_ O
  (rw[twoE,if_pos hc]; rfl)
 ·try simp only [nn,B4,nq] at hc
  have h1 : ¬(R.contains a=false∨R.contains b=false):=by simpa using hc
  refine A8 (A6 ?_);refine A5 J J J (A7 J gU) ?_;refine A5 J J J (A7 J gU) ?_;refine A5 J J J (H1 J J gU gU J) ?_;refine A5 J J J (A9 J gU) ?_;refine B0 ?_;refine B5 (s:=⟨[(20,_,_)],[],[],[]⟩) (B3 (⟨U J,O⟩) O O) ?_;refine B8 J (fun hc2=>?_) (fun hc2=>?_)
  ·try simp only [nn,B4,nq] at hc2
   refine A8 (A6 ?_);refine A5 J J J (A9 J gU) ?_;refine B0 ?_;refine C1 ?_
   repeat(first|refine tR ?_|refine bR ?_)
   refine C5 J ?_ O
   (rw[twoE,if_neg h1,if_pos hc2]; rfl)
  ·try simp only [nn,B4,nq] at hc2
   refine C0 ?_;refine A8 (A6 ?_);refine A5 J J J (A9 J gU) ?_;refine B0 ?_;refine C1 ?_
   repeat(first|refine tR ?_|refine bR ?_)
   refine C5 J ?_ O
   (rw[twoE,if_neg h1,if_neg hc2]; rfl)
theorem Bv (n : Nar) : CtrM sys 39 [xn n] (fun b=>xtb n.roles (.map (some b))) (mapL (nmsL n)):=by
 have l1:=B4 n.roles
 have l2:=Fs.rows_len n.fresh
 have l3:=B4 n.tags
 refine Nu Tryz.func39 J J J J J (fun _=>rfl) ?_;refine A8 (A6 ?_);refine C3 J (E2 J J J J) ?_;refine C3 J (D7 J J J) ?_;refine B0 ?_;refine A8 (A6 ?_);refine A5 J J J (B1 J gU J J) ?_;refine A5 J J J (B2 J gU J J J J) ?_;refine Sy J J J J (fun bm12=>?_);refine A5 J J J (H0 J Tryz.underlying63 J gU) ?_;refine C3 J (D7 J J J) ?_;refine C3 J (C9 J J J J J J J) ?_;refine B0 ?_;refine B5 (s:={ t:=[(1,_,_),(2,_,_),(3,_,_)],bx:=[(.l 1,_),(.l 2,_),(.l 3,_)],ow:=[],mp:=_ }) (B3 (⟨U J,U J,U J,O⟩) (⟨U J,U J,U J,O⟩) O (.inr J)) ?_;refine A8 ?_;refine A8 (A6 ?_);refine A5 J J J (B1 J gU J J) ?_;refine A5 J J J (B2 J gU J J J J) ?_;refine E0 J J J J J gU J J ?_ (fun hh=>by simp at hh); intro hlen;refine A5 J J J (A7 J gU) ?_;refine B0 ?_;refine C4 ?_;refine Hz (ι:=Nat) { t:=[(1,_,_),(2,_,_),(3,_,_),(15,_,_),(16,_,_)],bx:=[(.l 1,_),(.l 2,_),(.l 3,_)],ow:=[] } (fun k=>[(17,true,xi (k : Int))]) (fun k=>[]) (fun k=>[(bm12,true,mapL ((n.roles.take k).map fun r=>(r,1)))]) (fun k=>k≤n.roles.length) (fun k=>n.roles.length - k) (0) (by simp) (B3 (⟨U J,U J,U J,U J,U J,U J,O⟩) (⟨U J,U J,U J,O⟩) O (.inr J)) ?_
 intro k hoka
 dsimp only [List.cons_append,List.nil_append]
 refine A8 (A6 ?_);refine A5 J J J (B6 J J gU gU J) ?_;refine B0 ?_;refine A8 ?_;refine B8 J (fun hc=>?_) (fun hc=>?_)
 ·try simp only [nn,B4,nq] at hc
  have hT : mapL ((n.roles.take (k + 1)).map fun r=>(r,1))=mput (mapL ((n.roles.take k).map fun r=>(r,1))) (n.roles.getD k []) (iv 1):=by
   rw[M2 (d:=[]) (by omega),List.map_append,List.map_cons,List.map_nil,Ch]
  refine C0 ?_;refine A8 ?_;refine C4 ?_;refine A8 (A6 ?_);refine A5 J J J (C7 J J gU gU J J J (fun hh=>R3 (by first|omega|(simp at hh ⊢; omega)|(simp [isT] at hh ⊢; omega)))) ?_;refine A5 J J J (E9 J gU J J J) ?_;refine A5 J J J (A9 J gU) ?_;refine B0 ?_;refine A6 ?_;refine A5 J J J (B1 J gU J J) ?_;refine A5 J J J (B2 J gU J J J J) ?_;refine A5 J J J (A7 J gU) ?_;refine C3 J (X4 J J J J Tryz.underlying61 Tryz.underlying9 (fun _ _ _ h=>by cases h; rfl)) ?_;refine B0 ?_;refine B5 (s:={ t:=[(1,_,_),(2,_,_),(3,_,_),(15,_,_),(16,_,_),(17,_,_)],bx:=[(.l 1,_),(.l 2,_),(.l 3,_)],ow:=[],mp:=_ }) (B3 (⟨U J,U J,U J,U J,U J,U J,O⟩) (⟨U J,U J,U J,O⟩) O (.inr J)) ?_;refine A6 ?_;refine A5 J J J (D0 J J gU gU J (IntWalk.i64_in _ (by omega))) ?_;refine A5 J J J (A7 J gU) ?_;refine B0 ?_;refine ⟨k + 1,?_,?_,B3 (⟨⟨_,rfl,?_⟩,⟨U J,U J,U J,U J,U J,O⟩⟩) (⟨U J,U J,U J,O⟩) O (.inr ?_)⟩
  all_goals (first|rfl|omega|(rw[hT]; done)|(rw[hT]; rfl))
 ·try simp only [nn,B4,nq] at hc
  have hk : k=n.roles.length:=by omega
  subst hk
  rw[List.take_length]
  refine E1 ?_
  repeat(first|refine D3 ?_|refine D4 ?_|refine D2 J ?_)
  refine A8 ?_;refine A8 (A6 ?_);refine A5 J J J (B1 J gU J J) ?_;refine A5 J J J (B2 J gU J J J J) ?_;refine E0 J J J J J gU J J ?_ (fun hh=>by simp at hh); intro hlen;refine A5 J J J (A7 J gU) ?_;refine B0 ?_;refine B5 (s:={ t:=[(1,_,_),(2,_,_),(3,_,_),(26,_,_),(27,_,_),(28,_,_)],bx:=[(.l 1,_),(.l 2,_),(.l 3,_)],ow:=[],mp:=_ }) (B3 (⟨U J,U J,U J,U J,U J,U J,O⟩) (⟨U J,U J,U J,O⟩) O (.inr J)) ?_;refine C4 ?_;refine Hz (ι:=Nat) { t:=[(1,_,_),(2,_,_),(3,_,_),(26,_,_),(27,_,_)],bx:=[(.l 1,_),(.l 2,_),(.l 3,_)],ow:=[] } (fun j=>[(28,true,xi (j : Int))]) (fun j=>[]) (fun j=>[(bm12,true,mapL (n.roles.map (fun r=>(r,1))++(n.fresh.take j).map fun f=>(f.name,f.sort)))]) (fun j=>j≤n.fresh.length) (fun j=>n.fresh.length - j) (0) (by omega) (B3 (⟨U J,U J,U J,U J,U J,U J,O⟩) (⟨U J,U J,U J,O⟩) O (.inr (by (simp <;> rfl)))) ?_
  intro j hokb
  dsimp only [List.cons_append,List.nil_append]
  refine A8 (A6 ?_);refine A5 J J J (B6 J J gU gU J) ?_;refine B0 ?_;refine A8 ?_;refine B8 J (fun hc2=>?_) (fun hc2=>?_)
  ·try simp only [nn,B4,nq] at hc2
   have hT : mapL (n.roles.map (fun r=>(r,1))++(n.fresh.take (j + 1)).map fun f=>(f.name,f.sort))=mput (mapL (n.roles.map (fun r=>(r,1))++(n.fresh.take j).map fun f=>(f.name,f.sort))) (n.fresh.getD j default).name (iv (n.fresh.getD j default).sort):=by
    rw[M2 (d:=default) (by omega),List.map_append,List.map_cons,List.map_nil,← List.append_assoc,Ch]
   refine C0 ?_;refine A8 ?_;refine C4 ?_;refine A8 (A6 ?_);refine A5 J J J (C7 J J gU gU J J J (fun hh=>Fs.rows_at (by first|omega|(simp at hh ⊢; omega)|(simp [isT] at hh ⊢; omega)))) ?_;refine A5 J J J (D6 J gU J J J J) ?_;refine C3 J (D7 J J J) ?_;refine C3 J (C9 J J J J J J J) ?_;refine B0 ?_;refine A6 ?_;refine A5 J J J (B1 J gU J J) ?_;refine A5 J J J (B2 J gU J J J J) ?_;refine A5 J J J (B1 J gU J J) ?_;refine A5 J J J (B2 J gU J J J J) ?_;refine A5 J J J (B1 J gU J J) ?_;refine A5 J J J (B2 J gU J J J J) ?_;refine C3 J (X4 J J J J Tryz.underlying61 Tryz.underlying9 (fun _ _ _ h=>by cases h; rfl)) ?_;refine B0 ?_;refine B5 (s:={ t:=[(1,_,_),(2,_,_),(3,_,_),(26,_,_),(27,_,_),(28,_,_)],bx:=[(.l 1,_),(.l 2,_),(.l 3,_)],ow:=[],mp:=_ }) (B3 (⟨U J,U J,U J,U J,U J,U J,O⟩) (⟨U J,U J,U J,O⟩) O (.inr J)) ?_;refine A6 ?_;refine A5 J J J (D0 J J gU gU J (IntWalk.i64_in _ (by omega))) ?_;refine A5 J J J (A7 J gU) ?_;refine B0 ?_;refine ⟨j + 1,?_,?_,B3 (⟨⟨_,rfl,?_⟩,⟨U J,U J,U J,U J,U J,O⟩⟩) (⟨U J,U J,U J,O⟩) O (.inr ?_)⟩
   all_goals (first|rfl|omega|(rw[hT]; done)|(rw[hT]; rfl))
  ·try simp only [nn,B4,nq] at hc2
   have hj : j=n.fresh.length:=by omega
   subst hj
   rw[List.take_length]
   refine E1 ?_
   repeat(first|refine D3 ?_|refine D4 ?_|refine D2 J ?_)
   refine A8 ?_;refine A8 (A6 ?_);refine A5 J J J (B1 J gU J J) ?_;refine A5 J J J (B2 J gU J J J J) ?_;refine E0 J J J J J gU J J ?_ (fun hh=>by simp at hh); intro hlen;refine A5 J J J (A7 J gU) ?_;refine B0 ?_;refine B5 (s:={ t:=[(2,_,_),(3,_,_),(40,_,_),(41,_,_),(42,_,_)],bx:=[(.l 2,_),(.l 3,_)],ow:=[],mp:=_ }) (B3 (⟨U J,U J,U J,U J,U J,O⟩) (⟨U J,U J,O⟩) O (.inr J)) ?_;refine C4 ?_;refine Hz (ι:=Nat) { t:=[(2,_,_),(3,_,_),(40,_,_),(41,_,_)],bx:=[(.l 2,_),(.l 3,_)],ow:=[] } (fun i=>[(42,true,xi (i : Int))]) (fun i=>[]) (fun i=>[(bm12,true,mapL (n.roles.map (fun r=>(r,1))++(n.fresh.map (fun f=>(f.name,f.sort))++(n.tags.take i).map fun g=>(g,5))))]) (fun i=>i≤n.tags.length) (fun i=>n.tags.length - i) (0) (by omega) (B3 (⟨U J,U J,U J,U J,U J,O⟩) (⟨U J,U J,O⟩) O (.inr (by (simp <;> rfl)))) ?_
   intro i hokc
   dsimp only [List.cons_append,List.nil_append]
   refine A8 (A6 ?_);refine A5 J J J (B6 J J gU gU J) ?_;refine B0 ?_;refine A8 ?_;refine B8 J (fun hc3=>?_) (fun hc3=>?_)
   ·try simp only [nn,B4,nq] at hc3
    have hT : mapL (n.roles.map (fun r=>(r,1))++(n.fresh.map (fun f=>(f.name,f.sort))++(n.tags.take (i + 1)).map fun g=>(g,5)))=mput (mapL (n.roles.map (fun r=>(r,1))++(n.fresh.map (fun f=>(f.name,f.sort))++(n.tags.take i).map fun g=>(g,5)))) (n.tags.getD i []) (iv 5):=by
     rw[M2 (d:=[]) (by omega),List.map_append,List.map_cons,List.map_nil,← List.append_assoc,← List.append_assoc,← List.append_assoc,Ch]
    refine C0 ?_;refine A8 ?_;refine C4 ?_;refine A8 (A6 ?_);refine A5 J J J (C7 J J gU gU J J J (fun hh=>R3 (by first|omega|(simp at hh ⊢; omega)|(simp [isT] at hh ⊢; omega)))) ?_;refine A5 J J J (E9 J gU J J J) ?_;refine A5 J J J (A9 J gU) ?_;refine B0 ?_;refine A6 ?_;refine A5 J J J (B1 J gU J J) ?_;refine A5 J J J (B2 J gU J J J J) ?_;refine A5 J J J (A7 J gU) ?_;refine C3 J (X4 J J J J Tryz.underlying61 Tryz.underlying9 (fun _ _ _ h=>by cases h; rfl)) ?_;refine B0 ?_;refine B5 (s:={ t:=[(2,_,_),(3,_,_),(40,_,_),(41,_,_),(42,_,_)],bx:=[(.l 2,_),(.l 3,_)],ow:=[],mp:=_ }) (B3 (⟨U J,U J,U J,U J,U J,O⟩) (⟨U J,U J,O⟩) O (.inr J)) ?_;refine A6 ?_;refine A5 J J J (D0 J J gU gU J (IntWalk.i64_in _ (by omega))) ?_;refine A5 J J J (A7 J gU) ?_;refine B0 ?_;refine ⟨i + 1,?_,?_,B3 (⟨⟨_,rfl,?_⟩,⟨U J,U J,U J,U J,O⟩⟩) (⟨U J,U J,O⟩) O (.inr ?_)⟩
    all_goals (first|rfl|omega|(rw[hT]; done)|(rw[hT]; rfl))
   ·try simp only [nn,B4,nq] at hc3
    have hi : i=n.tags.length:=by omega
    subst hi
    rw[List.take_length]
    refine E1 ?_
    repeat(first|refine D3 ?_|refine D4 ?_|refine D2 J ?_)
    refine A8 (A6 ?_);refine A5 J J J (B7 J gU J J J J J) ?_;refine C3 J (C9 J J J J J J J) ?_;refine B0 ?_;refine C1 ?_
    repeat(first|refine tR ?_|refine bR ?_)
    refine ⟨_,0,rfl,?_⟩
    rfl
theorem N9 {l : List Tk} {p : PS} {c : List UInt8} (h : symQ l p c=true) : p.at' < l.length∧p.bad=false:=by
 simp only [symQ,Bool.and_eq_true,decide_eq_true_eq,Bool.not_eq_true'] at h
 exact ⟨h.1.1.2,h.1.1.1⟩
theorem J1 (l : List Tk) (c : List UInt8) (p : PS) : p.at'≤(E5 l c p).at'∧(p.at'≤l.length→(E5 l c p).at'≤l.length):=by
 unfold E5
 split
 ·rename_i h; have := (N9 h).1; simp only [PS.go]; omega
 ·simp [PS.off]
theorem G4 (l : List Tk) (ws : List (List UInt8)) (p : PS) : p.at'≤(C6 l ws p).2.at'∧(p.at'≤l.length→(C6 l ws p).2.at'≤l.length):=by
 unfold C6
 split
 ·rename_i h
  simp only [namQ,Bool.and_eq_true,decide_eq_true_eq] at h
  have := h.1.1.2
  simp only [PS.go]; omega
 ·simp [PS.off]
theorem Dq {α : Type} {l : List Tk} {f : PS→α × PS} {p : PS} {out : List α} (h : symQ l p [44]=false) : ∀ n,L4 l f n p out=(out,p)
 | 0=>rfl
 | n + 1=>by rw[L4,h]; rfl
theorem Qu {α : Type} {l : List Tk} {f : PS→α × PS} {p : PS} {out : List α} {n : Nat} (h : symQ l p [44]=true) : L4 l f (n + 1) p out=L4 l f n (f p.go).2 (out++[(f p.go).1]):=by rw[L4,if_pos h]
theorem Nx {α : Type} {l : List Tk} {f : PS→α × PS} (hf : ∀ p,p.at'≤(f p).2.at'∧(p.at'≤l.length→(f p).2.at'≤l.length)) : ∀ (n : Nat) (p : PS) (out : List α),p.at'≤(L4 l f n p out).2.at'∧(p.at'≤l.length→(L4 l f n p out).2.at'≤l.length)
 | 0,p,out=>by simp [L4]
 | n + 1,p,out=>by
  rw[L4]
  split
  ·rename_i h
   have h1:=(N9 h).1
   have h2:=hf p.go
   have h3:=Nx hf n (f p.go).2 (out++[(f p.go).1])
   have hg : p.go.at'=p.at' + 1:=rfl
   omega
  ·simp
theorem R7 {α : Type} {l : List Tk} {f : PS→α × PS} (hf : ∀ p,p.at'≤(f p).2.at'∧(p.at'≤l.length→(f p).2.at'≤l.length)) (p : PS) : p.at'≤(G5 l f p).2.at'∧(p.at'≤l.length→(G5 l f p).2.at'≤l.length):=by
 have h1:=hf p
 have h2:=Nx hf (l.length + 1) (f p).2 [(f p).1]
 unfold G5; omega
theorem Bf (l : List Tk) : ∀ (n : Nat) (p : PS),p.at'≤(I6 l n p).2.at'∧(p.at'≤l.length→(I6 l n p).2.at'≤l.length)
 | 0,p=>by simp [I6]
 | n + 1,p=>by
  have ih:=Bf l n
  have hg : ∀ q : PS,q.go.at'=q.at' + 1:=fun _=>rfl
  rw[I6]
  split
  ·rename_i h
   have h1:=(N9 h).1
   have h2:=ih p.go
   have h3:=J1 l [44] (I6 l n p.go).2
   have h4:=R7 ih (E5 l [44] (I6 l n p.go).2)
   have h5:=J1 l [62] (G5 l (I6 l n) (E5 l [44] (I6 l n p.go).2)).2
   have := hg p
   dsimp only; omega
  ·have h1:=G4 l [] p
   split
   ·rename_i h
    have h2:=(N9 h).1
    split
    ·rename_i h3
     have h4:=(N9 h3).1
     have := hg (C6 l [] p).2
     have := hg (C6 l [] p).2.go
     dsimp only; omega
    ·have h3:=R7 ih (C6 l [] p).2.go
     have h4:=J1 l [41] (G5 l (I6 l n) (C6 l [] p).2.go).2
     have := hg (C6 l [] p).2
     dsimp only; omega
   ·exact h1
noncomputable def sysO : Pg:={ P:=Tryz.prog,T:=tab,ok:=uAt,mix:=uAu,gv:=[],old:=true }
theorem up {f : FuncId} {args : List X} {bs bs' : List (List C)} {res : X} {ro : Option Nat} (h : Ctr sys f args bs res ro bs') : Ctr sysO f args bs res ro bs':=h.wk J fun _ hg=>hg
theorem M9 {l : List Tk} {c : List UInt8} {p : PS} (h : p.at'≤l.length) : (E5 l c p).at'≤l.length:=(J1 l c p).2 h
theorem K2 {l : List Tk} {ws : List (List UInt8)} {p : PS} (h : p.at'≤l.length) : (C6 l ws p).2.at'≤l.length:=(G4 l ws p).2 h
theorem le3 {l : List Tk} {x : Nat} (hl : l.length≤2000000) (h : x≤l.length) : x≤3000000:=by omega
end Go.Proofs.YteidahabkfgfjaaGreat
namespace Go.Proofs.YteidahabkfgfjaaGreat
open Go Go.Abs Go.Proofs Go.Shelf
theorem Jp (l : List UInt8) (c : UInt8) : decide (0≤Lib.indexByte l c)=l.contains c:=by
 induction l with
 | nil=>rfl
 | cons b l ih =>
  have hge:=Lib.indexByte_ge l c
  rw[Bool.eq_iff_iff] at ih ⊢
  simp only [decide_eq_true_eq,List.contains_iff_mem,List.mem_cons] at ih ⊢
  by_cases h : b=c
  ·subst h; simp [Lib.indexByte]
  ·have h2 : ¬ c=b:=fun q=>h q.symm
   simp only [Lib.indexByte,beq_iff_eq,h,h2,if_false,false_or]
   rw[← ih]
   split <;> omega
theorem Wv (s : List UInt8) : Ctr sys 76 [xs s,xs [35]] [] (xb (s.contains 35)) none []:=by
 rw[← Jp]
 refine No [.string ⟨s.toArray⟩, .string ⟨#[35]⟩] ⟨_,Tryz.func76,by kernel_rfl,by kernel_rfl⟩ (fun w G vs h=>?_) (fun w=>Any.strings_Contains_one uBu ⟨s.toArray⟩ 35 w) (fun w G=>CRep.b _)
 match vs,h with
 | [u,v],⟨h1,h2,_⟩=>rw[XRep.str h1,XRep.str h2]
theorem ps1 {st : St} {a : Pass} (ha : st.box a.n=some a.cs) : ∀ p ∈ [a],st.box p.n=some p.cs:=by
 intro p hp
 rw[List.mem_singleton.1 hp]; exact ha
def nxE (seen : List (List UInt8)) (s : List UInt8) (fr : Bool) : Int:=if s.contains 35=true then 2 else if fr=true∧(s=[101]∨s=[103]) then 1 else if seen.contains s=true then 5 else 0
def nxS (seen : List (List UInt8)) (s : List UInt8) (fr : Bool) : List (List UInt8):=if nxE seen s fr=0 then seen++[s] else seen
theorem Ub (R seen : List (List UInt8)) (x : List UInt8 × Option (List UInt8)) : dclE R seen x=if nxE seen x.1 x.2.isSome≠0 then nxE seen x.1 x.2.isSome else match x.2 with
  | some r=>if R.contains r=true then 0 else 13
  | none=>0:=by
 unfold dclE nxE
 by_cases h1 : x.1.contains 35=true
 ·rw[if_pos h1,if_pos h1,if_pos (by simp)]
 ·rw[if_neg h1,if_neg h1]
  by_cases h2 : x.2.isSome=true∧(x.1=[101]∨x.1=[103])
  ·rw[if_pos h2,if_pos h2,if_pos (by simp)]
  ·rw[if_neg h2,if_neg h2]
   by_cases h3 : seen.contains x.1=true
   ·rw[if_pos h3,if_pos h3,if_pos (by simp)]
   ·rw[if_neg h3,if_neg h3,if_neg (by simp)]
    obtain ⟨a,o⟩:=x
    cases o <;> rfl
theorem Jx (R seen : List (List UInt8)) (s : List UInt8) : dclE R seen (s,none)=nxE seen s false:=by
 rw[Ub]
 split
 ·rfl
 ·rename_i h; exact (Decidable.not_not.1 h).symm
theorem Xl (R seen : List (List UInt8)) (s r : List UInt8) : dclE R seen (s,some r)=if nxE seen s true≠0 then nxE seen s true else if R.contains r=true then 0 else 13:=Ub R seen (s,some r)
theorem Fl (seen : List (List UInt8)) (s : List UInt8) (fr : Bool) (hs : seen.length≤900000) : CtrO sysO 75 [xs s,xb fr, .v (.ptr (.o 0) 0)] [[.sl 1 (strR seen)]] [(0,0,1)] (xi (nxE seen s fr)) [[.sl 1 (strR (nxS seen s fr))]] .box:=by
 have hr:=B4 seen
 refine N4 Tryz.func75 J J J J J J J ?_;refine A8 (A6 ?_);refine A5 J J J (A9 J gU) ?_;refine B0 ?_;refine A8 ?_;refine C4 ?_;refine A8 (A6 ?_);refine A5 J J J (A7 J gU) ?_;refine C8 J J J J J J gU gU (up (Wv _)) J ?_;refine A5 J J J (A9 J gU) ?_;refine B0 ?_;refine B8 J (fun hc=>?_) (fun hc=>?_)
 ·try simp only [nn,B4,nq] at hc
  have h1 : nxE seen s fr=2:=by rw[nxE,if_pos hc]
  have h2 : nxS seen s fr=seen:=by rw[nxS,if_neg (by rw[h1]; simp)]
  rw[h1,h2]
  refine A8 (A6 ?_);refine A5 J J J (A9 J gU) ?_;refine B0 ?_;refine C1 ?_
  repeat(first|refine tR ?_|refine bR ?_)
  refine Z3 J ?_ (⟨⟨_,rfl,?_⟩,O⟩) (by kernel_rfl)
  all_goals rfl
 ·try simp only [nn,B4,nq] at hc
  have n1 : ¬ s.contains 35=true:=by simpa using hc
  refine A8 (A6 ?_);refine A5 J J J (A7 J gU) ?_;refine A5 J J J (A7 J gU) ?_;refine A5 J J J (A7 J gU) ?_;refine A5 J J J (H1 J J (fun hh=>hh) gU J) ?_;refine A5 J J J (A7 J (fun hh=>hh)) ?_;refine A5 J J J (A7 J gU) ?_;refine A5 J J J (H1 J J (fun hh=>hh) gU J) ?_;refine A5 J J J (D9 J J (fun hh=>hh) (fun hh hi=>gP hh hi)) ?_;refine H5 (s:=⟨[(0,_,_),(2,_,_),(11,_,_),(17,_,_)],[(.o 0,_)],[(.b (.o 0) 0,_)],[]⟩) (B3 (⟨U J,U J,U J,U J,O⟩) (⟨U J,O⟩) (⟨rfl,O⟩)) ?_;refine A5 J J J (E4 J J gU (fun _ hi=>gP J hi)) ?_;refine A5 J J J (A9 J gU) ?_;refine B0 ?_;refine B8 J (fun hc2=>?_) (fun hc2=>?_)
  ·try simp only [nn,B4,nq] at hc2
   have h1 : nxE seen s fr=1:=by rw[nxE,if_neg n1,if_pos hc2]
   have h2 : nxS seen s fr=seen:=by rw[nxS,if_neg (by rw[h1]; simp)]
   rw[h1,h2]
   refine A8 (A6 ?_);refine A5 J J J (A9 J gU) ?_;refine B0 ?_;refine C1 ?_
   repeat(first|refine tR ?_|refine bR ?_)
   refine Z3 J ?_ (⟨⟨_,rfl,?_⟩,O⟩) (by kernel_rfl)
   all_goals rfl
  ·try simp only [nn,B4,nq] at hc2
   have n2 : ¬ (fr=true∧(s=[101]∨s=[103])):=by
    rintro ⟨q1,q2⟩
    rcases hc2 with z | z
    ·rw[q1] at z; cases z
    ·rcases q2 with q | q
     ·exact z.1 q
     ·exact z.2 q
   refine A8 (A6 ?_);refine A5 J J J (B2 J gU J J J J) ?_;refine A5 J J J (A7 J gU) ?_;refine C8 J J J J J J gU gU (up (O5 _ _)) J ?_;refine A5 J J J (A9 J gU) ?_;refine B0 ?_;refine B5 (s:=⟨[(0,_,_),(2,_,_),(19,_,_)],[(.o 0,_)],[(.b (.o 0) 0,_)],[]⟩) (B3 (⟨U J,U J,U J,O⟩) (⟨U J,O⟩) (⟨rfl,O⟩)) ?_;refine B8 J (fun hc3=>?_) (fun hc3=>?_)
   ·try simp only [nn,B4,nq] at hc3
    have h1 : nxE seen s fr=5:=by rw[nxE,if_neg n1,if_neg n2,if_pos hc3]
    have h2 : nxS seen s fr=seen:=by rw[nxS,if_neg (by rw[h1]; simp)]
    rw[h1,h2]
    refine A8 (A6 ?_);refine A5 J J J (A9 J gU) ?_;refine B0 ?_;refine C1 ?_
    repeat(first|refine tR ?_|refine bR ?_)
    refine Z3 J ?_ (⟨⟨_,rfl,?_⟩,O⟩) (by kernel_rfl)
    all_goals rfl
   ·try simp only [nn,B4,nq] at hc3
    have h1 : nxE seen s fr=0:=by rw[nxE,if_neg n1,if_neg n2,if_neg (by rw[hc3]; simp)]
    have h2 : nxS seen s fr=seen++[s]:=by rw[nxS,if_pos h1]
    rw[h1,h2]
    refine C0 ?_;refine A8 (A6 ?_);refine C3 J (J4 J J J J J J J) ?_;refine A5 J J J (A7 J gU) ?_;refine E8 (xs:=[_]) J J J J J J J J J gU J ?_;refine C3 J (G0 J J J J J J J (by first|omega|(simp only [List.length_append,List.length_singleton,B4]; omega)) (by first|omega|(simp only [List.length_append,List.length_singleton,B4]; omega))) ?_;refine C3 J (J3 J J J J J J J) ?_;refine B0 ?_;refine A8 (A6 ?_);refine A5 J J J (A9 J gU) ?_;refine B0 ?_;refine C1 ?_
    repeat(first|refine tR ?_|refine bR ?_)
    refine Z3 J ?_ (⟨⟨_,rfl,?_⟩,O⟩) (by kernel_rfl)
    all_goals first|rfl|(rw[Bm]; rfl)
theorem Mu {R seen : List (List UInt8)} {D : List (List UInt8 × Option (List UInt8))} {j : Nat} {x : List UInt8 × Option (List UInt8)} (hx : D[j]? = some x) (h : dclE R seen x=0) : decA R seen (D.drop j)=decA R (seen++[x.1]) (D.drop (j + 1)):=by
 obtain ⟨hj,he⟩:=List.getElem?_eq_some_iff.1 hx
 rw[List.drop_eq_getElem_cons hj,decA,he,if_neg (by simp [h])]
theorem Ep {R seen : List (List UInt8)} {D : List (List UInt8 × Option (List UInt8))} {j : Nat} {x : List UInt8 × Option (List UInt8)} (hx : D[j]? = some x) (h : dclE R seen x≠0) : decA R seen (D.drop j)=dclE R seen x:=by
 obtain ⟨hj,he⟩:=List.getElem?_eq_some_iff.1 hx
 rw[List.drop_eq_getElem_cons hj,decA,he,if_pos h]
theorem uAP {n : Nar} {k : Nat} (h : k < n.roles.length) : (dclL n)[k]? = some (n.roles.getD k [],none):=by
 rw[dclL,List.getElem?_append_left (by simpa using h),List.getElem?_map,List.getD_eq_getElem?_getD,List.getElem?_eq_getElem h]; rfl
theorem Xk {n : Nar} {k : Nat} (h : k < n.fresh.length) : (dclL n)[n.roles.length + k]? = some ((n.fresh.getD k default).name,some (n.fresh.getD k default).role):=by
 rw[dclL,List.getElem?_append_right (by simp),List.getElem?_append_left (by simp; omega),List.getElem?_map,List.getD_eq_getElem?_getD,List.length_map,Nat.add_sub_cancel_left,List.getElem?_eq_getElem h]; rfl
theorem uBF {n : Nar} {k : Nat} (h : k < n.tags.length) : (dclL n)[n.roles.length + (n.fresh.length + k)]? = some (n.tags.getD k [],none):=by
 rw[dclL,List.getElem?_append_right (by simp),List.getElem?_append_right (by simp),List.getElem?_map,List.getD_eq_getElem?_getD,List.length_map,Nat.add_sub_cancel_left,List.length_map,Nat.add_sub_cancel_left,List.getElem?_eq_getElem h]; rfl
theorem uBm (n : Nar) : (dclL n).length=n.roles.length + (n.fresh.length + n.tags.length):=by simp [dclL]
theorem Mn {seen : List (List UInt8)} {s : List UInt8} {fr : Bool} (h : nxE seen s fr=0) : nxS seen s fr=seen++[s]:=by rw[nxS,if_pos h]
set_option maxHeartbeats 4000000 in
theorem Ip (n : Nar) (h1 : n.roles.length≤100000) (h2 : n.fresh.length≤100000) (h3 : n.tags.length≤100000) : Ctr sysO 38 [xn n] [] (xi (decE n)) none []:=by
 have l1:=B4 n.roles
 have l2:=Fs.rows_len n.fresh
 have l3:=B4 n.tags
 refine D1 Tryz.func38 J J J J J J ?_;refine A8 (A6 ?_);refine C3 J (E2 J J J J) ?_;refine A5 J J J (A9 J gU) ?_;refine B0 ?_;refine A8 (A6 ?_);refine C3 J (Fu J J J J) ?_;refine B0 ?_;refine A8 (A6 ?_);refine A5 J J J (U2 (ys:=[.ptr (.l 3) 0]) J) ?_;refine A5 J J J (A9 J gU) ?_;refine B0 ?_;refine B5 (s:=⟨[(1,_,_),(4,_,_)],[(.l 1,_),(.l 3,_)],[],[]⟩) (B3 (⟨U J,U J,O⟩) (⟨U J,U J,O⟩) O) ?_;refine A8 ?_;refine A8 (A6 ?_);refine A5 J J J (B1 J gU J J) ?_;refine A5 J J J (B2 J gU J J J J) ?_;refine E0 J J J J J gU J J ?_ (fun hh=>by simp at hh); intro hlen;refine A5 J J J (A7 J gU) ?_;refine B0 ?_;refine C4 ?_;refine Cl (.l 3) 0 1 J J J ?_;refine F5 (ι:=Nat) { t:=[(1,_,_),(4,_,_),(16,_,_),(17,_,_)],bx:=[(.l 1,_)],ow:=[(.b (.l 3) 0,_)] } (fun k=>[(18,true,xi (k : Int))]) (fun k=>[((.l 3),[.sl 1 (strR (n.roles.take k))])]) (fun k=>k≤n.roles.length∧decA n.roles (n.roles.take k) ((dclL n).drop k)=decE n) (fun k=>n.roles.length - k) (0) (⟨by omega,by simp [decE]⟩) (B3 (⟨U J,U J,U J,U J,U J,O⟩) (⟨U J,U J,O⟩) (⟨rfl,O⟩)) ?_
 intro k hoka
 dsimp only [List.cons_append,List.nil_append]
 obtain ⟨hk,hi⟩:=hoka
 have lt:=List.length_take_le k n.roles
 refine A8 (A6 ?_);refine A5 J J J (B6 J J gU gU J) ?_;refine B0 ?_;refine A8 ?_;refine B8 J (fun hc=>?_) (fun hc=>?_)
 ·try simp only [nn,B4,nq] at hc
  have hlt : k < n.roles.length:=by omega
  have hx:=uAP hlt
  have hd:=Jx n.roles (n.roles.take k) (n.roles.getD k [])
  have hT:=M2 (l:=n.roles) (d:=[]) hlt
  refine C0 ?_;refine A8 ?_;refine C4 ?_;refine A8 (A6 ?_);refine A5 J J J (C7 J J gU gU J J J (fun hh=>R3 (by first|omega|(simp at hh ⊢; omega)))) ?_;refine A5 J J J (E9 J gU J J J) ?_;refine A5 J J J (A9 J gU) ?_;refine B0 ?_;refine A8 (A6 ?_);refine A5 J J J (A7 J gU) ?_;refine A5 J J J (A7 J gU) ?_;refine Ee [⟨.l 3,0,[.sl 1 (strR (n.roles.take k))],[.sl 1 (strR (nxS (n.roles.take k) (n.roles.getD k []) false))]⟩] [(0,0,1)] J J J J J J (ps1 J) J J (Fl _ _ _ (by omega)) J J J ?_;refine A5 J J J (A9 J gU) ?_;refine B0 ?_;refine B5 (s:=⟨[(1,_,_),(4,_,_),(7,_,_),(16,_,_),(17,_,_),(18,_,_)],[(.l 1,_),(.l 3,_)],[(.b (.l 3) 0,_)],[]⟩) (B3 (⟨U J,U J,U J,U J,U J,U J,O⟩) (⟨U J,U J,O⟩) (⟨rfl,O⟩)) ?_;refine A8 (A6 ?_);refine A5 J J J (A7 J gU) ?_;refine A5 J J J (B6 J J gU gU J) ?_;refine B0 ?_;refine B8 J (fun hc2=>?_) (fun hc2=>?_)
  ·try simp only [nn,B4,nq] at hc2
   have he:=Ep hx (by rw[hd]; exact hc2)
   rw[hi,hd] at he
   refine A8 (A6 ?_);refine A5 J J J (A7 J gU) ?_;refine A5 J J J (A9 J gU) ?_;refine B0 ?_;refine C1 ?_
   repeat(first|refine tR ?_|refine bR ?_)
   refine C5 J ?_ O
   (rw[he]; rfl)
  ·try simp only [nn,B4,nq] at hc2
   have he:=Mu hx (hd.trans hc2)
   rw[hi] at he
   have hS:=Mn hc2
   refine C0 ?_;refine A6 ?_;refine A5 J J J (D0 J J gU gU J (IntWalk.i64_in _ (by omega))) ?_;refine A5 J J J (A7 J gU) ?_;refine B0 ?_;refine ⟨k + 1,?_,?_,B3 (⟨⟨_,rfl,?_⟩,⟨U J,U J,U J,U J,O⟩⟩) (⟨⟨_,rfl,?_⟩,⟨U J,O⟩⟩) (⟨rfl,O⟩)⟩
   all_goals (first|rfl|omega|(rw[hS,hT]; rfl)|(rw[hT]; exact ⟨by omega,he.symm⟩))
 ·try simp only [nn,B4,nq] at hc
  have hke : k=n.roles.length:=by omega
  subst hke
  rw[List.take_length] at hi lt ⊢
  refine E1 ?_
  repeat(first|refine D3 ?_|refine D4 ?_|refine D2 J ?_)
  refine A8 ?_;refine A8 (A6 ?_);refine A5 J J J (B1 J gU J J) ?_;refine A5 J J J (B2 J gU J J J J) ?_;refine E0 J J J J J gU J J ?_ (fun hh=>by simp at hh); intro hlen;refine A5 J J J (A7 J gU) ?_;refine B0 ?_;refine B5 (s:=⟨[(1,_,_),(4,_,_),(30,_,_),(31,_,_),(32,_,_)],[(.l 1,_),(.l 3,_)],[(.b (.l 3) 0,_)],[]⟩) (B3 (⟨U J,U J,U J,U J,U J,O⟩) (⟨U J,U J,O⟩) (⟨rfl,O⟩)) ?_;refine C4 ?_;refine F5 (ι:=Nat) { t:=[(1,_,_),(4,_,_),(30,_,_),(31,_,_)],bx:=[(.l 1,_)],ow:=[(.b (.l 3) 0,_)] } (fun j=>[(32,true,xi (j : Int))]) (fun j=>[((.l 3),[.sl 1 (strR (n.roles++(n.fresh.take j).map Fs.name))])]) (fun j=>j≤n.fresh.length∧decA n.roles (n.roles++(n.fresh.take j).map Fs.name) ((dclL n).drop (n.roles.length + j))=decE n) (fun j=>n.fresh.length - j) (0) (⟨by omega,by simpa using hi⟩) (B3 (⟨U J,U J,U J,U J,U J,O⟩) (⟨⟨_,rfl,by simp⟩,⟨U J,O⟩⟩) (⟨rfl,O⟩)) ?_
  intro j hokb
  dsimp only [List.cons_append,List.nil_append]
  obtain ⟨hj,hi2⟩:=hokb
  have lt2:=List.length_take_le j n.fresh
  refine A8 (A6 ?_);refine A5 J J J (B6 J J gU gU J) ?_;refine B0 ?_;refine A8 ?_;refine B8 J (fun hc3=>?_) (fun hc3=>?_)
  ·try simp only [nn,B4,nq] at hc3
   have hlt : j < n.fresh.length:=by omega
   have hx:=Xk hlt
   have hd:=Xl n.roles (n.roles++(n.fresh.take j).map Fs.name) (n.fresh.getD j default).name (n.fresh.getD j default).role
   have hT:=M2 (l:=n.fresh) (d:=default) hlt
   refine C0 ?_;refine A8 ?_;refine C4 ?_;refine A8 (A6 ?_);refine A5 J J J (C7 J J gU gU J J J (fun hh=>Fs.rows_at (by first|omega|(simp at hh ⊢; omega)))) ?_;refine A5 J J J (D6 J gU J J J J) ?_;refine C3 J (D7 J J J) ?_;refine C3 J (C9 J J J J J J J) ?_;refine B0 ?_;refine A8 ?_;refine A8 (A6 ?_);refine A5 J J J (A7 J gU) ?_;refine A5 J J J (B1 J gU J J) ?_;refine A5 J J J (B2 J gU J J J J) ?_;refine Ee [⟨.l 3,0,[.sl 1 (strR (n.roles++(n.fresh.take j).map Fs.name))],[.sl 1 (strR (nxS (n.roles++(n.fresh.take j).map Fs.name) (n.fresh.getD j default).name true))]⟩] [(0,0,1)] J J J J J J (ps1 J) J J (Fl _ _ _ (by simp only [List.length_append,List.length_map]; omega)) J J J ?_;refine A5 J J J (A9 J gU) ?_;refine B0 ?_;refine B5 (s:=⟨[(1,_,_),(4,_,_),(9,_,_),(10,_,_),(30,_,_),(31,_,_),(32,_,_)],[(.l 1,_),(.l 3,_),(.l 9,_)],[(.b (.l 3) 0,_)],[]⟩) (B3 (⟨U J,U J,U J,U J,U J,U J,U J,O⟩) (⟨U J,U J,U J,O⟩) (⟨rfl,O⟩)) ?_;refine A8 (A6 ?_);refine A5 J J J (A7 J gU) ?_;refine A5 J J J (B6 J J gU gU J) ?_
   refine B0 ?_;refine B8 J (fun hc4=>?_) (fun hc4=>?_)
   ·try simp only [nn,B4,nq] at hc4
    rw[if_pos hc4] at hd
    have he:=Ep hx (by rw[hd]; exact hc4)
    rw[hi2,hd] at he
    refine A8 (A6 ?_);refine A5 J J J (A7 J gU) ?_;refine A5 J J J (A9 J gU) ?_;refine B0 ?_;refine C1 ?_
    repeat(first|refine tR ?_|refine bR ?_)
    refine C5 J ?_ O
    (rw[he]; rfl)
   ·try simp only [nn,B4,nq] at hc4
    rw[if_neg (by simpa using hc4)] at hd
    have hS:=Mn hc4
    refine C0 ?_;refine A8 (A6 ?_);refine A5 J J J (B1 J gU J J) ?_;refine A5 J J J (B2 J gU J J J J) ?_;refine A5 J J J (B1 J gU J J) ?_;refine A5 J J J (B2 J gU J J J J) ?_;refine C8 J J J J J J gU gU (up (O5 _ _)) J ?_;refine A5 J J J (F2 J gU) ?_;refine B0 ?_;refine B5 (s:=⟨[(1,_,_),(4,_,_),(30,_,_),(31,_,_),(32,_,_),(48,_,_)],[(.l 1,_),(.l 3,_)],[(.b (.l 3) 0,_)],[]⟩) (B3 (⟨U J,U J,U J,U J,U J,U J,O⟩) (⟨U J,U J,O⟩) (⟨rfl,O⟩)) ?_;refine B8 J (fun hc5=>?_) (fun hc5=>?_)
    ·try simp only [nn,B4,nq] at hc5
     have hd : dclE n.roles (n.roles++(n.fresh.take j).map Fs.name) ((n.fresh.getD j default).name,some (n.fresh.getD j default).role)=13:=by rw[hd]; exact if_neg (by rw[hc5]; simp)
     have he:=Ep hx (by rw[hd]; simp)
     rw[hi2,hd] at he
     refine A8 (A6 ?_);refine A5 J J J (A9 J gU) ?_;refine B0 ?_;refine C1 ?_
     repeat(first|refine tR ?_|refine bR ?_)
     refine C5 J ?_ O
     (rw[he]; rfl)
    ·try simp only [nn,B4,nq] at hc5
     have hd : dclE n.roles (n.roles++(n.fresh.take j).map Fs.name) ((n.fresh.getD j default).name,some (n.fresh.getD j default).role)=0:=by rw[hd]; exact if_pos hc5
     have he:=Mu hx hd
     rw[hi2] at he
     refine C0 ?_;refine A6 ?_;refine A5 J J J (D0 J J gU gU J (IntWalk.i64_in _ (by omega))) ?_;refine A5 J J J (A7 J gU) ?_;refine B0 ?_;refine ⟨j + 1,?_,?_,B3 (⟨⟨_,rfl,?_⟩,⟨U J,U J,U J,U J,O⟩⟩) (⟨⟨_,rfl,?_⟩,⟨U J,O⟩⟩) (⟨rfl,O⟩)⟩
     all_goals (first|rfl|omega|(rw[hS,hT]; simp <;> rfl)|(rw[hT]; exact ⟨by omega,by rw[he]; simp [Nat.add_assoc]⟩))
  ·try simp only [nn,B4,nq] at hc3
   have hje : j=n.fresh.length:=by omega
   subst hje
   rw[List.take_length] at hi2 lt2 ⊢
   refine E1 ?_
   repeat(first|refine D3 ?_|refine D4 ?_|refine D2 J ?_)
   refine A8 ?_;refine A8 (A6 ?_);refine A5 J J J (B1 J gU J J) ?_;refine A5 J J J (B2 J gU J J J J) ?_;refine E0 J J J J J gU J J ?_ (fun hh=>by simp at hh); intro hlen;refine A5 J J J (A7 J gU) ?_;refine B0 ?_;refine B5 (s:=⟨[(4,_,_),(51,_,_),(52,_,_),(53,_,_)],[(.l 3,_)],[(.b (.l 3) 0,_)],[]⟩) (B3 (⟨U J,U J,U J,U J,O⟩) (⟨U J,O⟩) (⟨rfl,O⟩)) ?_;refine C4 ?_;refine F5 (ι:=Nat) { t:=[(4,_,_),(51,_,_),(52,_,_)],bx:=[],ow:=[(.b (.l 3) 0,_)] } (fun i=>[(53,true,xi (i : Int))]) (fun i=>[((.l 3),[.sl 1 (strR (n.roles++(n.fresh.map Fs.name++n.tags.take i)))])]) (fun i=>i≤n.tags.length∧decA n.roles (n.roles++(n.fresh.map Fs.name++n.tags.take i)) ((dclL n).drop (n.roles.length + (n.fresh.length + i)))=decE n) (fun i=>n.tags.length - i) (0) (⟨by omega,by simpa using hi2⟩) (B3 (⟨U J,U J,U J,U J,O⟩) (⟨⟨_,rfl,by simp⟩,O⟩) (⟨rfl,O⟩)) ?_
   intro i hokc
   dsimp only [List.cons_append,List.nil_append]
   obtain ⟨hii,hi3⟩:=hokc
   have lt3:=List.length_take_le i n.tags
   refine A8 (A6 ?_);refine A5 J J J (B6 J J gU gU J) ?_;refine B0 ?_;refine A8 ?_;refine B8 J (fun hc6=>?_) (fun hc6=>?_)
   ·try simp only [nn,B4,nq] at hc6
    have hlt : i < n.tags.length:=by omega
    have hx:=uBF hlt
    have hd:=Jx n.roles (n.roles++(n.fresh.map Fs.name++n.tags.take i)) (n.tags.getD i [])
    have hT:=M2 (l:=n.tags) (d:=[]) hlt
    refine C0 ?_;refine A8 ?_;refine C4 ?_;refine A8 (A6 ?_);refine A5 J J J (C7 J J gU gU J J J (fun hh=>R3 (by first|omega|(simp at hh ⊢; omega)))) ?_;refine A5 J J J (E9 J gU J J J) ?_;refine A5 J J J (A9 J gU) ?_;refine B0 ?_;refine A8 (A6 ?_);refine A5 J J J (A7 J gU) ?_;refine A5 J J J (A7 J gU) ?_;refine Ee [⟨.l 3,0,[.sl 1 (strR (n.roles++(n.fresh.map Fs.name++n.tags.take i)))],[.sl 1 (strR (nxS (n.roles++(n.fresh.map Fs.name++n.tags.take i)) (n.tags.getD i []) false))]⟩] [(0,0,1)] J J J J J J (ps1 J) J J (Fl _ _ _ (by simp only [List.length_append,List.length_map]; omega)) J J J ?_;refine A5 J J J (A9 J gU) ?_;refine B0 ?_;refine B5 (s:=⟨[(4,_,_),(13,_,_),(51,_,_),(52,_,_),(53,_,_)],[(.l 3,_)],[(.b (.l 3) 0,_)],[]⟩) (B3 (⟨U J,U J,U J,U J,U J,O⟩) (⟨U J,O⟩) (⟨rfl,O⟩)) ?_;refine A8 (A6 ?_);refine A5 J J J (A7 J gU) ?_;refine A5 J J J (B6 J J gU gU J) ?_;refine B0 ?_;refine B8 J (fun hc7=>?_) (fun hc7=>?_)
    ·try simp only [nn,B4,nq] at hc7
     have he:=Ep hx (by rw[hd]; exact hc7)
     rw[hi3,hd] at he
     refine A8 (A6 ?_);refine A5 J J J (A7 J gU) ?_;refine A5 J J J (A9 J gU) ?_;refine B0 ?_;refine C1 ?_
     repeat(first|refine tR ?_|refine bR ?_)
     refine C5 J ?_ O
     (rw[he]; rfl)
    ·try simp only [nn,B4,nq] at hc7
     have he:=Mu hx (hd.trans hc7)
     rw[hi3] at he
     have hS:=Mn hc7
     refine C0 ?_;refine A6 ?_;refine A5 J J J (D0 J J gU gU J (IntWalk.i64_in _ (by omega))) ?_;refine A5 J J J (A7 J gU) ?_;refine B0 ?_;refine ⟨i + 1,?_,?_,B3 (⟨⟨_,rfl,?_⟩,⟨U J,U J,U J,O⟩⟩) (⟨⟨_,rfl,?_⟩,O⟩) (⟨rfl,O⟩)⟩
     all_goals (first|rfl|omega|(rw[hS,hT]; simp <;> rfl)|(rw[hT]; exact ⟨by omega,by rw[he]; simp [Nat.add_assoc]⟩))
   ·try simp only [nn,B4,nq] at hc6
    have hie : i=n.tags.length:=by omega
    subst hie
    rw[List.drop_of_length_le (by rw[uBm]; omega)] at hi3
    refine E1 ?_
    repeat(first|refine D3 ?_|refine D4 ?_|refine D2 J ?_)
    refine A8 (A6 ?_);refine A5 J J J (A9 J gU) ?_;refine B0 ?_;refine C1 ?_
    repeat(first|refine tR ?_|refine bR ?_)
    refine C5 J ?_ O
    (rw[← hi3]; rfl)
theorem Js (n : Nar) (h1 : n.roles.length≤100000) (h2 : n.fresh.length≤100000) (h3 : n.tags.length≤100000) : Ctr sys 38 [xn n] [] (xi (decE n)) none []:=(Ip n h1 h2 h3).wk J fun _ h=>h
end Go.Proofs.YteidahabkfgfjaaGreat
namespace Go.Proofs.YteidahabkfgfjaaGreat
open Go Go.Abs
def mapI (l : List (List UInt8 × Int)) (k : List UInt8) : Int:=((l.reverse.find? fun x=>decide (x.1=k)).map (·.2)).getD 0
theorem Wq (l : List (List UInt8 × Int)) (k : List UInt8) : mval (mapL l) k (.int .i64 0)=iv (mapI l k):=by
 rw[mval,Nv,mapI]
 cases l.reverse.find? fun x=>decide (x.1=k) <;> rfl
theorem Gr {w : World} {S : Nat→Nat→Prop} (l : List (List UInt8 × Int)) (k : List UInt8) : CRep w S (.i .i64 (mapI l k)) (mval (mapL l) k (.int .i64 0)):=by
 rw[Wq]; exact CRep.i _ _
def lkN (R : List (List UInt8)) (t : T) : List T:=t.kids.take ((N2 R t).getD 0)
theorem Tz {R : List (List UInt8)} {t : T} {k : Nat} (h : N2 R t=some k) (hl : t.kids.length≤k) : xl t.kids=xl (lkN R t):=by
 rw[lkN,h,Option.getD_some,List.take_of_length_le hl]
theorem Yp {R : List (List UInt8)} {t : T} (h : N2 R t=some 1) : X.v (.c (.sl 4 ((T.rows t.kids).take 1)))=xl (lkN R t):=by
 rw[lkN,h,Option.getD_some,xl,T.rows_eq,T.rows_eq,List.map_take]
theorem uAC {R : List (List UInt8)} {t : T} (h : N2 R t=some 0) : X.v (.c (.sl 4 []))=xl (lkN R t):=by
 rw[lkN,h]; rfl
theorem uBE {R : List (List UInt8)} {t x : T} (h : x ∈ lkN R t) : x.size < t.size:=O1 (List.mem_of_mem_take h)
theorem Yv {R K : List (List UInt8)} {t : T} (h : t.kind=3) (hk : N2 R t≠none) : V4 R K t=errs (V4 R K) (lkN R t):=by
 rw[Bs,if_neg (by omega)]
 cases hl : N2 R t with
 | none=>exact absurd hl hk
 | some k=>rw[lkN,hl]; rfl
theorem Ii {α : Type} {f : α→Int} {d : α} {l : List α} {k : Nat} (hk : k < l.length) (h : ∀ j,j < k→f (l.getD j d)=0) (hx : f (l.getD k d)≠0) : errs f l=f (l.getD k d):=by
 induction l generalizing k with
 | nil=>simp at hk
 | cons x r ih =>
  cases k with
  | zero=>rw[errs,if_pos (by simpa using hx)]; rfl
  | succ k =>
   have h0:=h 0 (by omega)
   rw[errs,if_neg (by simpa using h0),ih (k:=k) (by simpa using hk) (fun j hj=>by simpa using h (j + 1) (by omega)) (by simpa using hx)]
   rfl
theorem Ez {α : Type} {f : α→Int} {d : α} {l : List α} (h : ∀ j,j < l.length→f (l.getD j d)=0) : errs f l=0:=by
 refine errs_zero.2 fun x hx=>?_
 obtain ⟨j,hj,rfl⟩:=List.mem_iff_getElem.1 hx
 have := h j hj
 rwa [List.getD_eq_getElem?_getD,List.getElem?_eq_getElem hj] at this
theorem S1 {α : Type} {l : List α} {k : Nat} {d : α} (h : k < l.length) : l.getD k d ∈ l:=by
 rw[List.getD_eq_getElem?_getD,List.getElem?_eq_getElem h]; exact List.getElem_mem _
theorem Bu {α : Type} {f : α→Int} {l : List α} {d : α} {k : Nat} (hi : ∀ j,j < k→f (l.getD j d)=0) (h : f (l.getD k d)=0) : ∀ j,j < k + 1→f (l.getD j d)=0:=by
 intro j hj
 by_cases e : j=k
 ·subst e; exact h
 ·exact hi j (by omega)
def stT (R : List (List UInt8)) (u : Value) (kk : List T) : St:={ t:=[(2,true, .v (.ptr (.l 2) 0)),(7,true,xl kk)],bx:=[(.l 2,[.sl 1 (strR R), .o u])],ow:=[] }
set_option maxHeartbeats 4000000 in
theorem Do (R : List (List UInt8)) (l : List (List UInt8 × Int)) (b : Nat) : ∀ (n : Nat) (t : T),t.size≤n→n≤900000→Ctr (sys.add b (mapL l)) 41 [xtb R (.map (some b)),xm t] [] (xi (V4 R (l.map (·.1)) t)) none []:=by
 intro n
 induction n with
 | zero=>intro t h; have := t.size_pos; omega
 | succ n ih =>
  intro t ht hn
  have hr:=T.rows_len t.kids
  have hls:=T.len_sizes t.kids
  have hse:=t.size_eq
  refine D1 Tryz.func41 J J J J J J ?_;refine A8 (A6 ?_);refine C3 J (E2 J J J J) ?_;refine C3 J (E2 J J J J) ?_;refine A5 J J J (A9 J gU) ?_;refine B0 ?_;refine A8 ?_;refine A8 (A6 ?_);refine A5 J J J (B1 J gU J J) ?_;refine A5 J J J (B2 J gU J J J J) ?_;refine A5 J J J (B6 J J gU gU J) ?_;refine B0 ?_;refine B5 (s:=⟨[(2,_,_),(3,_,_),(13,_,_)],[(.l 2,_),(.l 3,_)],[],[]⟩) (B3 (⟨U J,U J,U J,O⟩) (⟨U J,U J,O⟩) O) ?_;refine B8 J (fun hc=>?_) (fun hc=>?_)
  ·try simp only [nn,B4,nq] at hc
   refine Wa b (mapL l) (List.mem_cons_self ..) ?_;refine A8 ?_;refine A8 (A6 ?_);refine A5 J J J (B1 J gU J J) ?_;refine A5 J J J (B2 J gU J J J J) ?_;refine A5 J J J (B1 J gU J J) ?_;refine A5 J J J (B2 J gU J J J J) ?_;refine A5 J J J (T6 (i:=0) (c:=.i .i64 (mapI l t.name)) (z:=.int .i64 0) J J gU gU J Tryz.underlying61 Tryz.underlying9 (by kernel_rfl) (fun w S=>Gr l t.name) J) ?_;refine A5 J J J (A7 J gU) ?_;refine A5 J J J (C2 J gU J) ?_;refine A5 J J J (C2 J gU J) ?_;refine A5 J J J (A9 J gU) ?_;refine A5 J J J (A9 J gU) ?_;refine B0 ?_;refine B5 (s:={ t:=[(6,_,_)],bx:=[],ow:=[],mp:=_ }) (B3 (⟨U J,O⟩) O O (.inr J)) ?_;refine A8 (A6 ?_);refine A5 J J J (A7 J gU) ?_;refine A5 J J J (F2 J gU) ?_;refine B0 ?_;refine B8 J (fun hc2=>?_) (fun hc2=>?_)
   ·try simp only [nn,B4,nq] at hc2
    rw[Q9] at hc2
    refine A8 (A6 ?_);refine A5 J J J (A9 J gU) ?_;refine B0 ?_;refine C1 ?_
    repeat(first|refine tR ?_|refine bR ?_)
    refine C5 J ?_ O
    (rw[Bs,if_pos hc,if_neg (by rw[hc2]; simp)]; rfl)
   ·try simp only [nn,B4,nq] at hc2
    rw[Q9] at hc2
    refine C0 ?_;refine A8 (A6 ?_);refine A5 J J J (A9 J gU) ?_;refine B0 ?_;refine C1 ?_
    repeat(first|refine tR ?_|refine bR ?_)
    refine C5 J ?_ O
    (rw[Bs,if_pos hc,if_pos hc2]; rfl)
  ·try simp only [nn,B4,nq] at hc
   refine C0 ?_;refine A8 (A6 ?_);refine A5 J J J (B1 J gU J J) ?_;refine A5 J J J (B2 J gU J J J J) ?_;refine A5 J J J (A9 J gU) ?_;refine B0 ?_;refine Uy (stT R (.map (some b)) (lkN R t)) (N2 R t≠none) ?_ (fun hj=>?_)
   ·skip
    refine C4 ?_;refine A8 ?_;refine A8 (A6 ?_);refine A5 J J J (B7 J gU J J J J J) ?_;refine C8 J J J J J J gU gU (Ctr.add (U6 _ _ _)) J ?_;refine A5 J J J (A9 J gU) ?_;refine B0 ?_;refine B5 (s:={ t:=[(2,_,_),(3,_,_),(7,_,_),(26,_,_)],bx:=[(.l 2,_),(.l 3,_)],ow:=[],mp:=_ }) (B3 (⟨U J,U J,U J,U J,O⟩) (⟨U J,U J,O⟩) O (.inr J)) ?_;refine B8 J (fun hc3=>?_) (fun hc3=>?_)
    ·have p1 : isT t La 2=true:=hc3
     have hk : N2 R t=some 2:=by rw[N2,if_pos (.inl p1)]
     refine C0 ?_;refine B8 J (fun hc4=>?_) (fun hc4=>?_)
     ·skip
      refine C0 ?_;refine ⟨by rw[hk]; simp,B3 ⟨⟨_,rfl,rfl⟩,⟨_,rfl,?_⟩,O⟩ ⟨⟨_,rfl,rfl⟩,O⟩ O⟩;exact tx (Tz hk (by simp [isT] at p1; omega))
     ·exact absurd (p1.symm.trans hc4) (by simp)
    ·have n1 : ¬ isT t La 2=true:=by rw[Bool.not_eq_true]; exact hc3
     refine A8 (A6 ?_);refine A5 J J J (B7 J gU J J J J J) ?_;refine C8 J J J J J J gU gU (Ctr.add (U6 _ _ _)) J ?_;refine A5 J J J (A9 J gU) ?_;refine B0 ?_;refine B8 J (fun hc5=>?_) (fun hc5=>?_)
     ·have p1 : isT t wEnc 2=true:=hc5
      have hk : N2 R t=some 2:=by rw[N2,if_pos (.inr p1)]
      refine C0 ?_;refine B8 J (fun hc6=>?_) (fun hc6=>?_)
      ·skip
       refine C0 ?_;refine ⟨by rw[hk]; simp,B3 ⟨⟨_,rfl,rfl⟩,⟨_,rfl,?_⟩,O⟩ ⟨⟨_,rfl,rfl⟩,O⟩ O⟩;exact tx (Tz hk (by simp [isT] at p1; omega))
      ·exact absurd (p1.symm.trans hc6) (by simp)
     ·have n2 : ¬ isT t wEnc 2=true:=by rw[Bool.not_eq_true]; exact hc5
      have m1 : ¬ (isT t La 2=true∨isT t wEnc 2=true):=fun q=>q.elim n1 n2
      refine A6 ?_;refine A5 J J J (B7 J gU J J J J J) ?_;refine C8 J J J J J J gU gU (Ctr.add (U6 _ _ _)) J ?_;refine A5 J J J (A9 J gU) ?_;refine B0 ?_;refine B5 (s:={ t:=[(2,_,_),(3,_,_),(7,_,_),(26,_,_)],bx:=[(.l 2,_),(.l 3,_)],ow:=[],mp:=_ }) (B3 (⟨U J,U J,U J,U J,O⟩) (⟨U J,U J,O⟩) O (.inr J)) ?_;refine B8 J (fun hc7=>?_) (fun hc7=>?_)
      ·have p1 : isT t Yz 1=true:=hc7
       have hk : N2 R t=some 1:=by rw[N2,if_neg m1,if_pos p1]
       refine C0 ?_;refine ⟨by rw[hk]; simp,B3 ⟨⟨_,rfl,rfl⟩,⟨_,rfl,?_⟩,O⟩ ⟨⟨_,rfl,rfl⟩,O⟩ O⟩;exact tx (Tz hk (by simp [isT] at p1; omega))
      ·have n3 : ¬ isT t Yz 1=true:=by rw[Bool.not_eq_true]; exact hc7
       refine A8 ?_;refine A8 ?_;refine awp_drawn' (by kernel_rfl) ?_;refine D5 J J J J J J J gU J J J J J ?_;refine F3 J J J J J J J gU gU (Ctr.add (U6 _ _ _)) J ?_;refine B9 J J J J (A7 J gU) ?_;refine D5 J J J J J J J gU J J J J J ?_;refine B9 J J J J (A7 J gU) ?_;refine B9 J J J J (C7 (j:=1) J J (fun hh=>hh) gU J J (by first|omega|(simp at hh ⊢; omega)|(simp [isT] at hh ⊢; omega)) (fun hh=>T.rows_at (by first|omega|(simp at hh ⊢; omega)|(simp [isT] at hh ⊢; omega)))) ?_;refine B9 J J J J (D6 J (fun hh=>hh) J J J J) ?_;refine F3 J J J J J J J gU (fun hh=>gA ((fun hh=>hh) hh) (gA ((fun hh=>hh) hh) (rfl))) (Ctr.add (Lp _ _ _)) J ?_;refine B9 J J J J (E4 J J gU (fun _ hi=>gP J hi)) ?_;refine B9 J J J J (A9 J gU) ?_;refine F8 (by kernel_rfl) ?_;refine B5 (s:={ t:=[(2,_,_),(3,_,_),(7,_,_),(33,_,_)],bx:=[(.l 2,_),(.l 3,_)],ow:=[],mp:=_ }) (B3 (⟨U J,U J,U J,U J,O⟩) (⟨U J,U J,O⟩) O (.inr J)) ?_;refine B8 J (fun hc8=>?_) (fun hc8=>?_)
       ·have p1 : isT t Ut 2=true∧pubT R (kid t 1)=true:=by rw[← Bool.and_eq_true]; exact hc8
        have hk : N2 R t=some 1:=by rw[N2,if_neg m1,if_neg n3,if_pos (.inl p1)]
        have hlen : t.kids.length=2 := by have := p1.1; simp [isT] at this; omega
        refine C0 ?_;refine B8 J (fun hc9=>?_) (fun hc9=>?_)
        ·skip
         refine A6 ?_;refine A5 J J J (A7 J gU) ?_;refine A5 J J J (Dj J gU J J (fun _=>rfl) (fun _=>⟨_,_,_,rfl,gU,rfl⟩) (fun hh=>by first|omega|(simp at hh ⊢; omega)|(simp [isT] at hh ⊢; omega)) (fun hh=>by first|omega|(simp at hh ⊢; omega)|(simp [isT] at hh ⊢; omega))) ?_;refine A5 J J J (A9 J gU) ?_;refine B0 ?_;refine ⟨by rw[hk]; simp,B3 ⟨⟨_,rfl,rfl⟩,⟨_,rfl,?_⟩,O⟩ ⟨⟨_,rfl,rfl⟩,O⟩ O⟩;exact tx (Yp hk)
        ·exact absurd (hc8.symm.trans hc9) (by simp)
       ·have n4 : ¬ (isT t Ut 2=true∧pubT R (kid t 1)=true):=by rw[← Bool.and_eq_true,Bool.not_eq_true]; exact hc8
        refine awp_drawn' (by kernel_rfl) ?_;refine D5 J J J J J J J gU J J J J J ?_;refine F3 J J J J J J J gU gU (Ctr.add (U6 _ _ _)) J ?_;refine B9 J J J J (A7 J gU) ?_;refine D5 J J J J J J J gU J J J J J ?_;refine B9 J J J J (A7 J gU) ?_;refine B9 J J J J (C7 (j:=1) J J (fun hh=>hh) gU J J (by first|omega|(simp at hh ⊢; omega)|(simp [isT] at hh ⊢; omega)) (fun hh=>T.rows_at (by first|omega|(simp at hh ⊢; omega)|(simp [isT] at hh ⊢; omega)))) ?_;refine B9 J J J J (D6 J (fun hh=>hh) J J J J) ?_;refine F3 J J J J J J J gU (fun hh=>gA ((fun hh=>hh) hh) (gA ((fun hh=>hh) hh) (rfl))) (Ctr.add (Jn _ _ _)) J ?_;refine B9 J J J J (E4 J J gU (fun _ hi=>gP J hi)) ?_;refine B9 J J J J (A9 J gU) ?_;refine F8 (by kernel_rfl) ?_;refine B5 (s:={ t:=[(2,_,_),(3,_,_),(7,_,_),(33,_,_)],bx:=[(.l 2,_),(.l 3,_)],ow:=[],mp:=_ }) (B3 (⟨U J,U J,U J,U J,O⟩) (⟨U J,U J,O⟩) O (.inr J)) ?_;refine B8 J (fun hc10=>?_) (fun hc10=>?_)
        ·have p1 : isT t Ug 2=true∧Gn R (kid t 1)=true:=by rw[← Bool.and_eq_true]; exact hc10
         have hk : N2 R t=some 1:=by rw[N2,if_neg m1,if_neg n3,if_pos (.inr p1)]
         have hlen : t.kids.length=2 := by have := p1.1; simp [isT] at this; omega
         refine A6 ?_;refine A5 J J J (A7 J gU) ?_;refine A5 J J J (Dj J gU J J (fun _=>rfl) (fun _=>⟨_,_,_,rfl,gU,rfl⟩) (fun hh=>by first|omega|(simp at hh ⊢; omega)|(simp [isT] at hh ⊢; omega)) (fun hh=>by first|omega|(simp at hh ⊢; omega)|(simp [isT] at hh ⊢; omega))) ?_;refine A5 J J J (A9 J gU) ?_;refine B0 ?_;refine ⟨by rw[hk]; simp,B3 ⟨⟨_,rfl,rfl⟩,⟨_,rfl,?_⟩,O⟩ ⟨⟨_,rfl,rfl⟩,O⟩ O⟩;exact tx (Yp hk)
        ·have n5 : ¬ (isT t Ug 2=true∧Gn R (kid t 1)=true):=by rw[← Bool.and_eq_true,Bool.not_eq_true]; exact hc10
         have m2 : ¬ ((isT t Ut 2=true∧pubT R (kid t 1)=true)∨(isT t Ug 2=true∧Gn R (kid t 1)=true)):=fun q=>q.elim n4 n5
         refine A8 ?_;refine A8 (A6 ?_);refine A5 J J J (B7 J gU J J J J J) ?_;refine A5 J J J (B7 J gU J J J J J) ?_;refine C8 J J J J J J gU gU (Ctr.add (Lp _ _ _)) J ?_;refine A5 J J J (A9 J gU) ?_;refine B0 ?_;refine B8 J (fun hc11=>?_) (fun hc11=>?_)
         ·have p1 : pubT R t=true:=hc11
          have hk : N2 R t=some 0:=by rw[N2,if_neg m1,if_neg n3,if_neg m2,if_pos (.inl p1)]
          refine C0 ?_;refine B8 J (fun hc12=>?_) (fun hc12=>?_)
          ·skip
           refine A6 ?_;refine A5 J J J (A9 J gU) ?_;refine B0 ?_;refine ⟨by rw[hk]; simp,B3 ⟨⟨_,rfl,rfl⟩,⟨_,rfl,?_⟩,O⟩ ⟨⟨_,rfl,rfl⟩,O⟩ O⟩;exact tx (uAC hk)
          ·exact absurd (hc11.symm.trans hc12) (by simp)
         ·have n6 : ¬ pubT R t=true:=by rw[Bool.not_eq_true]; exact hc11
          refine awp_drawn' (by kernel_rfl) ?_;refine D5 J J J J J J J gU J J J J J ?_;refine F3 J J J J J J J gU gU (Ctr.add (U6 _ _ _)) J ?_;refine B9 J J J J (A7 J gU) ?_;refine D5 J J J J J J J gU J J J J J ?_;refine B9 J J J J (A7 J gU) ?_;refine B9 J J J J (C7 (j:=0) J J (fun hh=>hh) gU J J (by first|omega|(simp at hh ⊢; omega)|(simp [isT] at hh ⊢; omega)) (fun hh=>T.rows_at (by first|omega|(simp at hh ⊢; omega)|(simp [isT] at hh ⊢; omega)))) ?_;refine B9 J J J J (D6 J (fun hh=>hh) J J J J) ?_;refine F3 J J J J J J J gU (fun hh=>gA ((fun hh=>hh) hh) (gA ((fun hh=>hh) hh) (rfl))) (Ctr.add (Di _ _ _)) J ?_;refine B9 J J J J (E4 J J gU (fun _ hi=>gP J hi)) ?_;refine B9 J J J J (A7 J gU) ?_;refine D5 J J J J J J J gU J J J J J ?_;refine B9 J J J J (A7 J gU) ?_;refine B9 J J J J (C7 (j:=1) J J (fun hh=>hh) gU J J (by first|omega|(simp at hh ⊢; omega)|(simp [isT] at hh ⊢; omega)) (fun hh=>T.rows_at (by first|omega|(simp at hh ⊢; omega)|(simp [isT] at hh ⊢; omega)))) ?_;refine B9 J J J J (D6 J (fun hh=>hh) J J J J) ?_;refine F3 J J J J J J J gU (fun hh=>gA ((fun hh=>hh) hh) (gA ((fun hh=>hh) hh) (rfl))) (Ctr.add (Di _ _ _)) J ?_
          refine B9 J J J J (E4 J J gU (fun _ hi=>gP J hi)) ?_;refine B9 J J J J (A7 J gU) ?_;refine B9 J J J J (A7 J gU) ?_;refine B9 J J J J (C7 (j:=0) J J (fun hh=>hh) gU J J (by first|omega|(simp at hh ⊢; omega)|(simp [isT] at hh ⊢; omega)) (fun hh=>T.rows_at (by first|omega|(simp at hh ⊢; omega)|(simp [isT] at hh ⊢; omega)))) ?_;refine B9 J J J J (F4 J (fun hh=>hh) J J) ?_;refine B9 J J J J (E9 J (fun hh=>hh) J J J) ?_;refine B9 J J J J (A7 J gU) ?_;refine B9 J J J J (C7 (j:=1) J J (fun hh=>hh) gU J J (by first|omega|(simp at hh ⊢; omega)|(simp [isT] at hh ⊢; omega)) (fun hh=>T.rows_at (by first|omega|(simp at hh ⊢; omega)|(simp [isT] at hh ⊢; omega)))) ?_;refine B9 J J J J (F4 J (fun hh=>hh) J J) ?_;refine B9 J J J J (E9 J (fun hh=>hh) J J J) ?_;refine B9 J J J J (H1 J J (fun hh=>hh) (fun hh=>hh) J) ?_;refine B9 J J J J (E4 J J gU (fun _ hi=>gP J hi)) ?_;refine B9 J J J J (A9 J gU) ?_;refine F8 (by kernel_rfl) ?_;refine B5 (s:={ t:=[(2,_,_),(54,_,_)],bx:=[(.l 2,_)],ow:=[],mp:=_ }) (B3 (⟨U J,U J,O⟩) (⟨U J,O⟩) O (.inr J)) ?_
          refine B8 J (fun hc13=>?_) (fun hc13=>?_)
          ·have p1 : shkT R t=true:=by rw[← hc13]; rfl
           have hk : N2 R t=some 0:=by rw[N2,if_neg m1,if_neg n3,if_neg m2,if_pos (.inr p1)]
           refine A6 ?_;refine A5 J J J (A9 J gU) ?_;refine B0 ?_;refine ⟨by rw[hk]; simp,B3 ⟨⟨_,rfl,rfl⟩,⟨_,rfl,?_⟩,O⟩ ⟨⟨_,rfl,rfl⟩,O⟩ O⟩;exact tx (uAC hk)
          ·have n7 : ¬ shkT R t=true:=by rw[Bool.not_eq_true,← hc13]; rfl
           have hk : N2 R t=none:=by rw[N2,if_neg m1,if_neg n3,if_neg m2,if_neg (fun q=>q.elim n6 n7)]
           refine A8 (A6 ?_);refine A5 J J J (A9 J gU) ?_;refine B0 ?_;refine C1 ?_
           repeat(first|refine tR ?_|refine bR ?_)
           refine C5 J ?_ O
           (rw[Bs,if_neg (by omega),hk]; rfl)
   ·have hE:=Yv (K:=l.map (·.1)) hc hj
    have hrk:=T.rows_len (lkN R t)
    rw[hE]
    refine A8 ?_;refine A8 (A6 ?_);refine A5 J J J (A7 J gU) ?_;refine E0 J J J J J gU J J ?_ (fun hh=>by simp at hh); intro hlen;refine A5 J J J (A7 J gU) ?_;refine B0 ?_;refine C4 ?_;refine F5 (ι:=Nat) { t:=[(2,_,_),(85,_,_),(86,_,_)],bx:=[(.l 2,_)],ow:=[],mp:=_ } (fun k=>[(87,true,xi (k : Int))]) (fun k=>[]) (fun k=>k≤(lkN R t).length ∧ ∀ j,j < k→V4 R (l.map (·.1)) ((lkN R t).getD j default)=0) (fun k=>(lkN R t).length - k) (0) (⟨by omega,fun j hj=>by omega⟩) (B3 (⟨U J,U J,U J,U J,O⟩) (⟨U J,O⟩) O (.inr J)) ?_
    intro k hok
    dsimp only [List.cons_append,List.nil_append]
    obtain ⟨hk,hi⟩:=hok
    refine A8 (A6 ?_);refine A5 J J J (B6 J J gU gU J) ?_;refine B0 ?_;refine A8 ?_;refine B8 J (fun hc14=>?_) (fun hc14=>?_)
    ·try simp only [nn,B4,nq] at hc14
     have hlt : k < (lkN R t).length:=by omega
     have hks:=uBE (S1 (d:=default) hlt)
     refine C0 ?_;refine A8 ?_;refine C4 ?_;refine A8 (A6 ?_);refine A5 J J J (C7 J J gU gU J J J (fun hh=>T.rows_at (by first|omega|(simp at hh ⊢; omega)|(simp [isT] at hh ⊢; omega)))) ?_;refine A5 J J J (D6 J gU J J J J) ?_;refine C3 J (D7 J J J) ?_;refine C3 J (C9 J J J J J J J) ?_;refine B0 ?_;refine A8 (A6 ?_);refine A5 J J J (B7 J gU J J J J J) ?_;refine A5 J J J (B7 J gU J J J J J) ?_;refine C8 J J J J J J gU gU (ih ((lkN R t).getD k default) (by omega) (by omega)) J ?_;refine A5 J J J (A9 J gU) ?_;refine B0 ?_;refine B5 (s:={ t:=[(2,_,_),(10,_,_),(85,_,_),(86,_,_),(87,_,_)],bx:=[(.l 2,_)],ow:=[],mp:=_ }) (B3 (⟨U J,U J,U J,U J,U J,O⟩) (⟨U J,O⟩) O (.inr J)) ?_;refine A8 (A6 ?_);refine A5 J J J (A7 J gU) ?_;refine A5 J J J (B6 J J gU gU J) ?_;refine B0 ?_;refine B8 J (fun hc15=>?_) (fun hc15=>?_)
     ·try simp only [nn,B4,nq] at hc15
      refine A8 (A6 ?_);refine A5 J J J (A7 J gU) ?_;refine A5 J J J (A9 J gU) ?_;refine B0 ?_;refine C1 ?_
      repeat(first|refine tR ?_|refine bR ?_)
      refine C5 J ?_ O
      (rw[Ii hlt hi hc15]; rfl)
     ·try simp only [nn,B4,nq] at hc15
      refine C0 ?_;refine A6 ?_;refine A5 J J J (D0 J J gU gU J (IntWalk.i64_in _ (by omega))) ?_;refine A5 J J J (A7 J gU) ?_;refine B0 ?_;refine ⟨k + 1,?_,?_,B3 (⟨⟨_,rfl,?_⟩,⟨U J,U J,U J,O⟩⟩) (⟨U J,O⟩) O (.inr J)⟩
      all_goals (first|rfl|omega|exact ⟨by omega,Bu hi hc15⟩)
    ·try simp only [nn,B4,nq] at hc14
     have hke : k=(lkN R t).length:=by omega
     subst hke
     refine E1 ?_
     repeat(first|refine D3 ?_|refine D4 ?_|refine D2 J ?_)
     refine A8 (A6 ?_);refine A5 J J J (A9 J gU) ?_;refine B0 ?_;refine C1 ?_
     repeat(first|refine tR ?_|refine bR ?_)
     refine C5 J ?_ O
     (rw[Ez hi]; rfl)
def idx0 (l : List (List UInt8)) (s : List UInt8) : Int:=if idxF (fun x=>decide (x=s) && decide (s≠[])) l < 0 then 0 else idxF (fun x=>decide (x=s) && decide (s≠[])) l
def chR (l : List Tk) (ws : List (List UInt8)) (p : PS) : Int × PS:=if (C6 l [] p).2.bad=true∨idx0 ws (C6 l [] p).1=0 then (0,p.off) else (idx0 ws (C6 l [] p).1,(C6 l [] p).2)
def I5 : List (List UInt8):=[] :: [] :: sortW
def K0 : List (List UInt8):=[] :: kindW
def X2 : List (List UInt8):=[] :: J7
def Q4 : List (List UInt8):=[[],Iy]
def frRA (l : List Tk) (role : List UInt8) : Nat→PS→List Fs→List Fs × PS
 | 0,p,out=>(out,p)
 | n + 1,p,out =>
  if (chR l I5 (C6 l [] p).2).2.bad=true then (out++[⟨role,(C6 l [] p).1,(chR l I5 (C6 l [] p).2).1⟩],(chR l I5 (C6 l [] p).2).2)
  else if symQ l (chR l I5 (C6 l [] p).2).2 [44]=true then frRA l role n (chR l I5 (C6 l [] p).2).2.go (out++[⟨role,(C6 l [] p).1,(chR l I5 (C6 l [] p).2).1⟩])
  else (out++[⟨role,(C6 l [] p).1,(chR l I5 (C6 l [] p).2).1⟩],(chR l I5 (C6 l [] p).2).2)
def frRd (l : List Tk) (p : PS) (out : List Fs) : List Fs × PS:=frRA l (C6 l [] p).1 (l.length + 1) (E5 l [58] (C6 l [] p).2) out
def Bq (l : List Tk) (line : Int) (p : PS) : Sp × PS :=
 let a:=C6 l [] p
 let b:=C6 l [] (E5 l [62] (E5 l [45] a.2))
 let t:=F7 l (l.length + 1) (E5 l [58] b.2)
 (⟨a.1,b.1,t.1,line⟩,t.2)
def Z4 (l : List Tk) (line : Int) (p : PS) : Gl × PS :=
 let k:=chR l K0 p
 let r:=C6 l [] k.2
 let w:=if I4 k.1=true then C6 l [] r.2 else ([],r.2)
 let d:=G5 l (F7 l (l.length + 1)) (E5 l [58] w.2)
 (⟨k.1,r.1,w.1,d.1,line⟩,d.2)
def N8 (l : List Tk) (n : Nar) (line : Int) (k : Int) (q : PS) : Nar × PS :=
 if k=1 then ({ n with roles:=n.roles++(J2 l q).1 },(J2 l q).2)
 else if k=2 then ({ n with fresh:=(frRd l q n.fresh).1 },(frRd l q n.fresh).2)
 else if k=3 then ({ n with tags:=n.tags++(J2 l q).1 },(J2 l q).2)
 else if k=4 then ({ n with steps:=n.steps++[(Bq l line q).1] },(Bq l line q).2)
 else if k=5 then ({ n with goals:=n.goals++[(Z4 l line q).1] },(Z4 l line q).2)
 else (n,q)
def Ae (l : List Tk) (n : Nar) (p : PS) : Nar × PS :=
 ((N8 l n (P7 l p) (chR l X2 p).1 (chR l X2 p).2).1,E5 l [59] (N8 l n (P7 l p) (chR l X2 p).1 (chR l X2 p).2).2)
def Q1 (l : List Tk) : Nat→Nar→PS→Nar × PS
 | 0,n,p=>(n,p)
 | m + 1,n,p=>if p.bad=true then (n,p) else if symQ l p [125]=true then (n,p) else Q1 l m (Ae l n p).1 (Ae l n p).2
def Ra (l : List Tk) : Nar × PS :=
 let a:=chR l Q4 ⟨0,false⟩
 let b:=C6 l [] a.2
 let r:=Q1 l (l.length + 2) { nar0 with name:=b.1 } (E5 l [123] b.2)
 (r.1,E5 l [125] r.2)
def Keeps {α : Type} (f : PS→α × PS) : Prop:=∀ p : PS,p.bad=true→(f p).2=p
theorem Ux {p : PS} (h : p.bad=true) : p.off=p:=by cases p; simp [PS.off] at h ⊢; exact h
theorem R0 {l : List Tk} {p : PS} {c : List UInt8} (h : p.bad=true) : symQ l p c=false:=by simp [symQ,h]
theorem Wd {l : List Tk} {p : PS} {ws : List (List UInt8)} (h : p.bad=true) : namQ l p ws=false:=by simp [namQ,h]
theorem N3 (l : List Tk) (c : List UInt8) {p : PS} (h : p.bad=true) : E5 l c p=p:=by rw[E5,R0 h]; exact Ux h
theorem K9 (l : List Tk) (ws : List (List UInt8)) : Keeps (C6 l ws):=fun p h=>by rw[C6,Wd h]; exact Ux h
theorem Wb {α : Type} {l : List Tk} {f : PS→α × PS} {p : PS} {out : List α} (n : Nat) (h : p.bad=true) : L4 l f n p out=(out,p):=Dq (R0 h) n
theorem Z0 {α : Type} {l : List Tk} {f : PS→α × PS} (hf : Keeps f) : Keeps (G5 l f):=fun p h=>by
 unfold G5; rw[hf p h,Wb _ h]
theorem Bw (l : List Tk) (n : Nat) : Keeps (I6 l n):=fun p h=>by
 cases n with
 | zero=>rfl
 | succ n=>rw[I6,if_neg (by rw[R0 h]; simp),K9 l [] p h,if_neg (by rw[R0 h]; simp)]
theorem Rb (l : List Tk) (n : Nat) : Keeps (F7 l n):=fun p h=>by
 cases n with
 | zero=>rfl
 | succ n=>rw[F7,if_neg (by rw[R0 h]; simp),K9 l [] p h,if_neg (by rw[R0 h]; simp)]
theorem Keeps.good {α : Type} {f : PS→α × PS} (hf : Keeps f) {p : PS} (h : (f p).2.bad=false) : p.bad=false:=by
 cases hb : p.bad with
 | false=>rfl
 | true=>rw[hf p hb,hb] at h; exact h
theorem T3 {l : List Tk} {c : List UInt8} {p : PS} (h : (E5 l c p).bad=false) : p.bad=false:=by
 cases hb : p.bad with
 | false=>rfl
 | true=>rw[N3 l c hb,hb] at h; exact h
def Agr {α : Type} (f g : PS→α × PS) : Prop:=∀ p : PS,(f p).2=(g p).2∧((f p).2.bad=false→(f p).1=(g p).1)
theorem Km {α : Type} {l : List Tk} {f g : PS→α × PS} (h : Agr f g) : ∀ (n : Nat) (p : PS) (out out' : List α),(p.bad=false→out=out') →
  (L4 l f n p out).2=(L4 l g n p out').2∧((L4 l f n p out).2.bad=false→(L4 l f n p out).1=(L4 l g n p out').1)
 | 0,p,out,out',ho=>⟨rfl,ho⟩
 | n + 1,p,out,out',ho=>by
  rw[L4,L4]
  split
  ·rename_i hq
   have hb:=(N9 hq).2
   obtain ⟨e1,e2⟩:=h p.go
   have ih:=Km (l:=l) h n (f p.go).2 (out++[(f p.go).1]) (out'++[(g p.go).1]) fun hz=>by rw[ho hb,e2 hz]
   rw[e1] at ih ⊢
   exact ih
  ·exact ⟨rfl,ho⟩
theorem Jz {α : Type} {l : List Tk} {f g : PS→α × PS} (h : Agr f g) : Agr (G5 l f) (G5 l g):=fun p=>by
 unfold G5
 obtain ⟨e1,e2⟩:=h p
 have := Km (l := l) h (l.length + 1) (f p).2 [(f p).1] [(g p).1] fun hz=>by rw[e2 hz]
 rw[e1] at this ⊢
 exact this
theorem Eb (l : List Tk) : ∀ n : Nat,Agr (F7 l n) (I6 l n)
 | 0,p=>⟨rfl,fun _=>rfl⟩
 | n + 1,p=>by
  have ih:=Eb l n
  have ihm:=Jz (l:=l) ih
  rw[F7,I6]
  split
  ·have e1:=(ih p.go).1
   have e2:=(ihm (E5 l [44] (F7 l n p.go).2)).1
   rw[e1] at e2
   have e3 : (E5 l [62] (G5 l (F7 l n) (E5 l [44] (F7 l n p.go).2)).2)=E5 l [62] (G5 l (I6 l n) (E5 l [44] (I6 l n p.go).2)).2:=by rw[e1,e2]
   split
   ·rename_i hb
    exact ⟨e3,fun hz=>by dsimp only at hz; rw[hb] at hz; cases hz⟩
   ·rename_i hb
    refine ⟨e3,fun _=>?_⟩
    have hb : (E5 l [62] (G5 l (F7 l n) (E5 l [44] (F7 l n p.go).2)).2).bad=false:=by simpa using hb
    have h1:=T3 hb
    have h2:=(Z0 (l:=l) (Rb l n)).good h1
    have h3:=T3 h2
    dsimp only
    rw[(ih p.go).2 h3,(ihm _).2 h1,e1]
  ·split
   ·split
    ·exact ⟨rfl,fun _=>rfl⟩
    ·have e2:=(ihm (C6 l [] p).2.go).1
     dsimp only
     rw[e2]
     refine ⟨rfl,fun hz=>?_⟩
     rw[← e2] at hz
     rw[(ihm _).2 (T3 hz)]
   ·exact ⟨rfl,fun _=>rfl⟩
theorem Ft {p : List UInt8→Bool} : ∀ {l : List (List UInt8)},(∃ x ∈ l,p x=true)→0≤idxF p l
 | [],h=>by simp at h
 | x :: r,h=>by
  rw[idxF]
  split
  ·omega
  ·rename_i hx
   have : 0≤idxF p r:=Ft (by
    obtain ⟨y,hy,hp⟩:=h
    rcases List.mem_cons.1 hy with q | q
    ·subst q; exact absurd hp hx
    ·exact ⟨y,q,hp⟩)
   rw[if_neg (by omega)]; omega
theorem Qx {p : List UInt8→Bool} : ∀ {l : List (List UInt8)},(∀ x ∈ l,p x=false)→idxF p l = -1
 | [],_=>rfl
 | x :: r,h=>by
  rw[idxF,if_neg (by rw[h x (by simp)]; simp),Qx fun y hy=>h y (by simp [hy]),if_pos (by omega)]
theorem Io {p q : List UInt8→Bool} : ∀ {l : List (List UInt8)},(∀ x ∈ l,p x=q x)→idxF p l=idxF q l
 | [],_=>rfl
 | x :: r,h=>by rw[idxF,idxF,h x (by simp),Io fun y hy=>h y (by simp [hy])]
theorem Dp (s : List UInt8) : ∀ l : List (List UInt8),I3 l s=idxF (fun x=>decide (x=s)) l
 | []=>rfl
 | x :: l=>by
  rw[I3,idxF,Dp s l]
  by_cases h : x=s
  ·rw[if_pos h,if_pos (by simp [h])]
  ·have h' : ¬decide (x=s)=true:=by simp [h]
   rw[if_neg h,if_neg h']
theorem Dl {l : List (List UInt8)} {s : List UInt8} (h : l.contains s=true) : 0≤I3 l s:=by
 rw[Dp]
 exact Ft ⟨s,by simpa using h,by simp⟩
theorem uA8 {ws : List (List UInt8)} (hne : [] ∉ ws) (s : List UInt8) : ∀ k : Nat,0 < k→idx0 (List.replicate k []++ws) s=if ws.contains s=true then I3 ws s + k else 0:=by
 have key : ∀ k : Nat,idxF (fun x=>decide (x=s) && decide (s≠[])) (List.replicate k []++ws)=if ws.contains s=true then I3 ws s + k else -1:=by
  intro k
  induction k with
  | zero =>
   show idxF _ ws=_
   split
   ·rename_i hc
    have hm : s ∈ ws:=by simpa using hc
    have hs : s≠[]:=fun q=>hne (q ▸ hm)
    rw[Dp,show ((0 : Nat) : Int)=0 from J,Int.add_zero]
    exact Io fun x _=>by simp [hs]
   ·rename_i hc
    refine Qx fun x hx=>?_
    have : x≠s:=fun q=>by subst q; exact hc (by simpa using hx)
    simp [this]
  | succ k ih =>
   rw[List.replicate_succ,List.cons_append,idxF,if_neg (by simp),ih]
   split
   ·rename_i hc
    have := Dl hc
    rw[if_neg (by omega)]; push_cast; omega
   ·rw[if_pos (by omega)]
 intro k hk
 unfold idx0
 rw[key k]
 split
 ·rename_i hc
  have := Dl hc
  rw[if_neg (by omega)]
 ·rw[if_pos (by omega)]
theorem Lz (l : List Tk) {ws : List (List UInt8)} (hne : [] ∉ ws) (h0 : ws≠[]) (k : Nat) (hk : 0 < k) (p : PS) :
  chR l (List.replicate k []++ws) p=(if namQ l p ws=true then I3 ws (C6 l ws p).1 + k else 0,(C6 l ws p).2):=by
 unfold chR
 rw[uA8 hne _ k hk]
 by_cases h1 : namQ l p []=true
 ·have e1 : C6 l [] p=((l.getD p.at' tk0).text,p.go):=by rw[C6,if_pos h1]
  have hb : p.bad=false:=by
   simp only [namQ,Bool.and_eq_true,Bool.not_eq_true'] at h1; exact h1.1.1.1
  rw[e1]
  dsimp only
  by_cases hc : ws.contains (l.getD p.at' tk0).text=true
  ·have h2 : namQ l p ws=true:=by
    simp only [namQ,Bool.and_eq_true] at h1 ⊢
    exact ⟨h1.1,by rw[hc]; simp⟩
   have e2 : C6 l ws p=((l.getD p.at' tk0).text,p.go):=by rw[C6,if_pos h2]
   have := Dl hc
   rw[if_pos hc,if_neg (by rintro (q | q); { simp [PS.go,hb] at q }; { omega }),if_pos h2,e2]
  ·have h2 : ¬namQ l p ws=true:=by
    simp only [namQ,Bool.and_eq_true,Bool.or_eq_true]
    rintro ⟨_,q | q⟩
    ·exact h0 (by simpa using q)
    ·exact hc q
   have e2 : C6 l ws p=([],p.off):=by rw[C6,if_neg h2]
   rw[if_neg hc,if_pos (.inr J),if_neg h2,e2]
 ·have e1 : C6 l [] p=([],p.off):=by rw[C6,if_neg h1]
  have h2 : ¬namQ l p ws=true:=by
   intro q
   apply h1
   simp only [namQ,Bool.and_eq_true] at q ⊢
   exact ⟨q.1,by simp⟩
  have e2 : C6 l ws p=([],p.off):=by rw[C6,if_neg h2]
  rw[e1,if_pos (.inl J),if_neg h2,e2]
theorem Fh {l : List Tk} {ws : List (List UInt8)} {p : PS} (h : (C6 l ws p).2.bad=false) : namQ l p ws=true:=by
 cases hq : namQ l p ws with
 | true=>rfl
 | false=>rw[C6,hq] at h; simp [PS.off] at h
theorem Ui (l : List Tk) (p : PS) : (chR l I5 p).2=(C6 l sortW p).2∧((chR l I5 p).2.bad=false→(chR l I5 p).1=2 + I3 sortW (C6 l sortW p).1):=by
 have h : chR l I5 p=_:=Lz l (ws:=sortW) (by decide) (by decide) 2 (by omega) p
 rw[h]
 refine ⟨rfl,fun hb=>?_⟩
 rw[if_pos (Fh hb)]; omega
theorem uBx (l : List Tk) (p : PS) : (chR l K0 p).2=(C6 l kindW p).2∧(chR l K0 p).1=1 + I3 kindW (C6 l kindW p).1:=by
 have h : chR l K0 p=_:=Lz l (ws:=kindW) (by decide) (by decide) 1 (by omega) p
 rw[h]
 refine ⟨rfl,?_⟩
 split
 ·omega
 ·rename_i hq
  rw[C6,if_neg hq]; rfl
theorem uBb (l : List Tk) (p : PS) : (chR l X2 p).2=(C6 l J7 p).2∧(chR l X2 p).1=1 + I3 J7 (C6 l J7 p).1:=by
 have h : chR l X2 p=_:=Lz l (ws:=J7) (by decide) (by decide) 1 (by omega) p
 rw[h]
 refine ⟨rfl,?_⟩
 split
 ·omega
 ·rename_i hq
  rw[C6,if_neg hq]; rfl
theorem uA9 (l : List Tk) (p : PS) : (chR l Q4 p).2=(C6 l [Iy] p).2:=by
 have h : chR l Q4 p=_:=Lz l (ws:=[Iy]) (by decide) (by decide) 1 (by omega) p
 rw[h]
theorem Rv {l : List Tk} {role : List UInt8} {p : PS} {out : List Fs} (h : p.bad=true) : ∀ n,N7 l role n p out=(out,p)
 | 0=>rfl
 | n + 1=>by rw[N7,if_pos h]
theorem uAK (l : List Tk) (role : List UInt8) : ∀ (n : Nat) (p : PS) (out : List Fs),0 < n→l.length < n + p.at' →
  (frRA l role n p out).2=(N7 l role n p out).2∧((frRA l role n p out).2.bad=false→(frRA l role n p out).1=(N7 l role n p out).1)
 | 0,p,out,h,_=>by omega
 | n + 1,p,out,_,hn=>by
  have hc:=Ui l (C6 l [] p).2
  have hk:=K9 l []
  have hk2:=K9 l sortW
  by_cases hp : p.bad=true
  ·have e1:=hk p hp
   have e2 : (chR l I5 (C6 l [] p).2).2=p:=by rw[hc.1,e1,hk2 p hp]
   rw[frRA,N7,if_pos hp,e2,if_pos hp]
   exact ⟨rfl,fun q=>by dsimp only at q; rw[hp] at q; cases q⟩
  ·rw[frRA,N7,if_neg hp,hc.1]
   split
   ·rename_i hb
    rw[if_neg (by rw[R0 hb]; simp)]
    exact ⟨rfl,fun q=>by dsimp only at q; rw[hb] at q; cases q⟩
   ·rename_i hb
    have hb : (C6 l sortW (C6 l [] p).2).2.bad=false:=by simpa using hb
    have hv:=hc.2 (by rw[hc.1]; exact hb)
    rw[hv]
    split
    ·rename_i hq
     have h1:=(N9 hq).1
     have h2:=(G4 l [] p).1
     have h3:=(G4 l sortW (C6 l [] p).2).1
     have hg : (C6 l sortW (C6 l [] p).2).2.go.at'=(C6 l sortW (C6 l [] p).2).2.at' + 1:=rfl
     exact uAK l role n _ _ (by omega) (by omega)
    ·exact ⟨rfl,fun _=>rfl⟩
theorem Ni (l : List Tk) (out : List Fs) : Keeps (fun p=>Ap l p out):=fun p h=>by
 show (N7 _ _ _ _ _).2=p
 rw[K9 l [] p h,N3 l [58] h,Rv h]
theorem Qr (l : List Tk) (out : List Fs) : Agr (fun p=>frRd l p out) (fun p=>Ap l p out):=fun p=>by
 refine uAK l _ (l.length + 1) _ out (by omega) ?_
 omega
theorem Pm (l : List Tk) (line : Int) : Keeps (Hd l line):=fun p h=>by
 show (I6 _ _ _).2=p
 rw[K9 l [] p h,N3 l _ h,N3 l _ h,K9 l [] p h,N3 l _ h,Bw l _ p h]
theorem Og (l : List Tk) (line : Int) : Agr (Bq l line) (Hd l line):=fun p=>by
 obtain ⟨e1,e2⟩:=Eb l (l.length + 1) (E5 l [58] (C6 l [] (E5 l [62] (E5 l [45] (C6 l [] p).2))).2)
 refine ⟨e1,fun hb=>?_⟩
 show (⟨_,_,_,_⟩ : Sp)=⟨_,_,_,_⟩
 rw[e2 hb]
theorem Ox (l : List Tk) (line : Int) : Keeps (Gf l line):=fun p h=>by
 show (G5 _ _ _).2=p
 rw[K9 l kindW p h,K9 l [] p h]
 split
 ·rw[K9 l [] p h,N3 l _ h,Z0 (Bw l _) p h]
 ·rw[N3 l _ h,Z0 (Bw l _) p h]
theorem Qc (l : List Tk) (line : Int) : Agr (Z4 l line) (Gf l line):=fun p=>by
 obtain ⟨c1,c2⟩:=uBx l p
 have hm:=Jz (l:=l) (Eb l (l.length + 1))
 unfold Z4 Gf
 dsimp only
 rw[c1,c2]
 obtain ⟨e1,e2⟩:=hm (E5 l [58] (if I4 (1 + I3 kindW (C6 l kindW p).1)=true then C6 l [] (C6 l [] (C6 l kindW p).2).2 else ([],(C6 l [] (C6 l kindW p).2).2)).2)
 exact ⟨e1,fun hb=>by rw[e2 hb]⟩
theorem El (l : List Tk) : Keeps (J2 l):=Z0 (K9 l [])
theorem Su (w : List UInt8) : (1 + I3 J7 w=1 ↔ w=Uj)∧(1 + I3 J7 w=2 ↔ w=Mq)∧(1 + I3 J7 w=3 ↔ w=Vk)∧(1 + I3 J7 w=4 ↔ w=wMsg)∧(1 + I3 J7 w=5 ↔ w=Vs):=by
  have e : I3 J7 w=if Uj=w then 0 else if Mq=w then 1 else if Vk=w then 2 else if wMsg=w then 3 else if Vs=w then 4 else -1:=by
    simp only [J7,I3]
    repeat' split
    all_goals omega
  rw[e]
  refine ⟨⟨fun h=>?_,fun h=>?_⟩,⟨fun h=>?_,fun h=>?_⟩,⟨fun h=>?_,fun h=>?_⟩,⟨fun h=>?_,fun h=>?_⟩,⟨fun h=>?_,fun h=>?_⟩⟩
  all_goals first
    | (subst h; decide)
    | (repeat' split at h
       all_goals first
         | (symm; assumption)
         | omega)
theorem Rc (l : List Tk) (n : Nar) (line : Int) (w : List UInt8) : Keeps (W2 l n line w):=fun p h=>by
 unfold W2
 repeat' split
 ·exact El l p h
 ·exact Ni l n.fresh p h
 ·exact El l p h
 ·exact Pm l line p h
 ·exact Ox l line p h
 ·rfl
theorem Xd (l : List Tk) (n : Nar) (line : Int) (w : List UInt8) (q : PS) : (N8 l n line (1 + I3 J7 w) q).2=(W2 l n line w q).2∧((N8 l n line (1 + I3 J7 w) q).2.bad=false→(N8 l n line (1 + I3 J7 w) q).1=(W2 l n line w q).1):=by
 obtain ⟨h1,h2,h3,h4,h5⟩:=Su w
 unfold N8 W2
 simp only [h1,h2,h3,h4,h5]
 repeat' split
 ·exact ⟨rfl,fun _=>rfl⟩
 ·obtain ⟨e1,e2⟩:=Qr l n.fresh q
  exact ⟨e1,fun hb=>by have := e2 hb; dsimp only at this ⊢; rw[this]⟩
 ·exact ⟨rfl,fun _=>rfl⟩
 ·obtain ⟨e1,e2⟩:=Og l line q
  exact ⟨e1,fun hb=>by have := e2 hb; dsimp only at this ⊢; rw[this]⟩
 ·obtain ⟨e1,e2⟩:=Qc l line q
  exact ⟨e1,fun hb=>by have := e2 hb; dsimp only at this ⊢; rw[this]⟩
 ·exact ⟨rfl,fun _=>rfl⟩
theorem Jy (l : List Tk) (role : List UInt8) : ∀ (n : Nat) (p : PS) (out : List Fs),p.at'≤(N7 l role n p out).2.at'∧(p.at'≤l.length→(N7 l role n p out).2.at'≤l.length)
 | 0,p,out=>by simp [N7]
 | n + 1,p,out=>by
  have h1:=G4 l [] p
  have h2:=G4 l sortW (C6 l [] p).2
  rw[N7]
  split
  ·simp
  split
  ·rename_i hq
   have h3:=(N9 hq).1
   have hg : (C6 l sortW (C6 l [] p).2).2.go.at'=(C6 l sortW (C6 l [] p).2).2.at' + 1:=rfl
   have h4:=Jy l role n (C6 l sortW (C6 l [] p).2).2.go (out++[⟨role,(C6 l [] p).1,2 + I3 sortW (C6 l sortW (C6 l [] p).2).1⟩])
   omega
  ·dsimp only; omega
def Fwd {α : Type} (l : List Tk) (f : PS→α × PS) : Prop:=∀ p : PS,p.at'≤(f p).2.at'∧(p.at'≤l.length→(f p).2.at'≤l.length)
theorem Ko (l : List Tk) (out : List Fs) : Fwd l (fun p=>Ap l p out):=fun p=>by
 have h1:=G4 l [] p
 have h2:=J1 l [58] (C6 l [] p).2
 have h3:=Jy l (C6 l [] p).1 (l.length + 1) (E5 l [58] (C6 l [] p).2) out
 show p.at'≤(N7 _ _ _ _ _).2.at'∧(_→(N7 _ _ _ _ _).2.at'≤_)
 omega
theorem Ib (l : List Tk) (line : Int) : Fwd l (Hd l line):=fun p=>by
 have h1:=G4 l [] p
 have h2:=J1 l [45] (C6 l [] p).2
 have h3:=J1 l [62] (E5 l [45] (C6 l [] p).2)
 have h4:=G4 l [] (E5 l [62] (E5 l [45] (C6 l [] p).2))
 have h5:=J1 l [58] (C6 l [] (E5 l [62] (E5 l [45] (C6 l [] p).2))).2
 have h6:=Bf l (l.length + 1) (E5 l [58] (C6 l [] (E5 l [62] (E5 l [45] (C6 l [] p).2))).2)
 show p.at'≤(I6 _ _ _).2.at'∧(_→(I6 _ _ _).2.at'≤_)
 omega
theorem Hf (l : List Tk) (line : Int) : Fwd l (Gf l line):=fun p=>by
 have h1:=G4 l kindW p
 have h2:=G4 l [] (C6 l kindW p).2
 have h3 : (C6 l [] (C6 l kindW p).2).2.at'≤(if I4 (1 + I3 kindW (C6 l kindW p).1)=true then C6 l [] (C6 l [] (C6 l kindW p).2).2 else ([],(C6 l [] (C6 l kindW p).2).2)).2.at'∧((C6 l [] (C6 l kindW p).2).2.at'≤l.length→(if I4 (1 + I3 kindW (C6 l kindW p).1)=true then C6 l [] (C6 l [] (C6 l kindW p).2).2 else ([],(C6 l [] (C6 l kindW p).2).2)).2.at'≤l.length):=by
  split
  ·exact G4 l [] _
  ·simp
 have h4:=J1 l [58] (if I4 (1 + I3 kindW (C6 l kindW p).1)=true then C6 l [] (C6 l [] (C6 l kindW p).2).2 else ([],(C6 l [] (C6 l kindW p).2).2)).2
 have h5:=R7 (Bf l (l.length + 1)) (E5 l [58] (if I4 (1 + I3 kindW (C6 l kindW p).1)=true then C6 l [] (C6 l [] (C6 l kindW p).2).2 else ([],(C6 l [] (C6 l kindW p).2).2)).2)
 show p.at'≤(G5 _ _ _).2.at'∧(_→(G5 _ _ _).2.at'≤_)
 omega
theorem Ia (l : List Tk) (n : Nar) (line : Int) (w : List UInt8) : Fwd l (W2 l n line w):=fun p=>by
 unfold W2
 repeat' split
 ·exact R7 (G4 l []) p
 ·exact Ko l n.fresh p
 ·exact R7 (G4 l []) p
 ·exact Ib l line p
 ·exact Hf l line p
 ·exact ⟨Nat.le_refl _,fun h=>h⟩
theorem Oz (l : List Tk) (n : Nar) (p : PS) (hp : p.at'≤l.length) : (Ad l n p).2.at'≤l.length∧((Ad l n p).2.bad=false→p.at' < (Ad l n p).2.at'):=by
 have h1:=G4 l J7 p
 have h2:=Ia l n (P7 l p) (C6 l J7 p).1 (C6 l J7 p).2
 have h3:=J1 l [59] (W2 l n (P7 l p) (C6 l J7 p).1 (C6 l J7 p).2).2
 have e : (Ad l n p).2=E5 l [59] (W2 l n (P7 l p) (C6 l J7 p).1 (C6 l J7 p).2).2:=rfl
 rw[e]
 refine ⟨by omega,fun hb=>?_⟩
 have hq:=Fh ((Rc l n _ _).good (T3 hb))
 have : (C6 l J7 p).2.at'=p.at' + 1:=by rw[C6,if_pos hq]; rfl
 omega
theorem Qb (l : List Tk) (n : Nar) : Agr (Ae l n) (Ad l n):=fun p=>by
 obtain ⟨c1,c2⟩:=uBb l p
 unfold Ae Ad
 dsimp only
 rw[c1,c2]
 obtain ⟨e1,e2⟩:=Xd l n (P7 l p) (C6 l J7 p).1 (C6 l J7 p).2
 rw[e1] at e2 ⊢
 exact ⟨rfl,fun hb=>e2 (T3 hb)⟩
theorem Nk (l : List Tk) (m : Nat) (n : Nar) : Keeps (Br l m n):=fun p h=>by
 cases m with
 | zero=>rfl
 | succ m=>rw[Br,if_pos h]
theorem Na (l : List Tk) (m : Nat) (n : Nar) : Keeps (Q1 l m n):=fun p h=>by
 cases m with
 | zero=>rfl
 | succ m=>rw[Q1,if_pos h]
theorem Ky (l : List Tk) : ∀ (m : Nat) (p : PS) (n n' : Nar),(p.bad=false→n=n')→p.at'≤l.length→l.length < m + p.at'∨p.bad=true →
  (E5 l [125] (Q1 l m n p).2)=(Br l m n' p).2∧((Br l m n' p).2.bad=false→(Q1 l m n p).1=(Br l m n' p).1)
 | m,p,n,n',hn,hp,hm=>by
  by_cases hb : p.bad=true
  ·rw[Nk l m n' p hb,Na l m n p hb,N3 l _ hb]
   exact ⟨rfl,fun q=>by rw[hb] at q; cases q⟩
  ·have hm:=hm.resolve_right hb
   match m with
   | 0=>omega
   | m + 1 =>
    have hb' : p.bad=false:=by simpa using hb
    rw[Br,Q1,if_neg hb,if_neg hb]
    split
    ·rename_i hq
     dsimp only
     rw[E5,if_pos hq]
     exact ⟨rfl,fun _=>hn hb'⟩
    ·obtain ⟨e1,e2⟩:=Qb l n p
     have hn:=hn hb'
     subst hn
     obtain ⟨a1,a2⟩:=Oz l n p hp
     rw[e1]
     refine Ky l m _ _ _ (fun q=>e2 (by rw[e1]; exact q)) a1 ?_
     cases hz : (Ad l n p).2.bad with
     | true=>exact .inr J
     | false=>exact .inl (by have := a2 hz; omega)
theorem uAh (l : List Tk) : (Ra l).2=(Ai l).2∧((Ai l).2.bad=false→(Ra l).1=(Ai l).1):=by
 unfold Ra Ai
 dsimp only
 rw[uA9]
 have h1:=G4 l [Iy] ⟨0,false⟩
 have h2:=G4 l [] (C6 l [Iy] ⟨0,false⟩).2
 have h3:=J1 l [123] (C6 l [] (C6 l [Iy] ⟨0,false⟩).2).2
 exact Ky l _ _ _ _ (fun _=>rfl) (by dsimp only at h1; omega) (.inl (by omega))
structure GoodTk (N : Nat) (t : Tk) : Prop where
 form : (t.kind=1∧t.int=0∧t.str=[]∧H8 ((t.text.getD 0 0).toNat : Int)=true∧nlE t.text=t.text.length∧t.text≠[]∧t.text.length≤24) ∨
  (t.kind=2∧t.text=[]∧t.str=[]∧0≤t.int∧t.int≤9223372036854775807)∨(t.kind=3∧t.text=[]∧t.int=0) ∨
  (t.kind=4∧t.int=0∧t.str=[] ∧ ∃ c,t.text=[c]∧symB c=true)
 s : t.str.length≤N
theorem uB9 {c : UInt8} (h : symB c=true) : H8 (c.toNat : Int)≠true∧K1 (c.toNat : Int)≠true∧c.toNat≠34∧c.toNat≠35∧c.toNat≠10∧P4 c=false:=by
 have hm : c ∈ syms:=by simpa [symB] using h
 simp only [syms,List.mem_cons,List.not_mem_nil,or_false] at hm
 rcases hm with rfl | rfl | rfl | rfl | rfl | rfl | rfl | rfl | rfl | rfl | rfl | rfl | rfl | rfl | rfl | rfl | rfl | rfl <;> decide
theorem GoodTk.onl {N : Nat} {t : Tk} (h : GoodTk N t) (k : Int) : GoodTk N (t.onl k):=⟨h.form,h.s⟩
theorem GoodTk.mono {N M : Nat} {t : Tk} (h : GoodTk N t) (hm : N≤M) : GoodTk M t:=⟨h.form,Nat.le_trans h.s hm⟩
theorem lineP_len' : ∀ (n : Nat) (l : List UInt8) (k : Int) (out : List Tk),(J5 n l k out).1.length≤out.length + l.length
 | 0,l,k,out=>by simp [J5]
 | n + 1,l,k,out=>by
  have h1:=Xt l
  rw[J5]
  split
  ·simp
  ·rename_i hq
   have hne : 0 < (M7 l).length:=List.length_pos_iff.2 fun h=>hq (.inl h)
   split
   ·simp
   ·rename_i he
    have h2:=It hne
    have h3:=h2.2 (Decidable.not_not.1 he)
    have ih:=lineP_len' n ((M7 l).drop (P0 (M7 l)).2.1) k (out++[(P0 (M7 l)).1.onl k])
    simp only [List.length_drop,List.length_append,List.length_singleton] at ih
    omega
def sumL (L : List (List UInt8)) : Nat:=(L.map List.length).sum
theorem Vd : ∀ (s : List UInt8),sumL (spl s)≤s.length
 | []=>by simp [sumL,spl]
 | b :: l=>by
  have ih:=Vd l
  rw[spl]
  split
  ·simp only [sumL,List.map_cons,List.sum_cons,List.length_nil,List.length_cons] at ih ⊢; omega
  ·split
   ·simp [sumL]
   ·rename_i h; rw[h] at ih
    simp only [sumL,List.map_cons,List.sum_cons,List.length_cons] at ih ⊢; omega
def Apart (r : List UInt8) : Prop:=r=[]∨P4 (r.getD 0 0)=true
def TT (s : List UInt8) (k : Nat) (out : List Tk) : List Tk × Nat × Int:=W1 (spl s) k out
theorem Il {l : List UInt8} (h : ∀ b ∈ l,b.toNat≠10) {n m : Nat} (k : Int) (out : List Tk) (hn : l.length < n) (hm : l.length < m) : J5 n l k out=J5 m l k out:=by
 rw[← X0 l.length l (Nat.le_refl _) h n ((H2 l).length + 1) k out hn (by omega),← X0 l.length l (Nat.le_refl _) h m ((H2 l).length + 1) k out hm (by omega)]
theorem He {b : UInt8} {l x : List UInt8} {r : List (List UInt8)} (hb : b.toNat≠10) (h : spl l=x :: r) : spl (b :: l)=(b :: x) :: r:=by
 rw[spl,if_neg hb,h]
theorem uAc {b : UInt8} {l : List UInt8} (hb : b.toNat=10) : spl (b :: l)=[] :: spl l:=by rw[spl,if_pos hb]
theorem Uh : ∀ (w : List UInt8) {l x : List UInt8} {r : List (List UInt8)},(∀ b ∈ w,b.toNat≠10)→spl l=x :: r→spl (w++l)=(w++x) :: r
 | [],_,_,_,_,h=>h
 | b :: w,l,x,r,hw,h=>He (hw b (by simp)) (Uh w (fun c hc=>hw c (by simp [hc])) h)
theorem Dx (s : List UInt8) : ∃ x r,spl s=x :: r:=by
 cases h : spl s with
 | nil=>exact absurd h (Ml s)
 | cons x r=>exact ⟨x,r,rfl⟩
theorem Te {n : Nat} {l l' : List UInt8} {k : Int} {out : List Tk} (h : M7 l=M7 l') : J5 (n + 1) l k out=J5 (n + 1) l' k out:=by simp only [J5,h]
theorem Iq {l l' : List UInt8} {L : List (List UInt8)} {k : Nat} {out out' : List Tk} (h : J5 (l.length + 1) l (k : Int) out=J5 (l'.length + 1) l' (k : Int) out') : W1 (l :: L) k out=W1 (l' :: L) k out':=by
 rw[W1,W1,h]
theorem uA2 {w : UInt8} (hw : w.toNat=32∨w.toNat=9∨w.toNat=13) (r : List UInt8) (k : Nat) (out : List Tk) : TT (w :: r) k out=TT r k out:=by
 obtain ⟨x,xs',h⟩:=Dx r
 have hin : wsp.contains w=true:=by
  rcases hw with q | q | q
  ·rw[show w=32 from UInt8.toNat_inj.1 q]; rfl
  ·rw[show w=9 from UInt8.toNat_inj.1 q]; rfl
  ·rw[show w=13 from UInt8.toNat_inj.1 q]; rfl
 have ht : M7 (w :: x)=M7 x:=by unfold M7; rw[List.dropWhile_cons,if_pos hin]
 have hno : ∀ b ∈ x,b.toNat≠10:=Dv r x (by rw[h]; simp)
 unfold TT
 rw[He (by omega) h,h]
 refine Iq ?_
 rw[← Il hno (n:=x.length + 1 + 1) (m:=x.length + 1) _ _ (by omega) (by omega)]
 exact Te ht
theorem uCI {b : UInt8} (hb : b.toNat=10) (r : List UInt8) (k : Nat) (out : List Tk) : TT (b :: r) k out=TT r (k + 1) out:=by
 unfold TT
 rw[uAc hb,W1,Kf,if_neg (by simp)]
theorem Fw : ∀ (L : List (List UInt8)) (k : Nat) (out : List Tk),(W1 L k out).1.length≤out.length + sumL L
 | [],k,out=>by simp [W1]
 | l :: L,k,out=>by
  rw[W1]
  split
  ·simp
  ·have h1:=lineP_len' (l.length + 1) l (k : Nat) out
   have ih:=Fw L (k + 1) (J5 (l.length + 1) l (k : Nat) out).1
   simp only [sumL,List.map_cons,List.sum_cons] at ih ⊢
   omega
theorem Sk (s : List UInt8) : (tokP s).1.length≤s.length:=by
 unfold tokP
 split
 ·simp
 ·have h1:=Fw (spl s) 1 []
  have h2:=Vd s
  simp only [List.length_nil] at h1
  omega
def nmT (w : List UInt8) : Tk:=⟨1,w,0,[],0⟩
def syT (c : UInt8) : Tk:=⟨4,[c],0,[],0⟩
def uCe : List (List Tk)→List Tk
 | []=>[]
 | x :: r=>x++(r.map fun y=>syT 44 :: y).flatten
def Apt (r : List UInt8) : Prop:=r=[]∨M4 ((r.getD 0 0).toNat : Int)≠true
theorem Uw : ∀ (l r : List UInt8),nmP l=l.length→Apt r→nmP (l++r)=l.length
 | [],r,_,hr=>by
  rcases hr with h | h
  ·subst h; rfl
  ·cases r with
   | nil=>rfl
   | cons c r =>
    rw[List.getD_cons_zero] at h
    show nmP (c :: r)=0
    rw[nmP,if_neg (fun q=>h q.1)]
 | b :: l,r,h,hr=>by
  rw[nmP] at h
  split at h
  ·rename_i hq
   have ih:=Uw l r (by simpa using h) hr
   show nmP (b :: (l++r))=_
   rw[nmP,if_pos,ih]; rfl
   refine ⟨hq.1,fun q=>?_⟩
   cases l with
   | cons d l=>exact hq.2 q
   | nil =>
    obtain ⟨q1,q2⟩:=q
    rcases hr with z | z
    ·subst z; simp at q2
    ·rw[List.nil_append] at q2
     rw[q2] at z
     exact z (by decide)
  ·simp at h
theorem uBl {l r : List UInt8} (h : nlE l=l.length) (hl : l≠[]) (hr : Apt r) : nlE (l++r)=l.length:=by
 cases l with
 | nil=>exact absurd J hl
 | cons c l =>
  have h1 : nmP l=l.length:=by simp [nlE] at h; omega
  have h2:=Uw l r h1 hr
  simp [nlE,h2]; omega
theorem uBc {r x : List UInt8} {xs' : List (List UInt8)} (hr : Apt r) (h : spl r=x :: xs') : Apt x:=by
 rcases hr with q | q
 ·subst q
  simp only [spl,List.cons.injEq] at h
  exact .inl h.1.symm
 ·cases r with
  | nil=>simp only [spl,List.cons.injEq] at h; exact .inl h.1.symm
  | cons c r =>
   rw[List.getD_cons_zero] at q
   by_cases hc : c.toNat=10
   ·rw[uAc hc] at h
    simp only [List.cons.injEq] at h
    exact .inl h.1.symm
   ·obtain ⟨y,ys,hy⟩:=Dx r
    rw[He hc hy] at h
    simp only [List.cons.injEq] at h
    rw[← h.1]
    exact .inr q
theorem Vv {w r x : List UInt8} {xs' : List (List UInt8)} {t : Tk} {c : UInt8} {l : List UInt8} (h : spl r=x :: xs') (e1 : P0 (w++x)=(t.onl 0,w.length,0)) (e2 : w=c :: l) (e3 : P4 c=false) (e4 : c.toNat≠35)
  (hw : ∀ b ∈ w,b.toNat≠10) (k : Nat) (out : List Tk) : TT (w++r) k out=TT r k (out++[t.onl k]):=by
 have hno:=Dv r x (by rw[h]; simp)
 have hin : ¬wsp.contains c=true:=by
  intro q
  have : c=32∨c=9∨c=13:=by simpa [wsp] using q
  rcases this with rfl | rfl | rfl <;> simp [P4] at e3
 have ht2 : M7 (w++x)=w++x:=by
  rw[e2]
  unfold M7
  show List.dropWhile _ (c :: (l++x))=_
  rw[List.dropWhile_cons,if_neg hin]; rfl
 have hcut : ¬(w++x=[]∨[35,35].isPrefixOf (w++x)=true):=by
  rw[e2]
  rintro (q | q)
  ·cases q
  ·have q : ([35,35] : List UInt8).isPrefixOf (c :: (l++x))=true:=q
   rw[Ve] at q
   simp only [Bool.and_eq_true,decide_eq_true_eq] at q
   exact e4 q.1
 unfold TT
 rw[Uh w hw h,h]
 refine Iq ?_
 rw[J5,ht2,if_neg hcut,e1,if_neg (by simp)]
 dsimp only
 rw[List.drop_left' J]
 refine Il hno _ _ ?_ (by omega)
 rw[List.length_append,e2]; simp only [List.length_cons]; omega
theorem Iw {w : List UInt8} (h : D8 w=true) : w≠[]∧H8 ((w.getD 0 0).toNat : Int)=true∧nlE w=w.length∧w.length≤24:=by
 simp only [D8,Bool.and_eq_true,decide_eq_true_eq] at h
 exact ⟨h.1.1.1,h.1.1.2,h.1.2,h.2⟩
theorem uBp {w : List UInt8} (h : D8 w=true) : ∀ b ∈ w,b.toNat≠10:=by
 obtain ⟨h1,h2,h3,_⟩:=Iw h
 cases w with
 | nil=>exact absurd J h1
 | cons c r =>
  rw[List.getD_cons_zero] at h2
  intro b hb
  rcases List.mem_cons.1 hb with q | q
  ·subst q; intro z; rw[z] at h2; revert h2; decide
  ·have := Lw r (by unfold nlE at h3; simp at h3; omega)
   exact Fn (by have := List.all_eq_true.1 this b q; exact this)
theorem uBd {w : List UInt8} (hn : D8 w=true) {r : List UInt8} (hr : Apt r) (k : Nat) (out : List Tk) : TT (w++r) k out=TT r k (out++[(nmT w).onl k]):=by
 obtain ⟨x,xs',h⟩:=Dx r
 obtain ⟨h1,h2,h3,h4⟩:=Iw hn
 obtain ⟨c,l,rfl⟩ : ∃ c l,w=c :: l:=by
  cases w with
  | nil=>exact absurd J h1
  | cons c l=>exact ⟨c,l,rfl⟩
 rw[List.getD_cons_zero] at h2
 refine Vv h ?_ J ?_ ?_ (uBp hn) k out
 ·have e1:=uBl h3 h1 (uBc hr h)
  unfold P0
  have e2 : ((c :: l)++x).getD 0 0=c:=rfl
  rw[e2,if_pos h2,e1,if_neg (by omega),List.take_left' J]; rfl
 ·rw[Bool.eq_false_iff]; intro q
  have : c.toNat=32∨c.toNat=9∨c.toNat=10∨c.toNat=13:=by simp [P4] at q; omega
  rcases this with q | q | q | q <;> rw[q] at h2 <;> revert h2 <;> decide
 ·intro q; rw[q] at h2; revert h2; decide
theorem uCh {c : UInt8} (hc : symB c=true) (r : List UInt8) (k : Nat) (out : List Tk) : TT (c :: r) k out=TT r k (out++[(syT c).onl k]):=by
 obtain ⟨x,xs',h⟩:=Dx r
 obtain ⟨s1,s2,s3,s4,s5,s6⟩:=uB9 hc
 refine Vv (w:=[c]) h ?_ J s6 s4 (by simpa using s5) k out
 unfold P0
 have e2 : ([c]++x).getD 0 0=c:=rfl
 rw[e2,if_neg s1,if_neg s2,if_neg s3,if_pos hc]; rfl
def Toks (b : Bool) (s : List UInt8) (ts : List Tk) : Prop:=∀ (r : List UInt8) (k : Nat) (out : List Tk),b=true∨Apt r → ∃ d l',l'.map (·.nl false)=ts∧TT (s++r) k out=TT r (k + d) (out++l')
def Fr (s : List UInt8) : Prop:=s≠[]∧M4 ((s.getD 0 0).toNat : Int)≠true
theorem Fr.apt {s : List UInt8} (h : Fr s) (r : List UInt8) : Apt (s++r):=by
 cases s with
 | nil=>exact absurd J h.1
 | cons c s=>exact .inr h.2
theorem Toks.nil : Toks true [] []:=fun r k out _=>⟨0,[],rfl,by simp⟩
theorem Toks.weak {b : Bool} {s : List UInt8} {ts : List Tk} (h : Toks true s ts) : Toks b s ts:=fun r k out _=>h r k out (.inl J)
theorem Toks.app {b b' : Bool} {s s' : List UInt8} {ts ts' : List Tk} (h : Toks b s ts) (h' : Toks b' s' ts') (hb : b=true∨Fr s') : Toks b' (s++s') (ts++ts'):=fun r k out hr=>by
 obtain ⟨d,l1,e1,e2⟩:=h (s'++r) k out (hb.elim .inl fun q=>.inr (q.apt r))
 obtain ⟨d',l2,e3,e4⟩:=h' r (k + d) (out++l1) hr
 exact ⟨d + d',l1++l2,by rw[List.map_append,e1,e3],by rw[List.append_assoc,e2,e4,List.append_assoc,Nat.add_assoc]⟩
theorem Toks.name {w : List UInt8} (h : D8 w=true) : Toks false w [nmT w]:=fun r k out hr=>⟨0,[(nmT w).onl k],rfl,uBd h (hr.resolve_left (by simp)) k out⟩
theorem Toks.sym {c : UInt8} (h : symB c=true) : Toks true [c] [syT c]:=fun r k out _=>⟨0,[(syT c).onl k],rfl,uCh h r k out⟩
theorem Toks.sp : Toks true [32] []:=fun r k out _=>⟨0,[],rfl,by rw[List.append_nil]; exact uA2 (.inl J) r k out⟩
theorem Toks.nl : Toks true [10] []:=fun r k out _=>⟨1,[],rfl,by rw[List.append_nil]; exact uCI J r k out⟩
theorem Toks.join {α : Type} {f : α→List UInt8} {g : α→List Tk} : ∀ {l : List α},(∀ x ∈ l,Toks false (f x) (g x))→Toks false (Lib.join (l.map f) [44,32]) (uCe (l.map g))
 | [],_=>Toks.nil.weak
 | x :: l,h=>by
  have tail : ∀ {l : List α},(∀ x ∈ l,Toks false (f x) (g x))→Toks false (Lib.joinTail [44,32] (l.map f)) ((l.map g).map fun y=>syT 44 :: y).flatten∧(l=[]∨Fr (Lib.joinTail [44,32] (l.map f))):=by
   intro l
   induction l with
   | nil=>exact fun _=>⟨Toks.nil.weak, .inl J⟩
   | cons y l ih =>
    intro h
    have e : Lib.joinTail [44,32] ((y :: l).map f)=([44]++[32])++(f y++Lib.joinTail [44,32] (l.map f)):=by simp [Lib.joinTail]
    have e2 : (((y :: l).map g).map fun y=>syT 44 :: y).flatten=([syT 44]++[])++(g y++((l.map g).map fun y=>syT 44 :: y).flatten):=by simp
    obtain ⟨i1,i2⟩:=ih fun z hz=>h z (by simp [hz])
    rw[e,e2]
    refine ⟨((Toks.sym (by decide)).app Toks.sp (.inl J)).app ?_ (.inl J), .inr ⟨by simp,by simp; decide⟩⟩
    rcases i2 with q | q
    ·subst q
     simp only [List.map_nil,List.flatten_nil,List.append_nil,Lib.joinTail,List.flatMap_nil]
     exact h y (by simp)
    ·exact (h y (by simp)).app i1 (.inr q)
  rw[List.map_cons,List.map_cons,Lib.join_cons]
  obtain ⟨i1,i2⟩:=tail (l:=l) fun z hz=>h z (by simp [hz])
  show Toks false _ (g x++_)
  rcases i2 with q | q
  ·subst q
   simp only [List.map_nil,List.flatten_nil,List.append_nil,Lib.joinTail,List.flatMap_nil]
   exact h x (by simp)
  ·exact (h x (by simp)).app i1 (.inr q)
mutual
def gdB : T→Bool
 | .mk k n s ks=>decide (s=0) && D8 n && ((decide (k=2) && ks.isEmpty) || decide (k=3)) && gdBs ks
def gdBs : List T→Bool
 | []=>true
 | t :: ts=>gdB t && gdBs ts
end
theorem Zi (t : T) : gdB t=(decide (t.sort=0) && D8 t.name && ((decide (t.kind=2) && t.kids.isEmpty) || decide (t.kind=3)) && gdBs t.kids):=by cases t; rw[gdB]; rfl
theorem Pz : ∀ {l : List T},gdBs l=true → ∀ x ∈ l,gdB x=true
 | [],_,x,h=>by simp at h
 | y :: l,h,x,hx=>by
  rw[gdBs,Bool.and_eq_true] at h
  rcases List.mem_cons.1 hx with q | q
  ·subst q; exact h.1
  ·exact Pz h.2 x q
mutual
theorem uBQ : ∀ (t : T),t.nodesE=0→rawE D8 t=0→gdB t=true
 | .mk k n s ks,h1,h2=>by
  rw[T.nodesE] at h1
  rw[rawE] at h2
  rw[gdB]
  split at h1
  ·rename_i hz; exact absurd h1 hz
  ·rename_i hz
   have hz:=Decidable.not_not.1 hz
   split at h2
   ·simp at h2
   ·rename_i hk
    split at h2
    ·simp at h2
    ·rename_i hn
     rw[uAm ks h1 h2]
     unfold M8 at hz
     split at hz
     ·rename_i hq
      have q1 : (k=1∨k=2)∧0≤s∧s≤5∧ks.length=0∨k=3∧s=0:=hq
      have hn : D8 n=true:=by simpa using hn
      rw[hn]
      simp only [Bool.and_true,Bool.and_eq_true,Bool.or_eq_true,decide_eq_true_eq,List.isEmpty_iff]
      refine ⟨by omega,?_⟩
      rcases q1 with ⟨q,_,_,q2⟩ | ⟨q,_⟩
      ·exact .inl ⟨by omega,List.length_eq_zero_iff.1 q2⟩
      ·exact .inr q
     ·simp at hz
theorem uAm : ∀ (ts : List T),T.nodesEs ts=0→Cu D8 ts=0→gdBs ts=true
 | [],_,_=>rfl
 | t :: ts,h1,h2=>by
  rw[T.nodesEs] at h1
  rw[Cu] at h2
  rw[gdBs]
  split at h1
  ·rename_i hz; exact absurd h1 hz
  ·rename_i hz
   split at h2
   ·rename_i hy; exact absurd h2 hy
   ·rename_i hy
    rw[uBQ t (Decidable.not_not.1 hz) (Decidable.not_not.1 hy),uAm ts h1 h2]; rfl
end
theorem Yr {t : T} (h : Aj D8 t=0) : gdB t=true:=by
 unfold Aj at h
 split at h
 ·rename_i hz; exact absurd h hz
 ·rename_i hz
  have hz:=Decidable.not_not.1 hz
  unfold V6 at hz
  split at hz
  ·rename_i hy; exact absurd hz hy
  ·rename_i hy; exact uBQ t (Decidable.not_not.1 hy) h
def At (l : List Tk) (p : PS) (ts : List Tk) : Prop:=p.bad=false∧p.at'≤l.length∧l.drop p.at'=ts
theorem At.cons {l : List Tk} {p : PS} {t : Tk} {ts : List Tk} (h : At l p (t :: ts)) : p.at' < l.length∧l.getD p.at' tk0=t∧At l p.go ts:=by
 obtain ⟨h1,h2,h3⟩:=h
 have hlt : p.at' < l.length:=by
  rcases Nat.lt_or_ge p.at' l.length with q | q
  ·exact q
  ·rw[List.drop_of_length_le q] at h3; cases h3
 rw[Lo (d:=tk0) hlt] at h3
 simp only [List.cons.injEq] at h3
 exact ⟨hlt,h3.1,h1,hlt,h3.2⟩
theorem At.len {l : List Tk} {p : PS} {ts : List Tk} (h : At l p ts) : ts.length + p.at'=l.length:=by
 obtain ⟨h1,h2,h3⟩:=h
 rw[← h3,List.length_drop]; omega
theorem At.good {l : List Tk} {p : PS} {ts : List Tk} (h : At l p ts) : p.bad=false:=h.1
def Pln (ts : List Tk) : Prop:=∀ t ∈ ts,t.int=0∧t.str=[]∧t.line=0
theorem Pln.nil : Pln []:=by intro t h; simp at h
theorem Pln.app {a b : List Tk} (h : Pln a) (h' : Pln b) : Pln (a++b):=fun t ht=>(List.mem_append.1 ht).elim (h t) (h' t)
theorem Pln.nm (w : List UInt8) : Pln [nmT w]:=by intro t h; simp at h; subst h; exact ⟨rfl,rfl,rfl⟩
theorem Pln.cons {t : Tk} {ts : List Tk} (h : Pln [t]) (h' : Pln ts) : Pln (t :: ts):=h.app (a:=[t]) h'
theorem Pln.right {a b : List Tk} (h : Pln (a++b)) : Pln b:=fun t ht=>h t (by simp [ht])
theorem Pln.tail {a : Tk} {b : List Tk} (h : Pln (a :: b)) : Pln b:=fun t ht=>h t (by simp [ht])
def Stop (ts : List Tk) : Prop:=∀ r,ts≠syT 40 :: r
def Sp.el (s : Sp) : Sp:={ s with line:=0 }
def Gl.el (g : Gl) : Gl:={ g with line:=0 }
def Nar.el (n : Nar) : Nar:={ n with steps:=n.steps.map Sp.el,goals:=n.goals.map Gl.el }
inductive Itm where
 | roles (l : List (List UInt8))
 | fresh (role : List UInt8) (l : List (List UInt8 × Int))
 | tags (l : List (List UInt8))
 | step (s : Sp)
 | goal (g : Gl)
def uAB (k : Int) : List UInt8:=sortW.getD (k - 2).toNat []
def uAZ (k : Int) : List UInt8:=kindW.getD (k - 1).toNat []
def fsW (f : List UInt8 × Int) : List UInt8:=f.1++([32]++uAB f.2)
def Itm.text : Itm→List UInt8
 | .roles l=>hRole++(Lib.join l [44,32]++[59])
 | .fresh r l=>hFresh++(r++([58,32]++(Lib.join (l.map fsW) [44,32]++[59])))
 | .tags l=>hTag++(Lib.join l [44,32]++[59])
 | .step s=>hMsg++(s.frm++(arrow++(s.dst++([58,32]++(V8 s.msg++[59])))))
 | .goal g=>hGoal++(uAZ g.kind++([32]++(g.role++((if I4 g.kind=true then [32]++g.wth else [])++([58,32]++(Au g.data++[59]))))))
def Itm.ok : Itm→Prop
 | .roles l=>l≠[] ∧ ∀ w ∈ l,D8 w=true
 | .fresh r l=>D8 r=true∧l≠[] ∧ ∀ f ∈ l,D8 f.1=true∧2≤f.2∧f.2≤4
 | .tags l=>l≠[] ∧ ∀ w ∈ l,D8 w=true
 | .step s=>D8 s.frm=true∧D8 s.dst=true∧gdB s.msg=true
 | .goal g=>1≤g.kind∧g.kind≤5∧D8 g.role=true∧(I4 g.kind=true→D8 g.wth=true)∧(I4 g.kind=false→g.wth=[])∧g.data≠[] ∧ ∀ t ∈ g.data,gdB t=true
def Itm.more (f : List UInt8 × Int) : Itm→Itm
 | .fresh r l=>.fresh r (l++[f])
 | i=>i
def glue (f : List UInt8 × Int) : List Itm→List Itm
 | []=>[]
 | [i]=>[i.more f]
 | i :: j :: r=>i :: glue f (j :: r)
theorem Fb (f : List UInt8 × Int) (r : List UInt8) (l : List (List UInt8 × Int)) : ∀ I : List Itm,glue f (I++[.fresh r l])=I++[.fresh r (l++[f])]
 | []=>rfl
 | [i]=>rfl
 | i :: j :: I=>by
  have ih:=Fb f r l (j :: I)
  rw[List.cons_append,List.cons_append] at ih
  rw[List.cons_append,List.cons_append,glue,ih]
  rfl
def Jc (fs : List Fs) (k : Nat) : Prop:=0 < k∧(fs.getD (k - 1) default).role=(fs.getD k default).role
instance (fs : List Fs) (k : Nat) : Decidable (Jc fs k):=by unfold Jc; infer_instance
def Fs.pr (f : Fs) : List UInt8 × Int:=(f.name,f.sort)
def frI (fs : List Fs) : Nat→List Itm
 | 0=>[]
 | k + 1=>if Jc fs k then glue (fs.getD k default).pr (frI fs k) else frI fs k++[.fresh (fs.getD k default).role [(fs.getD k default).pr]]
theorem Oi (fs : List Fs) : ∀ k,0 < k → ∃ I l,l≠[]∧frI fs k=I++[.fresh (fs.getD (k - 1) default).role l]
 | 0,h=>by omega
 | k + 1,_=>by
  rw[frI,Nat.add_sub_cancel]
  split
  ·rename_i hs
   obtain ⟨I,l,h1,h2⟩:=Oi fs k hs.1
   rw[h2,Fb,hs.2]
   exact ⟨I,_,by simp,rfl⟩
  ·exact ⟨_,_,by simp,rfl⟩
theorem Ot {fs : List Fs} {k : Nat} (hs : Jc fs k) : ∃ I l,l≠[]∧frI fs k=I++[.fresh (fs.getD k default).role l]∧frI fs (k + 1)=I++[.fresh (fs.getD k default).role (l++[(fs.getD k default).pr])]:=by
 obtain ⟨I,l,h1,h2⟩:=Oi fs k hs.1
 rw[hs.2] at h2
 exact ⟨I,l,h1,h2,by rw[frI,if_pos hs,h2,Fb]⟩
theorem Uz {fs : List Fs} {k : Nat} (hs : ¬Jc fs k) : frI fs (k + 1)=frI fs k++[.fresh (fs.getD k default).role [(fs.getD k default).pr]]:=by rw[frI,if_neg hs]
theorem Vt (fs : List Fs) : ∀ k,(frI fs k).length≤k
 | 0=>by simp [frI]
 | k + 1=>by
  have ih:=Vt fs k
  by_cases hs : Jc fs k
  ·obtain ⟨I,l,_,h2,h3⟩:=Ot hs
   rw[h2] at ih
   rw[h3]
   simp only [List.length_append,List.length_singleton] at ih ⊢; omega
  ·rw[Uz hs]
   simp only [List.length_append,List.length_singleton]; omega
theorem Zd (sep x : List UInt8) : Lib.join [x] sep=x:=by rw[Lib.join_cons]; simp [Lib.joinTail]
def Nar.itms (n : Nar) : List Itm:=[.roles n.roles]++(frI n.fresh n.fresh.length++((if n.tags=[] then [] else [.tags n.tags])++(n.steps.map .step++n.goals.map .goal)))
def Qa (n : Nar) : List UInt8:=hProt++(n.name++[32,123])
def Nar.lines (n : Nar) : List (List UInt8):=[Qa n]++(n.itms.map Itm.text++[[125]])
def nl (L : List (List UInt8)) : List UInt8:=(L.map fun s=>s++[10]).flatten
theorem uCs (a b : List (List UInt8)) : nl (a++b)=nl a++nl b:=by simp [nl]
theorem Vg : ∀ L : List (List UInt8),L≠[]→Lib.join L [10]++[10]=nl L
 | [],h=>absurd J h
 | [x],_=>by rw[Zd]; simp [nl]
 | x :: y :: L,_=>by
  have ih:=Vg (y :: L) (by simp)
  have e : Lib.join (x :: y :: L) [10]=x++([10]++Lib.join (y :: L) [10]):=by
   rw[Lib.join_cons,Lib.join_cons]; simp [Lib.joinTail]
  have e2 : nl (x :: y :: L)=x++([10]++nl (y :: L)):=by simp [nl]
  rw[e,e2,← ih]; simp
def Nar.text (n : Nar) : List UInt8:=Lib.join n.lines [10]++[10]
theorem Nar.text_eq (n : Nar) : n.text=nl n.lines:=Vg _ (by simp [Nar.lines])
structure MsgOk (t : T) : Prop where
 raw : Aj D8 t=0
 size : t.size≤40
structure GlOk (g : Gl) : Prop where
 k1 : 1≤g.kind
 k2 : g.kind≤5
 role : D8 g.role=true
 w1 : I4 g.kind=true→D8 g.wth=true
 w0 : I4 g.kind=false→g.wth=[]
 d1 : 1≤g.data.length
 d2 : g.data.length≤4
 data : ∀ t ∈ g.data,MsgOk t
structure NarOk (n : Nar) : Prop where
 name : D8 n.name=true
 r1 : 2≤n.roles.length
 r2 : n.roles.length≤4
 roles : ∀ w ∈ n.roles,D8 w=true
 f2 : n.fresh.length≤12
 fresh : ∀ f ∈ n.fresh,D8 f.role=true∧D8 f.name=true∧2≤f.sort∧f.sort≤4
 t2 : n.tags.length≤8
 tags : ∀ w ∈ n.tags,D8 w=true
 s1 : 1≤n.steps.length
 s2 : n.steps.length≤8
 steps : ∀ s ∈ n.steps,D8 s.frm=true∧D8 s.dst=true∧MsgOk s.msg
 g2 : n.goals.length≤8
 goals : ∀ g ∈ n.goals,GlOk g
theorem uAY {t : T} (h : msgE D8 t=0) : MsgOk t:=by
 unfold msgE at h
 split at h
 ·rename_i hz; exact absurd h hz
 ·rename_i hz
  split at h
  ·simp at h
  ·exact ⟨Decidable.not_not.1 hz,by omega⟩
theorem uBe {g : Gl} (h : O2 D8 g=0) : GlOk g:=by
 unfold O2 at h
 split at h
 ·simp at h
 rename_i h1
 split at h
 ·simp at h
 rename_i h2
 split at h
 ·simp at h
 rename_i h3
 split at h
 ·simp at h
 rename_i h4
 have h5:=errs_zero.1 h
 refine ⟨by omega,by omega,?_,fun ha=>?_,fun ha=>?_,?_,?_,fun t ht=>uAY (h5 t ht)⟩
 ·cases hz : D8 g.role with
  | true=>rfl
  | false=>exact absurd (.inl hz) h2
 ·cases hz : D8 g.wth with
  | true=>rfl
  | false=>exact absurd (.inr ⟨ha,hz⟩) h2
 ·exact Decidable.byContradiction fun q=>h3 ⟨ha,q⟩
 ·cases ha : I4 g.kind with
  | true=>exact Decidable.byContradiction fun q=>h4 (.inl ⟨ha,by omega⟩)
  | false=>exact Decidable.byContradiction fun q=>h4 (.inr ⟨ha,by omega⟩)
 ·cases ha : I4 g.kind with
  | true=>exact Decidable.byContradiction fun q=>h4 (.inl ⟨ha,by omega⟩)
  | false=>exact Decidable.byContradiction fun q=>h4 (.inr ⟨ha,by omega⟩)
theorem uB3 {n : Nar} (h : cntE n=0) : 2≤n.roles.length∧n.roles.length≤4∧n.fresh.length≤12∧n.tags.length≤8∧1≤n.steps.length∧n.steps.length≤8∧n.goals.length≤8:=by
 unfold cntE at h
 repeat' split at h
 all_goals first
  | (simp at h; done)
  | omega
theorem Mc {n : Nar} (h : narE D8 n=0) : NarOk n:=by
 unfold narE at h
 split at h
 ·rename_i hz; exact absurd h hz
 rename_i h1
 split at h
 ·rename_i hz; exact absurd h hz
 rename_i h2
 have h1:=Decidable.not_not.1 h1
 have h2:=errs_zero.1 (Decidable.not_not.1 h2)
 have h3:=errs_zero.1 h
 unfold Ag at h1
 split at h1
 ·simp at h1
 rename_i a1
 split at h1
 ·rename_i hz; exact absurd h1 hz
 rename_i a2
 split at h1
 ·simp at h1
 rename_i a3
 split at h1
 ·rename_i hz; exact absurd h1 hz
 rename_i a4
 split at h1
 ·simp at h1
 rename_i a5
 obtain ⟨c1,c2,c3,c4,c5,c6,c7⟩:=uB3 (Decidable.not_not.1 a2)
 have a4:=errs_zero.1 (Decidable.not_not.1 a4)
 refine ⟨by simpa using a1,c1,c2,fun w hw=>List.all_eq_true.1 (by simpa using a3) w hw,c3,fun f hf=>?_,c4,fun w hw=>List.all_eq_true.1 (by simpa using a5) w hw,c5,c6,fun s hs=>?_,c7,fun g hg=>uBe (h3 g hg)⟩
 ·have := a4 f hf
  unfold frE at this
  split at this
  ·simp at this
  rename_i q
  split at this
  ·simp at this
  ·refine ⟨?_,?_,by omega,by omega⟩
   ·cases hz : D8 f.role with
    | true=>rfl
    | false=>exact absurd (.inl hz) q
   ·cases hz : D8 f.name with
    | true=>rfl
    | false=>exact absurd (.inr hz) q
 ·have := h2 s hs
  unfold spE at this
  split at this
  ·simp at this
  rename_i q
  refine ⟨?_,?_,uAY this⟩
  ·cases hz : D8 s.frm with
   | true=>rfl
   | false=>exact absurd (.inl hz) q
  ·cases hz : D8 s.dst with
   | true=>rfl
   | false=>exact absurd (.inr hz) q
theorem Bg {w : List UInt8} (h : D8 w=true) : w.length≤24:=(Iw h).2.2.2
theorem MsgOk.ok {t : T} (h : MsgOk t) : okB t=true:=(uCc h.raw).1
theorem MsgOk.len {t : T} (h : MsgOk t) : (V8 t).length≤1120 := by have := Uc h.ok; have := h.size; omega
theorem Rq : ∀ {l : List T} {M : Nat},(∀ t ∈ l,t.size≤M)→T.sizes l≤M * l.length
 | [],M,_=>by simp [T.sizes]
 | t :: l,M,h=>by
  have h1:=h t (by simp)
  have h2:=Rq (M:=M) fun x hx=>h x (List.mem_cons_of_mem t hx)
  rw[T.sizes,List.length_cons,Nat.mul_succ]; omega
theorem GlOk.sizes {g : Gl} (h : GlOk g) : T.sizes g.data≤160:=by
 have := Rq (M := 40) fun t ht=>(h.data t ht).size
 have := h.d2; omega
theorem GlOk.oks {g : Gl} (h : GlOk g) : ∀ t ∈ g.data,okB t=true:=fun t ht=>(h.data t ht).ok
theorem GlOk.len {g : Gl} (h : GlOk g) : (Au g.data).length≤4480 := by have := Zw h.oks; have := h.sizes; omega
theorem GlOk.wth {g : Gl} (h : GlOk g) : g.wth.length≤24:=by
 cases ha : I4 g.kind with
 | true=>exact Bg (h.w1 ha)
 | false=>rw[h.w0 ha]; simp
theorem Mi (fs : List Fs) : ∀ k,k≤fs.length → ∀ i ∈ frI fs k,∃ r l,i = .fresh r l∧l≠[]∧l.length≤k ∧ ∀ p ∈ l,∃ f ∈ fs,p=f.pr∧f.role=r
 | 0,_,i,h=>by simp [frI] at h
 | k + 1,hk,i,h=>by
  have ih:=Mi fs k (by omega)
  have hm : fs.getD k default ∈ fs:=by
   rw[List.getD_eq_getElem?_getD,List.getElem?_eq_getElem (by omega)]; exact List.getElem_mem _
  by_cases hs : Jc fs k
  ·obtain ⟨I,l,_,h2,h3⟩:=Ot hs
   rw[h3] at h
   rw[h2] at ih
   rcases List.mem_append.1 h with q | q
   ·obtain ⟨r,l',e1,e2,e3,e4⟩:=ih i (by simp [q])
    exact ⟨r,l',e1,e2,by omega,e4⟩
   ·obtain ⟨r,l',e1,e2,e3,e4⟩:=ih _ (List.mem_append.2 (.inr (List.mem_singleton.2 rfl)))
    simp only [Itm.fresh.injEq] at e1
    obtain ⟨rfl,rfl⟩:=e1
    refine ⟨_,_,List.mem_singleton.1 q,by simp,by simp only [List.length_append,List.length_singleton]; omega,fun p hp=>?_⟩
    rcases List.mem_append.1 hp with z | z
    ·exact e4 p z
    ·exact ⟨_,hm,List.mem_singleton.1 z,rfl⟩
  ·rw[Uz hs] at h
   rcases List.mem_append.1 h with q | q
   ·obtain ⟨r,l',e1,e2,e3,e4⟩:=ih i q
    exact ⟨r,l',e1,e2,by omega,e4⟩
   ·refine ⟨_,_,List.mem_singleton.1 q,by simp,by simp,fun p hp=>⟨_,hm,List.mem_singleton.1 hp,rfl⟩⟩
def FsOk (fs : List Fs) : Prop:=∀ f ∈ fs,D8 f.role=true∧D8 f.name=true∧2≤f.sort∧f.sort≤4
theorem uCk {fs : List Fs} (h : FsOk fs) {k : Nat} (hk : k≤fs.length) : ∀ i ∈ frI fs k,i.ok:=by
 intro i hi
 obtain ⟨r,l,rfl,h2,h3,h4⟩:=Mi fs k hk i hi
 refine ⟨?_,h2,fun p hp=>?_⟩
 ·obtain ⟨p,q,rfl⟩ : ∃ p q,l=p :: q:=by
   cases l with
   | nil=>exact absurd J h2
   | cons p q=>exact ⟨p,q,rfl⟩
  obtain ⟨f,hf,_,e⟩:=h4 p (by simp)
  rw[← e]; exact (h f hf).1
 ·obtain ⟨f,hf,e,_⟩:=h4 p hp
  subst e
  exact ⟨(h f hf).2.1,(h f hf).2.2.1,(h f hf).2.2.2⟩
theorem uAW {L : List (List UInt8)} {M : Nat} (h : ∀ x ∈ L,x.length≤M) : Bh L≤(M + 2) * L.length:=by
 induction L with
 | nil=>simp [Bh]
 | cons x L ih =>
  have h1:=h x (by simp)
  have h2:=ih fun y hy=>h y (by simp [hy])
  simp only [Bh,List.map_cons,List.sum_cons,List.length_cons,Nat.mul_succ] at h2 ⊢
  omega
theorem Vq {L : List (List UInt8)} {M : Nat} (h : ∀ x ∈ L,x.length≤M) : (Lib.join L [44,32]).length≤(M + 2) * L.length:=Nat.le_trans (Cg L).1 (uAW h)
theorem Xy (k : Int) : (uAB k).length≤5:=by
 unfold uAB
 have : ∀ j : Nat,(sortW.getD j []).length≤5:=by
  intro j
  match j with
  | 0=>decide
  | 1=>decide
  | 2=>decide
  | j + 3=>simp [sortW,List.getD_eq_getElem?_getD]
 exact this _
theorem Zy {fs : List Fs} (h : FsOk fs) {k : Nat} (hk : k≤fs.length) (h12 : fs.length≤12) : ∀ i ∈ frI fs k,i.text.length≤500:=by
 intro i hi
 have ho:=uCk h hk i hi
 obtain ⟨r,l,rfl,h2,h3,h4⟩:=Mi fs k hk i hi
 obtain ⟨o1,o2,o3⟩:=ho
 have h5:=Bg o1
 have h6 : (Lib.join (l.map fsW) [44,32]).length≤(30 + 2) * l.length:=by
  have := Vq (L := l.map fsW) (M := 30) fun x hx=>by
   obtain ⟨p,hp,rfl⟩:=List.mem_map.1 hx
   have := Bg (o3 p hp).1
   have := Xy p.2
   simp only [fsW,List.length_append,List.length_cons,List.length_nil]; omega
  rwa [List.length_map] at this
 have : hFresh.length=8:=rfl
 simp only [Itm.text,List.length_append,List.length_cons,List.length_nil]
 omega
theorem Ih {l : List (List UInt8)} (h : ∀ w ∈ l,D8 w=true) : (Lib.join l [44,32]).length≤26 * l.length:=Vq fun x hx=>Bg (h x hx)
theorem Yc {s : Sp} (h1 : D8 s.frm=true) (h2 : D8 s.dst=true) (h3 : MsgOk s.msg) : (Itm.step s).text.length≤1300:=by
 have a:=Bg h1
 have b:=Bg h2
 have c:=h3.len
 have : hMsg.length=10:=rfl
 have : arrow.length=4:=rfl
 simp only [Itm.text,List.length_append,List.length_cons,List.length_nil]; omega
theorem Wu (k : Int) : (uAZ k).length≤7:=by
 unfold uAZ
 have : ∀ j : Nat,(kindW.getD j []).length≤7:=by
  intro j
  match j with
  | 0=>decide
  | 1=>decide
  | 2=>decide
  | 3=>decide
  | 4=>decide
  | j + 5=>simp [kindW,List.getD_eq_getElem?_getD]
 exact this _
theorem Wi {g : Gl} (h : GlOk g) : (Itm.goal g).text.length≤4600:=by
 have a:=Bg h.role
 have b:=h.wth
 have c:=h.len
 have d:=Wu g.kind
 have : hGoal.length=7:=rfl
 simp only [Itm.text,List.length_append,List.length_cons,List.length_nil]
 split <;> (simp only [List.length_append,List.length_cons,List.length_nil]; omega)
theorem uCu (L : List (List UInt8)) {M : Nat} (h : ∀ x ∈ L,x.length≤M) : (nl L).length≤(M + 1) * L.length:=by
 induction L with
 | nil=>simp [nl]
 | cons x L ih =>
  have h1:=h x (by simp)
  have h2:=ih fun y hy=>h y (by simp [hy])
  have e : nl (x :: L)=x++([10]++nl L):=by simp [nl]
  rw[e]
  simp only [List.length_append,List.length_cons,List.length_nil,Nat.mul_succ]
  omega
theorem Sf {α : Type} (f : α→List UInt8) (l : List α) {M : Nat} (h : ∀ x ∈ l,(f x).length≤M) : (nl (l.map f)).length≤(M + 1) * l.length:=by
 have := uCu (l.map f) (M := M) fun x hx=>by
  obtain ⟨y,hy,rfl⟩:=List.mem_map.1 hx; exact h y hy
 rwa [List.length_map] at this
theorem NarOk.text_len {n : Nar} (h : NarOk n) : n.text.length≤60000:=by
 rw[n.text_eq]
 have e : n.lines=[Qa n]++([(Itm.roles n.roles).text]++((frI n.fresh n.fresh.length).map Itm.text++((if n.tags=[] then [] else [.tags n.tags]).map Itm.text++(n.steps.map (fun s=>(Itm.step s).text)++(n.goals.map (fun g=>(Itm.goal g).text)++[[125]]))))):=by
  unfold Nar.lines Nar.itms
  simp [List.map_map,Function.comp_def]
 rw[e]
 simp only [uCs,List.length_append]
 have h1 : (nl [Qa n]).length≤60:=by
  have := Bg h.name
  have : hProt.length=9:=rfl
  simp only [nl,Qa,List.map_cons,List.map_nil,List.flatten_cons,List.flatten_nil,List.length_append,List.length_cons,List.length_nil]; omega
 have h2 : (nl [(Itm.roles n.roles).text]).length≤200:=by
  have := Ih h.roles
  have := h.r2
  have : hRole.length=7:=rfl
  simp only [nl,Itm.text,List.map_cons,List.map_nil,List.flatten_cons,List.flatten_nil,List.length_append,List.length_cons,List.length_nil]; omega
 have h3:=Sf Itm.text (frI n.fresh n.fresh.length) (Zy h.fresh (Nat.le_refl _) h.f2)
 have h3':=Vt n.fresh n.fresh.length
 have h4 : (nl ((if n.tags=[] then [] else [.tags n.tags]).map Itm.text)).length≤300:=by
  split
  ·simp [nl]
  ·have := Ih h.tags
   have := h.t2
   have : hTag.length=6:=rfl
   simp only [nl,Itm.text,List.map_cons,List.map_nil,List.flatten_cons,List.flatten_nil,List.length_append,List.length_cons,List.length_nil]; omega
 have h5:=Sf (fun s=>(Itm.step s).text) n.steps (M:=1300) fun s hs=>by
  obtain ⟨s1,s2,s3⟩:=h.steps s hs
  exact Yc s1 s2 s3
 have h6:=Sf (fun g=>(Itm.goal g).text) n.goals (M:=4600) fun g hg=>Wi (h.goals g hg)
 have h7 : (nl [[125]]).length=2:=rfl
 have := h.f2
 have := h.s2
 have := h.g2
 omega
theorem sagree_iff {k : Int} : I4 k=true ↔ k=2∨k=3:=by simp [I4]
theorem Ta (n : Nar) (b : Nat) (g : Gl) (hg : T.sizes g.data≤900000) : Ctr (sys.add b (mapL (nmsL n))) 42 [xtb n.roles (.map (some b)),xg g] [] (xi (Z7 n g)) none []:=by
 have hr:=T.rows_len g.data
 have hls:=T.len_sizes g.data
 refine D1 Tryz.func42 J J J J J J ?_;refine A8 (A6 ?_);refine C3 J (E2 J J J J) ?_;refine C3 J (E2 J J J J) ?_;refine A5 J J J (A9 J gU) ?_;refine B0 ?_;refine A8 ?_;refine A8 (A6 ?_);refine A5 J J J (B1 J gU J J) ?_;refine A5 J J J (B2 J gU J J J J) ?_;refine A5 J J J (B1 J gU J J) ?_;refine A5 J J J (B2 J gU J J J J) ?_;refine C8 J J J J J J gU gU (Ctr.add (O5 _ _)) J ?_;refine A5 J J J (F2 J gU) ?_;refine B0 ?_;refine B5 (s:=⟨[(2,_,_),(3,_,_),(14,_,_)],[(.l 2,_),(.l 3,_)],[],[]⟩) (B3 (⟨U J,U J,U J,O⟩) (⟨U J,U J,O⟩) O) ?_;refine B8 J (fun hc=>?_) (fun hc=>?_)
 ·try simp only [nn,B4,nq] at hc
  refine A8 (A6 ?_);refine A5 J J J (A9 J gU) ?_;refine B0 ?_;refine C1 ?_
  repeat(first|refine tR ?_|refine bR ?_)
  refine C5 J ?_ O
  (rw[Z7,if_pos hc]; rfl)
 ·try simp only [nn,B4,nq] at hc
  have c1 : ¬ n.roles.contains g.role=false:=by rw[hc]; simp
  refine C0 ?_;refine A8 ?_;refine A8 (A6 ?_);refine A5 J J J (B1 J gU J J) ?_;refine A5 J J J (B2 J gU J J J J) ?_;refine A5 J J J (B6 J J gU gU J) ?_;refine A5 J J J (A7 J gU) ?_;refine A5 J J J (B1 J gU J J) ?_;refine A5 J J J (B2 J (fun hh=>hh) J J J J) ?_;refine A5 J J J (B6 J J (fun hh=>hh) gU J) ?_;refine A5 J J J (D9 J J gU (fun _ hi=>gP J hi)) ?_;refine B0 ?_;refine B5 (s:=⟨[(2,_,_),(3,_,_),(22,_,_)],[(.l 2,_),(.l 3,_)],[],[]⟩) (B3 (⟨U J,U J,U J,O⟩) (⟨U J,U J,O⟩) O) ?_;refine B8 J (fun hc2=>?_) (fun hc2=>?_)
  ·try simp only [nn,B4,nq] at hc2
   have ha : I4 g.kind=true:=sagree_iff.2 hc2
   refine A8 (A6 ?_);refine A5 J J J (B7 J gU J J J J J) ?_;refine A5 J J J (B1 J gU J J) ?_;refine A5 J J J (B2 J gU J J J J) ?_;refine A5 J J J (B1 J gU J J) ?_;refine A5 J J J (B2 J gU J J J J) ?_;refine C8 J J J J J J gU gU (Ctr.add (Ll _ _ _ _)) J ?_;refine A5 J J J (A9 J gU) ?_;refine B0 ?_;refine B5 (s:=⟨[(2,_,_),(3,_,_),(5,_,_)],[(.l 2,_),(.l 3,_)],[],[]⟩) (B3 (⟨U J,U J,U J,O⟩) (⟨U J,U J,O⟩) O) ?_;refine A8 (A6 ?_);refine A5 J J J (A7 J gU) ?_;refine A5 J J J (B6 J J gU gU J) ?_;refine B0 ?_;refine B8 J (fun hc3=>?_) (fun hc3=>?_)
   ·try simp only [nn,B4,nq] at hc3
    refine A8 (A6 ?_);refine A5 J J J (A7 J gU) ?_;refine A5 J J J (A9 J gU) ?_;refine B0 ?_;refine C1 ?_
    repeat(first|refine tR ?_|refine bR ?_)
    refine C5 J ?_ O
    (rw[Z7,if_neg c1,if_pos ⟨ha,hc3⟩]; rfl)
   ·try simp only [nn,B4,nq] at hc3
    have hE : Z7 n g=errs (V4 n.roles (K6 n)) g.data:=by rw[Z7,if_neg c1,if_neg (fun q=>q.2 hc3)]
    rw[hE]
    refine C0 ?_;refine A8 ?_;refine A8 (A6 ?_);refine A5 J J J (B1 J gU J J) ?_;refine A5 J J J (B2 J gU J J J J) ?_;refine E0 J J J J J gU J J ?_ (fun hh=>by simp at hh); intro hlen;refine A5 J J J (A7 J gU) ?_;refine B0 ?_;refine B5 (s:=⟨[(2,_,_),(33,_,_),(34,_,_),(35,_,_)],[(.l 2,_)],[],[]⟩) (B3 (⟨U J,U J,U J,U J,O⟩) (⟨U J,O⟩) O) ?_;refine C4 ?_;refine F5 (ι:=Nat) { t:=[(2,_,_),(33,_,_),(34,_,_)],bx:=[(.l 2,_)],ow:=[] } (fun k=>[(35,true,xi (k : Int))]) (fun k=>[]) (fun k=>k≤g.data.length ∧ ∀ j,j < k→V4 n.roles (K6 n) (g.data.getD j default)=0) (fun k=>g.data.length - k) (0) (⟨by omega,fun j hj=>by omega⟩) (B3 (⟨U J,U J,U J,U J,O⟩) (⟨U J,O⟩) O) ?_
    intro k hoka
    dsimp only [List.cons_append,List.nil_append]
    obtain ⟨hk,hi⟩:=hoka
    refine A8 (A6 ?_);refine A5 J J J (B6 J J gU gU J) ?_;refine B0 ?_;refine A8 ?_;refine B8 J (fun hc4=>?_) (fun hc4=>?_)
    ·try simp only [nn,B4,nq] at hc4
     have hlt : k < g.data.length:=by omega
     have hks:=T.getD_size hlt
     have hts:=T.sizes_take_le g.data k
     refine C0 ?_;refine A8 ?_;refine C4 ?_;refine A8 (A6 ?_);refine A5 J J J (C7 J J gU gU J J J (fun hh=>T.rows_at (by first|omega|(simp at hh ⊢; omega)))) ?_;refine A5 J J J (D6 J gU J J J J) ?_;refine C3 J (D7 J J J) ?_;refine C3 J (C9 J J J J J J J) ?_;refine B0 ?_;refine A8 (A6 ?_);refine A5 J J J (B7 J gU J J J J J) ?_;refine A5 J J J (B7 J gU J J J J J) ?_;refine C8 J J J J J J gU gU (Do n.roles (nmsL n) b _ (g.data.getD k default) (Nat.le_refl _) (by omega)) J ?_;refine A5 J J J (A9 J gU) ?_;refine B0 ?_;refine B5 (s:=⟨[(2,_,_),(8,_,_),(33,_,_),(34,_,_),(35,_,_)],[(.l 2,_)],[],[]⟩) (B3 (⟨U J,U J,U J,U J,U J,O⟩) (⟨U J,O⟩) O) ?_;refine A8 (A6 ?_);refine A5 J J J (A7 J gU) ?_;refine A5 J J J (B6 J J gU gU J) ?_;refine B0 ?_;refine B8 J (fun hc5=>?_) (fun hc5=>?_)
     ·try simp only [nn,B4,nq] at hc5
      refine A8 (A6 ?_);refine A5 J J J (A7 J gU) ?_;refine A5 J J J (A9 J gU) ?_;refine B0 ?_;refine C1 ?_
      repeat(first|refine tR ?_|refine bR ?_)
      refine C5 J ?_ O
      (rw[Ii hlt hi hc5]; rfl)
     ·try simp only [nn,B4,nq] at hc5
      refine C0 ?_;refine A6 ?_;refine A5 J J J (D0 J J gU gU J (IntWalk.i64_in _ (by omega))) ?_;refine A5 J J J (A7 J gU) ?_;refine B0 ?_;refine ⟨k + 1,?_,?_,B3 (⟨⟨_,rfl,?_⟩,⟨U J,U J,U J,O⟩⟩) (⟨U J,O⟩) O⟩
      all_goals (first|rfl|omega|exact ⟨by omega,Bu hi hc5⟩)
    ·try simp only [nn,B4,nq] at hc4
     have hke : k=g.data.length:=by omega
     subst hke
     refine E1 ?_
     repeat(first|refine D3 ?_|refine D4 ?_|refine D2 J ?_)
     refine A8 (A6 ?_);refine A5 J J J (A9 J gU) ?_;refine B0 ?_;refine C1 ?_
     repeat(first|refine tR ?_|refine bR ?_)
     refine C5 J ?_ O
     (rw[Ez hi]; rfl)
  ·try simp only [nn,B4,nq] at hc2
   have ha : ¬ I4 g.kind=true := fun q=>by have := sagree_iff.1 q; omega
   have hE : Z7 n g=errs (V4 n.roles (K6 n)) g.data:=by rw[Z7,if_neg c1,if_neg (fun q=>ha q.1)]
   rw[hE]
   refine C0 ?_;refine A8 ?_;refine A8 (A6 ?_);refine A5 J J J (B1 J gU J J) ?_;refine A5 J J J (B2 J gU J J J J) ?_;refine E0 J J J J J gU J J ?_ (fun hh=>by simp at hh); intro hlen;refine A5 J J J (A7 J gU) ?_;refine B0 ?_;refine C4 ?_;refine F5 (ι:=Nat) { t:=[(2,_,_),(33,_,_),(34,_,_)],bx:=[(.l 2,_)],ow:=[] } (fun k=>[(35,true,xi (k : Int))]) (fun k=>[]) (fun k=>k≤g.data.length ∧ ∀ j,j < k→V4 n.roles (K6 n) (g.data.getD j default)=0) (fun k=>g.data.length - k) (0) (⟨by omega,fun j hj=>by omega⟩) (B3 (⟨U J,U J,U J,U J,O⟩) (⟨U J,O⟩) O) ?_
   intro k hokb
   dsimp only [List.cons_append,List.nil_append]
   obtain ⟨hk,hi⟩:=hokb
   refine A8 (A6 ?_);refine A5 J J J (B6 J J gU gU J) ?_;refine B0 ?_;refine A8 ?_;refine B8 J (fun hc4=>?_) (fun hc4=>?_)
   ·try simp only [nn,B4,nq] at hc4
    have hlt : k < g.data.length:=by omega
    have hks:=T.getD_size hlt
    have hts:=T.sizes_take_le g.data k
    refine C0 ?_;refine A8 ?_;refine C4 ?_;refine A8 (A6 ?_);refine A5 J J J (C7 J J gU gU J J J (fun hh=>T.rows_at (by first|omega|(simp at hh ⊢; omega)))) ?_;refine A5 J J J (D6 J gU J J J J) ?_;refine C3 J (D7 J J J) ?_;refine C3 J (C9 J J J J J J J) ?_;refine B0 ?_;refine A8 (A6 ?_);refine A5 J J J (B7 J gU J J J J J) ?_;refine A5 J J J (B7 J gU J J J J J) ?_;refine C8 J J J J J J gU gU (Do n.roles (nmsL n) b _ (g.data.getD k default) (Nat.le_refl _) (by omega)) J ?_;refine A5 J J J (A9 J gU) ?_;refine B0 ?_;refine B5 (s:=⟨[(2,_,_),(8,_,_),(33,_,_),(34,_,_),(35,_,_)],[(.l 2,_)],[],[]⟩) (B3 (⟨U J,U J,U J,U J,U J,O⟩) (⟨U J,O⟩) O) ?_;refine A8 (A6 ?_);refine A5 J J J (A7 J gU) ?_;refine A5 J J J (B6 J J gU gU J) ?_;refine B0 ?_;refine B8 J (fun hc5=>?_) (fun hc5=>?_)
    ·try simp only [nn,B4,nq] at hc5
     refine A8 (A6 ?_);refine A5 J J J (A7 J gU) ?_;refine A5 J J J (A9 J gU) ?_;refine B0 ?_;refine C1 ?_
     repeat(first|refine tR ?_|refine bR ?_)
     refine C5 J ?_ O
     (rw[Ii hlt hi hc5]; rfl)
    ·try simp only [nn,B4,nq] at hc5
     refine C0 ?_;refine A6 ?_;refine A5 J J J (D0 J J gU gU J (IntWalk.i64_in _ (by omega))) ?_;refine A5 J J J (A7 J gU) ?_;refine B0 ?_;refine ⟨k + 1,?_,?_,B3 (⟨⟨_,rfl,?_⟩,⟨U J,U J,U J,O⟩⟩) (⟨U J,O⟩) O⟩
     all_goals (first|rfl|omega|exact ⟨by omega,Bu hi hc5⟩)
   ·try simp only [nn,B4,nq] at hc4
    have hke : k=g.data.length:=by omega
    subst hke
    refine E1 ?_
    repeat(first|refine D3 ?_|refine D4 ?_|refine D2 J ?_)
    refine A8 (A6 ?_);refine A5 J J J (A9 J gU) ?_;refine B0 ?_;refine C1 ?_
    repeat(first|refine tR ?_|refine bR ?_)
    refine C5 J ?_ O
    (rw[Ez hi]; rfl)
abbrev xii (r : Int × Int) : X:=.tup [.c (.i .i64 r.1), .c (.i .i64 r.2)]
set_option maxHeartbeats 4000000 in
theorem N6 (n : Nar) (hs : ∀ s ∈ n.steps,s.msg.size≤900000) (hg : ∀ g ∈ n.goals,T.sizes g.data≤900000) : Ctr sys 13 [xn n] [] (xii (chkE D8 n)) none []:=by
 have l5:=Sp.rows_len n.steps
 have l6:=Gl.rows_len n.goals
 refine D1 Tryz.func13 J J J J J J ?_;refine A8 (A6 ?_);refine C3 J (E2 J J J J) ?_;refine A5 J J J (A9 J gU) ?_;refine A5 J J J (A9 J gU) ?_;refine B0 ?_;refine A8 ?_;refine A8 (A6 ?_);refine A5 J J J (B7 J gU J J J J J) ?_;refine C8 J J J J J J gU gU (Tf _ hs hg) J ?_;refine A5 J J J (A9 J gU) ?_;refine B0 ?_;refine B5 (s:=⟨[(1,_,_),(4,_,_)],[(.l 1,_)],[],[]⟩) (B3 (⟨U J,U J,O⟩) (⟨U J,O⟩) O) ?_;refine A8 (A6 ?_);refine A5 J J J (A7 J gU) ?_;refine A5 J J J (B6 J J gU gU J) ?_;refine B0 ?_;refine B8 J (fun hc=>?_) (fun hc=>?_)
 ·try simp only [nn,B4,nq] at hc
  refine A8 (A6 ?_);refine A5 J J J (A7 J gU) ?_;refine A5 J J J (A9 J gU) ?_;refine A5 J J J (A9 J gU) ?_;refine B0 ?_;refine C1 ?_
  repeat(first|refine tR ?_|refine bR ?_)
  refine C5 J ?_ O
  (rw[chkE,if_pos hc]; rfl)
 ·try simp only [nn,B4,nq] at hc
  have hok:=Mc (n:=n) hc
  have e1 : chkE D8 n=if decE n≠0 then (0,decE n) else useE n:=by rw[chkE,if_neg (by simpa using hc)]
  rw[e1]
  refine C0 ?_;refine A8 ?_;refine A8 (A6 ?_);refine A5 J J J (B7 J gU J J J J J) ?_;refine C8 J J J J J J gU gU (Js n (by have := hok.r2; omega) (by have := hok.f2; omega) (by have := hok.t2; omega)) J ?_;refine A5 J J J (A9 J gU) ?_;refine B0 ?_;refine B5 (s := ⟨[(1,_,_),(5,_,_)],[(.l 1,_)],[],[]⟩) (B3 (⟨U J,U J,O⟩) (⟨U J,O⟩) O) ?_;refine A8 (A6 ?_);refine A5 J J J (A7 J gU) ?_;refine A5 J J J (B6 J J gU gU J) ?_;refine B0 ?_;refine B8 J (fun hc2=>?_) (fun hc2=>?_)
  ·try simp only [nn,B4,nq] at hc2
   refine A8 (A6 ?_);refine A5 J J J (A7 J gU) ?_;refine A5 J J J (A9 J gU) ?_;refine A5 J J J (A9 J gU) ?_;refine B0 ?_;refine C1 ?_
   repeat(first|refine tR ?_|refine bR ?_)
   refine C5 J ?_ O
   (rw[if_pos hc2]; rfl)
  ·try simp only [nn,B4,nq] at hc2
   rw[if_neg (by simpa using hc2)]
   refine C0 ?_;refine A8 (A6 ?_);refine A5 J J J (B7 J gU J J J J J) ?_;refine Ht J J J J J J (Bv n) (fun _=>rfl) (fun bm=>?_);refine C3 J (D7 J J J) ?_;refine C3 J (C9 J J J J J J J) ?_;refine B0 ?_;refine B5 (s:={ t:=[(1,_,_),(6,_,_)],bx:=[(.l 1,_),(.l 6,_)],ow:=[],mp:=_ }) (B3 (⟨U J,U J,O⟩) (⟨U J,U J,O⟩) O (.inr J)) ?_;refine A8 ?_;refine A8 (A6 ?_);refine A5 J J J (B1 J gU J J) ?_;refine A5 J J J (B2 J gU J J J J) ?_;refine E0 J J J J J gU J J ?_ (fun hh=>by simp at hh); intro hlen;refine A5 J J J (A7 J gU) ?_;refine B0 ?_;refine C4 ?_;refine F5 (ι:=Nat) { t:=[(1,_,_),(6,_,_),(26,_,_),(27,_,_)],bx:=[(.l 1,_),(.l 6,_)],ow:=[],mp:=_ } (fun k=>[(28,true,xi (k : Int))]) (fun k=>[]) (fun k=>k≤n.steps.length ∧ ∀ j,j < k→Af n (n.steps.getD j default)=0) (fun k=>n.steps.length - k) (0) (⟨by omega,fun j hj=>by omega⟩) (B3 (⟨U J,U J,U J,U J,U J,O⟩) (⟨U J,U J,O⟩) O (.inr J)) ?_
   intro k hoka
   dsimp only [List.cons_append,List.nil_append]
   obtain ⟨hk,hi⟩:=hoka
   refine A8 (A6 ?_);refine A5 J J J (B6 J J gU gU J) ?_;refine B0 ?_;refine A8 ?_;refine B8 J (fun hc3=>?_) (fun hc3=>?_)
   ·try simp only [nn,B4,nq] at hc3
    have hlt : k < n.steps.length:=by omega
    have hks:=hs _ (S1 (d:=default) hlt)
    have hhit : Af n (n.steps.getD k default)≠0→useE n=((n.steps.getD k default).line,Af n (n.steps.getD k default)):=fun q=>by
     have := Uu (ln := Sp.line) hlt hi q
     rw[useE,if_pos (by rw[this]; exact q),this]
    refine C0 ?_;refine A8 ?_;refine C4 ?_;refine A8 (A6 ?_);refine A5 J J J (C7 J J gU gU J J J (fun hh=>Sp.rows_at (by first|omega|(simp at hh ⊢; omega)))) ?_;refine A5 J J J (D6 J gU J J J J) ?_;refine C3 J (D7 J J J) ?_;refine C3 J (C9 J J J J J J J) ?_;refine B0 ?_;refine A8 (A6 ?_);refine A5 J J J (B7 J gU J J J J J) ?_;refine A5 J J J (B1 J gU J J) ?_;refine A5 J J J (B2 J gU J J J J) ?_;refine A5 J J J (B1 J gU J J) ?_;refine A5 J J J (B2 J gU J J J J) ?_;refine C8 J J J J J J gU gU (Ll _ _ _ _) J ?_;refine A5 J J J (A9 J gU) ?_;refine B0 ?_;refine B5 (s:={ t:=[(1,_,_),(6,_,_),(8,_,_),(9,_,_),(26,_,_),(27,_,_),(28,_,_)],bx:=[(.l 1,_),(.l 6,_),(.l 8,_)],ow:=[],mp:=_ }) (B3 (⟨U J,U J,U J,U J,U J,U J,U J,O⟩) (⟨U J,U J,U J,O⟩) O (.inr J)) ?_;refine A8 ?_;refine A8 (A6 ?_);refine A5 J J J (A7 J gU) ?_;refine A5 J J J (B6 J J gU gU J) ?_;refine B0 ?_;refine B8 J (fun hc4=>?_) (fun hc4=>?_)
    ·try simp only [nn,B4,nq] at hc4
     have hstep : Af n (n.steps.getD k default)=V4 n.roles (K6 n) (n.steps.getD k default).msg:=by rw[Af,if_neg (by simpa using hc4)]
     refine A6 ?_;refine A5 J J J (B7 J gU J J J J J) ?_;refine A5 J J J (B1 J gU J J) ?_;refine A5 J J J (B7 J gU J J J J J) ?_;refine Ps 0 J J J J J J J gU gU (Do n.roles (nmsL n) bm _ (n.steps.getD k default).msg (Nat.le_refl _) (by omega)) J ?_;refine A5 J J J (A9 J gU) ?_;refine B0 ?_;refine B5 (s:={ t:=[(1,_,_),(6,_,_),(8,_,_),(9,_,_),(26,_,_),(27,_,_),(28,_,_)],bx:=[(.l 1,_),(.l 6,_),(.l 8,_)],ow:=[],mp:=_ }) (B3 (⟨U J,U J,U J,U J,U J,U J,U J,O⟩) (⟨U J,U J,U J,O⟩) O (.inr J)) ?_;refine A8 (A6 ?_);refine A5 J J J (A7 J gU) ?_;refine A5 J J J (B6 J J gU gU J) ?_;refine B0 ?_;refine B8 J (fun hc5=>?_) (fun hc5=>?_)
     ·try simp only [nn,B4,nq] at hc5
      have hh:=hhit (by rw[hstep]; exact hc5)
      rw[hh,hstep]
      refine A8 (A6 ?_);refine A5 J J J (B1 J gU J J) ?_;refine A5 J J J (B2 J gU J J J J) ?_;refine A5 J J J (A7 J gU) ?_;refine A5 J J J (A9 J gU) ?_;refine A5 J J J (A9 J gU) ?_;refine B0 ?_;refine C1 ?_
      repeat(first|refine tR ?_|refine bR ?_)
      refine C5 J ?_ O
      rfl
     ·try simp only [nn,B4,nq] at hc5
      refine C0 ?_;refine A6 ?_;refine A5 J J J (D0 J J gU gU J (IntWalk.i64_in _ (by omega))) ?_;refine A5 J J J (A7 J gU) ?_;refine B0 ?_;refine ⟨k + 1,?_,?_,B3 (⟨⟨_,rfl,?_⟩,⟨U J,U J,U J,U J,O⟩⟩) (⟨U J,U J,O⟩) O (.inr J)⟩
      all_goals (first|rfl|omega|exact ⟨by omega,Bu hi (by rw[hstep]; exact hc5)⟩)
    ·try simp only [nn,B4,nq] at hc4
     have hstep : Af n (n.steps.getD k default)=twoE n.roles (n.steps.getD k default).frm (n.steps.getD k default).dst:=by rw[Af,if_pos hc4]
     have hh:=hhit (by rw[hstep]; exact hc4)
     rw[hh,hstep]
     refine C0 ?_;refine A8 (A6 ?_);refine A5 J J J (A7 J gU) ?_;refine A5 J J J (B6 J J gU gU J) ?_;refine B0 ?_;refine B8 J (fun hc5=>?_) (fun hc5=>?_)
     ·refine A8 (A6 ?_)
      refine A5 J J J (B1 J gU J J) ?_;refine A5 J J J (B2 J gU J J J J) ?_;refine A5 J J J (A7 J gU) ?_;refine A5 J J J (A9 J gU) ?_;refine A5 J J J (A9 J gU) ?_;refine B0 ?_;refine C1 ?_
      repeat(first|refine tR ?_|refine bR ?_)
      refine C5 J ?_ O
      rfl
     ·try simp only [nn,B4,nq] at hc5
      exact absurd hc5 hc4
   ·try simp only [nn,B4,nq] at hc3
    have hke : k=n.steps.length:=by omega
    subst hke
    have hus : useE n=lnE (Z7 n) Gl.line n.goals:=by rw[useE,if_neg (by rw[Np (ln:=Sp.line) hi]; simp)]
    rw[hus]
    refine E1 ?_
    repeat(first|refine D3 ?_|refine D4 ?_|refine D2 J ?_)
    refine A8 ?_;refine A8 (A6 ?_);refine A5 J J J (B1 J gU J J) ?_;refine A5 J J J (B2 J gU J J J J) ?_;refine E0 J J J J J gU J J ?_ (fun hh=>by simp at hh); intro hlen;refine A5 J J J (A7 J gU) ?_;refine B0 ?_;refine B5 (s:={ t:=[(6,_,_),(51,_,_),(52,_,_),(53,_,_)],bx:=[(.l 6,_)],ow:=[],mp:=_ }) (B3 (⟨U J,U J,U J,U J,O⟩) (⟨U J,O⟩) O (.inr J)) ?_;refine C4 ?_;refine F5 (ι:=Nat) { t:=[(6,_,_),(51,_,_),(52,_,_)],bx:=[(.l 6,_)],ow:=[],mp:=_ } (fun j=>[(53,true,xi (j : Int))]) (fun j=>[]) (fun j=>j≤n.goals.length ∧ ∀ i,i < j→Z7 n (n.goals.getD i default)=0) (fun j=>n.goals.length - j) (0) (⟨by omega,fun j hj=>by omega⟩) (B3 (⟨U J,U J,U J,U J,O⟩) (⟨U J,O⟩) O (.inr J)) ?_
    intro j hokb
    dsimp only [List.cons_append,List.nil_append]
    obtain ⟨hj,hi2⟩:=hokb
    refine A8 (A6 ?_);refine A5 J J J (B6 J J gU gU J) ?_;refine B0 ?_;refine A8 ?_;refine B8 J (fun hc6=>?_) (fun hc6=>?_)
    ·try simp only [nn,B4,nq] at hc6
     have hlt : j < n.goals.length:=by omega
     have hks:=hg _ (S1 (d:=default) hlt)
     refine C0 ?_;refine A8 ?_;refine C4 ?_;refine A8 (A6 ?_);refine A5 J J J (C7 J J gU gU J J J (fun hh=>Gl.rows_at (by first|omega|(simp at hh ⊢; omega)))) ?_;refine A5 J J J (D6 J gU J J J J) ?_;refine C3 J (D7 J J J) ?_;refine C3 J (C9 J J J J J J J) ?_;refine B0 ?_;refine A8 (A6 ?_);refine A5 J J J (B7 J gU J J J J J) ?_;refine A5 J J J (B7 J gU J J J J J) ?_;refine Ps 0 J J J J J J J gU gU (Ta n bm (n.goals.getD j default) hks) J ?_;refine A5 J J J (A9 J gU) ?_;refine B0 ?_;refine B5 (s:={ t:=[(6,_,_),(11,_,_),(12,_,_),(51,_,_),(52,_,_),(53,_,_)],bx:=[(.l 11,_),(.l 6,_)],ow:=[],mp:=_ }) (B3 (⟨U J,U J,U J,U J,U J,U J,O⟩) (⟨U J,U J,O⟩) O (.inr J)) ?_;refine A8 (A6 ?_);refine A5 J J J (A7 J gU) ?_;refine A5 J J J (B6 J J gU gU J) ?_;refine B0 ?_;refine B8 J (fun hc7=>?_) (fun hc7=>?_)
     ·try simp only [nn,B4,nq] at hc7
      rw[Uu (ln:=Gl.line) hlt hi2 hc7]
      refine A8 (A6 ?_);refine A5 J J J (B1 J gU J J) ?_;refine A5 J J J (B2 J gU J J J J) ?_;refine A5 J J J (A7 J gU) ?_;refine A5 J J J (A9 J gU) ?_;refine A5 J J J (A9 J gU) ?_;refine B0 ?_;refine C1 ?_
      repeat(first|refine tR ?_|refine bR ?_)
      refine C5 J ?_ O
      rfl
     ·try simp only [nn,B4,nq] at hc7
      refine C0 ?_;refine A6 ?_;refine A5 J J J (D0 J J gU gU J (IntWalk.i64_in _ (by omega))) ?_;refine A5 J J J (A7 J gU) ?_;refine B0 ?_;refine ⟨j + 1,?_,?_,B3 (⟨⟨_,rfl,?_⟩,⟨U J,U J,U J,O⟩⟩) (⟨U J,O⟩) O (.inr J)⟩
      all_goals (first|rfl|omega|exact ⟨by omega,Bu hi2 hc7⟩)
    ·try simp only [nn,B4,nq] at hc6
     have hje : j=n.goals.length:=by omega
     subst hje
     rw[Np (ln:=Gl.line) hi2]
     refine E1 ?_
     repeat(first|refine D3 ?_|refine D4 ?_|refine D2 J ?_)
     refine A8 (A6 ?_);refine A5 J J J (A9 J gU) ?_;refine A5 J J J (A9 J gU) ?_;refine B0 ?_;refine C1 ?_
     repeat(first|refine tR ?_|refine bR ?_)
     refine C5 J ?_ O
     rfl
def occA (s : List UInt8) : Nat→T→Bool
 | 0,_=>false
 | n + 1,t=>(decide (t.kind=2) && decide (t.name=s)) || t.kids.any (occA s n)
def occT (s : List UInt8) (t : T) : Bool:=occA s t.size t
theorem Ff {α : Type} {l : List α} {p q : α→Bool} (h : ∀ x ∈ l,p x=q x) : l.any p=l.any q:=by
 induction l with
 | nil=>rfl
 | cons x l ih=>rw[List.any_cons,List.any_cons,h x (by simp),ih fun y hy=>h y (by simp [hy])]
theorem Kd (s : List UInt8) : ∀ (n m : Nat) (t : T),t.size≤n→t.size≤m→occA s n t=occA s m t
 | 0,_,t,h,_=>by have := t.size_pos; omega
 | _,0,t,_,h=>by have := t.size_pos; omega
 | n + 1,m + 1,t,hn,hm=>by
  rw[occA,occA]
  congr 1
  exact Ff fun x hx=>by
   have := O1 hx
   exact Kd s n m x (by omega) (by omega)
theorem Mr (s : List UInt8) (t : T) : occT s t=((decide (t.kind=2) && decide (t.name=s)) || t.kids.any (occT s)):=by
 obtain ⟨m,hm⟩ : ∃ m,t.size=m + 1 := ⟨t.size - 1,by have := t.size_pos; omega⟩
 conv=>lhs; unfold occT
 rw[hm,occA]
 congr 1
 exact Ff fun x hx=>by
  have := O1 hx
  exact Kd s m x.size x (by omega) (by omega)
def idxT (p : T→Bool) : List T→Int
 | []=>-1
 | t :: r=>if p t=true then 0 else if idxT p r < 0 then -1 else idxT p r + 1
theorem Ow (p : T→Bool) : ∀ l : List T,decide (0≤idxT p l)=l.any p
 | []=>rfl
 | t :: r=>by
  have ih:=Ow p r
  rw[List.any_cons,idxT]
  by_cases h : p t=true
  ·rw[if_pos h,h]; rfl
  ·rw[if_neg h,← ih]
   rw[Bool.not_eq_true] at h
   rw[h,Bool.false_or]
   split
   ·rename_i q
    rw[Bool.eq_iff_iff,decide_eq_true_iff,decide_eq_true_iff]; omega
   ·rename_i q
    rw[Bool.eq_iff_iff,decide_eq_true_iff,decide_eq_true_iff]; omega
theorem uAp {p : T→Bool} {l : List T} {k : Nat} (hk : k < l.length) (h : ∀ j,j < k→p (l.getD j default)=false) (hx : p (l.getD k default)=true) : idxT p l=(k : Int):=by
 induction l generalizing k with
 | nil=>simp at hk
 | cons t r ih =>
  cases k with
  | zero=>rw[idxT,if_pos (by simpa using hx)]; rfl
  | succ k =>
   have h0:=h 0 (by omega)
   have := ih (k := k) (by simpa using hk) (fun j hj=>by simpa using h (j + 1) (by omega)) (by simpa using hx)
   rw[idxT,if_neg (by simpa using h0),this,if_neg (by omega)]; push_cast; rfl
theorem Vx {p : T→Bool} {l : List T} (h : ∀ j,j < l.length→p (l.getD j default)=false) : idxT p l = -1:=by
 induction l with
 | nil=>rfl
 | cons t r ih =>
  have h0:=h 0 (by simp)
  rw[idxT,if_neg (by simpa using h0),ih fun j hj=>by simpa using h (j + 1) (by simpa using hj)]
  rfl
theorem Wo (s : List UInt8) (t : T) (h : Ctr sysO 47 [xm t,xs s] [] (xb (occT s t)) none []) : CtrO sysO 88 [xm t, .v (.ptr (.o 0) 0)] [[.s s]] [] (xb (occT s t)) [[.s s]] .box:=by
 refine N4 Tryz.func88 J J J J J J J ?_;refine A8 (A6 ?_);refine C3 J (E2 J J J J) ?_;refine A5 J J J (A9 J gU) ?_;refine B0 ?_;refine A8 (A6 ?_);refine A5 J J J (B7 J gU J J J J J) ?_;refine A5 J J J (B2 J gU J J J J) ?_;refine C8 J J J J J J gU gU (h) J ?_;refine A5 J J J (A9 J gU) ?_;refine B0 ?_;refine C1 ?_
 repeat(first|refine tR ?_|refine bR ?_)
 refine Z3 J ?_ (⟨⟨_,rfl,?_⟩,O⟩) (by kernel_rfl)
 all_goals rfl
theorem Pp (s : List UInt8) (ks : List T) (hl : ks.length≤900000) (h : ∀ t ∈ ks,Ctr sysO 47 [xm t,xs s] [] (xb (occT s t)) none []) : CtrO sysO 64 [xl ks, .fn 88 [.ptr (.o 0) 0]] [[.s s]] [] (xi (idxT (occT s) ks)) [[.s s]] .box:=by
 have hr:=T.rows_len ks
 refine N4 Tryz.func64 J J J J J J J ?_;refine A8 (A6 ?_);refine A5 J J J (A9 J gU) ?_;refine B0 ?_;refine A8 ?_;refine A8 (A6 ?_);refine A5 J J J (A7 J gU) ?_;refine E0 J J J J J gU J J ?_ (fun hh=>by simp at hh); intro hlen;refine A5 J J J (A7 J gU) ?_;refine B0 ?_;refine C4 ?_;refine F5 (ι:=Nat) { t:=[(0,_,_),(1,_,_),(7,_,_)],bx:=[(.o 0,_)],ow:=[] } (fun k=>[(8,true,xi (k : Int))]) (fun k=>[]) (fun k=>k≤ks.length ∧ ∀ j,j < k→occT s (ks.getD j default)=false) (fun k=>ks.length - k) (0) (⟨by omega,fun j hj=>by omega⟩) (B3 (⟨U J,U J,U J,U J,O⟩) (⟨U J,O⟩) O) ?_
 intro k hok
 dsimp only [List.cons_append,List.nil_append]
 obtain ⟨hk,hi⟩:=hok
 refine A8 (A6 ?_);refine A5 J J J (B6 J J gU gU J) ?_;refine B0 ?_;refine A8 ?_;refine B8 J (fun hc=>?_) (fun hc=>?_)
 ·try simp only [nn,B4,nq] at hc
  have hlt : k < ks.length:=by omega
  refine C0 ?_;refine A8 ?_;refine C4 ?_;refine A8 (A6 ?_);refine A5 J J J (A7 J gU) ?_;refine A5 J J J (A9 J gU) ?_;refine B0 ?_;refine A8 (A6 ?_);refine A5 J J J (A7 J gU) ?_;refine A5 J J J (A7 J gU) ?_;refine A5 J J J (A7 J gU) ?_;refine A5 J J J (C7 J J gU gU J J J (fun hh=>T.rows_at (by first|omega|(simp at hh ⊢; omega)))) ?_;refine A5 J J J (D6 J gU J J J J) ?_;refine Ee [⟨.o 0,0,[.s s],[.s s]⟩] [] J J J J J J (ps1 J) J J (Wo s (ks.getD k default) (h _ (S1 hlt))) J J J ?_;refine B0 ?_;refine B5 (s:=⟨[(0,_,_),(1,_,_),(5,_,_),(7,_,_),(8,_,_),(16,_,_)],[(.o 0,_)],[],[]⟩) (B3 (⟨U J,U J,U J,U J,U J,U J,O⟩) (⟨U J,O⟩) O) ?_;refine B8 J (fun hc2=>?_) (fun hc2=>?_)
  ·try simp only [nn,B4,nq] at hc2
   rw[uAp hlt hi hc2]
   refine A8 (A6 ?_);refine A5 J J J (A7 J gU) ?_;refine A5 J J J (A9 J gU) ?_;refine B0 ?_;refine C1 ?_
   repeat(first|refine tR ?_|refine bR ?_)
   refine Z3 J ?_ (⟨⟨_,rfl,?_⟩,O⟩) (by kernel_rfl)
   all_goals rfl
  ·try simp only [nn,B4,nq] at hc2
   have hi2 : ∀ j,j < k + 1→occT s (ks.getD j default)=false:=fun j q=>by
    by_cases e : j=k
    ·subst e; exact hc2
    ·exact hi j (by omega)
   refine C0 ?_;refine A6 ?_;refine A5 J J J (D0 J J gU gU J (IntWalk.i64_in _ (by omega))) ?_;refine A5 J J J (A7 J gU) ?_;refine B0 ?_;refine ⟨k + 1,?_,?_,B3 (⟨⟨_,rfl,?_⟩,⟨U J,U J,U J,O⟩⟩) (⟨U J,O⟩) O⟩
   all_goals (first|rfl|omega|exact ⟨by omega,hi2⟩)
 ·try simp only [nn,B4,nq] at hc
  have hke : k=ks.length:=by omega
  subst hke
  rw[Vx hi]
  refine E1 ?_
  repeat(first|refine D3 ?_|refine D4 ?_|refine D2 J ?_)
  refine A8 (A6 ?_);refine A5 J J J (A9 J gU) ?_;refine B0 ?_;refine C1 ?_
  repeat(first|refine tR ?_|refine bR ?_)
  refine Z3 J ?_ (⟨⟨_,rfl,?_⟩,O⟩) (by kernel_rfl)
  all_goals rfl
theorem Pa (s : List UInt8) (ks : List T) (hl : ks.length≤900000) (h : ∀ t ∈ ks,Ctr sysO 47 [xm t,xs s] [] (xb (occT s t)) none []) : CtrO sysO 30 [xl ks, .fn 88 [.ptr (.o 0) 0]] [[.s s]] [] (xb (ks.any (occT s))) [[.s s]] .box:=by
 have hr:=T.rows_len ks
 refine N4 Tryz.func30 J J J J J J J ?_;refine A8 (A6 ?_);refine A5 J J J (A9 J gU) ?_;refine B0 ?_;refine A8 (A6 ?_);refine A5 J J J (A7 J gU) ?_;refine A5 J J J (A7 J gU) ?_;refine Pf [⟨.o 0,0,[.s s],[.s s]⟩] [] J J J J J J (ps1 J) J J (Pp s ks hl h) J J J ?_
 rw[← Ow]
 refine A5 J J J (B6 J J gU gU J) ?_;refine A5 J J J (A9 J gU) ?_;refine B0 ?_;refine C1 ?_
 repeat(first|refine tR ?_|refine bR ?_)
 refine Z3 J ?_ (⟨⟨_,rfl,?_⟩,O⟩) (by kernel_rfl)
 all_goals rfl
theorem Mg (s : List UInt8) : ∀ (m : Nat) (t : T),t.size≤m→m≤900000→Ctr sysO 47 [xm t,xs s] [] (xb (occT s t)) none []:=by
 intro m
 induction m with
 | zero=>intro t h; have := t.size_pos; omega
 | succ m ih =>
  intro t ht hm
  have hr:=T.rows_len t.kids
  have hls:=T.len_sizes t.kids
  have hse:=t.size_eq
  have hk : ∀ x ∈ t.kids,Ctr sysO 47 [xm x,xs s] [] (xb (occT s x)) none []:=fun x hx=>by
   have := O1 hx
   exact ih x (by omega) (by omega)
  refine D1 Tryz.func47 J J J J J J ?_;refine A8 (A6 ?_);refine C3 J (E2 J J J J) ?_;refine C3 J (E2 J J J J) ?_;refine A5 J J J (A9 J gU) ?_;refine B0 ?_;refine A8 (A6 ?_);refine A5 J J J (B1 J gU J J) ?_;refine A5 J J J (B2 J gU J J J J) ?_;refine A5 J J J (B6 J J gU gU J) ?_;refine A5 J J J (A7 J gU) ?_;refine A5 J J J (B1 J gU J J) ?_;refine A5 J J J (B2 J (fun hh=>hh) J J J J) ?_;refine A5 J J J (B2 J gU J J J J) ?_;refine A5 J J J (H1 J J (fun hh=>hh) (fun hh=>hh) J) ?_;refine A5 J J J (E4 J J gU (fun _ hi=>gP J hi)) ?_
  have hE:=Mr s t
  generalize hb : (t.kind == 2 && t.name == s)=b
  have hb2 : (decide (t.kind=2) && decide (t.name=s))=b:=by
   rw[← hb,Bool.eq_iff_iff]; simp
  rw[hb2] at hE
  cases b
  ·rw[Bool.false_or] at hE
   refine H5 (s:=⟨[(2,_,_),(3,_,_),(13,_,_)],[(.l 2,_),(.l 3,_)],[],[]⟩) (B3 (⟨U J,U J,U J,O⟩) (⟨U J,U J,O⟩) O) ?_;refine A5 J J J (A7 J gU) ?_;refine A5 J J J (B1 J gU J J) ?_;refine A5 J J J (B2 J (fun hh=>hh) J J J J) ?_;refine A5 J J J (U2 (ys:=[.ptr (.l 3) 0]) J) ?_;refine Pf [⟨.l 3,0,[.s s],[.s s]⟩] [] J J J J J J (ps1 J) J J (Pa s t.kids (by omega) hk) J J J ?_;refine A5 J J J (D9 J J gU (fun _ hi=>gP J hi)) ?_;refine A5 J J J (A9 J gU) ?_;refine B0 ?_;refine C1 ?_
   repeat(first|refine tR ?_|refine bR ?_)
   refine C5 J ?_ O
   (rw[hE]; rfl)
  ·skip
   rw[Bool.true_or] at hE
   refine H5 (s:=⟨[(2,_,_),(3,_,_),(13,_,_)],[(.l 2,_),(.l 3,_)],[],[]⟩) (B3 (⟨U J,U J,U J,O⟩) (⟨U J,U J,O⟩) O) ?_;refine A5 J J J (A7 J gU) ?_;refine A5 J J J (B1 J gU J J) ?_;refine A5 J J J (B2 J (fun hh=>hh) J J J J) ?_;refine Vp (xb false) J J J ?_;refine Vp (xb false) J J J ?_;refine A5 J J J (D9 J J gU (fun _ hi=>gP J hi)) ?_;refine A5 J J J (A9 J gU) ?_;refine B0 ?_;refine C1 ?_
   repeat(first|refine tR ?_|refine bR ?_)
   refine C5 J ?_ O
   (rw[hE]; rfl)
theorem Qw (s : List UInt8) (t : T) (ht : t.size≤900000) : Ctr sys 47 [xm t,xs s] [] (xb (occT s t)) none []:=(Mg s _ t (Nat.le_refl _) ht).wk J fun _ h=>h
def Eu (n : Nar) (s : List UInt8) : Int × Int:=if (chkE D8 n).2≠0 then (0,(chkE D8 n).2) else if (K6 n).contains s=true then (mapI (nmsL n) s,0) else (0,4)
def V9 (s : List UInt8) : Nat→List Sp→List Int
 | _,[]=>[]
 | k,x :: r=>if occT s x.msg=true then (k : Int) :: V9 s (k + 1) r else V9 s (k + 1) r
def Gj (n : Nar) (s : List UInt8) : List Int:=if (chkE D8 n).2≠0 then [] else V9 s 0 n.steps
theorem Tr (s : List UInt8) (l : List Sp) (x : Sp) : ∀ k,V9 s k (l++[x])=V9 s k l++if occT s x.msg=true then [((k + l.length : Nat) : Int)] else []:=by
 induction l with
 | nil=>intro k; simp [V9]
 | cons y r ih =>
  intro k
  rw[List.cons_append,V9,V9,ih (k + 1)]
  have : k + 1 + r.length=k + (y :: r).length:=by simp; omega
  rw[this]
  split <;> simp
theorem Ln (s : List UInt8) : ∀ (l : List Sp) (k : Nat),(V9 s k l).length≤l.length
 | [],_=>by simp [V9]
 | y :: r,k=>by
  have := Ln s r (k + 1)
  rw[V9]
  split
  ·simp only [List.length_cons]; omega
  ·simp only [List.length_cons]; omega
theorem Ao (n : Nar) (s : List UInt8) (hs : ∀ s ∈ n.steps,s.msg.size≤900000) (hg : ∀ g ∈ n.goals,T.sizes g.data≤900000) : Ctr sys 18 [xn n,xs s] [] (xii (Eu n s)) none []:=by
 refine D1 Tryz.func18 J J J J J J ?_;refine A8 (A6 ?_);refine C3 J (E2 J J J J) ?_;refine A5 J J J (A9 J gU) ?_;refine A5 J J J (A9 J gU) ?_;refine B0 ?_;refine A8 ?_;refine A8 (A6 ?_);refine A5 J J J (B7 J gU J J J J J) ?_;refine C8 J J J J J J gU gU (N6 n hs hg) J ?_;refine A5 J J J (A7 J gU) ?_;refine A5 J J J (C2 J gU J) ?_;refine A5 J J J (C2 J gU J) ?_;refine A5 J J J (A9 J gU) ?_;refine A5 J J J (A9 J gU) ?_;refine B0 ?_;refine B5 (s:=⟨[(1,_,_),(2,_,_),(7,_,_)],[(.l 2,_)],[],[]⟩) (B3 (⟨U J,U J,U J,O⟩) (⟨U J,O⟩) O) ?_;refine A8 (A6 ?_);refine A5 J J J (A7 J gU) ?_;refine A5 J J J (B6 J J gU gU J) ?_;refine B0 ?_;refine B8 J (fun hc=>?_) (fun hc=>?_)
 ·try simp only [nn,B4,nq] at hc
  refine A8 (A6 ?_);refine A5 J J J (A7 J gU) ?_;refine A5 J J J (A9 J gU) ?_;refine A5 J J J (A9 J gU) ?_;refine B0 ?_;refine C1 ?_
  repeat(first|refine tR ?_|refine bR ?_)
  refine C5 J ?_ O
  (rw[Eu,if_pos hc]; rfl)
 ·try simp only [nn,B4,nq] at hc
  rw[Eu,if_neg (by simpa using hc)]
  refine C0 ?_;refine A8 (A6 ?_);refine A5 J J J (B7 J gU J J J J J) ?_;refine Ht J J J J J J (Bv n) (fun _=>rfl) (fun bm=>?_);refine A5 J J J (De J gU (Tryz.underlying63) J J J J J J) ?_;refine A5 J J J (A7 J gU) ?_;refine A5 J J J (T6 (i:=0) (c:=.i .i64 (mapI (nmsL n) s)) (z:=.int .i64 0) J J gU gU J Tryz.underlying61 Tryz.underlying9 (by kernel_rfl) (fun w S=>Gr (nmsL n) s) J) ?_;refine A5 J J J (A7 J gU) ?_;refine A5 J J J (C2 J gU J) ?_;refine A5 J J J (C2 J gU J) ?_;refine A5 J J J (A9 J gU) ?_;refine A5 J J J (A9 J gU) ?_;refine B0 ?_;refine B5 (s:={ t:=[(8,_,_),(9,_,_)],bx:=[],ow:=[],mp:=_ }) (B3 (⟨U J,U J,O⟩) O O (.inr J)) ?_;refine A8 ?_;refine A8 (A6 ?_);refine A5 J J J (A7 J gU) ?_;refine A5 J J J (F2 J gU) ?_;refine B0 ?_;refine B8 J (fun hc2=>?_) (fun hc2=>?_)
  ·try simp only [nn,B4,nq] at hc2
   rw[Q9] at hc2
   have h2 : (K6 n).contains s=false:=hc2
   rw[if_neg (by rw[h2]; simp)]
   refine A8 (A6 ?_);refine A5 J J J (A9 J gU) ?_;refine A5 J J J (A9 J gU) ?_;refine B0 ?_;refine C1 ?_
   repeat(first|refine tR ?_|refine bR ?_)
   refine C5 J ?_ O
   rfl
  ·try simp only [nn,B4,nq] at hc2
   rw[Q9] at hc2
   have h2 : (K6 n).contains s=true:=hc2
   rw[if_pos h2]
   refine C0 ?_;refine A8 (A6 ?_);refine A5 J J J (A7 J gU) ?_;refine A5 J J J (A9 J gU) ?_;refine A5 J J J (A9 J gU) ?_;refine B0 ?_;refine C1 ?_
   repeat(first|refine tR ?_|refine bR ?_)
   refine C5 J ?_ O
   rfl
theorem Dg (n : Nar) (s : List UInt8) (hs : ∀ s ∈ n.steps,s.msg.size≤900000) (hg : ∀ g ∈ n.goals,T.sizes g.data≤900000) : Ctr sys 16 [xn n,xs s] [] (xis (Gj n s)) none []:=by
 have l5:=Sp.rows_len n.steps
 refine D1 Tryz.func16 J J J J J J ?_;refine A8 (A6 ?_);refine C3 J (E2 J J J J) ?_;refine C3 J (H9 (.inr J) J J) ?_;refine B0 ?_;refine A8 ?_;refine A8 (A6 ?_);refine A5 J J J (B7 J gU J J J J J) ?_;refine C8 J J J J J J gU gU (N6 n hs hg) J ?_;refine A5 J J J (A7 J gU) ?_;refine A5 J J J (C2 J gU J) ?_;refine A5 J J J (C2 J gU J) ?_;refine A5 J J J (A9 J gU) ?_;refine A5 J J J (A9 J gU) ?_;refine B0 ?_;refine B5 (s:=⟨[(1,_,_),(2,_,_),(6,_,_)],[(.l 2,_)],[],[]⟩) (B3 (⟨U J,U J,U J,O⟩) (⟨U J,O⟩) O) ?_;refine A8 (A6 ?_);refine A5 J J J (A7 J gU) ?_;refine A5 J J J (B6 J J gU gU J) ?_;refine B0 ?_;refine B8 J (fun hc=>?_) (fun hc=>?_)
 ·try simp only [nn,B4,L1,nq] at hc
  refine A8 (A6 ?_);refine C3 J (H9 (.inr J) J J) ?_;refine B0 ?_;refine C1 ?_
  repeat(first|refine tR ?_|refine bR ?_)
  refine C5 J ?_ O
  (rw[Gj,if_pos hc]; rfl)
 ·try simp only [nn,B4,L1,nq] at hc
  rw[Gj,if_neg (by simpa using hc)]
  have hok:=Mc (n:=n) (by
   have : (chkE D8 n).2=0:=by simpa using hc
   rw[chkE] at this
   split at this
   ·exact this
   ·rename_i q; simpa using q)
  have hs2:=hok.s2
  refine C0 ?_;refine A8 (A6 ?_);refine C3 J (H9 (.inr J) J J) ?_;refine B0 ?_;refine A8 ?_;refine A8 (A6 ?_);refine A5 J J J (B1 J gU J J) ?_;refine A5 J J J (B2 J gU J J J J) ?_;refine E0 J J J J J gU J J ?_ (fun hh=>by simp at hh); intro hlen;refine A5 J J J (A7 J gU) ?_;refine B0 ?_;refine B5 (s:=⟨[(1,_,_),(7,_,_),(18,_,_),(19,_,_),(20,_,_)],[],[(.t 7,_)],[]⟩) (B3 (⟨U J,U J,U J,U J,U J,O⟩) O (⟨rfl,O⟩)) ?_;refine C4 ?_;refine F5 (ι:=Nat) { t:=[(1,_,_),(18,_,_),(19,_,_)],bx:=[],ow:=[(.t 7,_)] } (fun k=>[(20,true,xi (k : Int)),(7,true,xis (V9 s 0 (n.steps.take k)))]) (fun k=>[]) (fun k=>k≤n.steps.length) (fun k=>n.steps.length - k) (0) (by simp) (B3 (⟨U J,U J,U J,U J,U J,O⟩) O (⟨rfl,O⟩)) ?_
  intro k hok
  dsimp only [List.cons_append,List.nil_append]
  have hul:=Ln s (n.steps.take k) 0
  rw[List.length_take] at hul
  refine A8 (A6 ?_);refine A5 J J J (B6 J J gU gU J) ?_;refine B0 ?_;refine A8 ?_;refine B8 J (fun hc2=>?_) (fun hc2=>?_)
  ·try simp only [nn,B4,L1,nq] at hc2
   have hlt : k < n.steps.length:=by omega
   have hks:=hs _ (S1 (d:=default) hlt)
   have hT:=M2 (l:=n.steps) (d:=default) hlt
   have hmin : (n.steps.take k).length=k:=by rw[List.length_take]; omega
   have hS:=Tr s (n.steps.take k) (n.steps.getD k default) 0
   rw[← hT,hmin,Nat.zero_add] at hS
   refine C0 ?_;refine A8 ?_;refine C4 ?_;refine A8 (A6 ?_);refine A5 J J J (A7 J gU) ?_;refine A5 J J J (C7 J J gU gU J J J (fun hh=>Sp.rows_at (by first|omega|(simp at hh ⊢; omega)))) ?_;refine A5 J J J (D6 J gU J J J J) ?_;refine C3 J (D7 J J J) ?_;refine A5 J J J (A9 J gU) ?_;refine C3 J (C9 J J J J J J J) ?_;refine B0 ?_;refine B5 (s:=⟨[(1,_,_),(7,_,_),(8,_,_),(9,_,_),(18,_,_),(19,_,_),(20,_,_)],[(.l 9,_)],[(.t 7,_)],[]⟩) (B3 (⟨U J,U J,U J,U J,U J,U J,U J,O⟩) (⟨U J,O⟩) (⟨rfl,O⟩)) ?_;refine A8 (A6 ?_);refine A5 J J J (B1 J gU J J) ?_;refine A5 J J J (B7 J gU J J J J J) ?_;refine A5 J J J (A7 J gU) ?_;refine C8 J J J J J J gU gU (Qw _ _ (by omega)) J ?_;refine B0 ?_;refine B8 J (fun hc3=>?_) (fun hc3=>?_)
   ·try simp only [nn,B4,L1,nq] at hc3
    rw[if_pos hc3] at hS
    refine A6 ?_;refine C3 J (F6 (.inl J) J J J) ?_;refine A5 J J J (A7 J gU) ?_;refine E8 (xs:=[_]) J J J J J J J J J gU J ?_;refine C3 J (G0 J J J J J J J (by first|omega|(simp only [List.length_append,List.length_singleton,L1,List.length_map,List.length_take]; omega)) (by first|omega|(simp only [List.length_append,List.length_singleton,L1,List.length_map,List.length_take]; omega))) ?_;refine C3 J (F6 (.inr J) J J J) ?_;refine B0 ?_;refine B5 (s:=⟨[(1,_,_),(7,_,_),(18,_,_),(19,_,_),(20,_,_)],[],[(.t 7,_)],[]⟩) (B3 (⟨U J,U J,U J,U J,U J,O⟩) O (⟨rfl,O⟩)) ?_;refine A6 ?_;refine A5 J J J (D0 J J gU gU J (IntWalk.i64_in _ (by omega))) ?_;refine A5 J J J (A7 J gU) ?_;refine B0 ?_;refine ⟨k + 1,?_,?_,B3 (⟨⟨_,rfl,?_⟩,⟨⟨_,rfl,?_⟩,⟨U J,U J,U J,O⟩⟩⟩) O (⟨rfl,O⟩)⟩
    all_goals (first|rfl|omega|exact tx ((uAq _ _).trans (by rw[hS])))
   ·try simp only [nn,B4,L1,nq] at hc3
    rw[if_neg (by rw[hc3]; simp),List.append_nil] at hS
    refine C0 ?_;refine A6 ?_;refine A5 J J J (D0 J J gU gU J (IntWalk.i64_in _ (by omega))) ?_;refine A5 J J J (A7 J gU) ?_;refine B0 ?_;refine ⟨k + 1,?_,?_,B3 (⟨⟨_,rfl,?_⟩,⟨⟨_,rfl,?_⟩,⟨U J,U J,U J,O⟩⟩⟩) O (⟨rfl,O⟩)⟩
    all_goals (first|rfl|omega|exact tx (by rw[hS]))
  ·try simp only [nn,B4,L1,nq] at hc2
   have hke : k=n.steps.length:=by omega
   subst hke
   rw[List.take_length]
   refine E1 ?_
   repeat(first|refine D3 ?_|refine D4 ?_|refine D2 J ?_)
   refine A8 (A6 ?_);refine C3 J (F6 (.inl J) J J J) ?_;refine C3 J (F6 (.inr J) J J J) ?_;refine B0 ?_;refine C1 ?_
   repeat(first|refine tR ?_|refine bR ?_)
   refine C5 J ?_ O
   rfl
theorem U7 (s : List UInt8) : Ctr sys 82 [xs s] [] (xb (D8 s)) none []:=by rw[← uCB s]; exact Tl s
theorem Xj : ∀ (n : Nat) (t : T),t.size≤n→n≤2000000→Ctr sys 144 [xm t] [] (xi (rawE D8 t)) none []:=by
 intro n
 induction n with
 | zero=>intro t h; have := t.size_pos; omega
 | succ n ih =>
  intro t ht hn
  have hse:=t.size_eq
  have hrl:=T.rows_len t.kids
  have hls:=T.len_sizes t.kids
  have he:=Vr D8 t
  rw[Dk] at he
  refine D1 Tryz.func144 J J J J J J ?_;refine A8 (A6 ?_);refine C3 J (E2 J J J J) ?_;refine A5 J J J (A9 J gU) ?_;refine B0 ?_;refine A8 ?_;refine A8 (A6 ?_);refine A5 J J J (B1 J gU J J) ?_;refine A5 J J J (B2 J gU J J J J) ?_;refine A5 J J J (B6 J J gU gU J) ?_;refine A5 J J J (A7 J gU) ?_;refine A5 J J J (B1 J gU J J) ?_;refine A5 J J J (B2 J (fun hh=>hh) J J J J) ?_;refine A5 J J J (B6 J J (fun hh=>hh) gU J) ?_;refine A5 J J J (D9 J J gU (fun _ hi=>gP J hi)) ?_;refine B0 ?_;refine B5 (s:=⟨[(1,_,_),(12,_,_)],[(.l 1,_)],[],[]⟩) (B3 (⟨U J,U J,O⟩) (⟨U J,O⟩) O) ?_;refine B8 J (fun hc=>?_) (fun hc=>?_)
  ·try simp only [nn,B4,T.rows_len,Fs.rows_len,Sp.rows_len,Gl.rows_len] at hc
   refine A8 (A6 ?_);refine A5 J J J (A9 J gU) ?_;refine B0 ?_;refine C1 ?_
   repeat(first|refine tR ?_|refine bR ?_)
   refine C5 J ?_ O
   (rw[he,if_pos (by grind)]; rfl)
  ·try simp only [nn,B4,T.rows_len,Fs.rows_len,Sp.rows_len,Gl.rows_len] at hc
   rw[if_neg (by grind)] at he
   refine C0 ?_;refine A8 ?_;refine A8 (A6 ?_);refine A5 J J J (B1 J gU J J) ?_;refine A5 J J J (B2 J gU J J J J) ?_;refine C8 J J J J J J gU gU (U7 _) J ?_;refine A5 J J J (F2 J gU) ?_;refine B0 ?_;refine B8 J (fun hc2=>?_) (fun hc2=>?_)
   ·try simp only [nn,B4,T.rows_len,Fs.rows_len,Sp.rows_len,Gl.rows_len] at hc2
    refine A8 (A6 ?_);refine A5 J J J (A9 J gU) ?_;refine B0 ?_;refine C1 ?_
    repeat(first|refine tR ?_|refine bR ?_)
    refine C5 J ?_ O
    (rw[he,if_pos hc2]; rfl)
   ·try simp only [nn,B4,T.rows_len,Fs.rows_len,Sp.rows_len,Gl.rows_len] at hc2
    rw[if_neg (by rw[hc2]; simp)] at he
    refine C0 ?_;refine A8 ?_;refine A8 (A6 ?_);refine A5 J J J (A9 J gU) ?_;refine B0 ?_;refine B5 (s:=⟨[(1,_,_),(3,_,_)],[(.l 1,_)],[],[]⟩) (B3 (⟨U J,U J,O⟩) (⟨U J,O⟩) O) ?_;refine C4 ?_;refine F5 (ι:=Nat) { t:=[(1,_,_)],bx:=[(.l 1,_)],ow:=[] } (fun k=>[(3,true,xi (k : Int))]) (fun k=>[]) (fun k=>k≤t.kids.length∧errs (rawE D8) (t.kids.drop k)=rawE D8 t) (fun k=>t.kids.length - k) (0) (⟨by simp,by rw[he]; rfl⟩) (B3 (⟨U J,U J,O⟩) (⟨U J,O⟩) O) ?_
    intro k hok
    dsimp only [List.cons_append,List.nil_append]
    obtain ⟨hk,hi⟩:=hok
    refine A8 ?_;refine A8 (A6 ?_);refine A5 J J J (A7 J gU) ?_;refine A5 J J J (B1 J gU J J) ?_;refine A5 J J J (B2 J gU J J J J) ?_;refine E0 J J J J J gU J J ?_ (fun hh=>by simp at hh); intro hlen;refine A5 J J J (B6 J J gU gU J) ?_;refine B0 ?_;refine B5 (s:=⟨[(1,_,_),(3,_,_),(21,_,_)],[(.l 1,_)],[],[]⟩) (B3 (⟨U J,U J,U J,O⟩) (⟨U J,O⟩) O) ?_;refine B8 J (fun hc3=>?_) (fun hc3=>?_)
    ·try simp only [nn,B4,T.rows_len,Fs.rows_len,Sp.rows_len,Gl.rows_len] at hc3
     have hlt : k < t.kids.length:=by omega
     have h2:=T.getD_size hlt
     have hd:=O9 (d:=default) hlt hi
     refine C0 ?_;refine A8 ?_;refine C4 ?_;refine A8 (A6 ?_);refine A5 J J J (B1 J gU J J) ?_;refine A5 J J J (B2 J gU J J J J) ?_;refine A5 J J J (A7 J gU) ?_;refine A5 J J J (C7 J J gU gU J J J (fun hh=>T.rows_at (by first|omega|(simp at hh ⊢; omega)))) ?_;refine A5 J J J (D6 J gU J J J J) ?_;refine C8 J J J J J J gU gU (ih (t.kids.getD k default) (by omega) (by omega)) J ?_;refine A5 J J J (A9 J gU) ?_;refine B0 ?_;refine B5 (s:=⟨[(1,_,_),(3,_,_),(4,_,_)],[(.l 1,_)],[],[]⟩) (B3 (⟨U J,U J,U J,O⟩) (⟨U J,O⟩) O) ?_;refine A8 (A6 ?_);refine A5 J J J (A7 J gU) ?_;refine A5 J J J (B6 J J gU gU J) ?_;refine B0 ?_;refine B8 J (fun hc1=>?_) (fun hc1=>?_)
     ·try simp only [nn,B4,T.rows_len,Fs.rows_len,Sp.rows_len,Gl.rows_len] at hc1
      refine A8 (A6 ?_);refine A5 J J J (A7 J gU) ?_;refine A5 J J J (A9 J gU) ?_;refine B0 ?_;refine C1 ?_
      repeat(first|refine tR ?_|refine bR ?_)
      refine C5 J ?_ O;exact G8 (hd.1 (by assumption)).symm
     ·try simp only [nn,B4,T.rows_len,Fs.rows_len,Sp.rows_len,Gl.rows_len] at hc1
      refine C0 ?_;refine A6 ?_;refine A5 J J J (A7 J gU) ?_;refine A5 J J J (D0 J J gU gU J (IntWalk.i64_in _ (by omega))) ?_;refine A5 J J J (A9 J gU) ?_;refine B0 ?_;refine ⟨k + 1,?_,?_,B3 (⟨⟨_,rfl,?_⟩,⟨U J,O⟩⟩) (⟨U J,O⟩) O⟩
      all_goals (first|rfl|omega|exact ⟨by omega,hd.2 (by assumption)⟩)
    ·try simp only [nn,B4,T.rows_len,Fs.rows_len,Sp.rows_len,Gl.rows_len] at hc3
     refine E1 ?_
     repeat(first|refine D3 ?_|refine D4 ?_|refine D2 J ?_)
     refine A8 (A6 ?_);refine A5 J J J (A9 J gU) ?_;refine B0 ?_;refine C1 ?_
     repeat(first|refine tR ?_|refine bR ?_)
     refine C5 J ?_ O;exact G8 (Y2 (by omega) hi).symm
theorem Xr (t : T) (ht : t.size≤900000) : Ctr sys 117 [xm t] [] (xi (Aj D8 t)) none []:=by
 refine D1 Tryz.func117 J J J J J J ?_;refine A8 (A6 ?_);refine C3 J (E2 J J J J) ?_;refine A5 J J J (A9 J gU) ?_;refine B0 ?_;refine A8 ?_;refine A8 (A6 ?_);refine A5 J J J (B7 J gU J J J J J) ?_;refine C8 J J J J J J gU gU (Tb _ (by omega)) J ?_;refine A5 J J J (A9 J gU) ?_;refine B0 ?_;refine B5 (s:=⟨[(1,_,_),(3,_,_)],[(.l 1,_)],[],[]⟩) (B3 (⟨U J,U J,O⟩) (⟨U J,O⟩) O) ?_;refine A8 (A6 ?_);refine A5 J J J (A7 J gU) ?_;refine A5 J J J (B6 J J gU gU J) ?_;refine B0 ?_;refine B8 J (fun hc=>?_) (fun hc=>?_)
 ·try simp only [nn,B4,T.rows_len,Fs.rows_len,Sp.rows_len,Gl.rows_len] at hc
  refine A8 (A6 ?_);refine A5 J J J (A7 J gU) ?_;refine A5 J J J (A9 J gU) ?_;refine B0 ?_;refine C1 ?_
  repeat(first|refine tR ?_|refine bR ?_)
  refine C5 J ?_ O
  (rw[Aj,if_pos hc]; rfl)
 ·try simp only [nn,B4,T.rows_len,Fs.rows_len,Sp.rows_len,Gl.rows_len] at hc
  refine C0 ?_;refine A8 (A6 ?_);refine A5 J J J (B7 J gU J J J J J) ?_;refine C8 J J J J J J gU gU (Xj _ _ (Nat.le_refl _) (by omega)) J ?_;refine A5 J J J (A9 J gU) ?_;refine B0 ?_;refine C1 ?_
  repeat(first|refine tR ?_|refine bR ?_)
  refine C5 J ?_ O
  (rw[Aj,if_neg (by simpa using hc)]; rfl)
theorem Cy (t : T) (ht : t.size≤900000) : Ctr sys 85 [xm t] [] (xi (msgE D8 t)) none []:=by
 refine D1 Tryz.func85 J J J J J J ?_;refine A8 (A6 ?_);refine C3 J (E2 J J J J) ?_;refine A5 J J J (A9 J gU) ?_;refine B0 ?_;refine A8 ?_;refine A8 (A6 ?_);refine A5 J J J (B7 J gU J J J J J) ?_;refine C8 J J J J J J gU gU (Xr _ (by omega)) J ?_;refine A5 J J J (A9 J gU) ?_;refine B0 ?_;refine B5 (s:=⟨[(1,_,_),(3,_,_)],[(.l 1,_)],[],[]⟩) (B3 (⟨U J,U J,O⟩) (⟨U J,O⟩) O) ?_;refine A8 (A6 ?_);refine A5 J J J (A7 J gU) ?_;refine A5 J J J (B6 J J gU gU J) ?_;refine B0 ?_;refine B8 J (fun hc=>?_) (fun hc=>?_)
 ·try simp only [nn,B4,T.rows_len,Fs.rows_len,Sp.rows_len,Gl.rows_len] at hc
  refine A8 (A6 ?_);refine A5 J J J (A7 J gU) ?_;refine A5 J J J (A9 J gU) ?_;refine B0 ?_;refine C1 ?_
  repeat(first|refine tR ?_|refine bR ?_)
  refine C5 J ?_ O
  (rw[msgE,if_pos hc]; rfl)
 ·try simp only [nn,B4,T.rows_len,Fs.rows_len,Sp.rows_len,Gl.rows_len] at hc
  refine C0 ?_;refine A8 ?_;refine A8 (A6 ?_);refine A5 J J J (B7 J gU J J J J J) ?_;refine C8 J J J J J J gU gU (Cn _ _ (Nat.le_refl _) (by omega)) J ?_;refine A5 J J J (B6 J J gU gU J) ?_;refine B0 ?_;refine B5 (s:=⟨[(11,_,_)],[],[],[]⟩) (B3 (⟨U J,O⟩) O O) ?_;refine B8 J (fun hc2=>?_) (fun hc2=>?_)
  ·try simp only [nn,B4,T.rows_len,Fs.rows_len,Sp.rows_len,Gl.rows_len] at hc2
   refine A8 (A6 ?_);refine A5 J J J (A9 J gU) ?_;refine B0 ?_;refine C1 ?_
   repeat(first|refine tR ?_|refine bR ?_)
   refine C5 J ?_ O
   (rw[msgE,if_neg (by simpa using hc),if_pos (by omega)]; rfl)
  ·try simp only [nn,B4,T.rows_len,Fs.rows_len,Sp.rows_len,Gl.rows_len] at hc2
   refine C0 ?_;refine A8 (A6 ?_);refine A5 J J J (A9 J gU) ?_;refine B0 ?_;refine C1 ?_
   repeat(first|refine tR ?_|refine bR ?_)
   refine C5 J ?_ O
   (rw[msgE,if_neg (by simpa using hc),if_neg (by omega)]; rfl)
theorem Q0 (g : Gl) : Ctr sys 119 [xg g] [] (xb (I4 g.kind)) none []:=by
 refine D1 Tryz.func119 J J J J J J ?_;refine A8 (A6 ?_);refine C3 J (E2 J J J J) ?_;refine A5 J J J (A9 J gU) ?_;refine B0 ?_;refine A8 (A6 ?_);refine A5 J J J (B1 J gU J J) ?_;refine A5 J J J (B2 J gU J J J J) ?_;refine A5 J J J (B6 J J gU gU J) ?_;refine A5 J J J (A7 J gU) ?_;refine A5 J J J (B1 J gU J J) ?_;refine A5 J J J (B2 J (fun hh=>hh) J J J J) ?_;refine A5 J J J (B6 J J (fun hh=>hh) gU J) ?_;refine A5 J J J (D9 J J gU (fun _ hi=>gP J hi)) ?_;refine A5 J J J (A9 J gU) ?_;refine B0 ?_;refine C1 ?_
 repeat(first|refine tR ?_|refine bR ?_)
 refine C5 J ?_ O
 rfl
theorem Ze {f : List UInt8→Bool} {l : List (List UInt8)} {k : Nat} {e : Bool} (h : k < l.length) (hi : (l.drop k).all f=e) : (f (l.getD k [])=false→e=false)∧(f (l.getD k [])=true→(l.drop (k + 1)).all f=e):=by
 rw[Lo (d:=[]) h,List.all_cons] at hi
 refine ⟨fun q=>?_,fun q=>?_⟩
 ·rw[q] at hi; exact hi.symm
 ·rw[q] at hi; exact hi
theorem Y6 (l : List (List UInt8)) : Ctr sys 84 [xss l] [] (xb (l.all D8)) none []:=by
 have hrl:=B4 l
 refine D1 Tryz.func84 J J J J J J ?_;refine A8 (A6 ?_);refine A5 J J J (A9 J gU) ?_;refine B0 ?_;refine A8 ?_;refine A8 (A6 ?_);refine A5 J J J (A9 J gU) ?_;refine B0 ?_;refine C4 ?_;refine F5 (ι:=Nat) { t:=[(0,_,_)],bx:=[],ow:=[] } (fun k=>[(3,true,xi (k : Int))]) (fun k=>[]) (fun k=>k≤l.length∧(l.drop k).all D8=l.all D8) (fun k=>l.length - k) (0) (⟨by simp,rfl⟩) (B3 (⟨U J,U J,O⟩) O O) ?_
 intro k hok
 dsimp only [List.cons_append,List.nil_append]
 obtain ⟨hk,hi⟩:=hok
 refine A8 ?_;refine A8 (A6 ?_);refine A5 J J J (A7 J gU) ?_;refine A5 J J J (A7 J gU) ?_;refine E0 J J J J J gU J J ?_ (fun hh=>by simp at hh); intro hlen;refine A5 J J J (B6 J J gU gU J) ?_;refine B0 ?_;refine B8 J (fun hc=>?_) (fun hc=>?_)
 ·try simp only [nn,B4,T.rows_len,Fs.rows_len,Sp.rows_len,Gl.rows_len] at hc
  have hlt : k < l.length:=by omega
  have hd:=Ze hlt hi
  refine C0 ?_;refine A8 ?_;refine C4 ?_;refine A8 (A6 ?_);refine A5 J J J (A7 J gU) ?_;refine A5 J J J (A7 J gU) ?_;refine A5 J J J (C7 J J gU gU J J J (fun hh=>R3 (by first|omega|(simp at hh ⊢; omega)))) ?_;refine A5 J J J (E9 J gU J J J) ?_;refine C8 J J J J J J gU gU (U7 _) J ?_;refine A5 J J J (F2 J gU) ?_;refine B0 ?_;refine B5 (s:=⟨[(0,_,_),(3,_,_),(15,_,_)],[],[],[]⟩) (B3 (⟨U J,U J,U J,O⟩) O O) ?_;refine B8 J (fun hc1=>?_) (fun hc1=>?_)
  ·try simp only [nn,B4,T.rows_len,Fs.rows_len,Sp.rows_len,Gl.rows_len] at hc1
   refine A8 (A6 ?_);refine A5 J J J (A9 J gU) ?_;refine B0 ?_;refine C1 ?_
   repeat(first|refine tR ?_|refine bR ?_)
   refine C5 J ?_ O;exact N0 (hd.1 (by assumption)).symm
  ·try simp only [nn,B4,T.rows_len,Fs.rows_len,Sp.rows_len,Gl.rows_len] at hc1
   refine C0 ?_;refine A6 ?_;refine A5 J J J (A7 J gU) ?_;refine A5 J J J (D0 J J gU gU J (IntWalk.i64_in _ (by omega))) ?_;refine A5 J J J (A9 J gU) ?_;refine B0 ?_;refine ⟨k + 1,?_,?_,B3 (⟨⟨_,rfl,?_⟩,⟨U J,O⟩⟩) O O⟩
   all_goals (first|rfl|omega|exact ⟨by omega,hd.2 (by assumption)⟩)
 ·try simp only [nn,B4,T.rows_len,Fs.rows_len,Sp.rows_len,Gl.rows_len] at hc
  rw[List.drop_of_length_le (by omega)] at hi
  refine E1 ?_
  repeat(first|refine D3 ?_|refine D4 ?_|refine D2 J ?_)
  refine A8 (A6 ?_);refine A5 J J J (A9 J gU) ?_;refine B0 ?_;refine C1 ?_
  repeat(first|refine tR ?_|refine bR ?_)
  refine C5 J ?_ O;exact N0 hi
theorem Mh (n : Nar) : Ctr sys 83 [xn n] [] (xi (cntE n)) none []:=by
 have hr1:=B4 n.roles
 have hr2:=Fs.rows_len n.fresh
 have hr3:=B4 n.tags
 have hr4:=Sp.rows_len n.steps
 have hr5:=Gl.rows_len n.goals
 refine D1 Tryz.func83 J J J J J J ?_;refine A8 (A6 ?_);refine C3 J (E2 J J J J) ?_;refine A5 J J J (A9 J gU) ?_;refine B0 ?_;refine A8 ?_;refine A8 (A6 ?_);refine A5 J J J (B1 J gU J J) ?_;refine A5 J J J (B2 J gU J J J J) ?_;refine E0 J J J J J gU J J ?_ (fun hh=>by simp at hh); intro hlen;refine A5 J J J (B6 J J gU gU J) ?_;refine B0 ?_;refine B5 (s:=⟨[(1,_,_),(6,_,_)],[(.l 1,_)],[],[]⟩) (B3 (⟨U J,U J,O⟩) (⟨U J,O⟩) O) ?_;refine B8 J (fun hc1=>?_) (fun hc1=>?_)
 ·try simp only [nn,B4,T.rows_len,Fs.rows_len,Sp.rows_len,Gl.rows_len] at hc1
  refine A8 (A6 ?_);refine A5 J J J (A9 J gU) ?_;refine B0 ?_;refine C1 ?_
  repeat(first|refine tR ?_|refine bR ?_)
  refine C5 J ?_ O
  (refine G8 ?_; unfold cntE; (repeat' split) <;> omega)
 ·try simp only [nn,B4,T.rows_len,Fs.rows_len,Sp.rows_len,Gl.rows_len] at hc1
  refine C0 ?_;refine A8 ?_;refine A8 (A6 ?_);refine A5 J J J (B1 J gU J J) ?_;refine A5 J J J (B2 J gU J J J J) ?_;refine E0 J J J J J gU J J ?_ (fun hh=>by simp at hh); intro hlen;refine A5 J J J (B6 J J gU gU J) ?_;refine A5 J J J (A7 J gU) ?_;refine A5 J J J (B1 J gU J J) ?_;refine A5 J J J (B2 J (fun hh=>hh) J J J J) ?_;refine A5 J J J (G7 J (fun hh=>hh) J J) ?_;refine A5 J J J (B6 J J (fun hh=>hh) gU J) ?_;refine A5 J J J (D9 J J gU (fun _ hi=>gP J hi)) ?_;refine A5 J J J (A7 J gU) ?_;refine A5 J J J (B1 J gU J J) ?_;refine H5 (s:=⟨[(1,_,_),(17,_,_),(18,_,_)],[(.l 1,_)],[],[]⟩) (B3 (⟨U J,U J,U J,O⟩) (⟨U J,O⟩) O) ?_;refine A5 J J J (B2 J (fun hh=>hh) J J J J) ?_;refine A5 J J J (G7 J (fun hh=>hh) J J) ?_;refine A5 J J J (B6 J J (fun hh=>hh) gU J) ?_;refine A5 J J J (D9 J J gU (fun _ hi=>gP J hi)) ?_;refine B0 ?_;refine B8 J (fun hc2=>?_) (fun hc2=>?_)
  ·try simp only [nn,B4,T.rows_len,Fs.rows_len,Sp.rows_len,Gl.rows_len] at hc2
   refine A8 (A6 ?_);refine A5 J J J (A9 J gU) ?_;refine B0 ?_;refine C1 ?_
   repeat(first|refine tR ?_|refine bR ?_)
   refine C5 J ?_ O
   (refine G8 ?_; unfold cntE; (repeat' split) <;> omega)
  ·try simp only [nn,B4,T.rows_len,Fs.rows_len,Sp.rows_len,Gl.rows_len] at hc2
   refine C0 ?_;refine A8 ?_;refine A8 (A6 ?_);refine A5 J J J (B1 J gU J J) ?_;refine A5 J J J (B2 J gU J J J J) ?_;refine E0 J J J J J gU J J ?_ (fun hh=>by simp at hh); intro hlen;refine A5 J J J (B6 J J gU gU J) ?_;refine B0 ?_;refine B5 (s:=⟨[(1,_,_),(26,_,_)],[(.l 1,_)],[],[]⟩) (B3 (⟨U J,U J,O⟩) (⟨U J,O⟩) O) ?_;refine B8 J (fun hc3=>?_) (fun hc3=>?_)
   ·try simp only [nn,B4,T.rows_len,Fs.rows_len,Sp.rows_len,Gl.rows_len] at hc3
    refine A8 (A6 ?_);refine A5 J J J (A9 J gU) ?_;refine B0 ?_;refine C1 ?_
    repeat(first|refine tR ?_|refine bR ?_)
    refine C5 J ?_ O
    (refine G8 ?_; unfold cntE; (repeat' split) <;> omega)
   ·try simp only [nn,B4,T.rows_len,Fs.rows_len,Sp.rows_len,Gl.rows_len] at hc3
    refine C0 ?_;refine A8 ?_;refine A8 (A6 ?_);refine A5 J J J (B1 J gU J J) ?_;refine A5 J J J (B2 J gU J J J J) ?_;refine E0 J J J J J gU J J ?_ (fun hh=>by simp at hh); intro hlen;refine A5 J J J (B6 J J gU gU J) ?_;refine A5 J J J (A7 J gU) ?_;refine A5 J J J (B1 J gU J J) ?_;refine A5 J J J (B2 J (fun hh=>hh) J J J J) ?_;refine A5 J J J (G7 J (fun hh=>hh) J J) ?_;refine A5 J J J (B6 J J (fun hh=>hh) gU J) ?_;refine A5 J J J (D9 J J gU (fun _ hi=>gP J hi)) ?_;refine B0 ?_;refine B5 (s:=⟨[(36,_,_)],[],[],[]⟩) (B3 (⟨U J,O⟩) O O) ?_;refine B8 J (fun hc4=>?_) (fun hc4=>?_)
    ·try simp only [nn,B4,T.rows_len,Fs.rows_len,Sp.rows_len,Gl.rows_len] at hc4
     refine A8 (A6 ?_);refine A5 J J J (A9 J gU) ?_;refine B0 ?_;refine C1 ?_
     repeat(first|refine tR ?_|refine bR ?_)
     refine C5 J ?_ O
     (refine G8 ?_; unfold cntE; (repeat' split) <;> omega)
    ·try simp only [nn,B4,T.rows_len,Fs.rows_len,Sp.rows_len,Gl.rows_len] at hc4
     refine C0 ?_;refine A8 (A6 ?_);refine A5 J J J (A9 J gU) ?_;refine B0 ?_;refine C1 ?_
     repeat(first|refine tR ?_|refine bR ?_)
     refine C5 J ?_ O
     (refine G8 ?_; unfold cntE; (repeat' split) <;> omega)
theorem Tv (g : Gl) (hg : T.sizes g.data≤900000) : Ctr sys 86 [xg g] [] (xi (O2 D8 g)) none []:=by
 have hls:=T.len_sizes g.data
 have hrl:=T.rows_len g.data
 refine D1 Tryz.func86 J J J J J J ?_;refine A8 (A6 ?_);refine C3 J (E2 J J J J) ?_;refine A5 J J J (A9 J gU) ?_;refine B0 ?_;refine A8 ?_;refine A8 (A6 ?_);refine A5 J J J (B1 J gU J J) ?_;refine A5 J J J (B2 J gU J J J J) ?_;refine A5 J J J (B6 J J gU gU J) ?_;refine A5 J J J (A7 J gU) ?_;refine A5 J J J (B1 J gU J J) ?_;refine A5 J J J (B2 J (fun hh=>hh) J J J J) ?_;refine A5 J J J (B6 J J (fun hh=>hh) gU J) ?_;refine A5 J J J (D9 J J gU (fun _ hi=>gP J hi)) ?_;refine B0 ?_;refine B5 (s:=⟨[(1,_,_),(12,_,_)],[(.l 1,_)],[],[]⟩) (B3 (⟨U J,U J,O⟩) (⟨U J,O⟩) O) ?_;refine B8 J (fun hc=>?_) (fun hc=>?_)
 ·try simp only [nn,B4,T.rows_len,Fs.rows_len,Sp.rows_len,Gl.rows_len] at hc
  refine A8 (A6 ?_);refine A5 J J J (A9 J gU) ?_;refine B0 ?_;refine C1 ?_
  repeat(first|refine tR ?_|refine bR ?_)
  refine C5 J ?_ O
  (rw[O2,if_pos (by grind)]; rfl)
 ·try simp only [nn,B4,T.rows_len,Fs.rows_len,Sp.rows_len,Gl.rows_len] at hc
  refine C0 ?_;refine A8 ?_;refine A8 (A6 ?_);refine A5 J J J (B1 J gU J J) ?_;refine A5 J J J (B2 J gU J J J J) ?_;refine C8 J J J J J J gU gU (U7 _) J ?_;refine A5 J J J (F2 J gU) ?_;refine A5 J J J (A7 J gU) ?_;refine A5 J J J (B7 J gU J J J J J) ?_;refine C8 J J J J J J gU (fun hh=>gA ((fun hh=>hh) hh) (rfl)) (Q0 _) J ?_;refine A5 J J J (A7 J (fun hh=>hh)) ?_;refine A5 J J J (B1 J gU J J) ?_;refine A5 J J J (B2 J (fun hh=>hh) J J J J) ?_;refine C8 J J J J J J gU (fun hh=>gA ((fun hh=>hh) hh) (rfl)) (U7 _) J ?_;refine A5 J J J (F2 J (fun hh=>hh)) ?_;refine H5 (s:=⟨[(1,_,_),(17,_,_),(20,_,_),(24,_,_)],[(.l 1,_)],[],[]⟩) (B3 (⟨U J,U J,U J,U J,O⟩) (⟨U J,O⟩) O) ?_;refine A5 J J J (E4 J J (fun hh=>hh) (fun hh hi=>gP hh hi)) ?_;refine A5 J J J (D9 J J gU (fun _ hi=>gP J hi)) ?_;refine B0 ?_;refine B8 J (fun hc2=>?_) (fun hc2=>?_)
  ·try simp only [nn,B4,T.rows_len,Fs.rows_len,Sp.rows_len,Gl.rows_len] at hc2
   refine A8 (A6 ?_);refine A5 J J J (A9 J gU) ?_;refine B0 ?_;refine C1 ?_
   repeat(first|refine tR ?_|refine bR ?_)
   refine C5 J ?_ O
   (rw[O2,if_neg (by omega),if_pos (by grind)]; rfl)
  ·try simp only [nn,B4,T.rows_len,Fs.rows_len,Sp.rows_len,Gl.rows_len] at hc2
   refine C0 ?_;refine A8 ?_;refine A8 (A6 ?_);refine A5 J J J (B7 J gU J J J J J) ?_;refine C8 J J J J J J gU gU (Q0 _) J ?_;refine A5 J J J (F2 J gU) ?_;refine A5 J J J (A7 J gU) ?_;refine A5 J J J (B1 J gU J J) ?_;refine A5 J J J (B2 J (fun hh=>hh) J J J J) ?_;refine A5 J J J (H1 J J (fun hh=>hh) gU J) ?_;refine A5 J J J (E4 J J gU (fun _ hi=>gP J hi)) ?_;refine B0 ?_;refine B5 (s:=⟨[(1,_,_),(34,_,_)],[(.l 1,_)],[],[]⟩) (B3 (⟨U J,U J,O⟩) (⟨U J,O⟩) O) ?_;refine B8 J (fun hc3=>?_) (fun hc3=>?_)
   ·try simp only [nn,B4,T.rows_len,Fs.rows_len,Sp.rows_len,Gl.rows_len] at hc3
    refine A8 (A6 ?_);refine A5 J J J (A9 J gU) ?_;refine B0 ?_;refine C1 ?_
    repeat(first|refine tR ?_|refine bR ?_)
    refine C5 J ?_ O
    (rw[O2,if_neg (by omega),if_neg (by grind),if_pos (by grind)]; rfl)
   ·try simp only [nn,B4,T.rows_len,Fs.rows_len,Sp.rows_len,Gl.rows_len] at hc3
    refine C0 ?_;refine A8 ?_;refine A8 (A6 ?_);refine A5 J J J (B1 J gU J J) ?_;refine A5 J J J (B2 J gU J J J J) ?_;refine E0 J J J J J gU J J ?_ (fun hh=>by simp at hh); intro hlen;refine A5 J J J (B6 J J gU gU J) ?_;refine A5 J J J (A7 J gU) ?_;refine A5 J J J (B1 J gU J J) ?_;refine A5 J J J (B2 J (fun hh=>hh) J J J J) ?_;refine A5 J J J (G7 J (fun hh=>hh) J J) ?_;refine A5 J J J (B6 J J (fun hh=>hh) gU J) ?_;refine A5 J J J (D9 J J gU (fun _ hi=>gP J hi)) ?_;refine A5 J J J (A7 J gU) ?_;refine A5 J J J (B7 J gU J J J J J) ?_;refine H5 (s:=⟨[(1,_,_),(45,_,_),(46,_,_)],[(.l 1,_)],[],[]⟩) (B3 (⟨U J,U J,U J,O⟩) (⟨U J,O⟩) O) ?_;refine C8 J J J J J J gU (fun hh=>gA ((fun hh=>hh) hh) (rfl)) (Q0 _) J ?_;refine A5 J J J (F2 J (fun hh=>hh)) ?_;refine A5 J J J (A7 J (fun hh=>hh)) ?_;refine A5 J J J (B1 J gU J J) ?_;refine A5 J J J (B2 J (fun hh=>hh) J J J J) ?_;refine A5 J J J (G7 J (fun hh=>hh) J J) ?_;refine A5 J J J (B6 J J (fun hh=>hh) gU J) ?_
    refine A5 J J J (E4 J J (fun hh=>hh) (fun hh hi=>gP hh hi)) ?_;refine A5 J J J (D9 J J gU (fun _ hi=>gP J hi)) ?_;refine B0 ?_;refine B5 (s:=⟨[(1,_,_),(55,_,_)],[(.l 1,_)],[],[]⟩) (B3 (⟨U J,U J,O⟩) (⟨U J,O⟩) O) ?_;refine B8 J (fun hc4=>?_) (fun hc4=>?_)
    ·try simp only [nn,B4,T.rows_len,Fs.rows_len,Sp.rows_len,Gl.rows_len] at hc4
     refine A8 (A6 ?_);refine A5 J J J (A9 J gU) ?_;refine B0 ?_;refine C1 ?_
     repeat(first|refine tR ?_|refine bR ?_)
     refine C5 J ?_ O
     (rw[O2,if_neg (by omega),if_neg (by grind),if_neg (by grind),if_pos (by cases ha : I4 g.kind <;> simp only [ha,Bool.true_eq_false,Bool.false_eq_true,false_and,true_and,and_true,or_false,false_or,not_true_eq_false,not_false_eq_true,ne_eq,reduceCtorEq,and_false] at hc4 ⊢ <;> omega)]; rfl)
    ·try simp only [nn,B4,T.rows_len,Fs.rows_len,Sp.rows_len,Gl.rows_len] at hc4
     have he : O2 D8 g=errs (msgE D8) g.data:=by
      rw[O2,if_neg (by omega),if_neg (by grind),if_neg (by grind),if_neg (by cases ha : I4 g.kind <;> simp only [ha,Bool.true_eq_false,Bool.false_eq_true,false_and,true_and,and_true,or_false,false_or,not_true_eq_false,not_false_eq_true,ne_eq,reduceCtorEq,and_false] at hc4 ⊢ <;> omega)]
     refine C0 ?_;refine A8 ?_;refine A8 (A6 ?_);refine A5 J J J (A9 J gU) ?_;refine B0 ?_;refine C4 ?_;refine F5 (ι:=Nat) { t:=[(1,_,_)],bx:=[(.l 1,_)],ow:=[] } (fun k=>[(3,true,xi (k : Int))]) (fun k=>[]) (fun k=>k≤g.data.length∧errs (msgE D8) (g.data.drop k)=O2 D8 g) (fun k=>g.data.length - k) (0) (⟨by simp,by rw[he]; rfl⟩) (B3 (⟨U J,U J,O⟩) (⟨U J,O⟩) O) ?_
     intro k hok
     dsimp only [List.cons_append,List.nil_append]
     obtain ⟨hk,hi⟩:=hok
     refine A8 ?_;refine A8 (A6 ?_);refine A5 J J J (A7 J gU) ?_;refine A5 J J J (B1 J gU J J) ?_;refine A5 J J J (B2 J gU J J J J) ?_;refine E0 J J J J J gU J J ?_ (fun hh=>by simp at hh); intro hlen;refine A5 J J J (B6 J J gU gU J) ?_;refine B0 ?_;refine B5 (s:=⟨[(1,_,_),(3,_,_),(60,_,_)],[(.l 1,_)],[],[]⟩) (B3 (⟨U J,U J,U J,O⟩) (⟨U J,O⟩) O) ?_;refine B8 J (fun hc5=>?_) (fun hc5=>?_)
     ·try simp only [nn,B4,T.rows_len,Fs.rows_len,Sp.rows_len,Gl.rows_len] at hc5
      have hlt : k < g.data.length:=by omega
      have h2:=T.getD_size hlt
      have hd:=O9 (d:=default) hlt hi
      refine C0 ?_;refine A8 ?_;refine C4 ?_;refine A8 (A6 ?_);refine A5 J J J (B1 J gU J J) ?_;refine A5 J J J (B2 J gU J J J J) ?_;refine A5 J J J (A7 J gU) ?_;refine A5 J J J (C7 J J gU gU J J J (fun hh=>T.rows_at (by first|omega|(simp at hh ⊢; omega)))) ?_;refine A5 J J J (D6 J gU J J J J) ?_;refine C8 J J J J J J gU gU (Cy _ (by omega)) J ?_;refine A5 J J J (A9 J gU) ?_;refine B0 ?_;refine B5 (s:=⟨[(1,_,_),(3,_,_),(4,_,_)],[(.l 1,_)],[],[]⟩) (B3 (⟨U J,U J,U J,O⟩) (⟨U J,O⟩) O) ?_;refine A8 (A6 ?_);refine A5 J J J (A7 J gU) ?_;refine A5 J J J (B6 J J gU gU J) ?_;refine B0 ?_;refine B8 J (fun hc1=>?_) (fun hc1=>?_)
      ·try simp only [nn,B4,T.rows_len,Fs.rows_len,Sp.rows_len,Gl.rows_len] at hc1
       refine A8 (A6 ?_);refine A5 J J J (A7 J gU) ?_;refine A5 J J J (A9 J gU) ?_;refine B0 ?_;refine C1 ?_
       repeat(first|refine tR ?_|refine bR ?_)
       refine C5 J ?_ O;exact G8 (hd.1 (by assumption)).symm
      ·try simp only [nn,B4,T.rows_len,Fs.rows_len,Sp.rows_len,Gl.rows_len] at hc1
       refine C0 ?_;refine A6 ?_;refine A5 J J J (A7 J gU) ?_;refine A5 J J J (D0 J J gU gU J (IntWalk.i64_in _ (by omega))) ?_;refine A5 J J J (A9 J gU) ?_;refine B0 ?_;refine ⟨k + 1,?_,?_,B3 (⟨⟨_,rfl,?_⟩,⟨U J,O⟩⟩) (⟨U J,O⟩) O⟩
       all_goals (first|rfl|omega|exact ⟨by omega,hd.2 (by assumption)⟩)
     ·try simp only [nn,B4,T.rows_len,Fs.rows_len,Sp.rows_len,Gl.rows_len] at hc5
      refine E1 ?_
      repeat(first|refine D3 ?_|refine D4 ?_|refine D2 J ?_)
      refine A8 (A6 ?_);refine A5 J J J (A9 J gU) ?_;refine B0 ?_;refine C1 ?_
      repeat(first|refine tR ?_|refine bR ?_)
      refine C5 J ?_ O;exact G8 (Y2 (by omega) hi).symm
theorem Ho {α : Type} {f : α→Int} {l : List α} {k : Nat} (h : l.length≤k) : errs f (l.drop k)=0:=by rw[List.drop_of_length_le h]; rfl
set_option maxHeartbeats 4000000 in
theorem Pc (n : Nar) (hs : ∀ s ∈ n.steps,s.msg.size≤900000) (hg : ∀ g ∈ n.goals,T.sizes g.data≤900000) : Ctr sys 43 [xn n] [] (xi (narE D8 n)) none []:=by
 have hr1:=B4 n.roles
 have hr2:=Fs.rows_len n.fresh
 have hr3:=B4 n.tags
 have hr4:=Sp.rows_len n.steps
 have hr5:=Gl.rows_len n.goals
 refine D1 Tryz.func43 J J J J J J ?_;refine A8 (A6 ?_);refine C3 J (E2 J J J J) ?_;refine A5 J J J (A9 J gU) ?_;refine B0 ?_;refine A8 ?_;refine A8 (A6 ?_);refine A5 J J J (B1 J gU J J) ?_;refine A5 J J J (B2 J gU J J J J) ?_;refine C8 J J J J J J gU gU (U7 _) J ?_;refine A5 J J J (F2 J gU) ?_;refine B0 ?_;refine B5 (s:=⟨[(1,_,_),(13,_,_)],[(.l 1,_)],[],[]⟩) (B3 (⟨U J,U J,O⟩) (⟨U J,O⟩) O) ?_;refine B8 J (fun hc=>?_) (fun hc=>?_)
 ·try simp only [nn,B4,T.rows_len,Fs.rows_len,Sp.rows_len,Gl.rows_len] at hc
  refine A8 (A6 ?_);refine A5 J J J (A9 J gU) ?_;refine B0 ?_;refine C1 ?_
  repeat(first|refine tR ?_|refine bR ?_)
  refine C5 J ?_ O
  (rw[narE,if_pos (by rw[Ag,if_pos hc]; simp),Ag,if_pos hc]; rfl)
 ·try simp only [nn,B4,T.rows_len,Fs.rows_len,Sp.rows_len,Gl.rows_len] at hc
  refine C0 ?_;refine A8 ?_;refine A8 (A6 ?_);refine A5 J J J (B7 J gU J J J J J) ?_;refine C8 J J J J J J gU gU (Mh _) J ?_;refine A5 J J J (A9 J gU) ?_;refine B0 ?_;refine A8 (A6 ?_);refine A5 J J J (A7 J gU) ?_;refine A5 J J J (B6 J J gU gU J) ?_;refine B0 ?_;refine B5 (s:=⟨[(1,_,_),(3,_,_),(17,_,_)],[(.l 1,_)],[],[]⟩) (B3 (⟨U J,U J,U J,O⟩) (⟨U J,O⟩) O) ?_;refine B8 J (fun hc2=>?_) (fun hc2=>?_)
  ·try simp only [nn,B4,T.rows_len,Fs.rows_len,Sp.rows_len,Gl.rows_len] at hc2
   have hh : Ag D8 n=cntE n:=by rw[Ag,if_neg (by rw[hc]; simp),if_pos hc2]
   refine A8 (A6 ?_);refine A5 J J J (A7 J gU) ?_;refine A5 J J J (A9 J gU) ?_;refine B0 ?_;refine C1 ?_
   repeat(first|refine tR ?_|refine bR ?_)
   refine C5 J ?_ O
   (rw[narE,if_pos (by rw[hh]; exact hc2),hh]; rfl)
  ·try simp only [nn,B4,T.rows_len,Fs.rows_len,Sp.rows_len,Gl.rows_len] at hc2
   have hh : Ag D8 n=(if n.roles.all D8=false then 2 else if errs (frE D8) n.fresh≠0 then errs (frE D8) n.fresh else if n.tags.all D8=false then 2 else 0):=by rw[Ag,if_neg (by rw[hc]; simp),if_neg (by rw[hc2]; simp)]
   refine C0 ?_;refine A8 ?_;refine A8 (A6 ?_);refine A5 J J J (B1 J gU J J) ?_;refine A5 J J J (B2 J gU J J J J) ?_;refine C8 J J J J J J gU gU (Y6 _) J ?_;refine A5 J J J (F2 J gU) ?_;refine B0 ?_;refine B8 J (fun hc3=>?_) (fun hc3=>?_)
   ·try simp only [nn,B4,T.rows_len,Fs.rows_len,Sp.rows_len,Gl.rows_len] at hc3
    rw[if_pos hc3] at hh
    refine A8 (A6 ?_);refine A5 J J J (A9 J gU) ?_;refine B0 ?_;refine C1 ?_
    repeat(first|refine tR ?_|refine bR ?_)
    refine C5 J ?_ O
    (rw[narE,if_pos (by rw[hh]; simp),hh]; rfl)
   ·try simp only [nn,B4,T.rows_len,Fs.rows_len,Sp.rows_len,Gl.rows_len] at hc3
    rw[if_neg (by rw[hc3]; simp)] at hh
    refine C0 ?_;refine A8 ?_;refine A8 (A6 ?_);refine A5 J J J (A9 J gU) ?_;refine B0 ?_;refine B5 (s:=⟨[(1,_,_),(4,_,_)],[(.l 1,_)],[],[]⟩) (B3 (⟨U J,U J,O⟩) (⟨U J,O⟩) O) ?_;refine C4 ?_;refine F5 (ι:=Nat) { t:=[(1,_,_)],bx:=[(.l 1,_)],ow:=[] } (fun k=>[(4,true,xi (k : Int))]) (fun k=>[]) (fun k=>k≤n.fresh.length∧errs (frE D8) (n.fresh.drop k)=errs (frE D8) n.fresh) (fun k=>n.fresh.length - k) (0) (⟨by simp,rfl⟩) (B3 (⟨U J,U J,O⟩) (⟨U J,O⟩) O) ?_
    intro k hokk
    dsimp only [List.cons_append,List.nil_append]
    obtain ⟨hk,hi⟩:=hokk
    refine A8 ?_;refine A8 (A6 ?_);refine A5 J J J (A7 J gU) ?_;refine A5 J J J (B1 J gU J J) ?_;refine A5 J J J (B2 J gU J J J J) ?_;refine E0 J J J J J gU J J ?_ (fun hh=>by simp at hh); intro hlen;refine A5 J J J (B6 J J gU gU J) ?_;refine B0 ?_;refine B5 (s:=⟨[(1,_,_),(4,_,_),(27,_,_)],[(.l 1,_)],[],[]⟩) (B3 (⟨U J,U J,U J,O⟩) (⟨U J,O⟩) O) ?_;refine B8 J (fun hc4=>?_) (fun hc4=>?_)
    ·try simp only [nn,B4,T.rows_len,Fs.rows_len,Sp.rows_len,Gl.rows_len] at hc4
     have hlt : k < n.fresh.length:=by omega
     have hd:=O9 (d:=default) hlt hi
     have hn2:=Y6 [(n.fresh.getD k default).role,(n.fresh.getD k default).name]
     refine C0 ?_;refine A8 ?_;refine C4 ?_;refine A8 (A6 ?_);refine A5 J J J (B1 J gU J J) ?_;refine A5 J J J (B2 J gU J J J J) ?_;refine A5 J J J (A7 J gU) ?_;refine A5 J J J (C7 J J gU gU J J J (fun hh=>Fs.rows_at (by first|omega|(simp at hh ⊢; omega)))) ?_;refine A5 J J J (D6 J gU J J J J) ?_;refine C3 J (D7 J J J) ?_;refine C3 J (C9 J J J J J J J) ?_;refine B0 ?_;refine B5 (s:=⟨[(1,_,_),(4,_,_),(5,_,_)],[(.l 1,_),(.l 5,_)],[],[]⟩) (B3 (⟨U J,U J,U J,O⟩) (⟨U J,U J,O⟩) O) ?_;refine A8 ?_;refine A8 (A6 ?_);refine A5 J J J (B1 J gU J J) ?_;refine A5 J J J (B2 J gU J J J J) ?_;refine A5 J J J (B1 J gU J J) ?_;refine A5 J J J (B2 J gU J J J J) ?_;refine E8 (xs:=[_,_]) J J J J J J J J J gU J ?_;refine C8 J J J J J J gU gU (hn2) J ?_;refine A5 J J J (F2 J gU) ?_;refine B0 ?_;refine B5 (s:=⟨[(1,_,_),(4,_,_),(5,_,_),(41,_,_)],[(.l 1,_),(.l 5,_)],[],[]⟩) (B3 (⟨U J,U J,U J,U J,O⟩) (⟨U J,U J,O⟩) O) ?_
     refine B8 J (fun hc5=>?_) (fun hc5=>?_)
     ·try simp only [nn,B4,T.rows_len,Fs.rows_len,Sp.rows_len,Gl.rows_len] at hc5
      have hf : frE D8 (n.fresh.getD k default)=2:=by rw[frE,if_pos (by simpa [Decidable.or_iff_not_imp_left] using hc5)]
      have he:=hd.1 (by rw[hf]; simp)
      rw[he,hf] at hh
      rw[if_pos (by simp)] at hh
      refine A8 (A6 ?_);refine A5 J J J (A9 J gU) ?_;refine B0 ?_;refine C1 ?_
      repeat(first|refine tR ?_|refine bR ?_)
      refine C5 J ?_ O
      (rw[narE,if_pos (by rw[hh]; simp),hh]; rfl)
     ·try simp only [nn,B4,T.rows_len,Fs.rows_len,Sp.rows_len,Gl.rows_len] at hc5
      have hnn : ¬(D8 (n.fresh.getD k default).role=false∨D8 (n.fresh.getD k default).name=false):=by
       simp at hc5 ⊢; simp [hc5]
      refine C0 ?_;refine A8 (A6 ?_);refine A5 J J J (B1 J gU J J) ?_;refine A5 J J J (B2 J gU J J J J) ?_;refine A5 J J J (B6 J J gU gU J) ?_;refine A5 J J J (A7 J gU) ?_;refine A5 J J J (B1 J gU J J) ?_;refine A5 J J J (B2 J (fun hh=>hh) J J J J) ?_;refine A5 J J J (B6 J J (fun hh=>hh) gU J) ?_;refine A5 J J J (E4 J J gU (fun _ hi=>gP J hi)) ?_;refine A5 J J J (A7 J gU) ?_;refine A5 J J J (B1 J gU J J) ?_;refine A5 J J J (B2 J (fun hh=>hh) J J J J) ?_;refine A5 J J J (B6 J J (fun hh=>hh) gU J) ?_;refine H5 (s:=⟨[(1,_,_),(4,_,_),(50,_,_),(53,_,_)],[(.l 1,_)],[],[]⟩) (B3 (⟨U J,U J,U J,U J,O⟩) (⟨U J,O⟩) O) ?_;refine A5 J J J (E4 J J gU (fun _ hi=>gP J hi)) ?_;refine B0 ?_;refine B8 J (fun hc6=>?_) (fun hc6=>?_)
      ·try simp only [nn,B4,T.rows_len,Fs.rows_len,Sp.rows_len,Gl.rows_len] at hc6
       have hf : frE D8 (n.fresh.getD k default)=10:=by rw[frE,if_neg hnn,if_pos (by omega)]
       have he:=hd.1 (by rw[hf]; simp)
       rw[he,hf] at hh
       rw[if_pos (by simp)] at hh
       refine A8 (A6 ?_);refine A5 J J J (A9 J gU) ?_;refine B0 ?_;refine C1 ?_
       repeat(first|refine tR ?_|refine bR ?_)
       refine C5 J ?_ O
       (rw[narE,if_pos (by rw[hh]; simp),hh]; rfl)
      ·try simp only [nn,B4,T.rows_len,Fs.rows_len,Sp.rows_len,Gl.rows_len] at hc6
       have hf : frE D8 (n.fresh.getD k default)=0:=by rw[frE,if_neg hnn,if_neg (by omega)]
       refine C0 ?_;refine A6 ?_;refine A5 J J J (A7 J gU) ?_;refine A5 J J J (D0 J J gU gU J (IntWalk.i64_in _ (by omega))) ?_;refine A5 J J J (A9 J gU) ?_;refine B0 ?_;refine ⟨k + 1,?_,?_,B3 (⟨⟨_,rfl,?_⟩,⟨U J,O⟩⟩) (⟨U J,O⟩) O⟩
       all_goals first|rfl|omega|exact ⟨by omega,hd.2 hf⟩
    ·try simp only [nn,B4,T.rows_len,Fs.rows_len,Sp.rows_len,Gl.rows_len] at hc4
     rw[Ho (by omega)] at hi
     rw[← hi,if_neg (by simp)] at hh
     refine E1 ?_
     repeat(first|refine D3 ?_|refine D4 ?_|refine D2 J ?_)
     refine A8 ?_;refine A8 (A6 ?_);refine A5 J J J (B1 J gU J J) ?_;refine A5 J J J (B2 J gU J J J J) ?_;refine C8 J J J J J J gU gU (Y6 _) J ?_;refine A5 J J J (F2 J gU) ?_;refine B0 ?_;refine B8 J (fun hc5=>?_) (fun hc5=>?_)
     ·try simp only [nn,B4,T.rows_len,Fs.rows_len,Sp.rows_len,Gl.rows_len] at hc5
      rw[if_pos hc5] at hh
      refine A8 (A6 ?_);refine A5 J J J (A9 J gU) ?_;refine B0 ?_;refine C1 ?_
      repeat(first|refine tR ?_|refine bR ?_)
      refine C5 J ?_ O
      (rw[narE,if_pos (by rw[hh]; simp),hh]; rfl)
     ·try simp only [nn,B4,T.rows_len,Fs.rows_len,Sp.rows_len,Gl.rows_len] at hc5
      rw[if_neg (by rw[hc5]; simp)] at hh
      have hN : narE D8 n=(if errs (spE D8) n.steps≠0 then errs (spE D8) n.steps else errs (O2 D8) n.goals):=by rw[narE,if_neg (by rw[hh]; simp)]
      refine C0 ?_;refine A8 ?_;refine A8 (A6 ?_);refine A5 J J J (A9 J gU) ?_;refine B0 ?_;refine B5 (s:=⟨[(1,_,_),(6,_,_)],[(.l 1,_)],[],[]⟩) (B3 (⟨U J,U J,O⟩) (⟨U J,O⟩) O) ?_;refine C4 ?_;refine F5 (ι:=Nat) { t:=[(1,_,_)],bx:=[(.l 1,_)],ow:=[] } (fun j=>[(6,true,xi (j : Int))]) (fun j=>[]) (fun j=>j≤n.steps.length∧errs (spE D8) (n.steps.drop j)=errs (spE D8) n.steps) (fun j=>n.steps.length - j) (0) (⟨by simp,rfl⟩) (B3 (⟨U J,U J,O⟩) (⟨U J,O⟩) O) ?_
      intro j hokj
      dsimp only [List.cons_append,List.nil_append]
      obtain ⟨hj,hij⟩:=hokj
      refine A8 ?_;refine A8 (A6 ?_);refine A5 J J J (A7 J gU) ?_;refine A5 J J J (B1 J gU J J) ?_;refine A5 J J J (B2 J gU J J J J) ?_;refine E0 J J J J J gU J J ?_ (fun hh=>by simp at hh); intro hlen;refine A5 J J J (B6 J J gU gU J) ?_;refine B0 ?_;refine B5 (s:=⟨[(1,_,_),(6,_,_),(63,_,_)],[(.l 1,_)],[],[]⟩) (B3 (⟨U J,U J,U J,O⟩) (⟨U J,O⟩) O) ?_;refine B8 J (fun hc6=>?_) (fun hc6=>?_)
      ·try simp only [nn,B4,T.rows_len,Fs.rows_len,Sp.rows_len,Gl.rows_len] at hc6
       have hlt : j < n.steps.length:=by omega
       have hd:=O9 (d:=default) hlt hij
       have hmem:=hs _ (En (d:=default) hlt)
       have hn2:=Y6 [(n.steps.getD j default).frm,(n.steps.getD j default).dst]
       refine C0 ?_;refine A8 ?_;refine C4 ?_;refine A8 ?_;refine A8 ?_;refine awp_drawn' (by kernel_rfl) ?_;refine B9 J J J J (B1 J gU J J) ?_;refine L9 J J J J J J J gU J J J J ?_;refine B9 J J J J (A7 J gU) ?_;refine B9 J J J J (C7 J J gU gU J J J (fun hh=>Sp.rows_at (by first|omega|(simp at hh ⊢; omega)))) ?_;refine B9 J J J J (F4 J gU J J) ?_;refine B9 J J J J (E9 J gU J J J) ?_;refine B9 J J J J (B1 J gU J J) ?_;refine L9 J J J J J J J gU J J J J ?_;refine B9 J J J J (A7 J gU) ?_;refine B9 J J J J (C7 J J gU gU J J J (fun hh=>Sp.rows_at (by first|omega|(simp at hh ⊢; omega)))) ?_;refine B9 J J J J (F4 J gU J J) ?_;refine B9 J J J J (E9 J gU J J J) ?_;refine Jj (xs:=[_,_]) J J J J J J J J J J gU J ?_;refine F3 J J J J J J J gU gU (hn2) J ?_;refine B9 J J J J (F2 J gU) ?_;refine F8 (by kernel_rfl) ?_;refine B5 (s:=⟨[(1,_,_),(6,_,_),(80,_,_)],[(.l 1,_)],[],[]⟩) (B3 (⟨U J,U J,U J,O⟩) (⟨U J,O⟩) O) ?_;refine B8 J (fun hc7=>?_) (fun hc7=>?_)
       ·try simp only [nn,B4,T.rows_len,Fs.rows_len,Sp.rows_len,Gl.rows_len] at hc7
        have hf : spE D8 (n.steps.getD j default)=2:=by rw[spE,if_pos (by simpa [Decidable.or_iff_not_imp_left] using hc7)]
        have he:=hd.1 (by rw[hf]; simp)
        rw[he,hf,if_pos (by simp)] at hN
        refine A8 (A6 ?_);refine A5 J J J (A9 J gU) ?_;refine B0 ?_;refine C1 ?_
        repeat(first|refine tR ?_|refine bR ?_)
        refine C5 J ?_ O
        (rw[hN]; rfl)
       ·try simp only [nn,B4,T.rows_len,Fs.rows_len,Sp.rows_len,Gl.rows_len] at hc7
        have hnn : ¬(D8 (n.steps.getD j default).frm=false∨D8 (n.steps.getD j default).dst=false):=by
         simp at hc7 ⊢; simp [hc7]
        have hf : spE D8 (n.steps.getD j default)=msgE D8 (n.steps.getD j default).msg:=by rw[spE,if_neg hnn]
        rw[hf] at hd
        refine C0 ?_;refine A8 (A6 ?_);refine A5 J J J (B1 J gU J J) ?_;refine A5 J J J (B2 J gU J J J J) ?_;refine A5 J J J (A7 J gU) ?_;refine A5 J J J (C7 J J gU gU J J J (fun hh=>Sp.rows_at (by first|omega|(simp at hh ⊢; omega)))) ?_;refine A5 J J J (F4 J gU J J) ?_;refine A5 J J J (D6 J gU J J J J) ?_;refine C8 J J J J J J gU gU (Cy _ hmem) J ?_;refine A5 J J J (A9 J gU) ?_;refine B0 ?_;refine B5 (s:=⟨[(1,_,_),(6,_,_),(7,_,_)],[(.l 1,_)],[],[]⟩) (B3 (⟨U J,U J,U J,O⟩) (⟨U J,O⟩) O) ?_;refine A8 (A6 ?_);refine A5 J J J (A7 J gU) ?_;refine A5 J J J (B6 J J gU gU J) ?_;refine B0 ?_;refine B8 J (fun hc8=>?_) (fun hc8=>?_)
        ·try simp only [nn,B4,T.rows_len,Fs.rows_len,Sp.rows_len,Gl.rows_len] at hc8
         have he:=hd.1 hc8
         rw[he,if_pos hc8] at hN
         refine A8 (A6 ?_);refine A5 J J J (A7 J gU) ?_;refine A5 J J J (A9 J gU) ?_;refine B0 ?_;refine C1 ?_
         repeat(first|refine tR ?_|refine bR ?_)
         refine C5 J ?_ O
         (rw[hN]; rfl)
        ·try simp only [nn,B4,T.rows_len,Fs.rows_len,Sp.rows_len,Gl.rows_len] at hc8
         refine C0 ?_;refine A6 ?_;refine A5 J J J (A7 J gU) ?_;refine A5 J J J (D0 J J gU gU J (IntWalk.i64_in _ (by omega))) ?_;refine A5 J J J (A9 J gU) ?_;refine B0 ?_;refine ⟨j + 1,?_,?_,B3 (⟨⟨_,rfl,?_⟩,⟨U J,O⟩⟩) (⟨U J,O⟩) O⟩
         all_goals first|rfl|omega|exact ⟨by omega,hd.2 hc8⟩
      ·try simp only [nn,B4,T.rows_len,Fs.rows_len,Sp.rows_len,Gl.rows_len] at hc6
       rw[Ho (by omega)] at hij
       rw[← hij,if_neg (by simp)] at hN
       refine E1 ?_
       repeat(first|refine D3 ?_|refine D4 ?_|refine D2 J ?_)
       refine A8 ?_;refine A8 (A6 ?_);refine A5 J J J (A9 J gU) ?_;refine B0 ?_;refine C4 ?_;refine F5 (ι:=Nat) { t:=[(1,_,_)],bx:=[(.l 1,_)],ow:=[] } (fun i=>[(8,true,xi (i : Int))]) (fun i=>[]) (fun i=>i≤n.goals.length∧errs (O2 D8) (n.goals.drop i)=errs (O2 D8) n.goals) (fun i=>n.goals.length - i) (0) (⟨by simp,rfl⟩) (B3 (⟨U J,U J,O⟩) (⟨U J,O⟩) O) ?_
       intro i hoki
       dsimp only [List.cons_append,List.nil_append]
       obtain ⟨hi2,hii⟩:=hoki
       refine A8 ?_;refine A8 (A6 ?_);refine A5 J J J (A7 J gU) ?_;refine A5 J J J (B1 J gU J J) ?_;refine A5 J J J (B2 J gU J J J J) ?_;refine E0 J J J J J gU J J ?_ (fun hh=>by simp at hh); intro hlen;refine A5 J J J (B6 J J gU gU J) ?_;refine B0 ?_;refine B5 (s:=⟨[(1,_,_),(8,_,_),(95,_,_)],[(.l 1,_)],[],[]⟩) (B3 (⟨U J,U J,U J,O⟩) (⟨U J,O⟩) O) ?_;refine B8 J (fun hc7=>?_) (fun hc7=>?_)
       ·try simp only [nn,B4,T.rows_len,Fs.rows_len,Sp.rows_len,Gl.rows_len] at hc7
        have hlt : i < n.goals.length:=by omega
        have hd:=O9 (d:=default) hlt hii
        have hmem:=hg _ (En (d:=default) hlt)
        refine C0 ?_;refine A8 ?_;refine C4 ?_;refine A8 (A6 ?_);refine A5 J J J (B1 J gU J J) ?_;refine A5 J J J (B2 J gU J J J J) ?_;refine A5 J J J (A7 J gU) ?_;refine A5 J J J (C7 J J gU gU J J J (fun hh=>Gl.rows_at (by first|omega|(simp at hh ⊢; omega)))) ?_;refine A5 J J J (D6 J gU J J J J) ?_;refine C8 J J J J J J gU gU (Tv _ hmem) J ?_;refine A5 J J J (A9 J gU) ?_;refine B0 ?_;refine B5 (s:=⟨[(1,_,_),(8,_,_),(9,_,_)],[(.l 1,_)],[],[]⟩) (B3 (⟨U J,U J,U J,O⟩) (⟨U J,O⟩) O) ?_;refine A8 (A6 ?_);refine A5 J J J (A7 J gU) ?_;refine A5 J J J (B6 J J gU gU J) ?_;refine B0 ?_;refine B8 J (fun hc1=>?_) (fun hc1=>?_)
        ·try simp only [nn,B4,T.rows_len,Fs.rows_len,Sp.rows_len,Gl.rows_len] at hc1
         refine A8 (A6 ?_);refine A5 J J J (A7 J gU) ?_;refine A5 J J J (A9 J gU) ?_;refine B0 ?_;refine C1 ?_
         repeat(first|refine tR ?_|refine bR ?_)
         refine C5 J ?_ O
         (rw[hN,hd.1 (by assumption)]; rfl)
        ·try simp only [nn,B4,T.rows_len,Fs.rows_len,Sp.rows_len,Gl.rows_len] at hc1
         refine C0 ?_;refine A6 ?_;refine A5 J J J (A7 J gU) ?_;refine A5 J J J (D0 J J gU gU J (IntWalk.i64_in _ (by omega))) ?_;refine A5 J J J (A9 J gU) ?_;refine B0 ?_;refine ⟨i + 1,?_,?_,B3 (⟨⟨_,rfl,?_⟩,⟨U J,O⟩⟩) (⟨U J,O⟩) O⟩
         all_goals (first|rfl|omega|exact ⟨by omega,hd.2 (by assumption)⟩)
       ·try simp only [nn,B4,T.rows_len,Fs.rows_len,Sp.rows_len,Gl.rows_len] at hc7
        rw[Ho (by omega)] at hii
        refine E1 ?_
        repeat(first|refine D3 ?_|refine D4 ?_|refine D2 J ?_)
        refine A8 (A6 ?_);refine A5 J J J (A9 J gU) ?_;refine B0 ?_;refine C1 ?_
        repeat(first|refine tR ?_|refine bR ?_)
        refine C5 J ?_ O
        (rw[hN,← hii]; rfl)
theorem Kk {α : Type} {l : List Tk} {f : PS→α × PS} (hf : Fwd l f) : ∀ (n : Nat) (p : PS) (out : List α),(L4 l f n p out).1.length + p.at'≤out.length + (L4 l f n p out).2.at'
 | 0,p,out=>by simp [L4]
 | n + 1,p,out=>by
  rw[L4]
  split
  ·have h1:=(hf p.go).1
   have h2:=Kk hf n (f p.go).2 (out++[(f p.go).1])
   have hg : p.go.at'=p.at' + 1:=rfl
   rw[List.length_append,List.length_singleton] at h2
   omega
  ·simp
theorem Co {α : Type} {l : List Tk} {f : PS→α × PS} (hf : Fwd l f) (p : PS) : (G5 l f p).1.length + p.at'≤1 + (G5 l f p).2.at':=by
 have h1:=(hf p).1
 have h2:=Kk hf (l.length + 1) (f p).2 [(f p).1]
 unfold G5
 rw[List.length_singleton] at h2
 omega
theorem Jf (l : List Tk) (role : List UInt8) : ∀ (n : Nat) (p : PS) (out : List Fs),(N7 l role n p out).1.length + p.at'≤out.length + 1 + (N7 l role n p out).2.at'
 | 0,p,out=>by simp [N7]
 | n + 1,p,out=>by
  have h1:=(G4 l [] p).1
  have h2:=(G4 l sortW (C6 l [] p).2).1
  rw[N7]
  split
  ·dsimp only; omega
  split
  ·have hg : (C6 l sortW (C6 l [] p).2).2.go.at'=(C6 l sortW (C6 l [] p).2).2.at' + 1:=rfl
   have h4:=Jf l role n (C6 l sortW (C6 l [] p).2).2.go (out++[⟨role,(C6 l [] p).1,2 + I3 sortW (C6 l sortW (C6 l [] p).2).1⟩])
   rw[List.length_append,List.length_singleton] at h4
   omega
  ·simp only [List.length_append,List.length_singleton]; omega
theorem Tc (l : List Tk) (p : PS) (out : List Fs) : (Ap l p out).1.length + p.at'≤out.length + 1 + (Ap l p out).2.at':=by
 have h1:=(G4 l [] p).1
 have h2:=(J1 l [58] (C6 l [] p).2).1
 have h3:=Jf l (C6 l [] p).1 (l.length + 1) (E5 l [58] (C6 l [] p).2) out
 unfold Ap
 omega
structure Nar.Le (n : Nar) (k : Nat) : Prop where
 roles : n.roles.length≤k
 fresh : n.fresh.length≤k
 tags : n.tags.length≤k
 steps : n.steps.length≤k
 goals : n.goals.length≤k
theorem Nar.Le.mono {n : Nar} {k j : Nat} (h : n.Le k) (hj : k≤j) : n.Le j:=⟨Nat.le_trans h.roles hj,Nat.le_trans h.fresh hj,Nat.le_trans h.tags hj,Nat.le_trans h.steps hj,Nat.le_trans h.goals hj⟩
theorem Wl {l : List Tk} {ws : List (List UInt8)} {p : PS} (h : (C6 l ws p).1≠[]) : (C6 l ws p).2.at'=p.at' + 1:=by
 cases hq : namQ l p ws with
 | true=>rw[C6,if_pos hq]; rfl
 | false=>rw[C6,hq] at h; exact absurd J h
theorem uA1 {l : List Tk} {n : Nar} {line : Int} {w : List UInt8} {q : PS} {k : Nat} (h : n.Le k) (hk : w≠[]→k + 1≤q.at') (hq : k≤q.at') : (W2 l n line w q).1.Le (W2 l n line w q).2.at':=by
 have hz:=Ia l n line w q
 unfold W2 at hz ⊢
 split
 ·rename_i hw
  rw[if_pos hw] at hz
  have h1 : (J2 l q).1.length + q.at'≤1 + (J2 l q).2.at':=Co (G4 l []) q
  have h2:=hk (by rw[hw]; decide)
  have h3:=hz.1
  have := h.mono (j := (J2 l q).2.at') (by dsimp only at h3; omega)
  have h4:=h.roles
  exact ⟨by dsimp only; rw[List.length_append]; omega,this.fresh,this.tags,this.steps,this.goals⟩
 rename_i hw1
 rw[if_neg hw1] at hz
 split
 ·rename_i hw
  rw[if_pos hw] at hz
  have h1:=Tc l q n.fresh
  have h2:=hk (by rw[hw]; decide)
  have h3:=hz.1
  have := h.mono (j := (Ap l q n.fresh).2.at') (by dsimp only at h3; omega)
  have h4:=h.fresh
  exact ⟨this.roles,by dsimp only; omega,this.tags,this.steps,this.goals⟩
 rename_i hw2
 rw[if_neg hw2] at hz
 split
 ·rename_i hw
  rw[if_pos hw] at hz
  have h1 : (J2 l q).1.length + q.at'≤1 + (J2 l q).2.at':=Co (G4 l []) q
  have h2:=hk (by rw[hw]; decide)
  have h3:=hz.1
  have := h.mono (j := (J2 l q).2.at') (by dsimp only at h3; omega)
  have h4:=h.tags
  exact ⟨this.roles,this.fresh,by dsimp only; rw[List.length_append]; omega,this.steps,this.goals⟩
 rename_i hw3
 rw[if_neg hw3] at hz
 split
 ·rename_i hw
  rw[if_pos hw] at hz
  have h2:=hk (by rw[hw]; decide)
  have h3:=hz.1
  have := h.mono (j := (Hd l line q).2.at') (by dsimp only at h3; omega)
  have h4:=h.steps
  exact ⟨this.roles,this.fresh,this.tags,by dsimp only at h3 ⊢; rw[List.length_append,List.length_singleton]; omega,this.goals⟩
 rename_i hw4
 rw[if_neg hw4] at hz
 split
 ·rename_i hw
  rw[if_pos hw] at hz
  have h2:=hk (by rw[hw]; decide)
  have h3:=hz.1
  have := h.mono (j := (Gf l line q).2.at') (by dsimp only at h3; omega)
  have h4:=h.goals
  exact ⟨this.roles,this.fresh,this.tags,this.steps,by dsimp only at h3 ⊢; rw[List.length_append,List.length_singleton]; omega⟩
 exact h.mono hq
theorem Zz {l : List Tk} {n : Nar} {p : PS} (h : n.Le p.at') : (Ad l n p).1.Le (Ad l n p).2.at':=by
 have h1:=(G4 l J7 p).1
 have h2:=uA1 (l:=l) (line:=P7 l p) (w:=(C6 l J7 p).1) (q:=(C6 l J7 p).2) h (fun hw=>by rw[Wl hw]; exact Nat.le_refl _) h1
 exact h2.mono (J1 l [59] _).1
theorem Iu (t : T) : ∀ l : List T,T.sizes (l++[t])=T.sizes l + t.size
 | []=>by simp [T.sizes]
 | x :: l=>by rw[List.cons_append,T.sizes,T.sizes,Iu t l]; omega
theorem Ld : ∀ l : List T,l≠[]→(tupT l).size + 1=T.sizes l + l.length
 | [],h=>absurd J h
 | [t],_=>by simp [tupT,T.sizes]
 | t :: u :: l,_=>by
  have ih:=Ld (u :: l) (by simp)
  have e : (uBZ t (tupT (u :: l))).size=1 + (t.size + (tupT (u :: l)).size):=by rw[T.size_eq]; show 1 + T.sizes [t,tupT (u :: l)]=_; simp [T.sizes]
  rw[tupT,e,T.sizes,List.length_cons (a:=t)]
  omega
def Szd (f : PS→T × PS) : Prop:=∀ p : PS,(f p).1.size + 2 * p.at'≤2 * (f p).2.at' + 1
theorem Hl {l : List Tk} {f : PS→T × PS} (hs : Szd f) : ∀ (n : Nat) (p : PS) (out : List T),T.sizes (L4 l f n p out).1 + (L4 l f n p out).1.length + 2 * p.at'≤T.sizes out + out.length + 2 * (L4 l f n p out).2.at'
 | 0,p,out=>by simp [L4]
 | n + 1,p,out=>by
  rw[L4]
  split
  ·have h1:=hs p.go
   have h2:=Hl (l:=l) hs n (f p.go).2 (out++[(f p.go).1])
   have hg : p.go.at'=p.at' + 1:=rfl
   rw[List.length_append,List.length_singleton,Iu] at h2
   omega
  ·simp
theorem Dh {l : List Tk} {f : PS→T × PS} (hs : Szd f) (p : PS) : T.sizes (G5 l f p).1 + (G5 l f p).1.length + 2 * p.at'≤2 + 2 * (G5 l f p).2.at':=by
 have h1:=hs p
 have h2:=Hl (l:=l) hs (l.length + 1) (f p).2 [(f p).1]
 unfold G5
 rw[List.length_singleton,T.sizes,T.sizes] at h2
 omega
theorem Us {α : Type} {l : List Tk} {f : PS→α × PS} : ∀ (n : Nat) (p : PS) (out : List α),out≠[]→(L4 l f n p out).1≠[]
 | 0,p,out,h=>h
 | n + 1,p,out,h=>by
  rw[L4]
  split
  ·exact Us n _ _ (by simp)
  ·exact h
theorem Dn (l : List Tk) : ∀ n : Nat,Szd (I6 l n)
 | 0,p=>by
  have : (default : T).size=1:=by rw[T.size_eq]; rfl
  show (default : T).size + _≤_
  rw[this]; show 1 + 2 * p.at'≤2 * p.at' + 1; omega
 | n + 1,p=>by
  have ih:=Dn l n
  have hf:=Bf l n
  rw[I6]
  split
  ·have hg : p.go.at'=p.at' + 1:=rfl
   have h1:=ih p.go
   have h2:=(J1 l [44] (I6 l n p.go).2).1
   have h3:=Dh (l:=l) ih (E5 l [44] (I6 l n p.go).2)
   have h4:=(J1 l [62] (G5 l (I6 l n) (E5 l [44] (I6 l n p.go).2)).2).1
   have h5:=Ld ((I6 l n p.go).1 :: (G5 l (I6 l n) (E5 l [44] (I6 l n p.go).2)).1) (by simp)
   rw[T.sizes,List.length_cons] at h5
   dsimp only
   omega
  ·have h1:=(G4 l [] p).1
   split
   ·have hg : (C6 l [] p).2.go.at'=(C6 l [] p).2.at' + 1:=rfl
    split
    ·have hg2 : (C6 l [] p).2.go.go.at'=(C6 l [] p).2.at' + 2:=rfl
     have : (⟨3,(C6 l [] p).1,0,[]⟩ : T).size=1:=by rw[T.size_eq]; rfl
     dsimp only; omega
    ·have h3:=Dh (l:=l) ih (C6 l [] p).2.go
     have h4:=(J1 l [41] (G5 l (I6 l n) (C6 l [] p).2.go).2).1
     have h5 : (G5 l (I6 l n) (C6 l [] p).2.go).1≠[]:=Us _ _ _ (by simp)
     have h6:=List.length_pos_iff.2 h5
     have : (⟨3,(C6 l [] p).1,0,(G5 l (I6 l n) (C6 l [] p).2.go).1⟩ : T).size=1 + T.sizes (G5 l (I6 l n) (C6 l [] p).2.go).1:=by rw[T.size_eq]; rfl
     dsimp only; omega
   ·have : (⟨2,(C6 l [] p).1,0,[]⟩ : T).size=1:=by rw[T.size_eq]; rfl
    dsimp only; omega
structure Nar.Sm (n : Nar) (M : Nat) : Prop where
 steps : ∀ s ∈ n.steps,s.msg.size≤M
 goals : ∀ g ∈ n.goals,T.sizes g.data≤M
theorem Rx {l : List Tk} (line : Int) {p : PS} (hp : p.at'≤l.length) : (Hd l line p).1.msg.size≤2 * l.length + 2:=by
 have h:=(Ib l line p).2 hp
 have := Dn l (l.length + 1) (E5 l [58] (C6 l [] (E5 l [62] (E5 l [45] (C6 l [] p).2))).2)
 have h2 : (I6 l (l.length + 1) (E5 l [58] (C6 l [] (E5 l [62] (E5 l [45] (C6 l [] p).2))).2)).2.at'≤l.length:=h
 show (I6 l (l.length + 1) (E5 l [58] (C6 l [] (E5 l [62] (E5 l [45] (C6 l [] p).2))).2)).1.size≤_
 omega
theorem Tj {l : List Tk} (line : Int) {p : PS} (hp : p.at'≤l.length) : T.sizes (Gf l line p).1.data≤2 * l.length + 2:=by
 have h:=(Hf l line p).2 hp
 have := Dh (l := l) (Dn l (l.length + 1)) (E5 l [58] (if I4 (1 + I3 kindW (C6 l kindW p).1)=true then C6 l [] (C6 l [] (C6 l kindW p).2).2 else ([],(C6 l [] (C6 l kindW p).2).2)).2)
 have h2 : (G5 l (I6 l (l.length + 1)) (E5 l [58] (if I4 (1 + I3 kindW (C6 l kindW p).1)=true then C6 l [] (C6 l [] (C6 l kindW p).2).2 else ([],(C6 l [] (C6 l kindW p).2).2)).2)).2.at'≤l.length:=h
 show T.sizes (G5 l (I6 l (l.length + 1)) (E5 l [58] (if I4 (1 + I3 kindW (C6 l kindW p).1)=true then C6 l [] (C6 l [] (C6 l kindW p).2).2 else ([],(C6 l [] (C6 l kindW p).2).2)).2)).1≤_
 omega
theorem Zv {l : List Tk} {n : Nar} {p : PS} (h : n.Sm (2 * l.length + 2)) (hp : p.at'≤l.length) : (Ad l n p).1.Sm (2 * l.length + 2):=by
 have hq:=(G4 l J7 p).2 hp
 show (W2 l n (P7 l p) (C6 l J7 p).1 (C6 l J7 p).2).1.Sm _
 unfold W2
 repeat' split
 ·exact ⟨h.steps,h.goals⟩
 ·exact ⟨h.steps,h.goals⟩
 ·exact ⟨h.steps,h.goals⟩
 ·refine ⟨fun s hs=>?_,h.goals⟩
  rcases List.mem_append.1 hs with q | q
  ·exact h.steps s q
  ·simp at q; subst q; exact Rx _ hq
 ·refine ⟨h.steps,fun g hg=>?_⟩
  rcases List.mem_append.1 hg with q | q
  ·exact h.goals g q
  ·simp at q; subst q; exact Tj _ hq
 ·exact h
end Go.Proofs.YteidahabkfgfjaaGreat
namespace Go.Proofs.YteidahabkfgfjaaGreat
open Go Go.Proofs Go.RowKit Go.Shelf
attribute [local go_sem] Oper.semAt_some
def KeepB (n₀ Bo : Nat) (W W' : World) : Prop:=∀ b,b < n₀→b≠Bo→W'.heap[b]? = W.heap[b]?
theorem KeepB.refl (n₀ Bo : Nat) (W : World) : KeepB n₀ Bo W W:=fun _ _ _=>rfl
theorem KeepB.trans {n₀ Bo : Nat} {A B C : World} (h : KeepB n₀ Bo A B) (k : KeepB n₀ Bo B C) : KeepB n₀ Bo A C:=fun b h1 h2=>(k b h1 h2).trans (h b h1 h2)
theorem KeepB.cell {n₀ Bo : Nat} {A B : World} (h : KeepB n₀ Bo A B) {b : Nat} (o : Nat) (h1 : b < n₀) (h2 : b≠Bo) : B.cell? ⟨b,o,none⟩=A.cell? ⟨b,o,none⟩:=by
 unfold World.cell?; dsimp only; rw[h b h1 h2]
theorem KeepB.alloc {n₀ Bo : Nat} (W : World) (ob : Obj) (h : n₀≤W.heap.size) : KeepB n₀ Bo W (W.alloc ob):=fun b h1 _=>Below.heap_alloc W ob b (by omega)
abbrev tStr (l : List UInt8) : Value:=.string ⟨l.toArray⟩
end Go.Proofs.YteidahabkfgfjaaGreat
namespace Go.Proofs.YteidahabkfgfjaaGreat
open Go Go.Abs
theorem map_take {α β : Type} (f : α→β) {l : List α} {d : α} {k : Nat} (h : k < l.length) : (l.take (k + 1)).map f=(l.take k).map f++[f (l.getD k d)]:=by rw[M2 (d:=d) h,List.map_append]; rfl
def Nar.lk (n : Nar) (k : Nat) : List (List UInt8):=[Qa n,(Itm.roles n.roles).text]++(frI n.fresh k).map Itm.text
def Nar.rest (n : Nar) (j k : Nat) : List (List UInt8):=n.lk n.fresh.length++((if n.tags=[] then [] else [(Itm.tags n.tags).text])++((n.steps.take j).map (fun s=>(Itm.step s).text)++(n.goals.take k).map fun g=>(Itm.goal g).text))
theorem Tw : Ctr sys 154 [] [] (xss K0) none []:=by
 refine D1 Tryz.func154 J J J J J J ?_;refine A8 (A6 ?_);refine A5 J J J (A9 J gU) ?_;refine B0 ?_;refine A8 (A6 ?_);refine E8 (xs:=[_,_,_,_,_,_]) J J J J J J J J J gU J ?_;refine A5 J J J (A9 J gU) ?_;refine B0 ?_;refine C1 ?_
 repeat(first|refine tR ?_|refine bR ?_)
 refine C5 J ?_ O
 rfl
theorem Gd : Ctr sys 152 [] [] (xss I5) none []:=by
 refine D1 Tryz.func152 J J J J J J ?_;refine A8 (A6 ?_);refine A5 J J J (A9 J gU) ?_;refine B0 ?_;refine A8 (A6 ?_);refine E8 (xs:=[_,_,_,_,_]) J J J J J J J J J gU J ?_;refine A5 J J J (A9 J gU) ?_;refine B0 ?_;refine C1 ?_
 repeat(first|refine tR ?_|refine bR ?_)
 refine C5 J ?_ O
 rfl
theorem X6 (n : Nar) : K6 n=n.roles++(n.fresh.map Fs.name++n.tags):=by
 rw[K6,nmsL]
 simp [List.map_append,List.map_map,Function.comp_def]
theorem shkT_iff {R : List (List UInt8)} {t : T} : shkT R t=true ↔ ((isT t wShk 2=true∧Ek R (kid t 0)=true)∧Ek R (kid t 1)=true) ∧ ¬ (kid t 0).name=(kid t 1).name:=by simp [shkT]
theorem Zh (n : Nar) : (dclL n).map (·.1)=K6 n:=by
 rw[dclL,X6]
 simp [List.map_append,List.map_map,Function.comp_def]
namespace T
def cmp0 (a b : T) : Int :=
 if L7 a.size b.size≠0 then L7 a.size b.size else if L7 a.kind b.kind≠0 then L7 a.kind b.kind
 else if Op.bytesLess a.name b.name=true then -1 else if (!(Op.bytesLess a.name b.name || a.name == b.name))=true then 1
 else if L7 a.sort b.sort≠0 then L7 a.sort b.sort else L7 a.kids.length b.kids.length
mutual
def cmp : T→T→Int
 | mk k n s ks,b=>if cmp0 (mk k n s ks) b≠0 then cmp0 (mk k n s ks) b else cmps ks b.kids
def cmps : List T→List T→Int
 | [],_=>0
 | _ :: _,[]=>0
 | x :: xs,y :: ys=>if cmp x y≠0 then cmp x y else cmps xs ys
end
theorem cmp_eq (a b : T) : a.cmp b=if cmp0 a b≠0 then cmp0 a b else cmps a.kids b.kids:=by cases a; rw[cmp]; rfl
theorem cmps_hit : ∀ (a b : List T) (k : Nat) (x y : T),a[k]? = some x→b[k]? = some y→cmps (a.take k) (b.take k)=0→x.cmp y≠0→cmps a b=x.cmp y
 | [],b,k,x,y,h,_,_,_=>by simp at h
 | _ :: _,[],k,x,y,_,h,_,_=>by simp at h
 | a :: ar,b :: br,0,x,y,h,h',_,hx=>by simp at h h'; subst h; subst h'; rw[cmps,if_pos hx]
 | a :: ar,b :: br,k + 1,x,y,h,h',h0,hx=>by
  rw[List.take_succ_cons,List.take_succ_cons,cmps] at h0
  rw[cmps]
  by_cases ht : a.cmp b=0
  ·rw[if_neg (by simpa using ht)] at h0
   rw[if_neg (by simpa using ht)]
   exact cmps_hit ar br k x y (by simpa using h) (by simpa using h') h0 hx
  ·rw[if_pos ht] at h0; exact absurd h0 ht
theorem cmps_step : ∀ (a b : List T) (k : Nat) (x y : T),a[k]? = some x→b[k]? = some y→cmps (a.take k) (b.take k)=0→x.cmp y=0→cmps (a.take (k + 1)) (b.take (k + 1))=0
 | [],b,k,x,y,h,_,_,_=>by simp at h
 | _ :: _,[],k,x,y,_,h,_,_=>by simp at h
 | a :: ar,b :: br,0,x,y,h,h',_,hx=>by simp at h h'; subst h; subst h'; simp [cmps,hx]
 | a :: ar,b :: br,k + 1,x,y,h,h',h0,hx=>by
  rw[List.take_succ_cons,List.take_succ_cons,cmps] at h0
  rw[List.take_succ_cons,List.take_succ_cons,cmps]
  by_cases ht : a.cmp b=0
  ·rw[if_neg (by simpa using ht)] at h0
   rw[if_neg (by simpa using ht)]
   exact cmps_step ar br k x y (by simpa using h) (by simpa using h') h0 hx
  ·rw[if_pos ht] at h0; exact absurd h0 ht
end T
theorem Pj {a b : Int} (h : L7 a b=0) : a=b:=by
 unfold L7 at h; split at h
 ·omega
 ·split at h <;> omega
def uCv (a b : T) (k : Nat) : St:={ t:=[(2,true, .v (.ptr (.l 2) 0)),(3,true, .v (.ptr (.l 3) 0)),(9,true,xi k)],bx:=[(.l 2,a.cells),(.l 3,b.cells)],ow:=[] }
theorem Nh : ∀ (n : Nat) (a b : T),a.size≤n→n≤2000000→b.size≤2000000→Ctr sys 89 [xm a,xm b] [] (xi (a.cmp b)) none []:=by
 intro n
 induction n with
 | zero=>intro t _ h; have := t.size_pos; omega
 | succ n ih =>
  intro a b ha hn hb
  have hls:=T.len_sizes a.kids
  have hse:=a.size_eq
  refine D1 Tryz.func89 J J J J J J ?_;refine A8 (A6 ?_);refine C3 J (E2 J J J J) ?_;refine C3 J (E2 J J J J) ?_;refine A5 J J J (A9 J gU) ?_;refine B0 ?_;refine A8 ?_;refine A8 ?_;refine awp_drawn' (by kernel_rfl) ?_;refine D5 J J J J J J J gU J J J J J ?_;refine F3 J J J J J J J gU gU (Cn _ a (Nat.le_refl _) (by omega)) J ?_;refine D5 J J J J J J J gU J J J J J ?_;refine F3 J J J J J J J gU gU (Cn _ b (Nat.le_refl _) hb) J ?_;refine F3 J J J J J J J gU gU (Ci _ _) J ?_;refine B9 J J J J (A9 J gU) ?_;refine F8 (by kernel_rfl) ?_;refine B5 (s:=⟨[(2,_,_),(3,_,_),(5,_,_)],[(.l 2,_),(.l 3,_)],[],[]⟩) (B3 (⟨U J,U J,U J,O⟩) (⟨U J,U J,O⟩) O) ?_;refine A8 (A6 ?_);refine A5 J J J (A7 J gU) ?_;refine A5 J J J (B6 J J gU gU J) ?_;refine B0 ?_;refine B8 J (fun hc=>?_) (fun hc=>?_)
  ·refine A8 (A6 ?_)
   refine A5 J J J (A7 J gU) ?_;refine A5 J J J (A9 J gU) ?_;refine B0 ?_;refine C1 ?_
   repeat(first|refine tR ?_|refine bR ?_)
   refine C5 J ?_ O;refine G8 ?_
   rw[T.cmp_eq]
   have h0 : T.cmp0 a b=L7 a.size b.size:=by rw[T.cmp0,if_pos (by simpa using hc)]
   rw[h0,if_pos (by simpa using hc)]
  ·have e1 : ¬ L7 (a.size : Int) (b.size : Int)≠0:=by simpa using hc
   refine C0 ?_;refine A8 ?_;refine A8 (A6 ?_);refine A5 J J J (B1 J gU J J) ?_;refine A5 J J J (B2 J gU J J J J) ?_;refine A5 J J J (B1 J gU J J) ?_;refine A5 J J J (B2 J gU J J J J) ?_;refine C8 J J J J J J gU gU (Ci _ _) J ?_;refine A5 J J J (A9 J gU) ?_;refine B0 ?_;refine B5 (s:=⟨[(2,_,_),(3,_,_),(6,_,_)],[(.l 2,_),(.l 3,_)],[],[]⟩) (B3 (⟨U J,U J,U J,O⟩) (⟨U J,U J,O⟩) O) ?_;refine A8 (A6 ?_);refine A5 J J J (A7 J gU) ?_;refine A5 J J J (B6 J J gU gU J) ?_;refine B0 ?_;refine B8 J (fun hc2=>?_) (fun hc2=>?_)
   ·refine A8 (A6 ?_)
    refine A5 J J J (A7 J gU) ?_;refine A5 J J J (A9 J gU) ?_;refine B0 ?_;refine C1 ?_
    repeat(first|refine tR ?_|refine bR ?_)
    refine C5 J ?_ O;refine G8 ?_
    have h0 : T.cmp0 a b=L7 a.kind b.kind:=by rw[T.cmp0,if_neg e1,if_pos (by simpa using hc2)]
    rw[T.cmp_eq,h0,if_pos (by simpa using hc2)]
   ·have e2 : ¬ L7 a.kind b.kind≠0:=by simpa using hc2
    refine C0 ?_;refine A8 ?_;refine A8 (A6 ?_);refine A5 J J J (B1 J gU J J) ?_;refine A5 J J J (B2 J gU J J J J) ?_;refine A5 J J J (B1 J gU J J) ?_;refine A5 J J J (B2 J gU J J J J) ?_;refine A5 J J J (H1 J J gU gU J) ?_;refine B0 ?_;refine B5 (s:=⟨[(2,_,_),(3,_,_),(31,_,_)],[(.l 2,_),(.l 3,_)],[],[]⟩) (B3 (⟨U J,U J,U J,O⟩) (⟨U J,U J,O⟩) O) ?_;refine B8 J (fun hc3=>?_) (fun hc3=>?_)
    ·refine A8 (A6 ?_)
     refine A5 J J J (A9 J gU) ?_;refine B0 ?_;refine C1 ?_
     repeat(first|refine tR ?_|refine bR ?_)
     refine C5 J ?_ O;refine G8 ?_
     have h0 : T.cmp0 a b = -1:=by rw[T.cmp0,if_neg e1,if_neg e2,if_pos hc3]
     rw[T.cmp_eq,h0]; rfl
    ·refine C0 ?_
     refine A8 ?_;refine A8 (A6 ?_);refine A5 J J J (B1 J gU J J) ?_;refine A5 J J J (B2 J gU J J J J) ?_;refine A5 J J J (B1 J gU J J) ?_;refine A5 J J J (B2 J gU J J J J) ?_;refine A5 J J J (H1 J J gU gU J) ?_;refine B0 ?_;refine B5 (s:=⟨[(2,_,_),(3,_,_),(36,_,_)],[(.l 2,_),(.l 3,_)],[],[]⟩) (B3 (⟨U J,U J,U J,O⟩) (⟨U J,U J,O⟩) O) ?_;refine B8 J (fun hc4=>?_) (fun hc4=>?_)
     ·refine A8 (A6 ?_)
      refine A5 J J J (A9 J gU) ?_;refine B0 ?_;refine C1 ?_
      repeat(first|refine tR ?_|refine bR ?_)
      refine C5 J ?_ O;refine G8 ?_
      have h0 : T.cmp0 a b=1:=by rw[T.cmp0,if_neg e1,if_neg e2,if_neg (by rw[hc3]; simp),if_pos hc4]
      rw[T.cmp_eq,h0]; rfl
     ·refine C0 ?_
      refine A8 ?_;refine A8 (A6 ?_);refine A5 J J J (B1 J gU J J) ?_;refine A5 J J J (B2 J gU J J J J) ?_;refine A5 J J J (B1 J gU J J) ?_;refine A5 J J J (B2 J gU J J J J) ?_;refine C8 J J J J J J gU gU (Ci _ _) J ?_;refine A5 J J J (A9 J gU) ?_;refine B0 ?_;refine B5 (s:=⟨[(2,_,_),(3,_,_),(7,_,_)],[(.l 2,_),(.l 3,_)],[],[]⟩) (B3 (⟨U J,U J,U J,O⟩) (⟨U J,U J,O⟩) O) ?_;refine A8 (A6 ?_);refine A5 J J J (A7 J gU) ?_;refine A5 J J J (B6 J J gU gU J) ?_;refine B0 ?_;refine B8 J (fun hc5=>?_) (fun hc5=>?_)
      ·refine A8 (A6 ?_)
       refine A5 J J J (A7 J gU) ?_;refine A5 J J J (A9 J gU) ?_;refine B0 ?_;refine C1 ?_
       repeat(first|refine tR ?_|refine bR ?_)
       refine C5 J ?_ O;refine G8 ?_
       have h0 : T.cmp0 a b=L7 a.sort b.sort:=by rw[T.cmp0,if_neg e1,if_neg e2,if_neg (by rw[hc3]; simp),if_neg (by rw[hc4]; simp),if_pos (by simpa using hc5)]
       rw[T.cmp_eq,h0,if_pos (by simpa using hc5)]
      ·have e5 : ¬ L7 a.sort b.sort≠0:=by simpa using hc5
       have h0 : T.cmp0 a b=L7 a.kids.length b.kids.length:=by rw[T.cmp0,if_neg e1,if_neg e2,if_neg (by rw[hc3]; simp),if_neg (by rw[hc4]; simp),if_neg e5]
       refine C0 ?_;refine A8 ?_;refine A8 (A6 ?_);refine A5 J J J (B1 J gU J J) ?_;refine A5 J J J (B2 J gU J J J J) ?_;refine E0 J J J J J gU J J ?_ (fun hh=>by simp at hh); intro hlen;refine A5 J J J (B1 J gU J J) ?_;refine A5 J J J (B2 J gU J J J J) ?_;refine E0 J J J J J gU J J ?_ (fun hh=>by simp at hh); intro hlen;refine C8 J J J J J J gU gU (Ci _ _) J ?_;refine A5 J J J (A9 J gU) ?_;refine B0 ?_;refine B5 (s:=⟨[(2,_,_),(3,_,_),(8,_,_)],[(.l 2,_),(.l 3,_)],[],[]⟩) (B3 (⟨U J,U J,U J,O⟩) (⟨U J,U J,O⟩) O) ?_;refine A8 (A6 ?_);refine A5 J J J (A7 J gU) ?_;refine A5 J J J (B6 J J gU gU J) ?_;refine B0 ?_;refine B8 J (fun hc6=>?_) (fun hc6=>?_)
       ·refine A8 (A6 ?_)
        refine A5 J J J (A7 J gU) ?_;refine A5 J J J (A9 J gU) ?_;refine B0 ?_;refine C1 ?_
        repeat(first|refine tR ?_|refine bR ?_)
        refine C5 J ?_ O;refine G8 ?_
        simp only [T.rows_len] at hc6 ⊢
        rw[T.cmp_eq,h0,if_pos (by simpa using hc6)]
       ·simp only [T.rows_len] at hc6
        have e6 : L7 (a.kids.length : Int) (b.kids.length : Int)=0:=by simpa using hc6
        have hll:=Pj e6
        have hll' : a.kids.length=b.kids.length:=by omega
        have hC : a.cmp b=T.cmps a.kids b.kids:=by rw[T.cmp_eq,h0,if_neg (by simpa using e6)]
        refine C0 ?_;refine A8 ?_;refine A8 (A6 ?_);refine A5 J J J (A9 J gU) ?_;refine B0 ?_;refine C4 ?_;refine P5 (uCv a b) (fun k=>k≤a.kids.length∧T.cmps (a.kids.take k) (b.kids.take k)=0) (fun k=>a.kids.length - k) 0 ⟨Nat.zero_le _,by simp [T.cmps]⟩ ?_ ?_
        ·refine B3 ⟨⟨_,rfl,rfl⟩,⟨_,rfl,rfl⟩,⟨_,rfl,rfl⟩,O⟩ ⟨⟨_,rfl,rfl⟩,⟨_,rfl,rfl⟩,O⟩ O
        ·rintro k ⟨hk,hz⟩
         refine A8 ?_;refine A8 (A6 ?_);refine A5 J J J (A7 J gU) ?_;refine A5 J J J (B1 J gU J J) ?_;refine A5 J J J (B2 J gU J J J J) ?_;refine E0 J J J J J gU J J ?_ (fun hh=>by simp at hh); intro hlen;refine A5 J J J (B6 J J gU gU J) ?_;refine B0 ?_;refine B5 (s:=⟨[(2,_,_),(3,_,_),(9,_,_),(59,_,_)],[(.l 2,_),(.l 3,_)],[],[]⟩) (B3 (⟨U J,U J,U J,U J,O⟩) (⟨U J,U J,O⟩) O) ?_;refine B8 J (fun hc7=>?_) (fun hc7=>?_)
         ·rw[T.rows_len] at hc7
          have hlt : k < a.kids.length:=by simpa using hc7
          obtain ⟨x,hx⟩ : ∃ x,a.kids[k]? = some x:=⟨_,List.getElem?_eq_getElem hlt⟩
          obtain ⟨y,hy⟩ : ∃ y,b.kids[k]? = some y:=⟨_,List.getElem?_eq_getElem (by omega)⟩
          have q1:=T.size_kid hx
          have q2:=T.size_kid hy
          refine C0 ?_;refine A8 ?_;refine C4 ?_;refine A8 ?_;refine awp_drawn' (by kernel_rfl) ?_;refine B9 J J J J (B1 J gU J J) ?_;refine L9 J J J J J J J gU J J J J ?_;refine B9 J J J J (A7 J gU) ?_;refine B9 J J J J (C7 J J gU gU J J J (fun _=>T.rows_get hx)) ?_;refine B9 J J J J (D6 J gU J J J J) ?_;refine B9 J J J J (B1 J gU J J) ?_;refine L9 J J J J J J J gU J J J J ?_;refine B9 J J J J (A7 J gU) ?_;refine B9 J J J J (C7 J J gU gU J J J (fun _=>T.rows_get hy)) ?_;refine B9 J J J J (D6 J gU J J J J) ?_;refine F3 J J J J J J J gU gU (ih x y (by omega) (by omega) (by omega)) J ?_;refine B9 J J J J (A9 J gU) ?_;refine F8 (by kernel_rfl) ?_;refine B5 (s:=⟨[(2,_,_),(3,_,_),(9,_,_),(10,_,_)],[(.l 2,_),(.l 3,_)],[],[]⟩) (B3 (⟨U J,U J,U J,U J,O⟩) (⟨U J,U J,O⟩) O) ?_;refine A8 (A6 ?_);refine A5 J J J (A7 J gU) ?_;refine A5 J J J (B6 J J gU gU J) ?_;refine B0 ?_;refine B8 J (fun hc8=>?_) (fun hc8=>?_)
          ·refine A8 (A6 ?_)
           refine A5 J J J (A7 J gU) ?_;refine A5 J J J (A9 J gU) ?_;refine B0 ?_;refine C1 ?_
           repeat(first|refine tR ?_|refine bR ?_)
           refine C5 J ?_ O;exact G8 (by rw[hC,T.cmps_hit _ _ _ _ _ hx hy hz (by simpa using hc8)])
          ·refine C0 ?_
           refine A6 ?_;refine A5 J J J (A7 J gU) ?_;refine A5 J J J (D0 J J gU gU J (IntWalk.i64_in _ (by omega))) ?_;refine A5 J J J (A9 J gU) ?_;refine B0 ?_;refine ⟨k + 1,⟨by omega,T.cmps_step _ _ _ _ _ hx hy hz (by simpa using hc8)⟩,by omega,?_⟩;refine B3 ⟨⟨_,rfl,rfl⟩,⟨_,rfl,rfl⟩,⟨_,rfl,rfl⟩,O⟩ ⟨⟨_,rfl,rfl⟩,⟨_,rfl,rfl⟩,O⟩ O
         ·refine E1 ?_
          repeat(first|refine D3 ?_|refine D4 ?_|refine D2 J ?_)
          refine A8 (A6 ?_);refine A5 J J J (A9 J gU) ?_;refine B0 ?_;refine C1 ?_
          repeat(first|refine tR ?_|refine bR ?_)
          refine C5 J ?_ O
          rw[T.rows_len] at hc7
          have hke : k=a.kids.length:=by simp at hc7; omega
          subst hke
          rw[List.take_length,hll',List.take_length] at hz
          exact G8 (by rw[hC,hz])
theorem Lf (a b : T) (ha : a.size≤2000000) (hb : b.size≤2000000) : Ctr sys 54 [xm a,xm b] [] (xb (a.cmp b == 0)) none []:=by
 refine D1 Tryz.func54 J J J J J J ?_;refine A8 (A6 ?_);refine C3 J (E2 J J J J) ?_;refine C3 J (E2 J J J J) ?_;refine A5 J J J (A9 J gU) ?_;refine B0 ?_;refine A8 (A6 ?_);refine A5 J J J (B7 J gU J J J J J) ?_;refine A5 J J J (B7 J gU J J J J J) ?_;refine C8 J J J J J J gU gU (Nh _ a b (Nat.le_refl _) ha hb) J ?_;refine A5 J J J (B6 J J gU gU J) ?_;refine A5 J J J (A9 J gU) ?_;refine B0 ?_;refine C1 ?_
 repeat(first|refine tR ?_|refine bR ?_)
 refine C5 J ?_ O
 rfl
end Go.Proofs.YteidahabkfgfjaaGreat
namespace Go.Proofs.YteidahabkfgfjaaGreat
open Go Go.Abs
def Ev (a b : List T) : Bool:=decide (a.length=b.length) && (T.cmps a b == 0)
def uB2 (a b : List T) (k : Nat) : St:={ t:=[(0,true,xl a),(1,true,xl b),(5,true,xi k)],bx:=[],ow:=[] }
theorem Sw (a b : List T) (ha : T.sizes a≤2000000) (hb : T.sizes b≤2000000) : Ctr sys 22 [xl a,xl b] [] (xb (Ev a b)) none []:=by
 have hls:=T.len_sizes a
 refine D1 Tryz.func22 J J J J J J ?_;refine A8 (A6 ?_);refine A5 J J J (A9 J gU) ?_;refine B0 ?_;refine A8 ?_;refine A8 (A6 ?_);refine A5 J J J (A7 J gU) ?_;refine E0 J J J J J gU J J ?_ (fun hh=>by simp at hh); intro hlen;refine A5 J J J (A7 J gU) ?_;refine E0 J J J J J gU J J ?_ (fun hh=>by simp at hh); intro hlen;refine A5 J J J (B6 J J gU gU J) ?_;refine B0 ?_;refine B5 (s:=⟨[(0,_,_),(1,_,_),(10,_,_)],[],[],[]⟩) (B3 (⟨U J,U J,U J,O⟩) O O) ?_;refine B8 J (fun hc=>?_) (fun hc=>?_)
 ·refine A8 (A6 ?_)
  refine A5 J J J (A9 J gU) ?_;refine B0 ?_;refine C1 ?_
  repeat(first|refine tR ?_|refine bR ?_)
  refine C5 J ?_ O;refine N0 ?_
  simp only [T.rows_len,bne_iff_ne,ne_eq] at hc
  have : ¬ a.length=b.length:=by omega
  simp [Ev,this]
 ·simp only [T.rows_len,bne_eq_false_iff_eq] at hc
  have hll : a.length=b.length:=by omega
  refine C0 ?_;refine A8 ?_;refine A8 (A6 ?_);refine A5 J J J (A9 J gU) ?_;refine B0 ?_;refine C4 ?_;refine P5 (uB2 a b) (fun k=>k≤a.length∧T.cmps (a.take k) (b.take k)=0) (fun k=>a.length - k) 0 ⟨Nat.zero_le _,by simp [T.cmps]⟩ ?_ ?_
  ·refine B3 ⟨⟨_,rfl,rfl⟩,⟨_,rfl,rfl⟩,⟨_,rfl,rfl⟩,O⟩ O O
  ·rintro k ⟨hk,hz⟩
   refine A8 ?_;refine A8 (A6 ?_);refine A5 J J J (A7 J gU) ?_;refine A5 J J J (A7 J gU) ?_;refine E0 J J J J J gU J J ?_ (fun hh=>by simp at hh); intro hlen;refine A5 J J J (B6 J J gU gU J) ?_;refine B0 ?_;refine B8 J (fun hc7=>?_) (fun hc7=>?_)
   ·rw[T.rows_len] at hc7
    have hlt : k < a.length:=by simpa using hc7
    obtain ⟨x,hx⟩ : ∃ x,a[k]? = some x:=⟨_,List.getElem?_eq_getElem hlt⟩
    obtain ⟨y,hy⟩ : ∃ y,b[k]? = some y:=⟨_,List.getElem?_eq_getElem (by omega)⟩
    have q1:=Qe _ _ _ hx
    have q2:=Qe _ _ _ hy
    refine C0 ?_;refine A8 ?_;refine C4 ?_;refine A8 ?_;refine awp_drawn' (by kernel_rfl) ?_;refine B9 J J J J (A7 J gU) ?_;refine B9 J J J J (A7 J gU) ?_;refine B9 J J J J (C7 J J gU gU J J J (fun _=>T.rows_get hx)) ?_;refine B9 J J J J (D6 J gU J J J J) ?_;refine B9 J J J J (A7 J gU) ?_;refine B9 J J J J (A7 J gU) ?_;refine B9 J J J J (C7 J J gU gU J J J (fun _=>T.rows_get hy)) ?_;refine B9 J J J J (D6 J gU J J J J) ?_;refine F3 J J J J J J J gU gU (Lf x y (by omega) (by omega)) J ?_;refine B9 J J J J (F2 J gU) ?_;refine F8 (by kernel_rfl) ?_;refine B5 (s:=⟨[(0,_,_),(1,_,_),(5,_,_),(26,_,_)],[],[],[]⟩) (B3 (⟨U J,U J,U J,U J,O⟩) O O) ?_;refine B8 J (fun hc8=>?_) (fun hc8=>?_)
    ·refine A8 (A6 ?_)
     refine A5 J J J (A9 J gU) ?_;refine B0 ?_;refine C1 ?_
     repeat(first|refine tR ?_|refine bR ?_)
     refine C5 J ?_ O
     have hne : x.cmp y≠0:=by simpa using hc8
     refine N0 ?_
     rw[Ev,T.cmps_hit _ _ _ _ _ hx hy hz hne]
     simp [hne]
    ·refine C0 ?_
     refine A6 ?_;refine A5 J J J (A7 J gU) ?_;refine A5 J J J (D0 J J gU gU J (IntWalk.i64_in _ (by omega))) ?_;refine A5 J J J (A9 J gU) ?_;refine B0 ?_;refine ⟨k + 1,⟨by omega,T.cmps_step _ _ _ _ _ hx hy hz (by simpa using hc8)⟩,by omega,?_⟩;refine B3 ⟨⟨_,rfl,rfl⟩,⟨_,rfl,rfl⟩,⟨_,rfl,rfl⟩,O⟩ O O
   ·refine E1 ?_
    repeat(first|refine D3 ?_|refine D4 ?_|refine D2 J ?_)
    refine A8 (A6 ?_);refine A5 J J J (A9 J gU) ?_;refine B0 ?_;refine C1 ?_
    repeat(first|refine tR ?_|refine bR ?_)
    refine C5 J ?_ O
    rw[T.rows_len] at hc7
    have hke : k=a.length:=by simp at hc7; omega
    subst hke
    rw[List.take_length,hll,List.take_length] at hz
    refine N0 ?_
    simp [Ev,hll,hz]
theorem el_inj {n n' : Nar} : n.el=n'.el ↔ n.name=n'.name∧n.roles=n'.roles∧n.fresh=n'.fresh∧n.tags=n'.tags∧n.steps.map Sp.el=n'.steps.map Sp.el∧n.goals.map Gl.el=n'.goals.map Gl.el:=by
 cases n; cases n'
 simp [Nar.el]
theorem map_none {α β : Type} (f : Itm→List β) (g : α→Itm) (hf : ∀ x,f (g x)=[]) (l : List α) : (l.map g).flatMap f=[]:=by
 rw[List.flatMap_eq_nil_iff]
 intro i hi
 obtain ⟨x,_,rfl⟩:=List.mem_map.1 hi
 exact hf x
theorem Gb : ∀ (l : List UInt8),Op.bytesLess l l=false
 | []=>rfl
 | x :: xs=>by
  have := Gb xs
  simp [Op.bytesLess,this]
theorem Oc (a : Int) : L7 a a=0:=by simp [L7]
mutual
theorem T.cmp_self : ∀ a : T,a.cmp a=0
 | .mk k n s ks=>by
  have h0 : T.cmp0 (.mk k n s ks) (.mk k n s ks)=0:=by simp [T.cmp0,Oc,Gb]
  rw[T.cmp,if_neg (by simp [h0])]
  exact T.cmps_self ks
theorem T.cmps_self : ∀ l : List T,T.cmps l l=0
 | []=>rfl
 | x :: xs=>by
  rw[T.cmps,if_neg (by simp [T.cmp_self x])]
  exact T.cmps_self xs
end
theorem Fp (a b : List Int) (h : a=b) : Ctr sys 15 [xis a,xis b] [] (xb true) none []:=by
 have la:=L1 a
 have lb:=L1 b
 have hl : a.length=b.length:=by rw[h]
 refine D1 Tryz.func15 J J J J J J ?_;refine A8 (A6 ?_);refine A5 J J J (A9 J gU) ?_;refine B0 ?_;refine A8 ?_;refine A8 (A6 ?_);refine A5 J J J (A7 J gU) ?_;refine E0 J J J J J gU J J ?_ (fun hh=>by simp at hh); intro hlen;refine A5 J J J (A7 J gU) ?_;refine E0 J J J J J gU J J ?_ (fun hh=>by simp at hh); intro hlen;refine A5 J J J (B6 J J gU gU J) ?_;refine B0 ?_;refine B5 (s:=⟨[(0,_,_),(1,_,_),(10,_,_)],[],[],[]⟩) (B3 (⟨U J,U J,U J,O⟩) O O) ?_;refine B8 J (fun hc=>?_) (fun hc=>?_)
 ·try simp only [nn,L1] at hc
  exact absurd (by omega) hc
 ·try simp only [nn,L1] at hc
  refine C0 ?_;refine A8 ?_;refine A8 (A6 ?_);refine A5 J J J (A7 J gU) ?_;refine E0 J J J J J gU J J ?_ (fun hh=>by simp at hh); intro hlen;refine A5 J J J (A7 J gU) ?_;refine B0 ?_;refine C4 ?_;refine F5 (ι:=Nat) { t:=[(0,_,_),(1,_,_),(12,_,_)],bx:=[],ow:=[] } (fun k=>[(13,true,xi (k : Int))]) (fun k=>[]) (fun k=>k≤a.length) (fun k=>a.length - k) (0) (by simp) (B3 (⟨U J,U J,U J,U J,O⟩) O O) ?_
  intro k hok
  dsimp only [List.cons_append,List.nil_append]
  refine A8 (A6 ?_);refine A5 J J J (B6 J J gU gU J) ?_;refine B0 ?_;refine A8 ?_;refine B8 J (fun hc2=>?_) (fun hc2=>?_)
  ·try simp only [nn,L1] at hc2
   refine C0 ?_;refine A8 ?_;refine C4 ?_;refine A8 (A6 ?_);refine A5 J J J (A7 J gU) ?_;refine A5 J J J (A9 J gU) ?_;refine B0 ?_;refine A8 ?_;refine awp_drawn' (by kernel_rfl) ?_;refine B9 J J J J (A7 J gU) ?_;refine B9 J J J J (A7 J gU) ?_;refine B9 J J J J (C7 J J gU gU J J J (fun hh=>Uo (by first|omega|(simp at hh ⊢; omega)))) ?_;refine B9 J J J J (E9 J gU J J J) ?_;refine B9 J J J J (A7 J gU) ?_;refine B9 J J J J (A7 J gU) ?_;refine B9 J J J J (C7 J J gU gU J J J (fun hh=>Uo (by first|omega|(simp at hh ⊢; omega)))) ?_;refine B9 J J J J (E9 J gU J J J) ?_;refine B9 J J J J (B6 J J gU gU J) ?_;refine F8 (by kernel_rfl) ?_;refine B5 (s:=⟨[(0,_,_),(1,_,_),(12,_,_),(13,_,_),(24,_,_)],[],[],[]⟩) (B3 (⟨U J,U J,U J,U J,U J,O⟩) O O) ?_;refine B8 J (fun hc3=>?_) (fun hc3=>?_)
   ·try simp only [nn,L1] at hc3
    exact absurd (by rw[h]) hc3
   ·try simp only [nn,L1] at hc3
    refine C0 ?_;refine A6 ?_;refine A5 J J J (D0 J J gU gU J (IntWalk.i64_in _ (by omega))) ?_;refine A5 J J J (A7 J gU) ?_;refine B0 ?_;refine ⟨k + 1,?_,?_,B3 (⟨⟨_,rfl,?_⟩,⟨U J,U J,U J,O⟩⟩) O O⟩
    all_goals (first|rfl|omega)
  ·try simp only [nn,L1] at hc2
   refine E1 ?_
   repeat(first|refine D3 ?_|refine D4 ?_|refine D2 J ?_)
   refine A8 (A6 ?_);refine A5 J J J (A9 J gU) ?_;refine B0 ?_;refine C1 ?_
   repeat(first|refine tR ?_|refine bR ?_)
   refine C5 J ?_ O
   rfl
theorem Vi {α : Type} {f : α→α} {d : α} {a b : List α} (h : a.map f=b.map f) {k : Nat} (hk : k < a.length) : f (a.getD k d)=f (b.getD k d):=by
 have hl : a.length=b.length:=by simpa using congrArg List.length h
 have := congrArg (fun l=>l[k]?) h
 rw[List.getElem?_map,List.getElem?_map,List.getElem?_eq_getElem hk,List.getElem?_eq_getElem (hl ▸ hk)] at this
 rw[List.getD_eq_getElem?_getD,List.getD_eq_getElem?_getD,List.getElem?_eq_getElem hk,List.getElem?_eq_getElem (hl ▸ hk)]
 simpa using this
theorem So (a : List T) : Ev a a=true:=by simp [Ev,T.cmps_self]
theorem uA4 {l : List Gl} (h : ∀ g ∈ l,T.sizes g.data≤900000) {k : Nat} (hk : k < l.length) : T.sizes (l.getD k default).data≤900000:=by
 apply h
 rw[List.getD_eq_getElem?_getD,List.getElem?_eq_getElem hk]; exact List.getElem_mem _
theorem uAD {l : List Sp} (h : ∀ s ∈ l,s.msg.size≤900000) {k : Nat} (hk : k < l.length) : (l.getD k default).msg.size≤900000:=by
 apply h
 rw[List.getD_eq_getElem?_getD,List.getElem?_eq_getElem hk]; exact List.getElem_mem _
theorem Jk (a b : List Gl) (h : a.map Gl.el=b.map Gl.el) (ha : ∀ g ∈ a,T.sizes g.data≤900000) : Ctr sys 60 [.v (.c (.sl 5 (Gl.rows a))), .v (.c (.sl 5 (Gl.rows b)))] [] (xb true) none []:=by
 have la:=Gl.rows_len a
 have lb:=Gl.rows_len b
 have hl : a.length=b.length:=by simpa using congrArg List.length h
 refine D1 Tryz.func60 J J J J J J ?_;refine A8 (A6 ?_);refine A5 J J J (A9 J gU) ?_;refine B0 ?_;refine A8 ?_;refine A8 (A6 ?_);refine A5 J J J (A7 J gU) ?_;refine E0 J J J J J gU J J ?_ (fun hh=>by simp at hh); intro hlen;refine A5 J J J (A7 J gU) ?_;refine E0 J J J J J gU J J ?_ (fun hh=>by simp at hh); intro hlen;refine A5 J J J (B6 J J gU gU J) ?_;refine B0 ?_;refine B5 (s:=⟨[(0,_,_),(1,_,_),(10,_,_)],[],[],[]⟩) (B3 (⟨U J,U J,U J,O⟩) O O) ?_;refine B8 J (fun hc=>?_) (fun hc=>?_)
 ·try simp only [nn,B4,nq] at hc
  exact absurd (by omega) hc
 ·try simp only [nn,B4,nq] at hc
  refine C0 ?_;refine A8 ?_;refine A8 (A6 ?_);refine A5 J J J (A9 J gU) ?_;refine B0 ?_;refine C4 ?_;refine F5 (ι:=Nat) { t:=[(0,_,_),(1,_,_)],bx:=[],ow:=[] } (fun k=>[(5,true,xi (k : Int))]) (fun k=>[]) (fun k=>k≤a.length) (fun k=>a.length - k) (0) (by simp) (B3 (⟨U J,U J,U J,O⟩) O O) ?_
  intro k hok
  dsimp only [List.cons_append,List.nil_append]
  refine A8 ?_;refine A8 (A6 ?_);refine A5 J J J (A7 J gU) ?_;refine A5 J J J (A7 J gU) ?_;refine E0 J J J J J gU J J ?_ (fun hh=>by simp at hh); intro hlen;refine A5 J J J (B6 J J gU gU J) ?_;refine B0 ?_;refine B8 J (fun hc2=>?_) (fun hc2=>?_)
  ·try simp only [nn,B4,nq] at hc2
   have hlt : k < a.length:=by omega
   have e:=Vi (d:=default) h hlt
   have e1 : (a.getD k default).kind=(b.getD k default).kind:=(by have q:=congrArg Gl.kind e; exact q)
   have e2 : (a.getD k default).role=(b.getD k default).role:=(by have q:=congrArg Gl.role e; exact q)
   have e3 : (a.getD k default).wth=(b.getD k default).wth:=(by have q:=congrArg Gl.wth e; exact q)
   have e4 : (a.getD k default).data=(b.getD k default).data:=(by have q:=congrArg Gl.data e; exact q)
   have z1:=uA4 ha hlt
   have z2 : T.sizes (b.getD k default).data≤900000:=by rw[← e4]; exact z1
   refine C0 ?_;refine A8 ?_;refine C4 ?_;refine A8 ?_;refine awp_drawn' (by kernel_rfl) ?_;refine B9 J J J J (A7 J gU) ?_;refine B9 J J J J (A7 J gU) ?_;refine B9 J J J J (C7 J J gU gU J J J (fun hh=>Gl.rows_at (by first|omega|(simp at hh ⊢; omega)))) ?_;refine B9 J J J J (F4 J gU J J) ?_;refine B9 J J J J (E9 J gU J J J) ?_;refine B9 J J J J (A7 J gU) ?_;refine B9 J J J J (A7 J gU) ?_;refine B9 J J J J (C7 J J gU gU J J J (fun hh=>Gl.rows_at (by first|omega|(simp at hh ⊢; omega)))) ?_;refine B9 J J J J (F4 J gU J J) ?_;refine B9 J J J J (E9 J gU J J J) ?_;refine B9 J J J J (B6 J J gU gU J) ?_;refine B9 J J J J (A7 J gU) ?_;refine B9 J J J J (A7 J gU) ?_;refine B9 J J J J (A7 J gU) ?_;refine B9 J J J J (C7 J J (fun hh=>hh) (fun hh=>hh) J J J (fun hh=>Gl.rows_at (by first|omega|(simp at hh ⊢; omega)))) ?_;refine B9 J J J J (F4 J (fun hh=>hh) J J) ?_;refine B9 J J J J (E9 J (fun hh=>hh) J J J) ?_;refine B9 J J J J (A7 J gU) ?_;refine B9 J J J J (A7 J gU) ?_
   refine B9 J J J J (C7 J J (fun hh=>hh) (fun hh=>hh) J J J (fun hh=>Gl.rows_at (by first|omega|(simp at hh ⊢; omega)))) ?_;refine B9 J J J J (F4 J (fun hh=>hh) J J) ?_;refine B9 J J J J (E9 J (fun hh=>hh) J J J) ?_;refine B9 J J J J (H1 J J (fun hh=>hh) (fun hh=>hh) J) ?_;refine B9 J J J J (D9 J J gU (fun _ hi=>gP J hi)) ?_;refine B9 J J J J (A7 J gU) ?_;refine B9 J J J J (A7 J gU) ?_;refine B9 J J J J (A7 J gU) ?_;refine B9 J J J J (C7 J J (fun hh=>hh) (fun hh=>hh) J J J (fun hh=>Gl.rows_at (by first|omega|(simp at hh ⊢; omega)))) ?_;refine B9 J J J J (F4 J (fun hh=>hh) J J) ?_;refine B9 J J J J (E9 J (fun hh=>hh) J J J) ?_;refine B9 J J J J (A7 J gU) ?_;refine B9 J J J J (A7 J gU) ?_;refine B9 J J J J (C7 J J (fun hh=>hh) (fun hh=>hh) J J J (fun hh=>Gl.rows_at (by first|omega|(simp at hh ⊢; omega)))) ?_;refine B9 J J J J (F4 J (fun hh=>hh) J J) ?_;refine B9 J J J J (E9 J (fun hh=>hh) J J J) ?_;refine B9 J J J J (H1 J J (fun hh=>hh) (fun hh=>hh) J) ?_;refine B9 J J J J (D9 J J gU (fun _ hi=>gP J hi)) ?_
   refine B9 J J J J (A7 J gU) ?_;refine B9 J J J J (A7 J gU) ?_;refine B9 J J J J (A7 J gU) ?_;refine B9 J J J J (C7 J J (fun hh=>hh) (fun hh=>hh) J J J (fun hh=>Gl.rows_at (by first|omega|(simp at hh ⊢; omega)))) ?_;refine B9 J J J J (F4 J (fun hh=>hh) J J) ?_;refine B9 J J J J (E9 J (fun hh=>hh) J J J) ?_;refine B9 J J J J (A7 J gU) ?_;refine B9 J J J J (A7 J gU) ?_;refine B9 J J J J (C7 J J (fun hh=>hh) (fun hh=>hh) J J J (fun hh=>Gl.rows_at (by first|omega|(simp at hh ⊢; omega)))) ?_;refine B9 J J J J (F4 J (fun hh=>hh) J J) ?_;refine B9 J J J J (E9 J (fun hh=>hh) J J J) ?_;refine F3 J J J J J J J gU (fun hh=>gA ((fun hh=>hh) hh) (gA ((fun hh=>hh) hh) (rfl))) (Sw _ _ (by omega) (by omega)) J ?_;refine B9 J J J J (F2 J (fun hh=>hh)) ?_;refine B9 J J J J (D9 J J gU (fun _ hi=>gP J hi)) ?_;refine F8 (by kernel_rfl) ?_;refine B5 (s:=⟨[(0,_,_),(1,_,_),(5,_,_),(67,_,_)],[],[],[]⟩) (B3 (⟨U J,U J,U J,U J,O⟩) O O) ?_;refine B8 J (fun hc3=>?_) (fun hc3=>?_)
   ·exfalso
    simp only [List.getD_eq_getElem?_getD] at e1 e2 e3 e4
    simp [Gl.cells,e1,e2,e3,e4,So] at hc3
   ·refine C0 ?_
    refine A6 ?_;refine A5 J J J (A7 J gU) ?_;refine A5 J J J (D0 J J gU gU J (IntWalk.i64_in _ (by omega))) ?_;refine A5 J J J (A9 J gU) ?_;refine B0 ?_;refine ⟨k + 1,?_,?_,B3 (⟨⟨_,rfl,?_⟩,⟨U J,U J,O⟩⟩) O O⟩
    all_goals (first|rfl|omega)
  ·try simp only [nn,B4,nq] at hc2
   refine E1 ?_
   repeat(first|refine D3 ?_|refine D4 ?_|refine D2 J ?_)
   refine A8 (A6 ?_);refine A5 J J J (A9 J gU) ?_;refine B0 ?_;refine C1 ?_
   repeat(first|refine tR ?_|refine bR ?_)
   refine C5 J ?_ O
   rfl
set_option maxHeartbeats 4000000 in
theorem Od (n m : Nar) (h : n.el=m.el) (hs : ∀ s ∈ n.steps,s.msg.size≤900000) (hg : ∀ g ∈ n.goals,T.sizes g.data≤900000) : Ctr sys 27 [xn n,xn m] [] (xb true) none []:=by
 obtain ⟨e1,e2,e3,e4,e5,e6⟩:=el_inj.1 h
 have l1:=B4 n.roles
 have l2:=B4 m.roles
 have l3:=Fs.rows_len n.fresh
 have l4:=Fs.rows_len m.fresh
 have l5:=Sp.rows_len n.steps
 have l6:=Sp.rows_len m.steps
 have h5 : n.steps.length=m.steps.length:=by simpa using congrArg List.length e5
 have h3 : n.fresh.length=m.fresh.length:=by rw[e3]
 refine D1 Tryz.func27 J J J J J J ?_;refine A8 (A6 ?_);refine C3 J (E2 J J J J) ?_;refine C3 J (E2 J J J J) ?_;refine A5 J J J (A9 J gU) ?_;refine B0 ?_;refine A8 ?_;refine A8 (A6 ?_);refine A5 J J J (B1 J gU J J) ?_;refine A5 J J J (B2 J gU J J J J) ?_;refine A5 J J J (B1 J gU J J) ?_;refine A5 J J J (B2 J gU J J J J) ?_;refine A5 J J J (H1 J J gU gU J) ?_;refine A5 J J J (A7 J gU) ?_;refine A5 J J J (B1 J gU J J) ?_;refine A5 J J J (B2 J (fun hh=>hh) J J J J) ?_;refine A5 J J J (B1 J gU J J) ?_;refine H5 (s:=⟨[(2,_,_),(3,_,_),(12,_,_),(14,_,_),(15,_,_)],[(.l 2,_),(.l 3,_)],[],[]⟩) (B3 (⟨U J,U J,U J,U J,U J,O⟩) (⟨U J,U J,O⟩) O) ?_;refine A5 J J J (B2 J (fun hh=>hh) J J J J) ?_;refine C8 J J J J J J gU (fun hh=>gA ((fun hh=>hh) hh) (gA ((fun hh=>hh) hh) (rfl))) (Ct _ _) J ?_;refine A5 J J J (F2 J (fun hh=>hh)) ?_;refine A5 J J J (D9 J J gU (fun _ hi=>gP J hi)) ?_;refine A5 J J J (A7 J gU) ?_
 refine A5 J J J (B1 J gU J J) ?_;refine A5 J J J (B2 J (fun hh=>hh) J J J J) ?_;refine A5 J J J (B1 J gU J J) ?_;refine A5 J J J (B2 J (fun hh=>hh) J J J J) ?_;refine C8 J J J J J J gU (fun hh=>gA ((fun hh=>hh) hh) (gA ((fun hh=>hh) hh) (rfl))) (Ct _ _) J ?_;refine A5 J J J (F2 J (fun hh=>hh)) ?_;refine A5 J J J (D9 J J gU (fun _ hi=>gP J hi)) ?_;refine H5 (s:=⟨[(2,_,_),(3,_,_),(27,_,_)],[(.l 2,_),(.l 3,_)],[],[]⟩) (B3 (⟨U J,U J,U J,O⟩) (⟨U J,U J,O⟩) O) ?_;refine A5 J J J (A7 J gU) ?_;refine A5 J J J (B1 J gU J J) ?_;refine A5 J J J (B2 J (fun hh=>hh) J J J J) ?_;refine A5 J J J (G7 J (fun hh=>hh) J J) ?_;refine A5 J J J (B1 J gU J J) ?_;refine A5 J J J (B2 J (fun hh=>hh) J J J J) ?_;refine A5 J J J (G7 J (fun hh=>hh) J J) ?_;refine A5 J J J (B6 J J (fun hh=>hh) (fun hh=>hh) J) ?_;refine A5 J J J (D9 J J gU (fun _ hi=>gP J hi)) ?_;refine A5 J J J (A7 J gU) ?_;refine A5 J J J (B1 J gU J J) ?_;refine A5 J J J (B2 J (fun hh=>hh) J J J J) ?_
 refine H5 (s:=⟨[(2,_,_),(3,_,_),(37,_,_),(39,_,_)],[(.l 2,_),(.l 3,_)],[],[]⟩) (B3 (⟨U J,U J,U J,U J,O⟩) (⟨U J,U J,O⟩) O) ?_;refine A5 J J J (G7 J (fun hh=>hh) J J) ?_;refine A5 J J J (B1 J gU J J) ?_;refine A5 J J J (B2 J (fun hh=>hh) J J J J) ?_;refine A5 J J J (G7 J (fun hh=>hh) J J) ?_;refine A5 J J J (B6 J J (fun hh=>hh) (fun hh=>hh) J) ?_;refine A5 J J J (D9 J J gU (fun _ hi=>gP J hi)) ?_;refine B0 ?_;refine B5 (s:=⟨[(2,_,_),(3,_,_),(45,_,_)],[(.l 2,_),(.l 3,_)],[],[]⟩) (B3 (⟨U J,U J,U J,O⟩) (⟨U J,U J,O⟩) O) ?_;refine B8 J (fun hc=>?_) (fun hc=>?_)
 ·exfalso
  simp [uB1,e1,e2,e4,l3,l4,l5,l6,h5,h3] at hc
 ·refine C0 ?_
  refine A8 ?_;refine A8 (A6 ?_);refine A5 J J J (A9 J gU) ?_;refine B0 ?_;refine C4 ?_;refine F5 (ι:=Nat) { t:=[(2,_,_),(3,_,_)],bx:=[(.l 2,_),(.l 3,_)],ow:=[] } (fun k=>[(5,true,xi (k : Int))]) (fun k=>[]) (fun k=>k≤n.fresh.length) (fun k=>n.fresh.length - k) (0) (by simp) (B3 (⟨U J,U J,U J,O⟩) (⟨U J,U J,O⟩) O) ?_
  intro k hoka
  dsimp only [List.cons_append,List.nil_append]
  refine A8 ?_;refine A8 (A6 ?_);refine A5 J J J (A7 J gU) ?_;refine A5 J J J (B1 J gU J J) ?_;refine A5 J J J (B2 J gU J J J J) ?_;refine E0 J J J J J gU J J ?_ (fun hh=>by simp at hh); intro hlen;refine A5 J J J (B6 J J gU gU J) ?_;refine B0 ?_;refine B5 (s:=⟨[(2,_,_),(3,_,_),(5,_,_),(50,_,_)],[(.l 2,_),(.l 3,_)],[],[]⟩) (B3 (⟨U J,U J,U J,U J,O⟩) (⟨U J,U J,O⟩) O) ?_;refine B8 J (fun hc2=>?_) (fun hc2=>?_)
  ·try simp only [nn,B4,nq] at hc2
   refine C0 ?_;refine A8 ?_;refine C4 ?_;refine A8 ?_;refine awp_drawn' (by kernel_rfl) ?_;refine B9 J J J J (B1 J gU J J) ?_;refine L9 J J J J J J J gU J J J J ?_;refine B9 J J J J (A7 J gU) ?_;refine B9 J J J J (C7 J J gU gU J J J (fun hh=>Fs.rows_at (by first|omega|(simp at hh ⊢; omega)))) ?_;refine B9 J J J J (D6 J gU J J J J) ?_;refine B9 J J J J (B1 J gU J J) ?_;refine L9 J J J J J J J gU J J J J ?_;refine B9 J J J J (A7 J gU) ?_;refine B9 J J J J (C7 J J gU gU J J J (fun hh=>Fs.rows_at (by first|omega|(simp at hh ⊢; omega)))) ?_;refine B9 J J J J (D6 J gU J J J J) ?_;refine B9 J J J J (Jt (ks:=[2,2,1]) (.inr ⟨rfl,rfl⟩) J J gU gU Tryz.underlying79 (by kernel_rfl) (by kernel_rfl) (by kernel_rfl) J) ?_;refine F8 (by kernel_rfl) ?_;refine B5 (s:=⟨[(2,_,_),(3,_,_),(5,_,_),(63,_,_)],[(.l 2,_),(.l 3,_)],[],[]⟩) (B3 (⟨U J,U J,U J,U J,O⟩) (⟨U J,U J,O⟩) O) ?_;refine B8 J (fun hc3=>?_) (fun hc3=>?_)
   ·exfalso
    simp [e3] at hc3
   ·refine C0 ?_
    refine A6 ?_;refine A5 J J J (A7 J gU) ?_;refine A5 J J J (D0 J J gU gU J (IntWalk.i64_in _ (by omega))) ?_;refine A5 J J J (A9 J gU) ?_;refine B0 ?_;refine ⟨k + 1,?_,?_,B3 (⟨⟨_,rfl,?_⟩,⟨U J,U J,O⟩⟩) (⟨U J,U J,O⟩) O⟩
    all_goals (first|rfl|omega)
  ·try simp only [nn,B4,nq] at hc2
   refine E1 ?_
   repeat(first|refine D3 ?_|refine D4 ?_|refine D2 J ?_)
   refine A8 ?_;refine A8 (A6 ?_);refine A5 J J J (A9 J gU) ?_;refine B0 ?_;refine C4 ?_;refine F5 (ι:=Nat) { t:=[(2,_,_),(3,_,_)],bx:=[(.l 2,_),(.l 3,_)],ow:=[] } (fun k=>[(6,true,xi (k : Int))]) (fun k=>[]) (fun k=>k≤n.steps.length) (fun k=>n.steps.length - k) (0) (by simp) (B3 (⟨U J,U J,U J,O⟩) (⟨U J,U J,O⟩) O) ?_
   intro k hokb
   dsimp only [List.cons_append,List.nil_append]
   refine A8 ?_;refine A8 (A6 ?_);refine A5 J J J (A7 J gU) ?_;refine A5 J J J (B1 J gU J J) ?_;refine A5 J J J (B2 J gU J J J J) ?_;refine E0 J J J J J gU J J ?_ (fun hh=>by simp at hh); intro hlen;refine A5 J J J (B6 J J gU gU J) ?_;refine B0 ?_;refine B5 (s:=⟨[(2,_,_),(3,_,_),(6,_,_),(68,_,_)],[(.l 2,_),(.l 3,_)],[],[]⟩) (B3 (⟨U J,U J,U J,U J,O⟩) (⟨U J,U J,O⟩) O) ?_;refine B8 J (fun hc4=>?_) (fun hc4=>?_)
   ·try simp only [nn,B4,nq] at hc4
    have hlt : k < n.steps.length:=by omega
    have e:=Vi (d:=default) e5 hlt
    have f1 : (n.steps.getD k default).frm=(m.steps.getD k default).frm:=(by have q:=congrArg Sp.frm e; exact q)
    have f2 : (n.steps.getD k default).dst=(m.steps.getD k default).dst:=(by have q:=congrArg Sp.dst e; exact q)
    have f3 : (n.steps.getD k default).msg=(m.steps.getD k default).msg:=(by have q:=congrArg Sp.msg e; exact q)
    have z1:=uAD hs hlt
    have z2 : (m.steps.getD k default).msg.size≤900000:=by rw[← f3]; exact z1
    refine C0 ?_;refine A8 ?_;refine C4 ?_;refine A8 ?_;refine awp_drawn' (by kernel_rfl) ?_;refine B9 J J J J (B1 J gU J J) ?_;refine L9 J J J J J J J gU J J J J ?_;refine B9 J J J J (A7 J gU) ?_;refine B9 J J J J (C7 J J gU gU J J J (fun hh=>Sp.rows_at (by first|omega|(simp at hh ⊢; omega)))) ?_;refine B9 J J J J (F4 J gU J J) ?_;refine B9 J J J J (E9 J gU J J J) ?_;refine B9 J J J J (B1 J gU J J) ?_;refine L9 J J J J J J J gU J J J J ?_;refine B9 J J J J (A7 J gU) ?_;refine B9 J J J J (C7 J J gU gU J J J (fun hh=>Sp.rows_at (by first|omega|(simp at hh ⊢; omega)))) ?_;refine B9 J J J J (F4 J gU J J) ?_;refine B9 J J J J (E9 J gU J J J) ?_;refine B9 J J J J (H1 J J gU gU J) ?_;refine B9 J J J J (A7 J gU) ?_;refine B9 J J J J (B1 J gU J J) ?_;refine L9 J J J J J J J (fun hh=>hh) J J J J ?_;refine B9 J J J J (A7 J gU) ?_;refine B9 J J J J (C7 J J (fun hh=>hh) (fun hh=>hh) J J J (fun hh=>Sp.rows_at (by first|omega|(simp at hh ⊢; omega)))) ?_
    refine B9 J J J J (F4 J (fun hh=>hh) J J) ?_;refine B9 J J J J (E9 J (fun hh=>hh) J J J) ?_;refine B9 J J J J (B1 J gU J J) ?_;refine L9 J J J J J J J (fun hh=>hh) J J J J ?_;refine B9 J J J J (A7 J gU) ?_;refine B9 J J J J (C7 J J (fun hh=>hh) (fun hh=>hh) J J J (fun hh=>Sp.rows_at (by first|omega|(simp at hh ⊢; omega)))) ?_;refine B9 J J J J (F4 J (fun hh=>hh) J J) ?_;refine B9 J J J J (E9 J (fun hh=>hh) J J J) ?_;refine B9 J J J J (H1 J J (fun hh=>hh) (fun hh=>hh) J) ?_;refine B9 J J J J (D9 J J gU (fun _ hi=>gP J hi)) ?_;refine B9 J J J J (A7 J gU) ?_;refine B9 J J J J (B1 J gU J J) ?_;refine L9 J J J J J J J (fun hh=>hh) J J J J ?_;refine B9 J J J J (A7 J gU) ?_;refine B9 J J J J (C7 J J (fun hh=>hh) (fun hh=>hh) J J J (fun hh=>Sp.rows_at (by first|omega|(simp at hh ⊢; omega)))) ?_;refine B9 J J J J (F4 J (fun hh=>hh) J J) ?_;refine B9 J J J J (D6 J (fun hh=>hh) J J J J) ?_;refine B9 J J J J (B1 J gU J J) ?_;refine L9 J J J J J J J (fun hh=>hh) J J J J ?_
    refine B9 J J J J (A7 J gU) ?_;refine B9 J J J J (C7 J J (fun hh=>hh) (fun hh=>hh) J J J (fun hh=>Sp.rows_at (by first|omega|(simp at hh ⊢; omega)))) ?_;refine B9 J J J J (F4 J (fun hh=>hh) J J) ?_;refine B9 J J J J (D6 J (fun hh=>hh) J J J J) ?_;refine F3 J J J J J J J gU (fun hh=>gA ((fun hh=>hh) hh) (gA ((fun hh=>hh) hh) (rfl))) (Lf _ _ (by omega) (by omega)) J ?_;refine B9 J J J J (F2 J (fun hh=>hh)) ?_;refine B9 J J J J (D9 J J gU (fun _ hi=>gP J hi)) ?_;refine F8 (by kernel_rfl) ?_;refine B5 (s:=⟨[(2,_,_),(3,_,_),(6,_,_),(114,_,_)],[(.l 2,_),(.l 3,_)],[],[]⟩) (B3 (⟨U J,U J,U J,U J,O⟩) (⟨U J,U J,O⟩) O) ?_;refine B8 J (fun hc5=>?_) (fun hc5=>?_)
    ·exfalso
     simp only [List.getD_eq_getElem?_getD] at f1 f2 f3
     simp [Sp.cells,f1,f2,f3,T.cmp_self] at hc5
    ·refine C0 ?_
     refine A6 ?_;refine A5 J J J (A7 J gU) ?_;refine A5 J J J (D0 J J gU gU J (IntWalk.i64_in _ (by omega))) ?_;refine A5 J J J (A9 J gU) ?_;refine B0 ?_;refine ⟨k + 1,?_,?_,B3 (⟨⟨_,rfl,?_⟩,⟨U J,U J,O⟩⟩) (⟨U J,U J,O⟩) O⟩
     all_goals (first|rfl|omega)
   ·try simp only [nn,B4,nq] at hc4
    refine E1 ?_
    repeat(first|refine D3 ?_|refine D4 ?_|refine D2 J ?_)
    refine A8 (A6 ?_);refine A5 J J J (B1 J gU J J) ?_;refine A5 J J J (B2 J gU J J J J) ?_;refine A5 J J J (B1 J gU J J) ?_;refine A5 J J J (B2 J gU J J J J) ?_;refine C8 J J J J J J gU gU (Jk _ _ e6 hg) J ?_;refine A5 J J J (A9 J gU) ?_;refine B0 ?_;refine C1 ?_
    repeat(first|refine tR ?_|refine bR ?_)
    refine C5 J ?_ O
    rfl
end Go.Proofs.YteidahabkfgfjaaGreat
