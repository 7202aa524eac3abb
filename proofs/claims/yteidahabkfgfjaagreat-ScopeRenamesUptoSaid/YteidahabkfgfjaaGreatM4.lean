/- Our abstract program logic and contracts of this seat's functions, part 4: no statement of its own (long names of ours are shortened by a program). -/
import Derived.Test.YteidahabkfgfjaaGreatM3
import Derived.Lib.Join
import Derived.RangeFuncNested
import Derived.RangeFuncLeaves
import Derived.Shelf.Abstract
import Derived.WalkKit
import Derived.OwnWalkIn
import Derived.TacticsInMore
import Derived.LoopNIn
import Derived.LoopIn
import Derived.KernelRfl
set_option linter.unusedVariables false
set_option linter.unusedSimpArgs false
namespace Go.Proofs.YteidahabkfgfjaaGreat
open Go Go.Abs
abbrev xtb (R : List (List UInt8)) (u : Value) : X:=.v (.agg [.sl 1 (strR R), .o u])
theorem V6 (t : T) (w : List UInt8) (k : Int) : Ctr sys 78 [xm t,xs w,xi k] [] (xb (isT t w k)) none []:=by
 have hr:=T.rows_len t.kids
 refine D1 Tryz.func78 J J J J J J ?_;refine A8 (A6 ?_);refine C3 J (D8 J J J J) ?_;refine A5 J J J (A9 J gU) ?_;refine B0 ?_;refine A8 (A6 ?_);refine A5 J J J (B1 J gU J J) ?_;refine A5 J J J (B2 J gU J J J J) ?_;refine A5 J J J (B7 J J gU gU J) ?_;refine A5 J J J (A7 J gU) ?_;refine A5 J J J (B1 J gU J J) ?_;refine A5 J J J (B2 J (fun hh=>hh) J J J J) ?_;refine A5 J J J (A7 J gU) ?_;refine A5 J J J (G0 J J (fun hh=>hh) (fun hh=>hh) J) ?_;refine A5 J J J (E2 J J gU (fun _ hi=>gP J hi)) ?_;refine A5 J J J (A7 J gU) ?_;refine H3 (s:=⟨[(2,_,_),(3,_,_),(16,_,_)],[(.l 3,_)],[],[]⟩) (B4 (⟨U J,U J,U J,O⟩) (⟨U J,O⟩) O) ?_;refine A5 J J J (B1 J gU J J) ?_;refine A5 J J J (B2 J (fun hh=>hh) J J J J) ?_;refine A5 J J J (G8 J (fun hh=>hh) J J) ?_;refine A5 J J J (A7 J gU) ?_;refine A5 J J J (B7 J J (fun hh=>hh) (fun hh=>hh) J) ?_;refine A5 J J J (E2 J J gU (fun _ hi=>gP J hi)) ?_;refine A5 J J J (A9 J gU) ?_
 refine B0 ?_;refine C1 ?_
 repeat(first|refine tR ?_|refine bR ?_)
 refine C5 J ?_ O;refine M3 ?_
 rw[Bool.eq_iff_iff]
 simp [isT,hr,and_assoc]
theorem Ea (R : List (List UInt8)) (u : Value) (t : T) : Ctr sys 81 [xtb R u,xm t] [] (xb (Cj R t)) none []:=by
 refine D1 Tryz.func81 J J J J J J ?_;refine A8 (A6 ?_);refine C3 J (D8 J J J J) ?_;refine C3 J (D8 J J J J) ?_;refine A5 J J J (A9 J gU) ?_;refine B0 ?_;refine A8 (A6 ?_);refine A5 J J J (B1 J gU J J) ?_;refine A5 J J J (B2 J gU J J J J) ?_;refine A5 J J J (B7 J J gU gU J) ?_;refine A5 J J J (A7 J gU) ?_;refine A5 J J J (B1 J gU J J) ?_;refine A5 J J J (B2 J (fun hh=>hh) J J J J) ?_;refine A5 J J J (B1 J gU J J) ?_;refine A5 J J J (B2 J (fun hh=>hh) J J J J) ?_;refine C7 J J J J J J gU (fun hh=>gA ((fun hh=>hh) hh) (gA ((fun hh=>hh) hh) (rfl))) (P0 _ _) J ?_;refine H3 (s:=⟨[(8,_,_),(13,_,_)],[],[],[]⟩) (B4 (⟨U J,U J,O⟩) O O) ?_;refine A5 J J J (E2 J J gU (fun _ hi=>gP J hi)) ?_;refine A5 J J J (A9 J gU) ?_;refine B0 ?_;refine C1 ?_
 repeat(first|refine tR ?_|refine bR ?_)
 refine C5 J ?_ O;refine M3 ?_
 rw[Bool.eq_iff_iff]
 simp [Cj]
theorem Kj (R : List (List UInt8)) (u : Value) (t : T) : Ctr sys 80 [xtb R u,xm t] [] (xb (Ax R t)) none []:=by
 have hr:=T.rows_len t.kids
 refine D1 Tryz.func80 J J J J J J ?_;refine A8 (A6 ?_);refine C3 J (D8 J J J J) ?_;refine C3 J (D8 J J J J) ?_;refine A5 J J J (A9 J gU) ?_;refine B0 ?_;refine A8 ?_;refine awp_drawn' (by kernel_rfl) ?_;refine D7 J J J J J J J gU J J J J J ?_;refine E9 J J J J J J J gU gU (V6 _ _ _) J ?_;refine B5 J J J J (A7 J gU) ?_;refine D7 J J J J J J J gU J J J J J ?_;refine B5 J J J J (B1 J gU J J) ?_;refine G4 J J J J J J J (fun hh=>hh) J J J J ?_;refine B5 J J J J (C2 (j:=0) J J (fun hh=>hh) gU J J (by first|omega|(simp at hh ⊢; omega)|(simp [isT] at hh ⊢; omega)) (fun hh=>T.rows_at (by first|omega|(simp at hh ⊢; omega)|(simp [isT] at hh ⊢; omega)))) ?_;refine B5 J J J J (D4 J (fun hh=>hh) J J J J) ?_;refine E9 J J J J J J J gU (fun hh=>gA ((fun hh=>hh) hh) (gA ((fun hh=>hh) hh) (rfl))) (Ea _ _ _) J ?_;refine B5 J J J J (E2 J J gU (fun _ hi=>gP J hi)) ?_;refine B5 J J J J (A9 J gU) ?_;refine F6 (by kernel_rfl) ?_;refine C1 ?_
 repeat(first|refine tR ?_|refine bR ?_)
 refine C5 J ?_ O
 rfl
theorem Mo (R : List (List UInt8)) (u : Value) (t : T) : Ctr sys 79 [xtb R u,xm t] [] (xb (pubT R t)) none []:=by
 have hr:=T.rows_len t.kids
 refine D1 Tryz.func79 J J J J J J ?_;refine A8 (A6 ?_);refine C3 J (D8 J J J J) ?_;refine C3 J (D8 J J J J) ?_;refine A5 J J J (A9 J gU) ?_;refine B0 ?_;refine A8 ?_;refine awp_drawn' (by kernel_rfl) ?_;refine D7 J J J J J J J gU J J J J J ?_;refine E9 J J J J J J J gU gU (V6 _ _ _) J ?_;refine B5 J J J J (A7 J gU) ?_;refine D7 J J J J J J J gU J J J J J ?_;refine B5 J J J J (B1 J gU J J) ?_;refine G4 J J J J J J J (fun hh=>hh) J J J J ?_;refine B5 J J J J (C2 (j:=0) J J (fun hh=>hh) gU J J (by first|omega|(simp at hh ⊢; omega)|(simp [isT] at hh ⊢; omega)) (fun hh=>T.rows_at (by first|omega|(simp at hh ⊢; omega)|(simp [isT] at hh ⊢; omega)))) ?_;refine B5 J J J J (D4 J (fun hh=>hh) J J J J) ?_;refine E9 J J J J J J J gU (fun hh=>gA ((fun hh=>hh) hh) (gA ((fun hh=>hh) hh) (rfl))) (Kj _ _ _) J ?_;refine B5 J J J J (E2 J J gU (fun _ hi=>gP J hi)) ?_;refine B5 J J J J (A9 J gU) ?_;refine F6 (by kernel_rfl) ?_;refine C1 ?_
 repeat(first|refine tR ?_|refine bR ?_)
 refine C5 J ?_ O
 rfl
theorem Mk (R : List (List UInt8)) (u : Value) (a b : List UInt8) : Ctr sys 40 [xtb R u,xs a,xs b] [] (xi (twoE R a b)) none []:=by
 refine D1 Tryz.func40 J J J J J J ?_;refine A8 (A6 ?_);refine C3 J (D8 J J J J) ?_;refine A5 J J J (A9 J gU) ?_;refine B0 ?_;refine A8 ?_;refine C4 ?_;refine A8 (A6 ?_);refine A5 J J J (B1 J gU J J) ?_;refine A5 J J J (B2 J gU J J J J) ?_;refine A5 J J J (A7 J gU) ?_;refine C7 J J J J J J gU gU (P0 _ _) J ?_;refine A5 J J J (F9 J gU) ?_;refine A5 J J J (A7 J gU) ?_;refine A5 J J J (B1 J gU J J) ?_;refine A5 J J J (B2 J (fun hh=>hh) J J J J) ?_;refine A5 J J J (A7 J gU) ?_;refine C7 J J J J J J gU (fun hh=>gA ((fun hh=>hh) hh) (gA ((fun hh=>hh) hh) (rfl))) (P0 _ _) J ?_;refine H3 (s:=⟨[(1,_,_),(2,_,_),(13,_,_),(17,_,_)],[],[],[]⟩) (B4 (⟨U J,U J,U J,U J,O⟩) O O) ?_;refine A5 J J J (F9 J (fun hh=>hh)) ?_;refine A5 J J J (E5 J J gU (fun _ hi=>gP J hi)) ?_;refine A5 J J J (A9 J gU) ?_;refine B0 ?_;refine B9 J (fun hc=>?_) (fun hc=>?_)
 ·try simp only [nn,B3,nq] at hc
  refine A8 (A6 ?_);refine A5 J J J (A9 J gU) ?_;refine B0 ?_;refine C1 ?_
  repeat(first|refine tR ?_|refine bR ?_)
  refine C5 J ?_ O
  (rw[twoE,if_pos hc]; rfl)
 ·try simp only [nn,B3,nq] at hc
  have h1 : ¬(R.contains a=false∨R.contains b=false):=by simpa using hc
  refine A8 (A6 ?_);refine A5 J J J (A7 J gU) ?_;refine A5 J J J (A7 J gU) ?_;refine A5 J J J (G0 J J gU gU J) ?_;refine A5 J J J (A9 J gU) ?_;refine B0 ?_;refine B6 (s:=⟨[(20,_,_)],[],[],[]⟩) (B4 (⟨U J,O⟩) O O) ?_;refine B9 J (fun hc2=>?_) (fun hc2=>?_)
  ·try simp only [nn,B3,nq] at hc2
   refine A8 (A6 ?_);refine A5 J J J (A9 J gU) ?_;refine B0 ?_;refine C1 ?_
   repeat(first|refine tR ?_|refine bR ?_)
   refine C5 J ?_ O
   (rw[twoE,if_neg h1,if_pos hc2]; rfl)
  ·try simp only [nn,B3,nq] at hc2
   refine C0 ?_;refine A8 (A6 ?_);refine A5 J J J (A9 J gU) ?_;refine B0 ?_;refine C1 ?_
   repeat(first|refine tR ?_|refine bR ?_)
   refine C5 J ?_ O
   (rw[twoE,if_neg h1,if_neg hc2]; rfl)
theorem Cn (n : Nar) : CtrM sys 39 [xn n] (fun b=>xtb n.roles (.map (some b))) (mapL (nmsL n)):=by
 have l1:=B3 n.roles
 have l2:=Fs.rows_len n.fresh
 have l3:=B3 n.tags
 refine Oq Tryz.func39 J J J J J (fun _=>rfl) ?_;refine A8 (A6 ?_);refine C3 J (D8 J J J J) ?_;refine C3 J (D9 J J J) ?_;refine B0 ?_;refine A8 (A6 ?_);refine A5 J J J (B1 J gU J J) ?_;refine A5 J J J (B2 J gU J J J J) ?_;refine Ub J J J J (fun bm12=>?_);refine A5 J J J (G7 J Tryz.underlying63 J gU) ?_;refine C3 J (D9 J J J) ?_;refine C3 J (C8 J J J J J J J) ?_;refine B0 ?_;refine B6 (s:={ t:=[(1,_,_),(2,_,_),(3,_,_)],bx:=[(.l 1,_),(.l 2,_),(.l 3,_)],ow:=[],mp:=_ }) (B4 (⟨U J,U J,U J,O⟩) (⟨U J,U J,U J,O⟩) O (.inr J)) ?_;refine A8 ?_;refine A8 (A6 ?_);refine A5 J J J (B1 J gU J J) ?_;refine A5 J J J (B2 J gU J J J J) ?_;refine E0 J J J J J gU J J ?_ (fun hh=>by simp at hh); intro hlen;refine A5 J J J (A7 J gU) ?_;refine B0 ?_;refine C4 ?_;refine Ix (ι:=Nat) { t:=[(1,_,_),(2,_,_),(3,_,_),(15,_,_),(16,_,_)],bx:=[(.l 1,_),(.l 2,_),(.l 3,_)],ow:=[] } (fun k=>[(17,true,xi (k : Int))]) (fun k=>[]) (fun k=>[(bm12,true,mapL ((n.roles.take k).map fun r=>(r,1)))]) (fun k=>k≤n.roles.length) (fun k=>n.roles.length - k) (0) (by simp) (B4 (⟨U J,U J,U J,U J,U J,U J,O⟩) (⟨U J,U J,U J,O⟩) O (.inr J)) ?_
 intro k hoka
 dsimp only [List.cons_append,List.nil_append]
 refine A8 (A6 ?_);refine A5 J J J (B7 J J gU gU J) ?_;refine B0 ?_;refine A8 ?_;refine B9 J (fun hc=>?_) (fun hc=>?_)
 ·try simp only [nn,B3,nq] at hc
  have hT : mapL ((n.roles.take (k + 1)).map fun r=>(r,1))=mput (mapL ((n.roles.take k).map fun r=>(r,1))) (n.roles.getD k []) (iv 1):=by
   rw[I2 (d:=[]) (by omega),List.map_append,List.map_cons,List.map_nil,Dc]
  refine C0 ?_;refine A8 ?_;refine C4 ?_;refine A8 (A6 ?_);refine A5 J J J (C2 J J gU gU J J J (fun hh=>L5 (by first|omega|(simp at hh ⊢; omega)|(simp [isT] at hh ⊢; omega)))) ?_;refine A5 J J J (E4 J gU J J J) ?_;refine A5 J J J (A9 J gU) ?_;refine B0 ?_;refine A6 ?_;refine A5 J J J (B1 J gU J J) ?_;refine A5 J J J (B2 J gU J J J J) ?_;refine A5 J J J (A7 J gU) ?_;refine C3 J (Y7 J J J J Tryz.underlying61 Tryz.underlying9 (fun _ _ _ h=>by cases h; rfl)) ?_;refine B0 ?_;refine B6 (s:={ t:=[(1,_,_),(2,_,_),(3,_,_),(15,_,_),(16,_,_),(17,_,_)],bx:=[(.l 1,_),(.l 2,_),(.l 3,_)],ow:=[],mp:=_ }) (B4 (⟨U J,U J,U J,U J,U J,U J,O⟩) (⟨U J,U J,U J,O⟩) O (.inr J)) ?_;refine A6 ?_;refine A5 J J J (D0 J J gU gU J (IntWalk.i64_in _ (by omega))) ?_;refine A5 J J J (A7 J gU) ?_;refine B0 ?_;refine ⟨k + 1,?_,?_,B4 (⟨⟨_,rfl,?_⟩,⟨U J,U J,U J,U J,U J,O⟩⟩) (⟨U J,U J,U J,O⟩) O (.inr ?_)⟩
  all_goals (first|rfl|omega|(rw[hT]; done)|(rw[hT]; rfl))
 ·try simp only [nn,B3,nq] at hc
  have hk : k=n.roles.length:=by omega
  subst hk
  rw[List.take_length]
  refine E1 ?_
  repeat(first|refine D5 ?_|refine D6 ?_|refine D2 J ?_)
  refine A8 ?_;refine A8 (A6 ?_);refine A5 J J J (B1 J gU J J) ?_;refine A5 J J J (B2 J gU J J J J) ?_;refine E0 J J J J J gU J J ?_ (fun hh=>by simp at hh); intro hlen;refine A5 J J J (A7 J gU) ?_;refine B0 ?_;refine B6 (s:={ t:=[(1,_,_),(2,_,_),(3,_,_),(26,_,_),(27,_,_),(28,_,_)],bx:=[(.l 1,_),(.l 2,_),(.l 3,_)],ow:=[],mp:=_ }) (B4 (⟨U J,U J,U J,U J,U J,U J,O⟩) (⟨U J,U J,U J,O⟩) O (.inr J)) ?_;refine C4 ?_;refine Ix (ι:=Nat) { t:=[(1,_,_),(2,_,_),(3,_,_),(26,_,_),(27,_,_)],bx:=[(.l 1,_),(.l 2,_),(.l 3,_)],ow:=[] } (fun j=>[(28,true,xi (j : Int))]) (fun j=>[]) (fun j=>[(bm12,true,mapL (n.roles.map (fun r=>(r,1))++(n.fresh.take j).map fun f=>(f.name,f.sort)))]) (fun j=>j≤n.fresh.length) (fun j=>n.fresh.length - j) (0) (by omega) (B4 (⟨U J,U J,U J,U J,U J,U J,O⟩) (⟨U J,U J,U J,O⟩) O (.inr (by (simp <;> rfl)))) ?_
  intro j hokb
  dsimp only [List.cons_append,List.nil_append]
  refine A8 (A6 ?_);refine A5 J J J (B7 J J gU gU J) ?_;refine B0 ?_;refine A8 ?_;refine B9 J (fun hc2=>?_) (fun hc2=>?_)
  ·try simp only [nn,B3,nq] at hc2
   have hT : mapL (n.roles.map (fun r=>(r,1))++(n.fresh.take (j + 1)).map fun f=>(f.name,f.sort))=mput (mapL (n.roles.map (fun r=>(r,1))++(n.fresh.take j).map fun f=>(f.name,f.sort))) (n.fresh.getD j default).name (iv (n.fresh.getD j default).sort):=by
    rw[I2 (d:=default) (by omega),List.map_append,List.map_cons,List.map_nil,← List.append_assoc,Dc]
   refine C0 ?_;refine A8 ?_;refine C4 ?_;refine A8 (A6 ?_);refine A5 J J J (C2 J J gU gU J J J (fun hh=>Fs.rows_at (by first|omega|(simp at hh ⊢; omega)|(simp [isT] at hh ⊢; omega)))) ?_;refine A5 J J J (D4 J gU J J J J) ?_;refine C3 J (D9 J J J) ?_;refine C3 J (C8 J J J J J J J) ?_;refine B0 ?_;refine A6 ?_;refine A5 J J J (B1 J gU J J) ?_;refine A5 J J J (B2 J gU J J J J) ?_;refine A5 J J J (B1 J gU J J) ?_;refine A5 J J J (B2 J gU J J J J) ?_;refine A5 J J J (B1 J gU J J) ?_;refine A5 J J J (B2 J gU J J J J) ?_;refine C3 J (Y7 J J J J Tryz.underlying61 Tryz.underlying9 (fun _ _ _ h=>by cases h; rfl)) ?_;refine B0 ?_;refine B6 (s:={ t:=[(1,_,_),(2,_,_),(3,_,_),(26,_,_),(27,_,_),(28,_,_)],bx:=[(.l 1,_),(.l 2,_),(.l 3,_)],ow:=[],mp:=_ }) (B4 (⟨U J,U J,U J,U J,U J,U J,O⟩) (⟨U J,U J,U J,O⟩) O (.inr J)) ?_;refine A6 ?_;refine A5 J J J (D0 J J gU gU J (IntWalk.i64_in _ (by omega))) ?_;refine A5 J J J (A7 J gU) ?_;refine B0 ?_;refine ⟨j + 1,?_,?_,B4 (⟨⟨_,rfl,?_⟩,⟨U J,U J,U J,U J,U J,O⟩⟩) (⟨U J,U J,U J,O⟩) O (.inr ?_)⟩
   all_goals (first|rfl|omega|(rw[hT]; done)|(rw[hT]; rfl))
  ·try simp only [nn,B3,nq] at hc2
   have hj : j=n.fresh.length:=by omega
   subst hj
   rw[List.take_length]
   refine E1 ?_
   repeat(first|refine D5 ?_|refine D6 ?_|refine D2 J ?_)
   refine A8 ?_;refine A8 (A6 ?_);refine A5 J J J (B1 J gU J J) ?_;refine A5 J J J (B2 J gU J J J J) ?_;refine E0 J J J J J gU J J ?_ (fun hh=>by simp at hh); intro hlen;refine A5 J J J (A7 J gU) ?_;refine B0 ?_;refine B6 (s:={ t:=[(2,_,_),(3,_,_),(40,_,_),(41,_,_),(42,_,_)],bx:=[(.l 2,_),(.l 3,_)],ow:=[],mp:=_ }) (B4 (⟨U J,U J,U J,U J,U J,O⟩) (⟨U J,U J,O⟩) O (.inr J)) ?_;refine C4 ?_;refine Ix (ι:=Nat) { t:=[(2,_,_),(3,_,_),(40,_,_),(41,_,_)],bx:=[(.l 2,_),(.l 3,_)],ow:=[] } (fun i=>[(42,true,xi (i : Int))]) (fun i=>[]) (fun i=>[(bm12,true,mapL (n.roles.map (fun r=>(r,1))++(n.fresh.map (fun f=>(f.name,f.sort))++(n.tags.take i).map fun g=>(g,5))))]) (fun i=>i≤n.tags.length) (fun i=>n.tags.length - i) (0) (by omega) (B4 (⟨U J,U J,U J,U J,U J,O⟩) (⟨U J,U J,O⟩) O (.inr (by (simp <;> rfl)))) ?_
   intro i hokc
   dsimp only [List.cons_append,List.nil_append]
   refine A8 (A6 ?_);refine A5 J J J (B7 J J gU gU J) ?_;refine B0 ?_;refine A8 ?_;refine B9 J (fun hc3=>?_) (fun hc3=>?_)
   ·try simp only [nn,B3,nq] at hc3
    have hT : mapL (n.roles.map (fun r=>(r,1))++(n.fresh.map (fun f=>(f.name,f.sort))++(n.tags.take (i + 1)).map fun g=>(g,5)))=mput (mapL (n.roles.map (fun r=>(r,1))++(n.fresh.map (fun f=>(f.name,f.sort))++(n.tags.take i).map fun g=>(g,5)))) (n.tags.getD i []) (iv 5):=by
     rw[I2 (d:=[]) (by omega),List.map_append,List.map_cons,List.map_nil,← List.append_assoc,← List.append_assoc,← List.append_assoc,Dc]
    refine C0 ?_;refine A8 ?_;refine C4 ?_;refine A8 (A6 ?_);refine A5 J J J (C2 J J gU gU J J J (fun hh=>L5 (by first|omega|(simp at hh ⊢; omega)|(simp [isT] at hh ⊢; omega)))) ?_;refine A5 J J J (E4 J gU J J J) ?_;refine A5 J J J (A9 J gU) ?_;refine B0 ?_;refine A6 ?_;refine A5 J J J (B1 J gU J J) ?_;refine A5 J J J (B2 J gU J J J J) ?_;refine A5 J J J (A7 J gU) ?_;refine C3 J (Y7 J J J J Tryz.underlying61 Tryz.underlying9 (fun _ _ _ h=>by cases h; rfl)) ?_;refine B0 ?_;refine B6 (s:={ t:=[(2,_,_),(3,_,_),(40,_,_),(41,_,_),(42,_,_)],bx:=[(.l 2,_),(.l 3,_)],ow:=[],mp:=_ }) (B4 (⟨U J,U J,U J,U J,U J,O⟩) (⟨U J,U J,O⟩) O (.inr J)) ?_;refine A6 ?_;refine A5 J J J (D0 J J gU gU J (IntWalk.i64_in _ (by omega))) ?_;refine A5 J J J (A7 J gU) ?_;refine B0 ?_;refine ⟨i + 1,?_,?_,B4 (⟨⟨_,rfl,?_⟩,⟨U J,U J,U J,U J,O⟩⟩) (⟨U J,U J,O⟩) O (.inr ?_)⟩
    all_goals (first|rfl|omega|(rw[hT]; done)|(rw[hT]; rfl))
   ·try simp only [nn,B3,nq] at hc3
    have hi : i=n.tags.length:=by omega
    subst hi
    rw[List.take_length]
    refine E1 ?_
    repeat(first|refine D5 ?_|refine D6 ?_|refine D2 J ?_)
    refine A8 (A6 ?_);refine A5 J J J (B8 J gU J J J J J) ?_;refine C3 J (C8 J J J J J J J) ?_;refine B0 ?_;refine C1 ?_
    repeat(first|refine tR ?_|refine bR ?_)
    refine ⟨_,0,rfl,?_⟩
    rfl
theorem O3 {l : List Tk} {p : PS} {c : List UInt8} (h : symQ l p c=true) : p.at' < l.length∧p.bad=false:=by
 simp only [symQ,Bool.and_eq_true,decide_eq_true_eq,Bool.not_eq_true'] at h
 exact ⟨h.1.1.2,h.1.1.1⟩
theorem J8 (l : List Tk) (c : List UInt8) (p : PS) : p.at'≤(F0 l c p).at'∧(p.at'≤l.length→(F0 l c p).at'≤l.length):=by
 unfold F0
 split
 ·rename_i h; have := (O3 h).1; simp only [PS.go]; omega
 ·simp [PS.off]
theorem H0 (l : List Tk) (ws : List (List UInt8)) (p : PS) : p.at'≤(C9 l ws p).2.at'∧(p.at'≤l.length→(C9 l ws p).2.at'≤l.length):=by
 unfold C9
 split
 ·rename_i h
  simp only [namQ,Bool.and_eq_true,decide_eq_true_eq] at h
  have := h.1.1.2
  simp only [PS.go]; omega
 ·simp [PS.off]
theorem Ei {α : Type} {l : List Tk} {f : PS→α × PS} {p : PS} {out : List α} (h : symQ l p [44]=false) : ∀ n,M0 l f n p out=(out,p)
 | 0=>rfl
 | n + 1=>by rw[M0,h]; rfl
theorem Rt {α : Type} {l : List Tk} {f : PS→α × PS} {p : PS} {out : List α} {n : Nat} (h : symQ l p [44]=true) : M0 l f (n + 1) p out=M0 l f n (f p.go).2 (out++[(f p.go).1]):=by rw[M0,if_pos h]
theorem Ov {α : Type} {l : List Tk} {f : PS→α × PS} (hf : ∀ p,p.at'≤(f p).2.at'∧(p.at'≤l.length→(f p).2.at'≤l.length)) : ∀ (n : Nat) (p : PS) (out : List α),p.at'≤(M0 l f n p out).2.at'∧(p.at'≤l.length→(M0 l f n p out).2.at'≤l.length)
 | 0,p,out=>by simp [M0]
 | n + 1,p,out=>by
  rw[M0]
  split
  ·rename_i h
   have h1:=(O3 h).1
   have h2:=hf p.go
   have h3:=Ov hf n (f p.go).2 (out++[(f p.go).1])
   have hg : p.go.at'=p.at' + 1:=rfl
   omega
  ·simp
theorem S7 {α : Type} {l : List Tk} {f : PS→α × PS} (hf : ∀ p,p.at'≤(f p).2.at'∧(p.at'≤l.length→(f p).2.at'≤l.length)) (p : PS) : p.at'≤(H1 l f p).2.at'∧(p.at'≤l.length→(H1 l f p).2.at'≤l.length):=by
 have h1:=hf p
 have h2:=Ov hf (l.length + 1) (f p).2 [(f p).1]
 unfold H1; omega
theorem By (l : List Tk) : ∀ (n : Nat) (p : PS),p.at'≤(J3 l n p).2.at'∧(p.at'≤l.length→(J3 l n p).2.at'≤l.length)
 | 0,p=>by simp [J3]
 | n + 1,p=>by
  have ih:=By l n
  have hg : ∀ q : PS,q.go.at'=q.at' + 1:=fun _=>rfl
  rw[J3]
  split
  ·rename_i h
   have h1:=(O3 h).1
   have h2:=ih p.go
   have h3:=J8 l [44] (J3 l n p.go).2
   have h4:=S7 ih (F0 l [44] (J3 l n p.go).2)
   have h5:=J8 l [62] (H1 l (J3 l n) (F0 l [44] (J3 l n p.go).2)).2
   have := hg p
   dsimp only; omega
  ·have h1:=H0 l [] p
   split
   ·rename_i h
    have h2:=(O3 h).1
    split
    ·rename_i h3
     have h4:=(O3 h3).1
     have := hg (C9 l [] p).2
     have := hg (C9 l [] p).2.go
     dsimp only; omega
    ·have h3:=S7 ih (C9 l [] p).2.go
     have h4:=J8 l [41] (H1 l (J3 l n) (C9 l [] p).2.go).2
     have := hg (C9 l [] p).2
     dsimp only; omega
   ·exact h1
noncomputable def sysO : Pg:={ P:=Tryz.prog,T:=tab,ok:=uAQ,mix:=uAR,gv:=[],old:=true }
theorem up {f : FuncId} {args : List X} {bs bs' : List (List C)} {res : X} {ro : Option Nat} (h : Ctr sys f args bs res ro bs') : Ctr sysO f args bs res ro bs':=h.wk J fun _ hg=>hg
theorem N5 {l : List Tk} {c : List UInt8} {p : PS} (h : p.at'≤l.length) : (F0 l c p).at'≤l.length:=(J8 l c p).2 h
theorem K7 {l : List Tk} {ws : List (List UInt8)} {p : PS} (h : p.at'≤l.length) : (C9 l ws p).2.at'≤l.length:=(H0 l ws p).2 h
theorem le3 {l : List Tk} {x : Nat} (hl : l.length≤2000000) (h : x≤l.length) : x≤3000000:=by omega
end Go.Proofs.YteidahabkfgfjaaGreat
namespace Go.Proofs.YteidahabkfgfjaaGreat
open Go Go.Abs Go.Proofs Go.Shelf
theorem Kl (l : List UInt8) (c : UInt8) : decide (0≤Lib.indexByte l c)=l.contains c:=by
 induction l with
 | nil=>rfl
 | cons b l ih =>
  have hge:=Lib.indexByte_ge l c
  rw[Bool.eq_iff_iff] at ih ⊢
  simp only [decide_eq_true_eq,List.contains_iff_mem,List.mem_cons] at ih ⊢
  by_cases h : b=c
  ·subst h; simp [Lib.indexByte]
  ·have h2 : ¬ c=b:=fun q=>h q.symm
   simp only [Lib.indexByte,beq_iff_eq,h,h2,if_false,false_or]
   rw[← ih]
   split <;> omega
theorem Xt (s : List UInt8) : Ctr sys 76 [xs s,xs [35]] [] (xb (s.contains 35)) none []:=by
 rw[← Kl]
 refine Oj [.string ⟨s.toArray⟩, .string ⟨#[35]⟩] ⟨_,Tryz.func76,by kernel_rfl,by kernel_rfl⟩ (fun w G vs h=>?_) (fun w=>Any.strings_Contains_one uBU ⟨s.toArray⟩ 35 w) (fun w G=>CRep.b _)
 match vs,h with
 | [u,v],⟨h1,h2,_⟩=>rw[XRep.str h1,XRep.str h2]
theorem ps1 {st : St} {a : Pass} (ha : st.box a.n=some a.cs) : ∀ p ∈ [a],st.box p.n=some p.cs:=by
 intro p hp
 rw[List.mem_singleton.1 hp]; exact ha
def nxE (seen : List (List UInt8)) (s : List UInt8) (fr : Bool) : Int:=if s.contains 35=true then 2 else if fr=true∧(s=[101]∨s=[103]) then 1 else if seen.contains s=true then 5 else 0
def nxS (seen : List (List UInt8)) (s : List UInt8) (fr : Bool) : List (List UInt8):=if nxE seen s fr=0 then seen++[s] else seen
theorem Vd (R seen : List (List UInt8)) (x : List UInt8 × Option (List UInt8)) : dclE R seen x=if nxE seen x.1 x.2.isSome≠0 then nxE seen x.1 x.2.isSome else match x.2 with
  | some r=>if R.contains r=true then 0 else 13
  | none=>0:=by
 unfold dclE nxE
 by_cases h1 : x.1.contains 35=true
 ·rw[if_pos h1,if_pos h1,if_pos (by simp)]
 ·rw[if_neg h1,if_neg h1]
  by_cases h2 : x.2.isSome=true∧(x.1=[101]∨x.1=[103])
  ·rw[if_pos h2,if_pos h2,if_pos (by simp)]
  ·rw[if_neg h2,if_neg h2]
   by_cases h3 : seen.contains x.1=true
   ·rw[if_pos h3,if_pos h3,if_pos (by simp)]
   ·rw[if_neg h3,if_neg h3,if_neg (by simp)]
    obtain ⟨a,o⟩:=x
    cases o <;> rfl
theorem Ku (R seen : List (List UInt8)) (s : List UInt8) : dclE R seen (s,none)=nxE seen s false:=by
 rw[Vd]
 split
 ·rfl
 ·rename_i h; exact (Decidable.not_not.1 h).symm
theorem Yj (R seen : List (List UInt8)) (s r : List UInt8) : dclE R seen (s,some r)=if nxE seen s true≠0 then nxE seen s true else if R.contains r=true then 0 else 13:=Vd R seen (s,some r)
theorem Gf (seen : List (List UInt8)) (s : List UInt8) (fr : Bool) (hs : seen.length≤900000) : CtrO sysO 75 [xs s,xb fr, .v (.ptr (.o 0) 0)] [[.sl 1 (strR seen)]] [(0,0,1)] (xi (nxE seen s fr)) [[.sl 1 (strR (nxS seen s fr))]] .box:=by
 have hr:=B3 seen
 refine N8 Tryz.func75 J J J J J J J ?_;refine A8 (A6 ?_);refine A5 J J J (A9 J gU) ?_;refine B0 ?_;refine A8 ?_;refine C4 ?_;refine A8 (A6 ?_);refine A5 J J J (A7 J gU) ?_;refine C7 J J J J J J gU gU (up (Xt _)) J ?_;refine A5 J J J (A9 J gU) ?_;refine B0 ?_;refine B9 J (fun hc=>?_) (fun hc=>?_)
 ·try simp only [nn,B3,nq] at hc
  have h1 : nxE seen s fr=2:=by rw[nxE,if_pos hc]
  have h2 : nxS seen s fr=seen:=by rw[nxS,if_neg (by rw[h1]; simp)]
  rw[h1,h2]
  refine A8 (A6 ?_);refine A5 J J J (A9 J gU) ?_;refine B0 ?_;refine C1 ?_
  repeat(first|refine tR ?_|refine bR ?_)
  refine Af J ?_ (⟨⟨_,rfl,?_⟩,O⟩) (by kernel_rfl)
  all_goals rfl
 ·try simp only [nn,B3,nq] at hc
  have n1 : ¬ s.contains 35=true:=by simpa using hc
  refine A8 (A6 ?_);refine A5 J J J (A7 J gU) ?_;refine A5 J J J (A7 J gU) ?_;refine A5 J J J (A7 J gU) ?_;refine A5 J J J (G0 J J (fun hh=>hh) gU J) ?_;refine A5 J J J (A7 J (fun hh=>hh)) ?_;refine A5 J J J (A7 J gU) ?_;refine A5 J J J (G0 J J (fun hh=>hh) gU J) ?_;refine A5 J J J (E5 J J (fun hh=>hh) (fun hh hi=>gP hh hi)) ?_;refine H3 (s:=⟨[(0,_,_),(2,_,_),(11,_,_),(17,_,_)],[(.o 0,_)],[(.b (.o 0) 0,_)],[]⟩) (B4 (⟨U J,U J,U J,U J,O⟩) (⟨U J,O⟩) (⟨rfl,O⟩)) ?_;refine A5 J J J (E2 J J gU (fun _ hi=>gP J hi)) ?_;refine A5 J J J (A9 J gU) ?_;refine B0 ?_;refine B9 J (fun hc2=>?_) (fun hc2=>?_)
  ·try simp only [nn,B3,nq] at hc2
   have h1 : nxE seen s fr=1:=by rw[nxE,if_neg n1,if_pos hc2]
   have h2 : nxS seen s fr=seen:=by rw[nxS,if_neg (by rw[h1]; simp)]
   rw[h1,h2]
   refine A8 (A6 ?_);refine A5 J J J (A9 J gU) ?_;refine B0 ?_;refine C1 ?_
   repeat(first|refine tR ?_|refine bR ?_)
   refine Af J ?_ (⟨⟨_,rfl,?_⟩,O⟩) (by kernel_rfl)
   all_goals rfl
  ·try simp only [nn,B3,nq] at hc2
   have n2 : ¬ (fr=true∧(s=[101]∨s=[103])):=by
    rintro ⟨q1,q2⟩
    rcases hc2 with z | z
    ·rw[q1] at z; cases z
    ·rcases q2 with q | q
     ·exact z.1 q
     ·exact z.2 q
   refine A8 (A6 ?_);refine A5 J J J (B2 J gU J J J J) ?_;refine A5 J J J (A7 J gU) ?_;refine C7 J J J J J J gU gU (up (P0 _ _)) J ?_;refine A5 J J J (A9 J gU) ?_;refine B0 ?_;refine B6 (s:=⟨[(0,_,_),(2,_,_),(19,_,_)],[(.o 0,_)],[(.b (.o 0) 0,_)],[]⟩) (B4 (⟨U J,U J,U J,O⟩) (⟨U J,O⟩) (⟨rfl,O⟩)) ?_;refine B9 J (fun hc3=>?_) (fun hc3=>?_)
   ·try simp only [nn,B3,nq] at hc3
    have h1 : nxE seen s fr=5:=by rw[nxE,if_neg n1,if_neg n2,if_pos hc3]
    have h2 : nxS seen s fr=seen:=by rw[nxS,if_neg (by rw[h1]; simp)]
    rw[h1,h2]
    refine A8 (A6 ?_);refine A5 J J J (A9 J gU) ?_;refine B0 ?_;refine C1 ?_
    repeat(first|refine tR ?_|refine bR ?_)
    refine Af J ?_ (⟨⟨_,rfl,?_⟩,O⟩) (by kernel_rfl)
    all_goals rfl
   ·try simp only [nn,B3,nq] at hc3
    have h1 : nxE seen s fr=0:=by rw[nxE,if_neg n1,if_neg n2,if_neg (by rw[hc3]; simp)]
    have h2 : nxS seen s fr=seen++[s]:=by rw[nxS,if_pos h1]
    rw[h1,h2]
    refine C0 ?_;refine A8 (A6 ?_);refine C3 J (J0 J J J J J J J) ?_;refine A5 J J J (A7 J gU) ?_;refine E6 (xs:=[_]) J J J J J J J J J gU J ?_;refine C3 J (F8 J J J J J J J (by first|omega|(simp only [List.length_append,List.length_singleton,B3]; omega)) (by first|omega|(simp only [List.length_append,List.length_singleton,B3]; omega))) ?_;refine C3 J (I4 J J J J J J J) ?_;refine B0 ?_;refine A8 (A6 ?_);refine A5 J J J (A9 J gU) ?_;refine B0 ?_;refine C1 ?_
    repeat(first|refine tR ?_|refine bR ?_)
    refine Af J ?_ (⟨⟨_,rfl,?_⟩,O⟩) (by kernel_rfl)
    all_goals first|rfl|(rw[Cg]; rfl)
theorem Hv {R seen : List (List UInt8)} {D : List (List UInt8 × Option (List UInt8))} {j : Nat} {x : List UInt8 × Option (List UInt8)} (hx : D[j]? = some x) (h : dclE R seen x=0) : decA R seen (D.drop j)=decA R (seen++[x.1]) (D.drop (j + 1)):=by
 obtain ⟨hj,he⟩:=List.getElem?_eq_some_iff.1 hx
 rw[List.drop_eq_getElem_cons hj,decA,he,if_neg (by simp [h])]
theorem W5 {R seen : List (List UInt8)} {D : List (List UInt8 × Option (List UInt8))} {j : Nat} {x : List UInt8 × Option (List UInt8)} (hx : D[j]? = some x) (h : dclE R seen x≠0) : decA R seen (D.drop j)=dclE R seen x:=by
 obtain ⟨hj,he⟩:=List.getElem?_eq_some_iff.1 hx
 rw[List.drop_eq_getElem_cons hj,decA,he,if_pos h]
theorem Rs {n : Nar} {k : Nat} (h : k < n.roles.length) : (dclL n)[k]? = some (n.roles.getD k [],none):=by
 rw[dclL,List.getElem?_append_left (by simpa using h),List.getElem?_map,List.getD_eq_getElem?_getD,List.getElem?_eq_getElem h]; rfl
theorem Lu {n : Nar} {k : Nat} (h : k < n.fresh.length) : (dclL n)[n.roles.length + k]? = some ((n.fresh.getD k default).name,some (n.fresh.getD k default).role):=by
 rw[dclL,List.getElem?_append_right (by simp),List.getElem?_append_left (by simp; omega),List.getElem?_map,List.getD_eq_getElem?_getD,List.length_map,Nat.add_sub_cancel_left,List.getElem?_eq_getElem h]; rfl
theorem Wj {n : Nar} {k : Nat} (h : k < n.tags.length) : (dclL n)[n.roles.length + (n.fresh.length + k)]? = some (n.tags.getD k [],none):=by
 rw[dclL,List.getElem?_append_right (by simp),List.getElem?_append_right (by simp),List.getElem?_map,List.getD_eq_getElem?_getD,List.length_map,Nat.add_sub_cancel_left,List.length_map,Nat.add_sub_cancel_left,List.getElem?_eq_getElem h]; rfl
theorem uBK (n : Nar) : (dclL n).length=n.roles.length + (n.fresh.length + n.tags.length):=by simp [dclL]
theorem Nk {seen : List (List UInt8)} {s : List UInt8} {fr : Bool} (h : nxE seen s fr=0) : nxS seen s fr=seen++[s]:=by rw[nxS,if_pos h]
set_option maxHeartbeats 4000000 in
theorem Jn (n : Nar) (h1 : n.roles.length≤100000) (h2 : n.fresh.length≤100000) (h3 : n.tags.length≤100000) : Ctr sysO 38 [xn n] [] (xi (decE n)) none []:=by
 have l1:=B3 n.roles
 have l2:=Fs.rows_len n.fresh
 have l3:=B3 n.tags
 refine D1 Tryz.func38 J J J J J J ?_;refine A8 (A6 ?_);refine C3 J (D8 J J J J) ?_;refine A5 J J J (A9 J gU) ?_;refine B0 ?_;refine A8 (A6 ?_);refine C3 J (Gp J J J J) ?_;refine B0 ?_;refine A8 (A6 ?_);refine A5 J J J (V1 (ys:=[.ptr (.l 3) 0]) J) ?_;refine A5 J J J (A9 J gU) ?_;refine B0 ?_;refine B6 (s:=⟨[(1,_,_),(4,_,_)],[(.l 1,_),(.l 3,_)],[],[]⟩) (B4 (⟨U J,U J,O⟩) (⟨U J,U J,O⟩) O) ?_;refine A8 ?_;refine A8 (A6 ?_);refine A5 J J J (B1 J gU J J) ?_;refine A5 J J J (B2 J gU J J J J) ?_;refine E0 J J J J J gU J J ?_ (fun hh=>by simp at hh); intro hlen;refine A5 J J J (A7 J gU) ?_;refine B0 ?_;refine C4 ?_;refine U9 (.l 3) 0 1 J J J ?_;refine F2 (ι:=Nat) { t:=[(1,_,_),(4,_,_),(16,_,_),(17,_,_)],bx:=[(.l 1,_)],ow:=[(.b (.l 3) 0,_)] } (fun k=>[(18,true,xi (k : Int))]) (fun k=>[((.l 3),[.sl 1 (strR (n.roles.take k))])]) (fun k=>k≤n.roles.length∧decA n.roles (n.roles.take k) ((dclL n).drop k)=decE n) (fun k=>n.roles.length - k) (0) (⟨by omega,by simp [decE]⟩) (B4 (⟨U J,U J,U J,U J,U J,O⟩) (⟨U J,U J,O⟩) (⟨rfl,O⟩)) ?_
 intro k hoka
 dsimp only [List.cons_append,List.nil_append]
 obtain ⟨hk,hi⟩:=hoka
 have lt:=List.length_take_le k n.roles
 refine A8 (A6 ?_);refine A5 J J J (B7 J J gU gU J) ?_;refine B0 ?_;refine A8 ?_;refine B9 J (fun hc=>?_) (fun hc=>?_)
 ·try simp only [nn,B3,nq] at hc
  have hlt : k < n.roles.length:=by omega
  have hx:=Rs hlt
  have hd:=Ku n.roles (n.roles.take k) (n.roles.getD k [])
  have hT:=I2 (l:=n.roles) (d:=[]) hlt
  refine C0 ?_;refine A8 ?_;refine C4 ?_;refine A8 (A6 ?_);refine A5 J J J (C2 J J gU gU J J J (fun hh=>L5 (by first|omega|(simp at hh ⊢; omega)))) ?_;refine A5 J J J (E4 J gU J J J) ?_;refine A5 J J J (A9 J gU) ?_;refine B0 ?_;refine A8 (A6 ?_);refine A5 J J J (A7 J gU) ?_;refine A5 J J J (A7 J gU) ?_;refine Ez [⟨.l 3,0,[.sl 1 (strR (n.roles.take k))],[.sl 1 (strR (nxS (n.roles.take k) (n.roles.getD k []) false))]⟩] [(0,0,1)] J J J J J J (ps1 J) J J (Gf _ _ _ (by omega)) J J J ?_;refine A5 J J J (A9 J gU) ?_;refine B0 ?_;refine B6 (s:=⟨[(1,_,_),(4,_,_),(7,_,_),(16,_,_),(17,_,_),(18,_,_)],[(.l 1,_),(.l 3,_)],[(.b (.l 3) 0,_)],[]⟩) (B4 (⟨U J,U J,U J,U J,U J,U J,O⟩) (⟨U J,U J,O⟩) (⟨rfl,O⟩)) ?_;refine A8 (A6 ?_);refine A5 J J J (A7 J gU) ?_;refine A5 J J J (B7 J J gU gU J) ?_;refine B0 ?_;refine B9 J (fun hc2=>?_) (fun hc2=>?_)
  ·try simp only [nn,B3,nq] at hc2
   have he:=W5 hx (by rw[hd]; exact hc2)
   rw[hi,hd] at he
   refine A8 (A6 ?_);refine A5 J J J (A7 J gU) ?_;refine A5 J J J (A9 J gU) ?_;refine B0 ?_;refine C1 ?_
   repeat(first|refine tR ?_|refine bR ?_)
   refine C5 J ?_ O
   (rw[he]; rfl)
  ·try simp only [nn,B3,nq] at hc2
   have he:=Hv hx (hd.trans hc2)
   rw[hi] at he
   have hS:=Nk hc2
   refine C0 ?_;refine A6 ?_;refine A5 J J J (D0 J J gU gU J (IntWalk.i64_in _ (by omega))) ?_;refine A5 J J J (A7 J gU) ?_;refine B0 ?_;refine ⟨k + 1,?_,?_,B4 (⟨⟨_,rfl,?_⟩,⟨U J,U J,U J,U J,O⟩⟩) (⟨⟨_,rfl,?_⟩,⟨U J,O⟩⟩) (⟨rfl,O⟩)⟩
   all_goals (first|rfl|omega|(rw[hS,hT]; rfl)|(rw[hT]; exact ⟨by omega,he.symm⟩))
 ·try simp only [nn,B3,nq] at hc
  have hke : k=n.roles.length:=by omega
  subst hke
  rw[List.take_length] at hi lt ⊢
  refine E1 ?_
  repeat(first|refine D5 ?_|refine D6 ?_|refine D2 J ?_)
  refine A8 ?_;refine A8 (A6 ?_);refine A5 J J J (B1 J gU J J) ?_;refine A5 J J J (B2 J gU J J J J) ?_;refine E0 J J J J J gU J J ?_ (fun hh=>by simp at hh); intro hlen;refine A5 J J J (A7 J gU) ?_;refine B0 ?_;refine B6 (s:=⟨[(1,_,_),(4,_,_),(30,_,_),(31,_,_),(32,_,_)],[(.l 1,_),(.l 3,_)],[(.b (.l 3) 0,_)],[]⟩) (B4 (⟨U J,U J,U J,U J,U J,O⟩) (⟨U J,U J,O⟩) (⟨rfl,O⟩)) ?_;refine C4 ?_;refine F2 (ι:=Nat) { t:=[(1,_,_),(4,_,_),(30,_,_),(31,_,_)],bx:=[(.l 1,_)],ow:=[(.b (.l 3) 0,_)] } (fun j=>[(32,true,xi (j : Int))]) (fun j=>[((.l 3),[.sl 1 (strR (n.roles++(n.fresh.take j).map Fs.name))])]) (fun j=>j≤n.fresh.length∧decA n.roles (n.roles++(n.fresh.take j).map Fs.name) ((dclL n).drop (n.roles.length + j))=decE n) (fun j=>n.fresh.length - j) (0) (⟨by omega,by simpa using hi⟩) (B4 (⟨U J,U J,U J,U J,U J,O⟩) (⟨⟨_,rfl,by simp⟩,⟨U J,O⟩⟩) (⟨rfl,O⟩)) ?_
  intro j hokb
  dsimp only [List.cons_append,List.nil_append]
  obtain ⟨hj,hi2⟩:=hokb
  have lt2:=List.length_take_le j n.fresh
  refine A8 (A6 ?_);refine A5 J J J (B7 J J gU gU J) ?_;refine B0 ?_;refine A8 ?_;refine B9 J (fun hc3=>?_) (fun hc3=>?_)
  ·try simp only [nn,B3,nq] at hc3
   have hlt : j < n.fresh.length:=by omega
   have hx:=Lu hlt
   have hd:=Yj n.roles (n.roles++(n.fresh.take j).map Fs.name) (n.fresh.getD j default).name (n.fresh.getD j default).role
   have hT:=I2 (l:=n.fresh) (d:=default) hlt
   refine C0 ?_;refine A8 ?_;refine C4 ?_;refine A8 (A6 ?_);refine A5 J J J (C2 J J gU gU J J J (fun hh=>Fs.rows_at (by first|omega|(simp at hh ⊢; omega)))) ?_;refine A5 J J J (D4 J gU J J J J) ?_;refine C3 J (D9 J J J) ?_;refine C3 J (C8 J J J J J J J) ?_;refine B0 ?_;refine A8 ?_;refine A8 (A6 ?_);refine A5 J J J (A7 J gU) ?_;refine A5 J J J (B1 J gU J J) ?_;refine A5 J J J (B2 J gU J J J J) ?_;refine Ez [⟨.l 3,0,[.sl 1 (strR (n.roles++(n.fresh.take j).map Fs.name))],[.sl 1 (strR (nxS (n.roles++(n.fresh.take j).map Fs.name) (n.fresh.getD j default).name true))]⟩] [(0,0,1)] J J J J J J (ps1 J) J J (Gf _ _ _ (by simp only [List.length_append,List.length_map]; omega)) J J J ?_;refine A5 J J J (A9 J gU) ?_;refine B0 ?_;refine B6 (s:=⟨[(1,_,_),(4,_,_),(9,_,_),(10,_,_),(30,_,_),(31,_,_),(32,_,_)],[(.l 1,_),(.l 3,_),(.l 9,_)],[(.b (.l 3) 0,_)],[]⟩) (B4 (⟨U J,U J,U J,U J,U J,U J,U J,O⟩) (⟨U J,U J,U J,O⟩) (⟨rfl,O⟩)) ?_;refine A8 (A6 ?_);refine A5 J J J (A7 J gU) ?_;refine A5 J J J (B7 J J gU gU J) ?_
   refine B0 ?_;refine B9 J (fun hc4=>?_) (fun hc4=>?_)
   ·try simp only [nn,B3,nq] at hc4
    rw[if_pos hc4] at hd
    have he:=W5 hx (by rw[hd]; exact hc4)
    rw[hi2,hd] at he
    refine A8 (A6 ?_);refine A5 J J J (A7 J gU) ?_;refine A5 J J J (A9 J gU) ?_;refine B0 ?_;refine C1 ?_
    repeat(first|refine tR ?_|refine bR ?_)
    refine C5 J ?_ O
    (rw[he]; rfl)
   ·try simp only [nn,B3,nq] at hc4
    rw[if_neg (by simpa using hc4)] at hd
    have hS:=Nk hc4
    refine C0 ?_;refine A8 (A6 ?_);refine A5 J J J (B1 J gU J J) ?_;refine A5 J J J (B2 J gU J J J J) ?_;refine A5 J J J (B1 J gU J J) ?_;refine A5 J J J (B2 J gU J J J J) ?_;refine C7 J J J J J J gU gU (up (P0 _ _)) J ?_;refine A5 J J J (F9 J gU) ?_;refine B0 ?_;refine B6 (s:=⟨[(1,_,_),(4,_,_),(30,_,_),(31,_,_),(32,_,_),(48,_,_)],[(.l 1,_),(.l 3,_)],[(.b (.l 3) 0,_)],[]⟩) (B4 (⟨U J,U J,U J,U J,U J,U J,O⟩) (⟨U J,U J,O⟩) (⟨rfl,O⟩)) ?_;refine B9 J (fun hc5=>?_) (fun hc5=>?_)
    ·try simp only [nn,B3,nq] at hc5
     have hd : dclE n.roles (n.roles++(n.fresh.take j).map Fs.name) ((n.fresh.getD j default).name,some (n.fresh.getD j default).role)=13:=by rw[hd]; exact if_neg (by rw[hc5]; simp)
     have he:=W5 hx (by rw[hd]; simp)
     rw[hi2,hd] at he
     refine A8 (A6 ?_);refine A5 J J J (A9 J gU) ?_;refine B0 ?_;refine C1 ?_
     repeat(first|refine tR ?_|refine bR ?_)
     refine C5 J ?_ O
     (rw[he]; rfl)
    ·try simp only [nn,B3,nq] at hc5
     have hd : dclE n.roles (n.roles++(n.fresh.take j).map Fs.name) ((n.fresh.getD j default).name,some (n.fresh.getD j default).role)=0:=by rw[hd]; exact if_pos hc5
     have he:=Hv hx hd
     rw[hi2] at he
     refine C0 ?_;refine A6 ?_;refine A5 J J J (D0 J J gU gU J (IntWalk.i64_in _ (by omega))) ?_;refine A5 J J J (A7 J gU) ?_;refine B0 ?_;refine ⟨j + 1,?_,?_,B4 (⟨⟨_,rfl,?_⟩,⟨U J,U J,U J,U J,O⟩⟩) (⟨⟨_,rfl,?_⟩,⟨U J,O⟩⟩) (⟨rfl,O⟩)⟩
     all_goals (first|rfl|omega|(rw[hS,hT]; simp <;> rfl)|(rw[hT]; exact ⟨by omega,by rw[he]; simp [Nat.add_assoc]⟩))
  ·try simp only [nn,B3,nq] at hc3
   have hje : j=n.fresh.length:=by omega
   subst hje
   rw[List.take_length] at hi2 lt2 ⊢
   refine E1 ?_
   repeat(first|refine D5 ?_|refine D6 ?_|refine D2 J ?_)
   refine A8 ?_;refine A8 (A6 ?_);refine A5 J J J (B1 J gU J J) ?_;refine A5 J J J (B2 J gU J J J J) ?_;refine E0 J J J J J gU J J ?_ (fun hh=>by simp at hh); intro hlen;refine A5 J J J (A7 J gU) ?_;refine B0 ?_;refine B6 (s:=⟨[(4,_,_),(51,_,_),(52,_,_),(53,_,_)],[(.l 3,_)],[(.b (.l 3) 0,_)],[]⟩) (B4 (⟨U J,U J,U J,U J,O⟩) (⟨U J,O⟩) (⟨rfl,O⟩)) ?_;refine C4 ?_;refine F2 (ι:=Nat) { t:=[(4,_,_),(51,_,_),(52,_,_)],bx:=[],ow:=[(.b (.l 3) 0,_)] } (fun i=>[(53,true,xi (i : Int))]) (fun i=>[((.l 3),[.sl 1 (strR (n.roles++(n.fresh.map Fs.name++n.tags.take i)))])]) (fun i=>i≤n.tags.length∧decA n.roles (n.roles++(n.fresh.map Fs.name++n.tags.take i)) ((dclL n).drop (n.roles.length + (n.fresh.length + i)))=decE n) (fun i=>n.tags.length - i) (0) (⟨by omega,by simpa using hi2⟩) (B4 (⟨U J,U J,U J,U J,O⟩) (⟨⟨_,rfl,by simp⟩,O⟩) (⟨rfl,O⟩)) ?_
   intro i hokc
   dsimp only [List.cons_append,List.nil_append]
   obtain ⟨hii,hi3⟩:=hokc
   have lt3:=List.length_take_le i n.tags
   refine A8 (A6 ?_);refine A5 J J J (B7 J J gU gU J) ?_;refine B0 ?_;refine A8 ?_;refine B9 J (fun hc6=>?_) (fun hc6=>?_)
   ·try simp only [nn,B3,nq] at hc6
    have hlt : i < n.tags.length:=by omega
    have hx:=Wj hlt
    have hd:=Ku n.roles (n.roles++(n.fresh.map Fs.name++n.tags.take i)) (n.tags.getD i [])
    have hT:=I2 (l:=n.tags) (d:=[]) hlt
    refine C0 ?_;refine A8 ?_;refine C4 ?_;refine A8 (A6 ?_);refine A5 J J J (C2 J J gU gU J J J (fun hh=>L5 (by first|omega|(simp at hh ⊢; omega)))) ?_;refine A5 J J J (E4 J gU J J J) ?_;refine A5 J J J (A9 J gU) ?_;refine B0 ?_;refine A8 (A6 ?_);refine A5 J J J (A7 J gU) ?_;refine A5 J J J (A7 J gU) ?_;refine Ez [⟨.l 3,0,[.sl 1 (strR (n.roles++(n.fresh.map Fs.name++n.tags.take i)))],[.sl 1 (strR (nxS (n.roles++(n.fresh.map Fs.name++n.tags.take i)) (n.tags.getD i []) false))]⟩] [(0,0,1)] J J J J J J (ps1 J) J J (Gf _ _ _ (by simp only [List.length_append,List.length_map]; omega)) J J J ?_;refine A5 J J J (A9 J gU) ?_;refine B0 ?_;refine B6 (s:=⟨[(4,_,_),(13,_,_),(51,_,_),(52,_,_),(53,_,_)],[(.l 3,_)],[(.b (.l 3) 0,_)],[]⟩) (B4 (⟨U J,U J,U J,U J,U J,O⟩) (⟨U J,O⟩) (⟨rfl,O⟩)) ?_;refine A8 (A6 ?_);refine A5 J J J (A7 J gU) ?_;refine A5 J J J (B7 J J gU gU J) ?_;refine B0 ?_;refine B9 J (fun hc7=>?_) (fun hc7=>?_)
    ·try simp only [nn,B3,nq] at hc7
     have he:=W5 hx (by rw[hd]; exact hc7)
     rw[hi3,hd] at he
     refine A8 (A6 ?_);refine A5 J J J (A7 J gU) ?_;refine A5 J J J (A9 J gU) ?_;refine B0 ?_;refine C1 ?_
     repeat(first|refine tR ?_|refine bR ?_)
     refine C5 J ?_ O
     (rw[he]; rfl)
    ·try simp only [nn,B3,nq] at hc7
     have he:=Hv hx (hd.trans hc7)
     rw[hi3] at he
     have hS:=Nk hc7
     refine C0 ?_;refine A6 ?_;refine A5 J J J (D0 J J gU gU J (IntWalk.i64_in _ (by omega))) ?_;refine A5 J J J (A7 J gU) ?_;refine B0 ?_;refine ⟨i + 1,?_,?_,B4 (⟨⟨_,rfl,?_⟩,⟨U J,U J,U J,O⟩⟩) (⟨⟨_,rfl,?_⟩,O⟩) (⟨rfl,O⟩)⟩
     all_goals (first|rfl|omega|(rw[hS,hT]; simp <;> rfl)|(rw[hT]; exact ⟨by omega,by rw[he]; simp [Nat.add_assoc]⟩))
   ·try simp only [nn,B3,nq] at hc6
    have hie : i=n.tags.length:=by omega
    subst hie
    rw[List.drop_of_length_le (by rw[uBK]; omega)] at hi3
    refine E1 ?_
    repeat(first|refine D5 ?_|refine D6 ?_|refine D2 J ?_)
    refine A8 (A6 ?_);refine A5 J J J (A9 J gU) ?_;refine B0 ?_;refine C1 ?_
    repeat(first|refine tR ?_|refine bR ?_)
    refine C5 J ?_ O
    (rw[← hi3]; rfl)
theorem Kp (n : Nar) (h1 : n.roles.length≤100000) (h2 : n.fresh.length≤100000) (h3 : n.tags.length≤100000) : Ctr sys 38 [xn n] [] (xi (decE n)) none []:=(Jn n h1 h2 h3).wk J fun _ h=>h
end Go.Proofs.YteidahabkfgfjaaGreat
namespace Go.Proofs.YteidahabkfgfjaaGreat
open Go Go.Abs
def mapI (l : List (List UInt8 × Int)) (k : List UInt8) : Int:=((l.reverse.find? fun x=>decide (x.1=k)).map (·.2)).getD 0
theorem Xo (l : List (List UInt8 × Int)) (k : List UInt8) : mval (mapL l) k (.int .i64 0)=iv (mapI l k):=by
 rw[mval,Ot,mapI]
 cases l.reverse.find? fun x=>decide (x.1=k) <;> rfl
theorem Hn {w : World} {S : Nat→Nat→Prop} (l : List (List UInt8 × Int)) (k : List UInt8) : CRep w S (.i .i64 (mapI l k)) (mval (mapL l) k (.int .i64 0)):=by
 rw[Xo]; exact CRep.i _ _
def lkN (R : List (List UInt8)) (t : T) : List T:=t.kids.take ((J2 R t).getD 0)
theorem Vb {R : List (List UInt8)} {t : T} {k : Nat} (h : J2 R t=some k) (hl : t.kids.length≤k) : xl t.kids=xl (lkN R t):=by
 rw[lkN,h,Option.getD_some,List.take_of_length_le hl]
theorem Zp {R : List (List UInt8)} {t : T} (h : J2 R t=some 1) : X.v (.c (.sl 4 ((T.rows t.kids).take 1)))=xl (lkN R t):=by
 rw[lkN,h,Option.getD_some,xl,T.rows_eq,T.rows_eq,List.map_take]
theorem uAZ {R : List (List UInt8)} {t : T} (h : J2 R t=some 0) : X.v (.c (.sl 4 []))=xl (lkN R t):=by
 rw[lkN,h]; rfl
theorem uB3 {R : List (List UInt8)} {t x : T} (h : x ∈ lkN R t) : x.size < t.size:=M8 (List.mem_of_mem_take h)
theorem Zv {R K : List (List UInt8)} {t : T} (h : t.kind=3) (hk : J2 R t≠none) : O8 R K t=errs (O8 R K) (lkN R t):=by
 rw[T4,if_neg (by omega)]
 cases hl : J2 R t with
 | none=>exact absurd hl hk
 | some k=>rw[lkN,hl]; rfl
theorem Aq {α : Type} {f : α→Int} {d : α} {l : List α} {k : Nat} (hk : k < l.length) (h : ∀ j,j < k→f (l.getD j d)=0) (hx : f (l.getD k d)≠0) : errs f l=f (l.getD k d):=by
 induction l generalizing k with
 | nil=>simp at hk
 | cons x r ih =>
  cases k with
  | zero=>rw[errs,if_pos (by simpa using hx)]; rfl
  | succ k =>
   have h0:=h 0 (by omega)
   rw[errs,if_neg (by simpa using h0),ih (k:=k) (by simpa using hk) (fun j hj=>by simpa using h (j + 1) (by omega)) (by simpa using hx)]
   rfl
theorem X9 {α : Type} {f : α→Int} {d : α} {l : List α} (h : ∀ j,j < l.length→f (l.getD j d)=0) : errs f l=0:=by
 refine errs_zero.2 fun x hx=>?_
 obtain ⟨j,hj,rfl⟩:=List.mem_iff_getElem.1 hx
 have := h j hj
 rwa [List.getD_eq_getElem?_getD,List.getElem?_eq_getElem hj] at this
theorem K8 {α : Type} {l : List α} {k : Nat} {d : α} (h : k < l.length) : l.getD k d ∈ l:=by
 rw[List.getD_eq_getElem?_getD,List.getElem?_eq_getElem h]; exact List.getElem_mem _
theorem R0 {α : Type} {f : α→Int} {l : List α} {d : α} {k : Nat} (hi : ∀ j,j < k→f (l.getD j d)=0) (h : f (l.getD k d)=0) : ∀ j,j < k + 1→f (l.getD j d)=0:=by
 intro j hj
 by_cases e : j=k
 ·subst e; exact h
 ·exact hi j (by omega)
def stT (R : List (List UInt8)) (u : Value) (kk : List T) : St:={ t:=[(2,true, .v (.ptr (.l 2) 0)),(7,true,xl kk)],bx:=[(.l 2,[.sl 1 (strR R), .o u])],ow:=[] }
set_option maxHeartbeats 4000000 in
theorem Eg (R : List (List UInt8)) (l : List (List UInt8 × Int)) (b : Nat) : ∀ (n : Nat) (t : T),t.size≤n→n≤900000→Ctr (sys.add b (mapL l)) 41 [xtb R (.map (some b)),xm t] [] (xi (O8 R (l.map (·.1)) t)) none []:=by
 intro n
 induction n with
 | zero=>intro t h; have := t.size_pos; omega
 | succ n ih =>
  intro t ht hn
  have hr:=T.rows_len t.kids
  have hls:=T.len_sizes t.kids
  have hse:=t.size_eq
  refine D1 Tryz.func41 J J J J J J ?_;refine A8 (A6 ?_);refine C3 J (D8 J J J J) ?_;refine C3 J (D8 J J J J) ?_;refine A5 J J J (A9 J gU) ?_;refine B0 ?_;refine A8 ?_;refine A8 (A6 ?_);refine A5 J J J (B1 J gU J J) ?_;refine A5 J J J (B2 J gU J J J J) ?_;refine A5 J J J (B7 J J gU gU J) ?_;refine B0 ?_;refine B6 (s:=⟨[(2,_,_),(3,_,_),(13,_,_)],[(.l 2,_),(.l 3,_)],[],[]⟩) (B4 (⟨U J,U J,U J,O⟩) (⟨U J,U J,O⟩) O) ?_;refine B9 J (fun hc=>?_) (fun hc=>?_)
  ·try simp only [nn,B3,nq] at hc
   refine Wy b (mapL l) (List.mem_cons_self ..) ?_;refine A8 ?_;refine A8 (A6 ?_);refine A5 J J J (B1 J gU J J) ?_;refine A5 J J J (B2 J gU J J J J) ?_;refine A5 J J J (B1 J gU J J) ?_;refine A5 J J J (B2 J gU J J J J) ?_;refine A5 J J J (U4 (i:=0) (c:=.i .i64 (mapI l t.name)) (z:=.int .i64 0) J J gU gU J Tryz.underlying61 Tryz.underlying9 (by kernel_rfl) (fun w S=>Hn l t.name) J) ?_;refine A5 J J J (A7 J gU) ?_;refine A5 J J J (C6 J gU J) ?_;refine A5 J J J (C6 J gU J) ?_;refine A5 J J J (A9 J gU) ?_;refine A5 J J J (A9 J gU) ?_;refine B0 ?_;refine B6 (s:={ t:=[(6,_,_)],bx:=[],ow:=[],mp:=_ }) (B4 (⟨U J,O⟩) O O (.inr J)) ?_;refine A8 (A6 ?_);refine A5 J J J (A7 J gU) ?_;refine A5 J J J (F9 J gU) ?_;refine B0 ?_;refine B9 J (fun hc2=>?_) (fun hc2=>?_)
   ·try simp only [nn,B3,nq] at hc2
    rw[S0] at hc2
    refine A8 (A6 ?_);refine A5 J J J (A9 J gU) ?_;refine B0 ?_;refine C1 ?_
    repeat(first|refine tR ?_|refine bR ?_)
    refine C5 J ?_ O
    (rw[T4,if_pos hc,if_neg (by rw[hc2]; simp)]; rfl)
   ·try simp only [nn,B3,nq] at hc2
    rw[S0] at hc2
    refine C0 ?_;refine A8 (A6 ?_);refine A5 J J J (A9 J gU) ?_;refine B0 ?_;refine C1 ?_
    repeat(first|refine tR ?_|refine bR ?_)
    refine C5 J ?_ O
    (rw[T4,if_pos hc,if_pos hc2]; rfl)
  ·try simp only [nn,B3,nq] at hc
   refine C0 ?_;refine A8 (A6 ?_);refine A5 J J J (B1 J gU J J) ?_;refine A5 J J J (B2 J gU J J J J) ?_;refine A5 J J J (A9 J gU) ?_;refine B0 ?_;refine Vv (stT R (.map (some b)) (lkN R t)) (J2 R t≠none) ?_ (fun hj=>?_)
   ·skip
    refine C4 ?_;refine A8 ?_;refine A8 (A6 ?_);refine A5 J J J (B8 J gU J J J J J) ?_;refine C7 J J J J J J gU gU (Ctr.add (V6 _ _ _)) J ?_;refine A5 J J J (A9 J gU) ?_;refine B0 ?_;refine B6 (s:={ t:=[(2,_,_),(3,_,_),(7,_,_),(26,_,_)],bx:=[(.l 2,_),(.l 3,_)],ow:=[],mp:=_ }) (B4 (⟨U J,U J,U J,U J,O⟩) (⟨U J,U J,O⟩) O (.inr J)) ?_;refine B9 J (fun hc3=>?_) (fun hc3=>?_)
    ·have p1 : isT t Gz 2=true:=hc3
     have hk : J2 R t=some 2:=by rw[J2,if_pos (.inl p1)]
     refine C0 ?_;refine B9 J (fun hc4=>?_) (fun hc4=>?_)
     ·skip
      refine C0 ?_;refine ⟨by rw[hk]; simp,B4 ⟨⟨_,rfl,rfl⟩,⟨_,rfl,?_⟩,O⟩ ⟨⟨_,rfl,rfl⟩,O⟩ O⟩;exact tx (Vb hk (by simp [isT] at p1; omega))
     ·exact absurd (p1.symm.trans hc4) (by simp)
    ·have n1 : ¬ isT t Gz 2=true:=by rw[Bool.not_eq_true]; exact hc3
     refine A8 (A6 ?_);refine A5 J J J (B8 J gU J J J J J) ?_;refine C7 J J J J J J gU gU (Ctr.add (V6 _ _ _)) J ?_;refine A5 J J J (A9 J gU) ?_;refine B0 ?_;refine B9 J (fun hc5=>?_) (fun hc5=>?_)
     ·have p1 : isT t wEnc 2=true:=hc5
      have hk : J2 R t=some 2:=by rw[J2,if_pos (.inr p1)]
      refine C0 ?_;refine B9 J (fun hc6=>?_) (fun hc6=>?_)
      ·skip
       refine C0 ?_;refine ⟨by rw[hk]; simp,B4 ⟨⟨_,rfl,rfl⟩,⟨_,rfl,?_⟩,O⟩ ⟨⟨_,rfl,rfl⟩,O⟩ O⟩;exact tx (Vb hk (by simp [isT] at p1; omega))
      ·exact absurd (p1.symm.trans hc6) (by simp)
     ·have n2 : ¬ isT t wEnc 2=true:=by rw[Bool.not_eq_true]; exact hc5
      have m1 : ¬ (isT t Gz 2=true∨isT t wEnc 2=true):=fun q=>q.elim n1 n2
      refine A6 ?_;refine A5 J J J (B8 J gU J J J J J) ?_;refine C7 J J J J J J gU gU (Ctr.add (V6 _ _ _)) J ?_;refine A5 J J J (A9 J gU) ?_;refine B0 ?_;refine B6 (s:={ t:=[(2,_,_),(3,_,_),(7,_,_),(26,_,_)],bx:=[(.l 2,_),(.l 3,_)],ow:=[],mp:=_ }) (B4 (⟨U J,U J,U J,U J,O⟩) (⟨U J,U J,O⟩) O (.inr J)) ?_;refine B9 J (fun hc7=>?_) (fun hc7=>?_)
      ·have p1 : isT t Pe 1=true:=hc7
       have hk : J2 R t=some 1:=by rw[J2,if_neg m1,if_pos p1]
       refine C0 ?_;refine ⟨by rw[hk]; simp,B4 ⟨⟨_,rfl,rfl⟩,⟨_,rfl,?_⟩,O⟩ ⟨⟨_,rfl,rfl⟩,O⟩ O⟩;exact tx (Vb hk (by simp [isT] at p1; omega))
      ·have n3 : ¬ isT t Pe 1=true:=by rw[Bool.not_eq_true]; exact hc7
       refine A8 ?_;refine A8 ?_;refine awp_drawn' (by kernel_rfl) ?_;refine D7 J J J J J J J gU J J J J J ?_;refine E9 J J J J J J J gU gU (Ctr.add (V6 _ _ _)) J ?_;refine B5 J J J J (A7 J gU) ?_;refine D7 J J J J J J J gU J J J J J ?_;refine B5 J J J J (A7 J gU) ?_;refine B5 J J J J (C2 (j:=1) J J (fun hh=>hh) gU J J (by first|omega|(simp at hh ⊢; omega)|(simp [isT] at hh ⊢; omega)) (fun hh=>T.rows_at (by first|omega|(simp at hh ⊢; omega)|(simp [isT] at hh ⊢; omega)))) ?_;refine B5 J J J J (D4 J (fun hh=>hh) J J J J) ?_;refine E9 J J J J J J J gU (fun hh=>gA ((fun hh=>hh) hh) (gA ((fun hh=>hh) hh) (rfl))) (Ctr.add (Mo _ _ _)) J ?_;refine B5 J J J J (E2 J J gU (fun _ hi=>gP J hi)) ?_;refine B5 J J J J (A9 J gU) ?_;refine F6 (by kernel_rfl) ?_;refine B6 (s:={ t:=[(2,_,_),(3,_,_),(7,_,_),(33,_,_)],bx:=[(.l 2,_),(.l 3,_)],ow:=[],mp:=_ }) (B4 (⟨U J,U J,U J,U J,O⟩) (⟨U J,U J,O⟩) O (.inr J)) ?_;refine B9 J (fun hc8=>?_) (fun hc8=>?_)
       ·have p1 : isT t Ja 2=true∧pubT R (kid t 1)=true:=by rw[← Bool.and_eq_true]; exact hc8
        have hk : J2 R t=some 1:=by rw[J2,if_neg m1,if_neg n3,if_pos (.inl p1)]
        have hlen : t.kids.length=2 := by have := p1.1; simp [isT] at this; omega
        refine C0 ?_;refine B9 J (fun hc9=>?_) (fun hc9=>?_)
        ·skip
         refine A6 ?_;refine A5 J J J (A7 J gU) ?_;refine A5 J J J (Bk J gU J J (fun _=>rfl) (fun _=>⟨_,_,_,rfl,gU,rfl⟩) (fun hh=>by first|omega|(simp at hh ⊢; omega)|(simp [isT] at hh ⊢; omega)) (fun hh=>by first|omega|(simp at hh ⊢; omega)|(simp [isT] at hh ⊢; omega))) ?_;refine A5 J J J (A9 J gU) ?_;refine B0 ?_;refine ⟨by rw[hk]; simp,B4 ⟨⟨_,rfl,rfl⟩,⟨_,rfl,?_⟩,O⟩ ⟨⟨_,rfl,rfl⟩,O⟩ O⟩;exact tx (Zp hk)
        ·exact absurd (hc8.symm.trans hc9) (by simp)
       ·have n4 : ¬ (isT t Ja 2=true∧pubT R (kid t 1)=true):=by rw[← Bool.and_eq_true,Bool.not_eq_true]; exact hc8
        refine awp_drawn' (by kernel_rfl) ?_;refine D7 J J J J J J J gU J J J J J ?_;refine E9 J J J J J J J gU gU (Ctr.add (V6 _ _ _)) J ?_;refine B5 J J J J (A7 J gU) ?_;refine D7 J J J J J J J gU J J J J J ?_;refine B5 J J J J (A7 J gU) ?_;refine B5 J J J J (C2 (j:=1) J J (fun hh=>hh) gU J J (by first|omega|(simp at hh ⊢; omega)|(simp [isT] at hh ⊢; omega)) (fun hh=>T.rows_at (by first|omega|(simp at hh ⊢; omega)|(simp [isT] at hh ⊢; omega)))) ?_;refine B5 J J J J (D4 J (fun hh=>hh) J J J J) ?_;refine E9 J J J J J J J gU (fun hh=>gA ((fun hh=>hh) hh) (gA ((fun hh=>hh) hh) (rfl))) (Ctr.add (Kj _ _ _)) J ?_;refine B5 J J J J (E2 J J gU (fun _ hi=>gP J hi)) ?_;refine B5 J J J J (A9 J gU) ?_;refine F6 (by kernel_rfl) ?_;refine B6 (s:={ t:=[(2,_,_),(3,_,_),(7,_,_),(33,_,_)],bx:=[(.l 2,_),(.l 3,_)],ow:=[],mp:=_ }) (B4 (⟨U J,U J,U J,U J,O⟩) (⟨U J,U J,O⟩) O (.inr J)) ?_;refine B9 J (fun hc10=>?_) (fun hc10=>?_)
        ·have p1 : isT t Ia 2=true∧Ax R (kid t 1)=true:=by rw[← Bool.and_eq_true]; exact hc10
         have hk : J2 R t=some 1:=by rw[J2,if_neg m1,if_neg n3,if_pos (.inr p1)]
         have hlen : t.kids.length=2 := by have := p1.1; simp [isT] at this; omega
         refine A6 ?_;refine A5 J J J (A7 J gU) ?_;refine A5 J J J (Bk J gU J J (fun _=>rfl) (fun _=>⟨_,_,_,rfl,gU,rfl⟩) (fun hh=>by first|omega|(simp at hh ⊢; omega)|(simp [isT] at hh ⊢; omega)) (fun hh=>by first|omega|(simp at hh ⊢; omega)|(simp [isT] at hh ⊢; omega))) ?_;refine A5 J J J (A9 J gU) ?_;refine B0 ?_;refine ⟨by rw[hk]; simp,B4 ⟨⟨_,rfl,rfl⟩,⟨_,rfl,?_⟩,O⟩ ⟨⟨_,rfl,rfl⟩,O⟩ O⟩;exact tx (Zp hk)
        ·have n5 : ¬ (isT t Ia 2=true∧Ax R (kid t 1)=true):=by rw[← Bool.and_eq_true,Bool.not_eq_true]; exact hc10
         have m2 : ¬ ((isT t Ja 2=true∧pubT R (kid t 1)=true)∨(isT t Ia 2=true∧Ax R (kid t 1)=true)):=fun q=>q.elim n4 n5
         refine A8 ?_;refine A8 (A6 ?_);refine A5 J J J (B8 J gU J J J J J) ?_;refine A5 J J J (B8 J gU J J J J J) ?_;refine C7 J J J J J J gU gU (Ctr.add (Mo _ _ _)) J ?_;refine A5 J J J (A9 J gU) ?_;refine B0 ?_;refine B9 J (fun hc11=>?_) (fun hc11=>?_)
         ·have p1 : pubT R t=true:=hc11
          have hk : J2 R t=some 0:=by rw[J2,if_neg m1,if_neg n3,if_neg m2,if_pos (.inl p1)]
          refine C0 ?_;refine B9 J (fun hc12=>?_) (fun hc12=>?_)
          ·skip
           refine A6 ?_;refine A5 J J J (A9 J gU) ?_;refine B0 ?_;refine ⟨by rw[hk]; simp,B4 ⟨⟨_,rfl,rfl⟩,⟨_,rfl,?_⟩,O⟩ ⟨⟨_,rfl,rfl⟩,O⟩ O⟩;exact tx (uAZ hk)
          ·exact absurd (hc11.symm.trans hc12) (by simp)
         ·have n6 : ¬ pubT R t=true:=by rw[Bool.not_eq_true]; exact hc11
          refine awp_drawn' (by kernel_rfl) ?_;refine D7 J J J J J J J gU J J J J J ?_;refine E9 J J J J J J J gU gU (Ctr.add (V6 _ _ _)) J ?_;refine B5 J J J J (A7 J gU) ?_;refine D7 J J J J J J J gU J J J J J ?_;refine B5 J J J J (A7 J gU) ?_;refine B5 J J J J (C2 (j:=0) J J (fun hh=>hh) gU J J (by first|omega|(simp at hh ⊢; omega)|(simp [isT] at hh ⊢; omega)) (fun hh=>T.rows_at (by first|omega|(simp at hh ⊢; omega)|(simp [isT] at hh ⊢; omega)))) ?_;refine B5 J J J J (D4 J (fun hh=>hh) J J J J) ?_;refine E9 J J J J J J J gU (fun hh=>gA ((fun hh=>hh) hh) (gA ((fun hh=>hh) hh) (rfl))) (Ctr.add (Ea _ _ _)) J ?_;refine B5 J J J J (E2 J J gU (fun _ hi=>gP J hi)) ?_;refine B5 J J J J (A7 J gU) ?_;refine D7 J J J J J J J gU J J J J J ?_;refine B5 J J J J (A7 J gU) ?_;refine B5 J J J J (C2 (j:=1) J J (fun hh=>hh) gU J J (by first|omega|(simp at hh ⊢; omega)|(simp [isT] at hh ⊢; omega)) (fun hh=>T.rows_at (by first|omega|(simp at hh ⊢; omega)|(simp [isT] at hh ⊢; omega)))) ?_;refine B5 J J J J (D4 J (fun hh=>hh) J J J J) ?_;refine E9 J J J J J J J gU (fun hh=>gA ((fun hh=>hh) hh) (gA ((fun hh=>hh) hh) (rfl))) (Ctr.add (Ea _ _ _)) J ?_
          refine B5 J J J J (E2 J J gU (fun _ hi=>gP J hi)) ?_;refine B5 J J J J (A7 J gU) ?_;refine B5 J J J J (A7 J gU) ?_;refine B5 J J J J (C2 (j:=0) J J (fun hh=>hh) gU J J (by first|omega|(simp at hh ⊢; omega)|(simp [isT] at hh ⊢; omega)) (fun hh=>T.rows_at (by first|omega|(simp at hh ⊢; omega)|(simp [isT] at hh ⊢; omega)))) ?_;refine B5 J J J J (F4 J (fun hh=>hh) J J) ?_;refine B5 J J J J (E4 J (fun hh=>hh) J J J) ?_;refine B5 J J J J (A7 J gU) ?_;refine B5 J J J J (C2 (j:=1) J J (fun hh=>hh) gU J J (by first|omega|(simp at hh ⊢; omega)|(simp [isT] at hh ⊢; omega)) (fun hh=>T.rows_at (by first|omega|(simp at hh ⊢; omega)|(simp [isT] at hh ⊢; omega)))) ?_;refine B5 J J J J (F4 J (fun hh=>hh) J J) ?_;refine B5 J J J J (E4 J (fun hh=>hh) J J J) ?_;refine B5 J J J J (G0 J J (fun hh=>hh) (fun hh=>hh) J) ?_;refine B5 J J J J (E2 J J gU (fun _ hi=>gP J hi)) ?_;refine B5 J J J J (A9 J gU) ?_;refine F6 (by kernel_rfl) ?_;refine B6 (s:={ t:=[(2,_,_),(54,_,_)],bx:=[(.l 2,_)],ow:=[],mp:=_ }) (B4 (⟨U J,U J,O⟩) (⟨U J,O⟩) O (.inr J)) ?_
          refine B9 J (fun hc13=>?_) (fun hc13=>?_)
          ·have p1 : shkT R t=true:=by rw[← hc13]; rfl
           have hk : J2 R t=some 0:=by rw[J2,if_neg m1,if_neg n3,if_neg m2,if_pos (.inr p1)]
           refine A6 ?_;refine A5 J J J (A9 J gU) ?_;refine B0 ?_;refine ⟨by rw[hk]; simp,B4 ⟨⟨_,rfl,rfl⟩,⟨_,rfl,?_⟩,O⟩ ⟨⟨_,rfl,rfl⟩,O⟩ O⟩;exact tx (uAZ hk)
          ·have n7 : ¬ shkT R t=true:=by rw[Bool.not_eq_true,← hc13]; rfl
           have hk : J2 R t=none:=by rw[J2,if_neg m1,if_neg n3,if_neg m2,if_neg (fun q=>q.elim n6 n7)]
           refine A8 (A6 ?_);refine A5 J J J (A9 J gU) ?_;refine B0 ?_;refine C1 ?_
           repeat(first|refine tR ?_|refine bR ?_)
           refine C5 J ?_ O
           (rw[T4,if_neg (by omega),hk]; rfl)
   ·have hE:=Zv (K:=l.map (·.1)) hc hj
    have hrk:=T.rows_len (lkN R t)
    rw[hE]
    refine A8 ?_;refine A8 (A6 ?_);refine A5 J J J (A7 J gU) ?_;refine E0 J J J J J gU J J ?_ (fun hh=>by simp at hh); intro hlen;refine A5 J J J (A7 J gU) ?_;refine B0 ?_;refine C4 ?_;refine F2 (ι:=Nat) { t:=[(2,_,_),(85,_,_),(86,_,_)],bx:=[(.l 2,_)],ow:=[],mp:=_ } (fun k=>[(87,true,xi (k : Int))]) (fun k=>[]) (fun k=>k≤(lkN R t).length ∧ ∀ j,j < k→O8 R (l.map (·.1)) ((lkN R t).getD j default)=0) (fun k=>(lkN R t).length - k) (0) (⟨by omega,fun j hj=>by omega⟩) (B4 (⟨U J,U J,U J,U J,O⟩) (⟨U J,O⟩) O (.inr J)) ?_
    intro k hok
    dsimp only [List.cons_append,List.nil_append]
    obtain ⟨hk,hi⟩:=hok
    refine A8 (A6 ?_);refine A5 J J J (B7 J J gU gU J) ?_;refine B0 ?_;refine A8 ?_;refine B9 J (fun hc14=>?_) (fun hc14=>?_)
    ·try simp only [nn,B3,nq] at hc14
     have hlt : k < (lkN R t).length:=by omega
     have hks:=uB3 (K8 (d:=default) hlt)
     refine C0 ?_;refine A8 ?_;refine C4 ?_;refine A8 (A6 ?_);refine A5 J J J (C2 J J gU gU J J J (fun hh=>T.rows_at (by first|omega|(simp at hh ⊢; omega)|(simp [isT] at hh ⊢; omega)))) ?_;refine A5 J J J (D4 J gU J J J J) ?_;refine C3 J (D9 J J J) ?_;refine C3 J (C8 J J J J J J J) ?_;refine B0 ?_;refine A8 (A6 ?_);refine A5 J J J (B8 J gU J J J J J) ?_;refine A5 J J J (B8 J gU J J J J J) ?_;refine C7 J J J J J J gU gU (ih ((lkN R t).getD k default) (by omega) (by omega)) J ?_;refine A5 J J J (A9 J gU) ?_;refine B0 ?_;refine B6 (s:={ t:=[(2,_,_),(10,_,_),(85,_,_),(86,_,_),(87,_,_)],bx:=[(.l 2,_)],ow:=[],mp:=_ }) (B4 (⟨U J,U J,U J,U J,U J,O⟩) (⟨U J,O⟩) O (.inr J)) ?_;refine A8 (A6 ?_);refine A5 J J J (A7 J gU) ?_;refine A5 J J J (B7 J J gU gU J) ?_;refine B0 ?_;refine B9 J (fun hc15=>?_) (fun hc15=>?_)
     ·try simp only [nn,B3,nq] at hc15
      refine A8 (A6 ?_);refine A5 J J J (A7 J gU) ?_;refine A5 J J J (A9 J gU) ?_;refine B0 ?_;refine C1 ?_
      repeat(first|refine tR ?_|refine bR ?_)
      refine C5 J ?_ O
      (rw[Aq hlt hi hc15]; rfl)
     ·try simp only [nn,B3,nq] at hc15
      refine C0 ?_;refine A6 ?_;refine A5 J J J (D0 J J gU gU J (IntWalk.i64_in _ (by omega))) ?_;refine A5 J J J (A7 J gU) ?_;refine B0 ?_;refine ⟨k + 1,?_,?_,B4 (⟨⟨_,rfl,?_⟩,⟨U J,U J,U J,O⟩⟩) (⟨U J,O⟩) O (.inr J)⟩
      all_goals (first|rfl|omega|exact ⟨by omega,R0 hi hc15⟩)
    ·try simp only [nn,B3,nq] at hc14
     have hke : k=(lkN R t).length:=by omega
     subst hke
     refine E1 ?_
     repeat(first|refine D5 ?_|refine D6 ?_|refine D2 J ?_)
     refine A8 (A6 ?_);refine A5 J J J (A9 J gU) ?_;refine B0 ?_;refine C1 ?_
     repeat(first|refine tR ?_|refine bR ?_)
     refine C5 J ?_ O
     (rw[X9 hi]; rfl)
def idx0 (l : List (List UInt8)) (s : List UInt8) : Int:=if idxF (fun x=>decide (x=s) && decide (s≠[])) l < 0 then 0 else idxF (fun x=>decide (x=s) && decide (s≠[])) l
def chR (l : List Tk) (ws : List (List UInt8)) (p : PS) : Int × PS:=if (C9 l [] p).2.bad=true∨idx0 ws (C9 l [] p).1=0 then (0,p.off) else (idx0 ws (C9 l [] p).1,(C9 l [] p).2)
def J1 : List (List UInt8):=[] :: [] :: sortW
def K5 : List (List UInt8):=[] :: kindW
def Y5 : List (List UInt8):=[] :: K2
def R5 : List (List UInt8):=[[],Jx]
def frRA (l : List Tk) (role : List UInt8) : Nat→PS→List Fs→List Fs × PS
 | 0,p,out=>(out,p)
 | n + 1,p,out =>
  if (chR l J1 (C9 l [] p).2).2.bad=true then (out++[⟨role,(C9 l [] p).1,(chR l J1 (C9 l [] p).2).1⟩],(chR l J1 (C9 l [] p).2).2)
  else if symQ l (chR l J1 (C9 l [] p).2).2 [44]=true then frRA l role n (chR l J1 (C9 l [] p).2).2.go (out++[⟨role,(C9 l [] p).1,(chR l J1 (C9 l [] p).2).1⟩])
  else (out++[⟨role,(C9 l [] p).1,(chR l J1 (C9 l [] p).2).1⟩],(chR l J1 (C9 l [] p).2).2)
def frRd (l : List Tk) (p : PS) (out : List Fs) : List Fs × PS:=frRA l (C9 l [] p).1 (l.length + 1) (F0 l [58] (C9 l [] p).2) out
def Ck (l : List Tk) (line : Int) (p : PS) : Sp × PS :=
 let a:=C9 l [] p
 let b:=C9 l [] (F0 l [62] (F0 l [45] a.2))
 let t:=G5 l (l.length + 1) (F0 l [58] b.2)
 (⟨a.1,b.1,t.1,line⟩,t.2)
def Ag (l : List Tk) (line : Int) (p : PS) : Gl × PS :=
 let k:=chR l K5 p
 let r:=C9 l [] k.2
 let w:=if I9 k.1=true then C9 l [] r.2 else ([],r.2)
 let d:=H1 l (G5 l (l.length + 1)) (F0 l [58] w.2)
 (⟨k.1,r.1,w.1,d.1,line⟩,d.2)
def O2 (l : List Tk) (n : Nar) (line : Int) (k : Int) (q : PS) : Nar × PS :=
 if k=1 then ({ n with roles:=n.roles++(J9 l q).1 },(J9 l q).2)
 else if k=2 then ({ n with fresh:=(frRd l q n.fresh).1 },(frRd l q n.fresh).2)
 else if k=3 then ({ n with tags:=n.tags++(J9 l q).1 },(J9 l q).2)
 else if k=4 then ({ n with steps:=n.steps++[(Ck l line q).1] },(Ck l line q).2)
 else if k=5 then ({ n with goals:=n.goals++[(Ag l line q).1] },(Ag l line q).2)
 else (n,q)
def Ar (l : List Tk) (n : Nar) (p : PS) : Nar × PS :=
 ((O2 l n (Q7 l p) (chR l Y5 p).1 (chR l Y5 p).2).1,F0 l [59] (O2 l n (Q7 l p) (chR l Y5 p).1 (chR l Y5 p).2).2)
def R3 (l : List Tk) : Nat→Nar→PS→Nar × PS
 | 0,n,p=>(n,p)
 | m + 1,n,p=>if p.bad=true then (n,p) else if symQ l p [125]=true then (n,p) else R3 l m (Ar l n p).1 (Ar l n p).2
def Rz (l : List Tk) : Nar × PS :=
 let a:=chR l R5 ⟨0,false⟩
 let b:=C9 l [] a.2
 let r:=R3 l (l.length + 2) { nar0 with name:=b.1 } (F0 l [123] b.2)
 (r.1,F0 l [125] r.2)
def Keeps {α : Type} (f : PS→α × PS) : Prop:=∀ p : PS,p.bad=true→(f p).2=p
theorem Vu {p : PS} (h : p.bad=true) : p.off=p:=by cases p; simp [PS.off] at h ⊢; exact h
theorem S1 {l : List Tk} {p : PS} {c : List UInt8} (h : p.bad=true) : symQ l p c=false:=by simp [symQ,h]
theorem Xb {l : List Tk} {p : PS} {ws : List (List UInt8)} (h : p.bad=true) : namQ l p ws=false:=by simp [namQ,h]
theorem N7 (l : List Tk) (c : List UInt8) {p : PS} (h : p.bad=true) : F0 l c p=p:=by rw[F0,S1 h]; exact Vu h
theorem L4 (l : List Tk) (ws : List (List UInt8)) : Keeps (C9 l ws):=fun p h=>by rw[C9,Xb h]; exact Vu h
theorem Wz {α : Type} {l : List Tk} {f : PS→α × PS} {p : PS} {out : List α} (n : Nat) (h : p.bad=true) : M0 l f n p out=(out,p):=Ei (S1 h) n
theorem Ac {α : Type} {l : List Tk} {f : PS→α × PS} (hf : Keeps f) : Keeps (H1 l f):=fun p h=>by
 unfold H1; rw[hf p h,Wz _ h]
theorem Co (l : List Tk) (n : Nat) : Keeps (J3 l n):=fun p h=>by
 cases n with
 | zero=>rfl
 | succ n=>rw[J3,if_neg (by rw[S1 h]; simp),L4 l [] p h,if_neg (by rw[S1 h]; simp)]
theorem Sa (l : List Tk) (n : Nat) : Keeps (G5 l n):=fun p h=>by
 cases n with
 | zero=>rfl
 | succ n=>rw[G5,if_neg (by rw[S1 h]; simp),L4 l [] p h,if_neg (by rw[S1 h]; simp)]
theorem Keeps.good {α : Type} {f : PS→α × PS} (hf : Keeps f) {p : PS} (h : (f p).2.bad=false) : p.bad=false:=by
 cases hb : p.bad with
 | false=>rfl
 | true=>rw[hf p hb,hb] at h; exact h
theorem U2 {l : List Tk} {c : List UInt8} {p : PS} (h : (F0 l c p).bad=false) : p.bad=false:=by
 cases hb : p.bad with
 | false=>rfl
 | true=>rw[N7 l c hb,hb] at h; exact h
def Agr {α : Type} (f g : PS→α × PS) : Prop:=∀ p : PS,(f p).2=(g p).2∧((f p).2.bad=false→(f p).1=(g p).1)
theorem Lj {α : Type} {l : List Tk} {f g : PS→α × PS} (h : Agr f g) : ∀ (n : Nat) (p : PS) (out out' : List α),(p.bad=false→out=out') →
  (M0 l f n p out).2=(M0 l g n p out').2∧((M0 l f n p out).2.bad=false→(M0 l f n p out).1=(M0 l g n p out').1)
 | 0,p,out,out',ho=>⟨rfl,ho⟩
 | n + 1,p,out,out',ho=>by
  rw[M0,M0]
  split
  ·rename_i hq
   have hb:=(O3 hq).2
   obtain ⟨e1,e2⟩:=h p.go
   have ih:=Lj (l:=l) h n (f p.go).2 (out++[(f p.go).1]) (out'++[(g p.go).1]) fun hz=>by rw[ho hb,e2 hz]
   rw[e1] at ih ⊢
   exact ih
  ·exact ⟨rfl,ho⟩
theorem Kw {α : Type} {l : List Tk} {f g : PS→α × PS} (h : Agr f g) : Agr (H1 l f) (H1 l g):=fun p=>by
 unfold H1
 obtain ⟨e1,e2⟩:=h p
 have := Lj (l := l) h (l.length + 1) (f p).2 [(f p).1] [(g p).1] fun hz=>by rw[e2 hz]
 rw[e1] at this ⊢
 exact this
theorem Ev (l : List Tk) : ∀ n : Nat,Agr (G5 l n) (J3 l n)
 | 0,p=>⟨rfl,fun _=>rfl⟩
 | n + 1,p=>by
  have ih:=Ev l n
  have ihm:=Kw (l:=l) ih
  rw[G5,J3]
  split
  ·have e1:=(ih p.go).1
   have e2:=(ihm (F0 l [44] (G5 l n p.go).2)).1
   rw[e1] at e2
   have e3 : (F0 l [62] (H1 l (G5 l n) (F0 l [44] (G5 l n p.go).2)).2)=F0 l [62] (H1 l (J3 l n) (F0 l [44] (J3 l n p.go).2)).2:=by rw[e1,e2]
   split
   ·rename_i hb
    exact ⟨e3,fun hz=>by dsimp only at hz; rw[hb] at hz; cases hz⟩
   ·rename_i hb
    refine ⟨e3,fun _=>?_⟩
    have hb : (F0 l [62] (H1 l (G5 l n) (F0 l [44] (G5 l n p.go).2)).2).bad=false:=by simpa using hb
    have h1:=U2 hb
    have h2:=(Ac (l:=l) (Sa l n)).good h1
    have h3:=U2 h2
    dsimp only
    rw[(ih p.go).2 h3,(ihm _).2 h1,e1]
  ·split
   ·split
    ·exact ⟨rfl,fun _=>rfl⟩
    ·have e2:=(ihm (C9 l [] p).2.go).1
     dsimp only
     rw[e2]
     refine ⟨rfl,fun hz=>?_⟩
     rw[← e2] at hz
     rw[(ihm _).2 (U2 hz)]
   ·exact ⟨rfl,fun _=>rfl⟩
theorem Gn {p : List UInt8→Bool} : ∀ {l : List (List UInt8)},(∃ x ∈ l,p x=true)→0≤idxF p l
 | [],h=>by simp at h
 | x :: r,h=>by
  rw[idxF]
  split
  ·omega
  ·rename_i hx
   have : 0≤idxF p r:=Gn (by
    obtain ⟨y,hy,hp⟩:=h
    rcases List.mem_cons.1 hy with q | q
    ·subst q; exact absurd hp hx
    ·exact ⟨y,q,hp⟩)
   rw[if_neg (by omega)]; omega
theorem Rw {p : List UInt8→Bool} : ∀ {l : List (List UInt8)},(∀ x ∈ l,p x=false)→idxF p l = -1
 | [],_=>rfl
 | x :: r,h=>by
  rw[idxF,if_neg (by rw[h x (by simp)]; simp),Rw fun y hy=>h y (by simp [hy]),if_pos (by omega)]
theorem Jl {p q : List UInt8→Bool} : ∀ {l : List (List UInt8)},(∀ x ∈ l,p x=q x)→idxF p l=idxF q l
 | [],_=>rfl
 | x :: r,h=>by rw[idxF,idxF,h x (by simp),Jl fun y hy=>h y (by simp [hy])]
theorem Eh (s : List UInt8) : ∀ l : List (List UInt8),I8 l s=idxF (fun x=>decide (x=s)) l
 | []=>rfl
 | x :: l=>by
  rw[I8,idxF,Eh s l]
  by_cases h : x=s
  ·rw[if_pos h,if_pos (by simp [h])]
  ·have h' : ¬decide (x=s)=true:=by simp [h]
   rw[if_neg h,if_neg h']
theorem Ec {l : List (List UInt8)} {s : List UInt8} (h : l.contains s=true) : 0≤I8 l s:=by
 rw[Eh]
 exact Gn ⟨s,by simpa using h,by simp⟩
theorem uBv {ws : List (List UInt8)} (hne : [] ∉ ws) (s : List UInt8) : ∀ k : Nat,0 < k→idx0 (List.replicate k []++ws) s=if ws.contains s=true then I8 ws s + k else 0:=by
 have key : ∀ k : Nat,idxF (fun x=>decide (x=s) && decide (s≠[])) (List.replicate k []++ws)=if ws.contains s=true then I8 ws s + k else -1:=by
  intro k
  induction k with
  | zero =>
   show idxF _ ws=_
   split
   ·rename_i hc
    have hm : s ∈ ws:=by simpa using hc
    have hs : s≠[]:=fun q=>hne (q ▸ hm)
    rw[Eh,show ((0 : Nat) : Int)=0 from J,Int.add_zero]
    exact Jl fun x _=>by simp [hs]
   ·rename_i hc
    refine Rw fun x hx=>?_
    have : x≠s:=fun q=>by subst q; exact hc (by simpa using hx)
    simp [this]
  | succ k ih =>
   rw[List.replicate_succ,List.cons_append,idxF,if_neg (by simp),ih]
   split
   ·rename_i hc
    have := Ec hc
    rw[if_neg (by omega)]; push_cast; omega
   ·rw[if_pos (by omega)]
 intro k hk
 unfold idx0
 rw[key k]
 split
 ·rename_i hc
  have := Ec hc
  rw[if_neg (by omega)]
 ·rw[if_pos (by omega)]
theorem Mv (l : List Tk) {ws : List (List UInt8)} (hne : [] ∉ ws) (h0 : ws≠[]) (k : Nat) (hk : 0 < k) (p : PS) :
  chR l (List.replicate k []++ws) p=(if namQ l p ws=true then I8 ws (C9 l ws p).1 + k else 0,(C9 l ws p).2):=by
 unfold chR
 rw[uBv hne _ k hk]
 by_cases h1 : namQ l p []=true
 ·have e1 : C9 l [] p=((l.getD p.at' tk0).text,p.go):=by rw[C9,if_pos h1]
  have hb : p.bad=false:=by
   simp only [namQ,Bool.and_eq_true,Bool.not_eq_true'] at h1; exact h1.1.1.1
  rw[e1]
  dsimp only
  by_cases hc : ws.contains (l.getD p.at' tk0).text=true
  ·have h2 : namQ l p ws=true:=by
    simp only [namQ,Bool.and_eq_true] at h1 ⊢
    exact ⟨h1.1,by rw[hc]; simp⟩
   have e2 : C9 l ws p=((l.getD p.at' tk0).text,p.go):=by rw[C9,if_pos h2]
   have := Ec hc
   rw[if_pos hc,if_neg (by rintro (q | q); { simp [PS.go,hb] at q }; { omega }),if_pos h2,e2]
  ·have h2 : ¬namQ l p ws=true:=by
    simp only [namQ,Bool.and_eq_true,Bool.or_eq_true]
    rintro ⟨_,q | q⟩
    ·exact h0 (by simpa using q)
    ·exact hc q
   have e2 : C9 l ws p=([],p.off):=by rw[C9,if_neg h2]
   rw[if_neg hc,if_pos (.inr J),if_neg h2,e2]
 ·have e1 : C9 l [] p=([],p.off):=by rw[C9,if_neg h1]
  have h2 : ¬namQ l p ws=true:=by
   intro q
   apply h1
   simp only [namQ,Bool.and_eq_true] at q ⊢
   exact ⟨q.1,by simp⟩
  have e2 : C9 l ws p=([],p.off):=by rw[C9,if_neg h2]
  rw[e1,if_pos (.inl J),if_neg h2,e2]
theorem Gb {l : List Tk} {ws : List (List UInt8)} {p : PS} (h : (C9 l ws p).2.bad=false) : namQ l p ws=true:=by
 cases hq : namQ l p ws with
 | true=>rfl
 | false=>rw[C9,hq] at h; simp [PS.off] at h
theorem Vj (l : List Tk) (p : PS) : (chR l J1 p).2=(C9 l sortW p).2∧((chR l J1 p).2.bad=false→(chR l J1 p).1=2 + I8 sortW (C9 l sortW p).1):=by
 have h : chR l J1 p=_:=Mv l (ws:=sortW) (by decide) (by decide) 2 (by omega) p
 rw[h]
 refine ⟨rfl,fun hb=>?_⟩
 rw[if_pos (Gb hb)]; omega
theorem uBX (l : List Tk) (p : PS) : (chR l K5 p).2=(C9 l kindW p).2∧(chR l K5 p).1=1 + I8 kindW (C9 l kindW p).1:=by
 have h : chR l K5 p=_:=Mv l (ws:=kindW) (by decide) (by decide) 1 (by omega) p
 rw[h]
 refine ⟨rfl,?_⟩
 split
 ·omega
 ·rename_i hq
  rw[C9,if_neg hq]; rfl
theorem uBy (l : List Tk) (p : PS) : (chR l Y5 p).2=(C9 l K2 p).2∧(chR l Y5 p).1=1 + I8 K2 (C9 l K2 p).1:=by
 have h : chR l Y5 p=_:=Mv l (ws:=K2) (by decide) (by decide) 1 (by omega) p
 rw[h]
 refine ⟨rfl,?_⟩
 split
 ·omega
 ·rename_i hq
  rw[C9,if_neg hq]; rfl
theorem uBw (l : List Tk) (p : PS) : (chR l R5 p).2=(C9 l [Jx] p).2:=by
 have h : chR l R5 p=_:=Mv l (ws:=[Jx]) (by decide) (by decide) 1 (by omega) p
 rw[h]
theorem Sy {l : List Tk} {role : List UInt8} {p : PS} {out : List Fs} (h : p.bad=true) : ∀ n,O1 l role n p out=(out,p)
 | 0=>rfl
 | n + 1=>by rw[O1,if_pos h]
theorem uA7 (l : List Tk) (role : List UInt8) : ∀ (n : Nat) (p : PS) (out : List Fs),0 < n→l.length < n + p.at' →
  (frRA l role n p out).2=(O1 l role n p out).2∧((frRA l role n p out).2.bad=false→(frRA l role n p out).1=(O1 l role n p out).1)
 | 0,p,out,h,_=>by omega
 | n + 1,p,out,_,hn=>by
  have hc:=Vj l (C9 l [] p).2
  have hk:=L4 l []
  have hk2:=L4 l sortW
  by_cases hp : p.bad=true
  ·have e1:=hk p hp
   have e2 : (chR l J1 (C9 l [] p).2).2=p:=by rw[hc.1,e1,hk2 p hp]
   rw[frRA,O1,if_pos hp,e2,if_pos hp]
   exact ⟨rfl,fun q=>by dsimp only at q; rw[hp] at q; cases q⟩
  ·rw[frRA,O1,if_neg hp,hc.1]
   split
   ·rename_i hb
    rw[if_neg (by rw[S1 hb]; simp)]
    exact ⟨rfl,fun q=>by dsimp only at q; rw[hb] at q; cases q⟩
   ·rename_i hb
    have hb : (C9 l sortW (C9 l [] p).2).2.bad=false:=by simpa using hb
    have hv:=hc.2 (by rw[hc.1]; exact hb)
    rw[hv]
    split
    ·rename_i hq
     have h1:=(O3 hq).1
     have h2:=(H0 l [] p).1
     have h3:=(H0 l sortW (C9 l [] p).2).1
     have hg : (C9 l sortW (C9 l [] p).2).2.go.at'=(C9 l sortW (C9 l [] p).2).2.at' + 1:=rfl
     exact uA7 l role n _ _ (by omega) (by omega)
    ·exact ⟨rfl,fun _=>rfl⟩
theorem Oe (l : List Tk) (out : List Fs) : Keeps (fun p=>Bd l p out):=fun p h=>by
 show (O1 _ _ _ _ _).2=p
 rw[L4 l [] p h,N7 l [58] h,Sy h]
theorem Rq (l : List Tk) (out : List Fs) : Agr (fun p=>frRd l p out) (fun p=>Bd l p out):=fun p=>by
 refine uA7 l _ (l.length + 1) _ out (by omega) ?_
 omega
theorem Qi (l : List Tk) (line : Int) : Keeps (Hz l line):=fun p h=>by
 show (J3 _ _ _).2=p
 rw[L4 l [] p h,N7 l _ h,N7 l _ h,L4 l [] p h,N7 l _ h,Co l _ p h]
theorem Pf (l : List Tk) (line : Int) : Agr (Ck l line) (Hz l line):=fun p=>by
 obtain ⟨e1,e2⟩:=Ev l (l.length + 1) (F0 l [58] (C9 l [] (F0 l [62] (F0 l [45] (C9 l [] p).2))).2)
 refine ⟨e1,fun hb=>?_⟩
 show (⟨_,_,_,_⟩ : Sp)=⟨_,_,_,_⟩
 rw[e2 hb]
theorem Pu (l : List Tk) (line : Int) : Keeps (He l line):=fun p h=>by
 show (H1 _ _ _).2=p
 rw[L4 l kindW p h,L4 l [] p h]
 split
 ·rw[L4 l [] p h,N7 l _ h,Ac (Co l _) p h]
 ·rw[N7 l _ h,Ac (Co l _) p h]
theorem Rb (l : List Tk) (line : Int) : Agr (Ag l line) (He l line):=fun p=>by
 obtain ⟨c1,c2⟩:=uBX l p
 have hm:=Kw (l:=l) (Ev l (l.length + 1))
 unfold Ag He
 dsimp only
 rw[c1,c2]
 obtain ⟨e1,e2⟩:=hm (F0 l [58] (if I9 (1 + I8 kindW (C9 l kindW p).1)=true then C9 l [] (C9 l [] (C9 l kindW p).2).2 else ([],(C9 l [] (C9 l kindW p).2).2)).2)
 exact ⟨e1,fun hb=>by rw[e2 hb]⟩
theorem Fi (l : List Tk) : Keeps (J9 l):=Ac (L4 l [])
theorem Tw (w : List UInt8) : (1 + I8 K2 w=1 ↔ w=Vk)∧(1 + I8 K2 w=2 ↔ w=Np)∧(1 + I8 K2 w=3 ↔ w=Wg)∧(1 + I8 K2 w=4 ↔ w=wMsg)∧(1 + I8 K2 w=5 ↔ w=Wq):=by
  have e : I8 K2 w=if Vk=w then 0 else if Np=w then 1 else if Wg=w then 2 else if wMsg=w then 3 else if Wq=w then 4 else -1:=by
    simp only [K2,I8]
    repeat' split
    all_goals omega
  rw[e]
  refine ⟨⟨fun h=>?_,fun h=>?_⟩,⟨fun h=>?_,fun h=>?_⟩,⟨fun h=>?_,fun h=>?_⟩,⟨fun h=>?_,fun h=>?_⟩,⟨fun h=>?_,fun h=>?_⟩⟩
  all_goals first
    | (subst h; decide)
    | (repeat' split at h
       all_goals first
         | (symm; assumption)
         | omega)
theorem Sb (l : List Tk) (n : Nar) (line : Int) (w : List UInt8) : Keeps (X2 l n line w):=fun p h=>by
 unfold X2
 repeat' split
 ·exact Fi l p h
 ·exact Oe l n.fresh p h
 ·exact Fi l p h
 ·exact Qi l line p h
 ·exact Pu l line p h
 ·rfl
theorem Yb (l : List Tk) (n : Nar) (line : Int) (w : List UInt8) (q : PS) : (O2 l n line (1 + I8 K2 w) q).2=(X2 l n line w q).2∧((O2 l n line (1 + I8 K2 w) q).2.bad=false→(O2 l n line (1 + I8 K2 w) q).1=(X2 l n line w q).1):=by
 obtain ⟨h1,h2,h3,h4,h5⟩:=Tw w
 unfold O2 X2
 simp only [h1,h2,h3,h4,h5]
 repeat' split
 ·exact ⟨rfl,fun _=>rfl⟩
 ·obtain ⟨e1,e2⟩:=Rq l n.fresh q
  exact ⟨e1,fun hb=>by have := e2 hb; dsimp only at this ⊢; rw[this]⟩
 ·exact ⟨rfl,fun _=>rfl⟩
 ·obtain ⟨e1,e2⟩:=Pf l line q
  exact ⟨e1,fun hb=>by have := e2 hb; dsimp only at this ⊢; rw[this]⟩
 ·obtain ⟨e1,e2⟩:=Rb l line q
  exact ⟨e1,fun hb=>by have := e2 hb; dsimp only at this ⊢; rw[this]⟩
 ·exact ⟨rfl,fun _=>rfl⟩
theorem Kv (l : List Tk) (role : List UInt8) : ∀ (n : Nat) (p : PS) (out : List Fs),p.at'≤(O1 l role n p out).2.at'∧(p.at'≤l.length→(O1 l role n p out).2.at'≤l.length)
 | 0,p,out=>by simp [O1]
 | n + 1,p,out=>by
  have h1:=H0 l [] p
  have h2:=H0 l sortW (C9 l [] p).2
  rw[O1]
  split
  ·simp
  split
  ·rename_i hq
   have h3:=(O3 hq).1
   have hg : (C9 l sortW (C9 l [] p).2).2.go.at'=(C9 l sortW (C9 l [] p).2).2.at' + 1:=rfl
   have h4:=Kv l role n (C9 l sortW (C9 l [] p).2).2.go (out++[⟨role,(C9 l [] p).1,2 + I8 sortW (C9 l sortW (C9 l [] p).2).1⟩])
   omega
  ·dsimp only; omega
def Fwd {α : Type} (l : List Tk) (f : PS→α × PS) : Prop:=∀ p : PS,p.at'≤(f p).2.at'∧(p.at'≤l.length→(f p).2.at'≤l.length)
theorem Lm (l : List Tk) (out : List Fs) : Fwd l (fun p=>Bd l p out):=fun p=>by
 have h1:=H0 l [] p
 have h2:=J8 l [58] (C9 l [] p).2
 have h3:=Kv l (C9 l [] p).1 (l.length + 1) (F0 l [58] (C9 l [] p).2) out
 show p.at'≤(O1 _ _ _ _ _).2.at'∧(_→(O1 _ _ _ _ _).2.at'≤_)
 omega
theorem Jb (l : List Tk) (line : Int) : Fwd l (Hz l line):=fun p=>by
 have h1:=H0 l [] p
 have h2:=J8 l [45] (C9 l [] p).2
 have h3:=J8 l [62] (F0 l [45] (C9 l [] p).2)
 have h4:=H0 l [] (F0 l [62] (F0 l [45] (C9 l [] p).2))
 have h5:=J8 l [58] (C9 l [] (F0 l [62] (F0 l [45] (C9 l [] p).2))).2
 have h6:=By l (l.length + 1) (F0 l [58] (C9 l [] (F0 l [62] (F0 l [45] (C9 l [] p).2))).2)
 show p.at'≤(J3 _ _ _).2.at'∧(_→(J3 _ _ _).2.at'≤_)
 omega
theorem Ie (l : List Tk) (line : Int) : Fwd l (He l line):=fun p=>by
 have h1:=H0 l kindW p
 have h2:=H0 l [] (C9 l kindW p).2
 have h3 : (C9 l [] (C9 l kindW p).2).2.at'≤(if I9 (1 + I8 kindW (C9 l kindW p).1)=true then C9 l [] (C9 l [] (C9 l kindW p).2).2 else ([],(C9 l [] (C9 l kindW p).2).2)).2.at'∧((C9 l [] (C9 l kindW p).2).2.at'≤l.length→(if I9 (1 + I8 kindW (C9 l kindW p).1)=true then C9 l [] (C9 l [] (C9 l kindW p).2).2 else ([],(C9 l [] (C9 l kindW p).2).2)).2.at'≤l.length):=by
  split
  ·exact H0 l [] _
  ·simp
 have h4:=J8 l [58] (if I9 (1 + I8 kindW (C9 l kindW p).1)=true then C9 l [] (C9 l [] (C9 l kindW p).2).2 else ([],(C9 l [] (C9 l kindW p).2).2)).2
 have h5:=S7 (By l (l.length + 1)) (F0 l [58] (if I9 (1 + I8 kindW (C9 l kindW p).1)=true then C9 l [] (C9 l [] (C9 l kindW p).2).2 else ([],(C9 l [] (C9 l kindW p).2).2)).2)
 show p.at'≤(H1 _ _ _).2.at'∧(_→(H1 _ _ _).2.at'≤_)
 omega
theorem Iy (l : List Tk) (n : Nar) (line : Int) (w : List UInt8) : Fwd l (X2 l n line w):=fun p=>by
 unfold X2
 repeat' split
 ·exact S7 (H0 l []) p
 ·exact Lm l n.fresh p
 ·exact S7 (H0 l []) p
 ·exact Jb l line p
 ·exact Ie l line p
 ·exact ⟨Nat.le_refl _,fun h=>h⟩
theorem Pw (l : List Tk) (n : Nar) (p : PS) (hp : p.at'≤l.length) : (Ao l n p).2.at'≤l.length∧((Ao l n p).2.bad=false→p.at' < (Ao l n p).2.at'):=by
 have h1:=H0 l K2 p
 have h2:=Iy l n (Q7 l p) (C9 l K2 p).1 (C9 l K2 p).2
 have h3:=J8 l [59] (X2 l n (Q7 l p) (C9 l K2 p).1 (C9 l K2 p).2).2
 have e : (Ao l n p).2=F0 l [59] (X2 l n (Q7 l p) (C9 l K2 p).1 (C9 l K2 p).2).2:=rfl
 rw[e]
 refine ⟨by omega,fun hb=>?_⟩
 have hq:=Gb ((Sb l n _ _).good (U2 hb))
 have : (C9 l K2 p).2.at'=p.at' + 1:=by rw[C9,if_pos hq]; rfl
 omega
theorem Ra (l : List Tk) (n : Nar) : Agr (Ar l n) (Ao l n):=fun p=>by
 obtain ⟨c1,c2⟩:=uBy l p
 unfold Ar Ao
 dsimp only
 rw[c1,c2]
 obtain ⟨e1,e2⟩:=Yb l n (Q7 l p) (C9 l K2 p).1 (C9 l K2 p).2
 rw[e1] at e2 ⊢
 exact ⟨rfl,fun hb=>e2 (U2 hb)⟩
theorem Oh (l : List Tk) (m : Nat) (n : Nar) : Keeps (Cl l m n):=fun p h=>by
 cases m with
 | zero=>rfl
 | succ m=>rw[Cl,if_pos h]
theorem Nx (l : List Tk) (m : Nat) (n : Nar) : Keeps (R3 l m n):=fun p h=>by
 cases m with
 | zero=>rfl
 | succ m=>rw[R3,if_pos h]
theorem Ly (l : List Tk) : ∀ (m : Nat) (p : PS) (n n' : Nar),(p.bad=false→n=n')→p.at'≤l.length→l.length < m + p.at'∨p.bad=true →
  (F0 l [125] (R3 l m n p).2)=(Cl l m n' p).2∧((Cl l m n' p).2.bad=false→(R3 l m n p).1=(Cl l m n' p).1)
 | m,p,n,n',hn,hp,hm=>by
  by_cases hb : p.bad=true
  ·rw[Oh l m n' p hb,Nx l m n p hb,N7 l _ hb]
   exact ⟨rfl,fun q=>by rw[hb] at q; cases q⟩
  ·have hm:=hm.resolve_right hb
   match m with
   | 0=>omega
   | m + 1 =>
    have hb' : p.bad=false:=by simpa using hb
    rw[Cl,R3,if_neg hb,if_neg hb]
    split
    ·rename_i hq
     dsimp only
     rw[F0,if_pos hq]
     exact ⟨rfl,fun _=>hn hb'⟩
    ·obtain ⟨e1,e2⟩:=Ra l n p
     have hn:=hn hb'
     subst hn
     obtain ⟨a1,a2⟩:=Pw l n p hp
     rw[e1]
     refine Ly l m _ _ _ (fun q=>e2 (by rw[e1]; exact q)) a1 ?_
     cases hz : (Ao l n p).2.bad with
     | true=>exact .inr J
     | false=>exact .inl (by have := a2 hz; omega)
theorem uAF (l : List Tk) : (Rz l).2=(Av l).2∧((Av l).2.bad=false→(Rz l).1=(Av l).1):=by
 unfold Rz Av
 dsimp only
 rw[uBw]
 have h1:=H0 l [Jx] ⟨0,false⟩
 have h2:=H0 l [] (C9 l [Jx] ⟨0,false⟩).2
 have h3:=J8 l [123] (C9 l [] (C9 l [Jx] ⟨0,false⟩).2).2
 exact Ly l _ _ _ _ (fun _=>rfl) (by dsimp only at h1; omega) (.inl (by omega))
structure GoodTk (N : Nat) (t : Tk) : Prop where
 form : (t.kind=1∧t.int=0∧t.str=[]∧I3 ((t.text.getD 0 0).toNat : Int)=true∧nlE t.text=t.text.length∧t.text≠[]∧t.text.length≤24) ∨
  (t.kind=2∧t.text=[]∧t.str=[]∧0≤t.int∧t.int≤9223372036854775807)∨(t.kind=3∧t.text=[]∧t.int=0) ∨
  (t.kind=4∧t.int=0∧t.str=[] ∧ ∃ c,t.text=[c]∧symB c=true)
 s : t.str.length≤N
theorem uCz {c : UInt8} (h : symB c=true) : I3 (c.toNat : Int)≠true∧K6 (c.toNat : Int)≠true∧c.toNat≠34∧c.toNat≠35∧c.toNat≠10∧Q0 c=false:=by
 have hm : c ∈ syms:=by simpa [symB] using h
 simp only [syms,List.mem_cons,List.not_mem_nil,or_false] at hm
 rcases hm with rfl | rfl | rfl | rfl | rfl | rfl | rfl | rfl | rfl | rfl | rfl | rfl | rfl | rfl | rfl | rfl | rfl | rfl <;> decide
theorem GoodTk.onl {N : Nat} {t : Tk} (h : GoodTk N t) (k : Int) : GoodTk N (t.onl k):=⟨h.form,h.s⟩
theorem GoodTk.mono {N M : Nat} {t : Tk} (h : GoodTk N t) (hm : N≤M) : GoodTk M t:=⟨h.form,Nat.le_trans h.s hm⟩
theorem lineP_len' : ∀ (n : Nat) (l : List UInt8) (k : Int) (out : List Tk),(K0 n l k out).1.length≤out.length + l.length
 | 0,l,k,out=>by simp [K0]
 | n + 1,l,k,out=>by
  have h1:=Ys l
  rw[K0]
  split
  ·simp
  ·rename_i hq
   have hne : 0 < (N3 l).length:=List.length_pos_iff.2 fun h=>hq (.inl h)
   split
   ·simp
   ·rename_i he
    have h2:=Jt hne
    have h3:=h2.2 (Decidable.not_not.1 he)
    have ih:=lineP_len' n ((N3 l).drop (P5 (N3 l)).2.1) k (out++[(P5 (N3 l)).1.onl k])
    simp only [List.length_drop,List.length_append,List.length_singleton] at ih
    omega
def sumL (L : List (List UInt8)) : Nat:=(L.map List.length).sum
theorem Wa : ∀ (s : List UInt8),sumL (spl s)≤s.length
 | []=>by simp [sumL,spl]
 | b :: l=>by
  have ih:=Wa l
  rw[spl]
  split
  ·simp only [sumL,List.map_cons,List.sum_cons,List.length_nil,List.length_cons] at ih ⊢; omega
  ·split
   ·simp [sumL]
   ·rename_i h; rw[h] at ih
    simp only [sumL,List.map_cons,List.sum_cons,List.length_cons] at ih ⊢; omega
def Apart (r : List UInt8) : Prop:=r=[]∨Q0 (r.getD 0 0)=true
def TT (s : List UInt8) (k : Nat) (out : List Tk) : List Tk × Nat × Int:=X1 (spl s) k out
theorem Ji {l : List UInt8} (h : ∀ b ∈ l,b.toNat≠10) {n m : Nat} (k : Int) (out : List Tk) (hn : l.length < n) (hm : l.length < m) : K0 n l k out=K0 m l k out:=by
 rw[← Y2 l.length l (Nat.le_refl _) h n ((H8 l).length + 1) k out hn (by omega),← Y2 l.length l (Nat.le_refl _) h m ((H8 l).length + 1) k out hm (by omega)]
theorem Ic {b : UInt8} {l x : List UInt8} {r : List (List UInt8)} (hb : b.toNat≠10) (h : spl l=x :: r) : spl (b :: l)=(b :: x) :: r:=by
 rw[spl,if_neg hb,h]
theorem uAA {b : UInt8} {l : List UInt8} (hb : b.toNat=10) : spl (b :: l)=[] :: spl l:=by rw[spl,if_pos hb]
theorem Vi : ∀ (w : List UInt8) {l x : List UInt8} {r : List (List UInt8)},(∀ b ∈ w,b.toNat≠10)→spl l=x :: r→spl (w++l)=(w++x) :: r
 | [],_,_,_,_,h=>h
 | b :: w,l,x,r,hw,h=>Ic (hw b (by simp)) (Vi w (fun c hc=>hw c (by simp [hc])) h)
theorem Er (s : List UInt8) : ∃ x r,spl s=x :: r:=by
 cases h : spl s with
 | nil=>exact absurd h (Ni s)
 | cons x r=>exact ⟨x,r,rfl⟩
theorem Ug {n : Nat} {l l' : List UInt8} {k : Int} {out : List Tk} (h : N3 l=N3 l') : K0 (n + 1) l k out=K0 (n + 1) l' k out:=by simp only [K0,h]
theorem Jo {l l' : List UInt8} {L : List (List UInt8)} {k : Nat} {out out' : List Tk} (h : K0 (l.length + 1) l (k : Int) out=K0 (l'.length + 1) l' (k : Int) out') : X1 (l :: L) k out=X1 (l' :: L) k out':=by
 rw[X1,X1,h]
theorem uBn {w : UInt8} (hw : w.toNat=32∨w.toNat=9∨w.toNat=13) (r : List UInt8) (k : Nat) (out : List Tk) : TT (w :: r) k out=TT r k out:=by
 obtain ⟨x,xs',h⟩:=Er r
 have hin : wsp.contains w=true:=by
  rcases hw with q | q | q
  ·rw[show w=32 from UInt8.toNat_inj.1 q]; rfl
  ·rw[show w=9 from UInt8.toNat_inj.1 q]; rfl
  ·rw[show w=13 from UInt8.toNat_inj.1 q]; rfl
 have ht : N3 (w :: x)=N3 x:=by unfold N3; rw[List.dropWhile_cons,if_pos hin]
 have hno : ∀ b ∈ x,b.toNat≠10:=Eo r x (by rw[h]; simp)
 unfold TT
 rw[Ic (by omega) h,h]
 refine Jo ?_
 rw[← Ji hno (n:=x.length + 1 + 1) (m:=x.length + 1) _ _ (by omega) (by omega)]
 exact Ug ht
theorem uC9 {b : UInt8} (hb : b.toNat=10) (r : List UInt8) (k : Nat) (out : List Tk) : TT (b :: r) k out=TT r (k + 1) out:=by
 unfold TT
 rw[uAA hb,X1,Lc,if_neg (by simp)]
theorem Gr : ∀ (L : List (List UInt8)) (k : Nat) (out : List Tk),(X1 L k out).1.length≤out.length + sumL L
 | [],k,out=>by simp [X1]
 | l :: L,k,out=>by
  rw[X1]
  split
  ·simp
  ·have h1:=lineP_len' (l.length + 1) l (k : Nat) out
   have ih:=Gr L (k + 1) (K0 (l.length + 1) l (k : Nat) out).1
   simp only [sumL,List.map_cons,List.sum_cons] at ih ⊢
   omega
theorem Tp (s : List UInt8) : (tokP s).1.length≤s.length:=by
 unfold tokP
 split
 ·simp
 ·have h1:=Gr (spl s) 1 []
  have h2:=Wa s
  simp only [List.length_nil] at h1
  omega
def nmT (w : List UInt8) : Tk:=⟨1,w,0,[],0⟩
def syT (c : UInt8) : Tk:=⟨4,[c],0,[],0⟩
def uCE : List (List Tk)→List Tk
 | []=>[]
 | x :: r=>x++(r.map fun y=>syT 44 :: y).flatten
def Apt (r : List UInt8) : Prop:=r=[]∨M9 ((r.getD 0 0).toNat : Int)≠true
theorem Vt : ∀ (l r : List UInt8),nmP l=l.length→Apt r→nmP (l++r)=l.length
 | [],r,_,hr=>by
  rcases hr with h | h
  ·subst h; rfl
  ·cases r with
   | nil=>rfl
   | cons c r =>
    rw[List.getD_cons_zero] at h
    show nmP (c :: r)=0
    rw[nmP,if_neg (fun q=>h q.1)]
 | b :: l,r,h,hr=>by
  rw[nmP] at h
  split at h
  ·rename_i hq
   have ih:=Vt l r (by simpa using h) hr
   show nmP (b :: (l++r))=_
   rw[nmP,if_pos,ih]; rfl
   refine ⟨hq.1,fun q=>?_⟩
   cases l with
   | cons d l=>exact hq.2 q
   | nil =>
    obtain ⟨q1,q2⟩:=q
    rcases hr with z | z
    ·subst z; simp at q2
    ·rw[List.nil_append] at q2
     rw[q2] at z
     exact z (by decide)
  ·simp at h
theorem uBJ {l r : List UInt8} (h : nlE l=l.length) (hl : l≠[]) (hr : Apt r) : nlE (l++r)=l.length:=by
 cases l with
 | nil=>exact absurd J hl
 | cons c l =>
  have h1 : nmP l=l.length:=by simp [nlE] at h; omega
  have h2:=Vt l r h1 hr
  simp [nlE,h2]; omega
theorem uBz {r x : List UInt8} {xs' : List (List UInt8)} (hr : Apt r) (h : spl r=x :: xs') : Apt x:=by
 rcases hr with q | q
 ·subst q
  simp only [spl,List.cons.injEq] at h
  exact .inl h.1.symm
 ·cases r with
  | nil=>simp only [spl,List.cons.injEq] at h; exact .inl h.1.symm
  | cons c r =>
   rw[List.getD_cons_zero] at q
   by_cases hc : c.toNat=10
   ·rw[uAA hc] at h
    simp only [List.cons.injEq] at h
    exact .inl h.1.symm
   ·obtain ⟨y,ys,hy⟩:=Er r
    rw[Ic hc hy] at h
    simp only [List.cons.injEq] at h
    rw[← h.1]
    exact .inr q
theorem Wt {w r x : List UInt8} {xs' : List (List UInt8)} {t : Tk} {c : UInt8} {l : List UInt8} (h : spl r=x :: xs') (e1 : P5 (w++x)=(t.onl 0,w.length,0)) (e2 : w=c :: l) (e3 : Q0 c=false) (e4 : c.toNat≠35)
  (hw : ∀ b ∈ w,b.toNat≠10) (k : Nat) (out : List Tk) : TT (w++r) k out=TT r k (out++[t.onl k]):=by
 have hno:=Eo r x (by rw[h]; simp)
 have hin : ¬wsp.contains c=true:=by
  intro q
  have : c=32∨c=9∨c=13:=by simpa [wsp] using q
  rcases this with rfl | rfl | rfl <;> simp [Q0] at e3
 have ht2 : N3 (w++x)=w++x:=by
  rw[e2]
  unfold N3
  show List.dropWhile _ (c :: (l++x))=_
  rw[List.dropWhile_cons,if_neg hin]; rfl
 have hcut : ¬(w++x=[]∨[35,35].isPrefixOf (w++x)=true):=by
  rw[e2]
  rintro (q | q)
  ·cases q
  ·have q : ([35,35] : List UInt8).isPrefixOf (c :: (l++x))=true:=q
   rw[Wb] at q
   simp only [Bool.and_eq_true,decide_eq_true_eq] at q
   exact e4 q.1
 unfold TT
 rw[Vi w hw h,h]
 refine Jo ?_
 rw[K0,ht2,if_neg hcut,e1,if_neg (by simp)]
 dsimp only
 rw[List.drop_left' J]
 refine Ji hno _ _ ?_ (by omega)
 rw[List.length_append,e2]; simp only [List.length_cons]; omega
theorem Jv {w : List UInt8} (h : E3 w=true) : w≠[]∧I3 ((w.getD 0 0).toNat : Int)=true∧nlE w=w.length∧w.length≤24:=by
 simp only [E3,Bool.and_eq_true,decide_eq_true_eq] at h
 exact ⟨h.1.1.1,h.1.1.2,h.1.2,h.2⟩
theorem uBN {w : List UInt8} (h : E3 w=true) : ∀ b ∈ w,b.toNat≠10:=by
 obtain ⟨h1,h2,h3,_⟩:=Jv h
 cases w with
 | nil=>exact absurd J h1
 | cons c r =>
  rw[List.getD_cons_zero] at h2
  intro b hb
  rcases List.mem_cons.1 hb with q | q
  ·subst q; intro z; rw[z] at h2; revert h2; decide
  ·have := Mr r (by unfold nlE at h3; simp at h3; omega)
   exact Gi (by have := List.all_eq_true.1 this b q; exact this)
theorem uBA {w : List UInt8} (hn : E3 w=true) {r : List UInt8} (hr : Apt r) (k : Nat) (out : List Tk) : TT (w++r) k out=TT r k (out++[(nmT w).onl k]):=by
 obtain ⟨x,xs',h⟩:=Er r
 obtain ⟨h1,h2,h3,h4⟩:=Jv hn
 obtain ⟨c,l,rfl⟩ : ∃ c l,w=c :: l:=by
  cases w with
  | nil=>exact absurd J h1
  | cons c l=>exact ⟨c,l,rfl⟩
 rw[List.getD_cons_zero] at h2
 refine Wt h ?_ J ?_ ?_ (uBN hn) k out
 ·have e1:=uBJ h3 h1 (uBz hr h)
  unfold P5
  have e2 : ((c :: l)++x).getD 0 0=c:=rfl
  rw[e2,if_pos h2,e1,if_neg (by omega),List.take_left' J]; rfl
 ·rw[Bool.eq_false_iff]; intro q
  have : c.toNat=32∨c.toNat=9∨c.toNat=10∨c.toNat=13:=by simp [Q0] at q; omega
  rcases this with q | q | q | q <;> rw[q] at h2 <;> revert h2 <;> decide
 ·intro q; rw[q] at h2; revert h2; decide
theorem uCH {c : UInt8} (hc : symB c=true) (r : List UInt8) (k : Nat) (out : List Tk) : TT (c :: r) k out=TT r k (out++[(syT c).onl k]):=by
 obtain ⟨x,xs',h⟩:=Er r
 obtain ⟨s1,s2,s3,s4,s5,s6⟩:=uCz hc
 refine Wt (w:=[c]) h ?_ J s6 s4 (by simpa using s5) k out
 unfold P5
 have e2 : ([c]++x).getD 0 0=c:=rfl
 rw[e2,if_neg s1,if_neg s2,if_neg s3,if_pos hc]; rfl
def Toks (b : Bool) (s : List UInt8) (ts : List Tk) : Prop:=∀ (r : List UInt8) (k : Nat) (out : List Tk),b=true∨Apt r → ∃ d l',l'.map (·.nl false)=ts∧TT (s++r) k out=TT r (k + d) (out++l')
def Fr (s : List UInt8) : Prop:=s≠[]∧M9 ((s.getD 0 0).toNat : Int)≠true
theorem Fr.apt {s : List UInt8} (h : Fr s) (r : List UInt8) : Apt (s++r):=by
 cases s with
 | nil=>exact absurd J h.1
 | cons c s=>exact .inr h.2
theorem Toks.nil : Toks true [] []:=fun r k out _=>⟨0,[],rfl,by simp⟩
theorem Toks.weak {b : Bool} {s : List UInt8} {ts : List Tk} (h : Toks true s ts) : Toks b s ts:=fun r k out _=>h r k out (.inl J)
theorem Toks.app {b b' : Bool} {s s' : List UInt8} {ts ts' : List Tk} (h : Toks b s ts) (h' : Toks b' s' ts') (hb : b=true∨Fr s') : Toks b' (s++s') (ts++ts'):=fun r k out hr=>by
 obtain ⟨d,l1,e1,e2⟩:=h (s'++r) k out (hb.elim .inl fun q=>.inr (q.apt r))
 obtain ⟨d',l2,e3,e4⟩:=h' r (k + d) (out++l1) hr
 exact ⟨d + d',l1++l2,by rw[List.map_append,e1,e3],by rw[List.append_assoc,e2,e4,List.append_assoc,Nat.add_assoc]⟩
theorem Toks.name {w : List UInt8} (h : E3 w=true) : Toks false w [nmT w]:=fun r k out hr=>⟨0,[(nmT w).onl k],rfl,uBA h (hr.resolve_left (by simp)) k out⟩
theorem Toks.sym {c : UInt8} (h : symB c=true) : Toks true [c] [syT c]:=fun r k out _=>⟨0,[(syT c).onl k],rfl,uCH h r k out⟩
theorem Toks.sp : Toks true [32] []:=fun r k out _=>⟨0,[],rfl,by rw[List.append_nil]; exact uBn (.inl J) r k out⟩
theorem Toks.nl : Toks true [10] []:=fun r k out _=>⟨1,[],rfl,by rw[List.append_nil]; exact uC9 J r k out⟩
theorem Toks.join {α : Type} {f : α→List UInt8} {g : α→List Tk} : ∀ {l : List α},(∀ x ∈ l,Toks false (f x) (g x))→Toks false (Lib.join (l.map f) [44,32]) (uCE (l.map g))
 | [],_=>Toks.nil.weak
 | x :: l,h=>by
  have tail : ∀ {l : List α},(∀ x ∈ l,Toks false (f x) (g x))→Toks false (Lib.joinTail [44,32] (l.map f)) ((l.map g).map fun y=>syT 44 :: y).flatten∧(l=[]∨Fr (Lib.joinTail [44,32] (l.map f))):=by
   intro l
   induction l with
   | nil=>exact fun _=>⟨Toks.nil.weak, .inl J⟩
   | cons y l ih =>
    intro h
    have e : Lib.joinTail [44,32] ((y :: l).map f)=([44]++[32])++(f y++Lib.joinTail [44,32] (l.map f)):=by simp [Lib.joinTail]
    have e2 : (((y :: l).map g).map fun y=>syT 44 :: y).flatten=([syT 44]++[])++(g y++((l.map g).map fun y=>syT 44 :: y).flatten):=by simp
    obtain ⟨i1,i2⟩:=ih fun z hz=>h z (by simp [hz])
    rw[e,e2]
    refine ⟨((Toks.sym (by decide)).app Toks.sp (.inl J)).app ?_ (.inl J), .inr ⟨by simp,by simp; decide⟩⟩
    rcases i2 with q | q
    ·subst q
     simp only [List.map_nil,List.flatten_nil,List.append_nil,Lib.joinTail,List.flatMap_nil]
     exact h y (by simp)
    ·exact (h y (by simp)).app i1 (.inr q)
  rw[List.map_cons,List.map_cons,Lib.join_cons]
  obtain ⟨i1,i2⟩:=tail (l:=l) fun z hz=>h z (by simp [hz])
  show Toks false _ (g x++_)
  rcases i2 with q | q
  ·subst q
   simp only [List.map_nil,List.flatten_nil,List.append_nil,Lib.joinTail,List.flatMap_nil]
   exact h x (by simp)
  ·exact (h x (by simp)).app i1 (.inr q)
mutual
def gdB : T→Bool
 | .mk k n s ks=>decide (s=0) && E3 n && ((decide (k=2) && ks.isEmpty) || decide (k=3)) && gdBs ks
def gdBs : List T→Bool
 | []=>true
 | t :: ts=>gdB t && gdBs ts
end
theorem uAg (t : T) : gdB t=(decide (t.sort=0) && E3 t.name && ((decide (t.kind=2) && t.kids.isEmpty) || decide (t.kind=3)) && gdBs t.kids):=by cases t; rw[gdB]; rfl
theorem Qx : ∀ {l : List T},gdBs l=true → ∀ x ∈ l,gdB x=true
 | [],_,x,h=>by simp at h
 | y :: l,h,x,hx=>by
  rw[gdBs,Bool.and_eq_true] at h
  rcases List.mem_cons.1 hx with q | q
  ·subst q; exact h.1
  ·exact Qx h.2 x q
mutual
theorem uCg : ∀ (t : T),t.nodesE=0→rawE E3 t=0→gdB t=true
 | .mk k n s ks,h1,h2=>by
  rw[T.nodesE] at h1
  rw[rawE] at h2
  rw[gdB]
  split at h1
  ·rename_i hz; exact absurd h1 hz
  ·rename_i hz
   have hz:=Decidable.not_not.1 hz
   split at h2
   ·simp at h2
   ·rename_i hk
    split at h2
    ·simp at h2
    ·rename_i hn
     rw[uAK ks h1 h2]
     unfold N4 at hz
     split at hz
     ·rename_i hq
      have q1 : (k=1∨k=2)∧0≤s∧s≤5∧ks.length=0∨k=3∧s=0:=hq
      have hn : E3 n=true:=by simpa using hn
      rw[hn]
      simp only [Bool.and_true,Bool.and_eq_true,Bool.or_eq_true,decide_eq_true_eq,List.isEmpty_iff]
      refine ⟨by omega,?_⟩
      rcases q1 with ⟨q,_,_,q2⟩ | ⟨q,_⟩
      ·exact .inl ⟨by omega,List.length_eq_zero_iff.1 q2⟩
      ·exact .inr q
     ·simp at hz
theorem uAK : ∀ (ts : List T),T.nodesEs ts=0→Do E3 ts=0→gdBs ts=true
 | [],_,_=>rfl
 | t :: ts,h1,h2=>by
  rw[T.nodesEs] at h1
  rw[Do] at h2
  rw[gdBs]
  split at h1
  ·rename_i hz; exact absurd h1 hz
  ·rename_i hz
   split at h2
   ·rename_i hy; exact absurd h2 hy
   ·rename_i hy
    rw[uCg t (Decidable.not_not.1 hz) (Decidable.not_not.1 hy),uAK ts h1 h2]; rfl
end
theorem Zr {t : T} (h : Aw E3 t=0) : gdB t=true:=by
 unfold Aw at h
 split at h
 ·rename_i hz; exact absurd h hz
 ·rename_i hz
  have hz:=Decidable.not_not.1 hz
  unfold W8 at hz
  split at hz
  ·rename_i hy; exact absurd hz hy
  ·rename_i hy; exact uCg t (Decidable.not_not.1 hy) h
def At (l : List Tk) (p : PS) (ts : List Tk) : Prop:=p.bad=false∧p.at'≤l.length∧l.drop p.at'=ts
theorem At.cons {l : List Tk} {p : PS} {t : Tk} {ts : List Tk} (h : At l p (t :: ts)) : p.at' < l.length∧l.getD p.at' tk0=t∧At l p.go ts:=by
 obtain ⟨h1,h2,h3⟩:=h
 have hlt : p.at' < l.length:=by
  rcases Nat.lt_or_ge p.at' l.length with q | q
  ·exact q
  ·rw[List.drop_of_length_le q] at h3; cases h3
 rw[Mn (d:=tk0) hlt] at h3
 simp only [List.cons.injEq] at h3
 exact ⟨hlt,h3.1,h1,hlt,h3.2⟩
theorem At.len {l : List Tk} {p : PS} {ts : List Tk} (h : At l p ts) : ts.length + p.at'=l.length:=by
 obtain ⟨h1,h2,h3⟩:=h
 rw[← h3,List.length_drop]; omega
theorem At.good {l : List Tk} {p : PS} {ts : List Tk} (h : At l p ts) : p.bad=false:=h.1
def Pln (ts : List Tk) : Prop:=∀ t ∈ ts,t.int=0∧t.str=[]∧t.line=0
theorem Pln.nil : Pln []:=by intro t h; simp at h
theorem Pln.app {a b : List Tk} (h : Pln a) (h' : Pln b) : Pln (a++b):=fun t ht=>(List.mem_append.1 ht).elim (h t) (h' t)
theorem Pln.nm (w : List UInt8) : Pln [nmT w]:=by intro t h; simp at h; subst h; exact ⟨rfl,rfl,rfl⟩
theorem Pln.cons {t : Tk} {ts : List Tk} (h : Pln [t]) (h' : Pln ts) : Pln (t :: ts):=h.app (a:=[t]) h'
theorem Pln.right {a b : List Tk} (h : Pln (a++b)) : Pln b:=fun t ht=>h t (by simp [ht])
theorem Pln.tail {a : Tk} {b : List Tk} (h : Pln (a :: b)) : Pln b:=fun t ht=>h t (by simp [ht])
def Stop (ts : List Tk) : Prop:=∀ r,ts≠syT 40 :: r
def Sp.el (s : Sp) : Sp:={ s with line:=0 }
def Gl.el (g : Gl) : Gl:={ g with line:=0 }
def Nar.el (n : Nar) : Nar:={ n with steps:=n.steps.map Sp.el,goals:=n.goals.map Gl.el }
inductive Itm where
 | roles (l : List (List UInt8))
 | fresh (role : List UInt8) (l : List (List UInt8 × Int))
 | tags (l : List (List UInt8))
 | step (s : Sp)
 | goal (g : Gl)
def uAY (k : Int) : List UInt8:=sortW.getD (k - 2).toNat []
def uBl (k : Int) : List UInt8:=kindW.getD (k - 1).toNat []
def fsW (f : List UInt8 × Int) : List UInt8:=f.1++([32]++uAY f.2)
def Itm.text : Itm→List UInt8
 | .roles l=>hRole++(Lib.join l [44,32]++[59])
 | .fresh r l=>hFresh++(r++([58,32]++(Lib.join (l.map fsW) [44,32]++[59])))
 | .tags l=>hTag++(Lib.join l [44,32]++[59])
 | .step s=>hMsg++(s.frm++(arrow++(s.dst++([58,32]++(X0 s.msg++[59])))))
 | .goal g=>hGoal++(uBl g.kind++([32]++(g.role++((if I9 g.kind=true then [32]++g.wth else [])++([58,32]++(Bi g.data++[59]))))))
def Itm.ok : Itm→Prop
 | .roles l=>l≠[] ∧ ∀ w ∈ l,E3 w=true
 | .fresh r l=>E3 r=true∧l≠[] ∧ ∀ f ∈ l,E3 f.1=true∧2≤f.2∧f.2≤4
 | .tags l=>l≠[] ∧ ∀ w ∈ l,E3 w=true
 | .step s=>E3 s.frm=true∧E3 s.dst=true∧gdB s.msg=true
 | .goal g=>1≤g.kind∧g.kind≤5∧E3 g.role=true∧(I9 g.kind=true→E3 g.wth=true)∧(I9 g.kind=false→g.wth=[])∧g.data≠[] ∧ ∀ t ∈ g.data,gdB t=true
def Itm.more (f : List UInt8 × Int) : Itm→Itm
 | .fresh r l=>.fresh r (l++[f])
 | i=>i
def glue (f : List UInt8 × Int) : List Itm→List Itm
 | []=>[]
 | [i]=>[i.more f]
 | i :: j :: r=>i :: glue f (j :: r)
theorem Fw (f : List UInt8 × Int) (r : List UInt8) (l : List (List UInt8 × Int)) : ∀ I : List Itm,glue f (I++[.fresh r l])=I++[.fresh r (l++[f])]
 | []=>rfl
 | [i]=>rfl
 | i :: j :: I=>by
  have ih:=Fw f r l (j :: I)
  rw[List.cons_append,List.cons_append] at ih
  rw[List.cons_append,List.cons_append,glue,ih]
  rfl
def Kb (fs : List Fs) (k : Nat) : Prop:=0 < k∧(fs.getD (k - 1) default).role=(fs.getD k default).role
instance (fs : List Fs) (k : Nat) : Decidable (Kb fs k):=by unfold Kb; infer_instance
def Fs.pr (f : Fs) : List UInt8 × Int:=(f.name,f.sort)
def frI (fs : List Fs) : Nat→List Itm
 | 0=>[]
 | k + 1=>if Kb fs k then glue (fs.getD k default).pr (frI fs k) else frI fs k++[.fresh (fs.getD k default).role [(fs.getD k default).pr]]
theorem Pi (fs : List Fs) : ∀ k,0 < k → ∃ I l,l≠[]∧frI fs k=I++[.fresh (fs.getD (k - 1) default).role l]
 | 0,h=>by omega
 | k + 1,_=>by
  rw[frI,Nat.add_sub_cancel]
  split
  ·rename_i hs
   obtain ⟨I,l,h1,h2⟩:=Pi fs k hs.1
   rw[h2,Fw,hs.2]
   exact ⟨I,_,by simp,rfl⟩
  ·exact ⟨_,_,by simp,rfl⟩
theorem Pq {fs : List Fs} {k : Nat} (hs : Kb fs k) : ∃ I l,l≠[]∧frI fs k=I++[.fresh (fs.getD k default).role l]∧frI fs (k + 1)=I++[.fresh (fs.getD k default).role (l++[(fs.getD k default).pr])]:=by
 obtain ⟨I,l,h1,h2⟩:=Pi fs k hs.1
 rw[hs.2] at h2
 exact ⟨I,l,h1,h2,by rw[frI,if_pos hs,h2,Fw]⟩
theorem Vw {fs : List Fs} {k : Nat} (hs : ¬Kb fs k) : frI fs (k + 1)=frI fs k++[.fresh (fs.getD k default).role [(fs.getD k default).pr]]:=by rw[frI,if_neg hs]
theorem Wr (fs : List Fs) : ∀ k,(frI fs k).length≤k
 | 0=>by simp [frI]
 | k + 1=>by
  have ih:=Wr fs k
  by_cases hs : Kb fs k
  ·obtain ⟨I,l,_,h2,h3⟩:=Pq hs
   rw[h2] at ih
   rw[h3]
   simp only [List.length_append,List.length_singleton] at ih ⊢; omega
  ·rw[Vw hs]
   simp only [List.length_append,List.length_singleton]; omega
theorem uAc (sep x : List UInt8) : Lib.join [x] sep=x:=by rw[Lib.join_cons]; simp [Lib.joinTail]
def Nar.itms (n : Nar) : List Itm:=[.roles n.roles]++(frI n.fresh n.fresh.length++((if n.tags=[] then [] else [.tags n.tags])++(n.steps.map .step++n.goals.map .goal)))
def Qy (n : Nar) : List UInt8:=hProt++(n.name++[32,123])
def Nar.lines (n : Nar) : List (List UInt8):=[Qy n]++(n.itms.map Itm.text++[[125]])
def nl (L : List (List UInt8)) : List UInt8:=(L.map fun s=>s++[10]).flatten
theorem uCT (a b : List (List UInt8)) : nl (a++b)=nl a++nl b:=by simp [nl]
theorem Wc : ∀ L : List (List UInt8),L≠[]→Lib.join L [10]++[10]=nl L
 | [],h=>absurd J h
 | [x],_=>by rw[uAc]; simp [nl]
 | x :: y :: L,_=>by
  have ih:=Wc (y :: L) (by simp)
  have e : Lib.join (x :: y :: L) [10]=x++([10]++Lib.join (y :: L) [10]):=by
   rw[Lib.join_cons,Lib.join_cons]; simp [Lib.joinTail]
  have e2 : nl (x :: y :: L)=x++([10]++nl (y :: L)):=by simp [nl]
  rw[e,e2,← ih]; simp
def Nar.text (n : Nar) : List UInt8:=Lib.join n.lines [10]++[10]
theorem Nar.text_eq (n : Nar) : n.text=nl n.lines:=Wc _ (by simp [Nar.lines])
structure MsgOk (t : T) : Prop where
 raw : Aw E3 t=0
 size : t.size≤40
structure GlOk (g : Gl) : Prop where
 k1 : 1≤g.kind
 k2 : g.kind≤5
 role : E3 g.role=true
 w1 : I9 g.kind=true→E3 g.wth=true
 w0 : I9 g.kind=false→g.wth=[]
 d1 : 1≤g.data.length
 d2 : g.data.length≤4
 data : ∀ t ∈ g.data,MsgOk t
structure NarOk (n : Nar) : Prop where
 name : E3 n.name=true
 r1 : 2≤n.roles.length
 r2 : n.roles.length≤4
 roles : ∀ w ∈ n.roles,E3 w=true
 f2 : n.fresh.length≤12
 fresh : ∀ f ∈ n.fresh,E3 f.role=true∧E3 f.name=true∧2≤f.sort∧f.sort≤4
 t2 : n.tags.length≤8
 tags : ∀ w ∈ n.tags,E3 w=true
 s1 : 1≤n.steps.length
 s2 : n.steps.length≤8
 steps : ∀ s ∈ n.steps,E3 s.frm=true∧E3 s.dst=true∧MsgOk s.msg
 g2 : n.goals.length≤8
 goals : ∀ g ∈ n.goals,GlOk g
theorem uBk {t : T} (h : msgE E3 t=0) : MsgOk t:=by
 unfold msgE at h
 split at h
 ·rename_i hz; exact absurd h hz
 ·rename_i hz
  split at h
  ·simp at h
  ·exact ⟨Decidable.not_not.1 hz,by omega⟩
theorem uBB {g : Gl} (h : O6 E3 g=0) : GlOk g:=by
 unfold O6 at h
 split at h
 ·simp at h
 rename_i h1
 split at h
 ·simp at h
 rename_i h2
 split at h
 ·simp at h
 rename_i h3
 split at h
 ·simp at h
 rename_i h4
 have h5:=errs_zero.1 h
 refine ⟨by omega,by omega,?_,fun ha=>?_,fun ha=>?_,?_,?_,fun t ht=>uBk (h5 t ht)⟩
 ·cases hz : E3 g.role with
  | true=>rfl
  | false=>exact absurd (.inl hz) h2
 ·cases hz : E3 g.wth with
  | true=>rfl
  | false=>exact absurd (.inr ⟨ha,hz⟩) h2
 ·exact Decidable.byContradiction fun q=>h3 ⟨ha,q⟩
 ·cases ha : I9 g.kind with
  | true=>exact Decidable.byContradiction fun q=>h4 (.inl ⟨ha,by omega⟩)
  | false=>exact Decidable.byContradiction fun q=>h4 (.inr ⟨ha,by omega⟩)
 ·cases ha : I9 g.kind with
  | true=>exact Decidable.byContradiction fun q=>h4 (.inl ⟨ha,by omega⟩)
  | false=>exact Decidable.byContradiction fun q=>h4 (.inr ⟨ha,by omega⟩)
theorem uCt {n : Nar} (h : cntE n=0) : 2≤n.roles.length∧n.roles.length≤4∧n.fresh.length≤12∧n.tags.length≤8∧1≤n.steps.length∧n.steps.length≤8∧n.goals.length≤8:=by
 unfold cntE at h
 repeat' split at h
 all_goals first
  | (simp at h; done)
  | omega
theorem My {n : Nar} (h : narE E3 n=0) : NarOk n:=by
 unfold narE at h
 split at h
 ·rename_i hz; exact absurd h hz
 rename_i h1
 split at h
 ·rename_i hz; exact absurd h hz
 rename_i h2
 have h1:=Decidable.not_not.1 h1
 have h2:=errs_zero.1 (Decidable.not_not.1 h2)
 have h3:=errs_zero.1 h
 unfold As at h1
 split at h1
 ·simp at h1
 rename_i a1
 split at h1
 ·rename_i hz; exact absurd h1 hz
 rename_i a2
 split at h1
 ·simp at h1
 rename_i a3
 split at h1
 ·rename_i hz; exact absurd h1 hz
 rename_i a4
 split at h1
 ·simp at h1
 rename_i a5
 obtain ⟨c1,c2,c3,c4,c5,c6,c7⟩:=uCt (Decidable.not_not.1 a2)
 have a4:=errs_zero.1 (Decidable.not_not.1 a4)
 refine ⟨by simpa using a1,c1,c2,fun w hw=>List.all_eq_true.1 (by simpa using a3) w hw,c3,fun f hf=>?_,c4,fun w hw=>List.all_eq_true.1 (by simpa using a5) w hw,c5,c6,fun s hs=>?_,c7,fun g hg=>uBB (h3 g hg)⟩
 ·have := a4 f hf
  unfold frE at this
  split at this
  ·simp at this
  rename_i q
  split at this
  ·simp at this
  ·refine ⟨?_,?_,by omega,by omega⟩
   ·cases hz : E3 f.role with
    | true=>rfl
    | false=>exact absurd (.inl hz) q
   ·cases hz : E3 f.name with
    | true=>rfl
    | false=>exact absurd (.inr hz) q
 ·have := h2 s hs
  unfold spE at this
  split at this
  ·simp at this
  rename_i q
  refine ⟨?_,?_,uBk this⟩
  ·cases hz : E3 s.frm with
   | true=>rfl
   | false=>exact absurd (.inl hz) q
  ·cases hz : E3 s.dst with
   | true=>rfl
   | false=>exact absurd (.inr hz) q
theorem Bz {w : List UInt8} (h : E3 w=true) : w.length≤24:=(Jv h).2.2.2
theorem MsgOk.ok {t : T} (h : MsgOk t) : okB t=true:=(uCC h.raw).1
theorem MsgOk.len {t : T} (h : MsgOk t) : (X0 t).length≤1120 := by have := Ve h.ok; have := h.size; omega
theorem Sr : ∀ {l : List T} {M : Nat},(∀ t ∈ l,t.size≤M)→T.sizes l≤M * l.length
 | [],M,_=>by simp [T.sizes]
 | t :: l,M,h=>by
  have h1:=h t (by simp)
  have h2:=Sr (M:=M) fun x hx=>h x (List.mem_cons_of_mem t hx)
  rw[T.sizes,List.length_cons,Nat.mul_succ]; omega
theorem GlOk.sizes {g : Gl} (h : GlOk g) : T.sizes g.data≤160:=by
 have := Sr (M := 40) fun t ht=>(h.data t ht).size
 have := h.d2; omega
theorem GlOk.oks {g : Gl} (h : GlOk g) : ∀ t ∈ g.data,okB t=true:=fun t ht=>(h.data t ht).ok
theorem GlOk.len {g : Gl} (h : GlOk g) : (Bi g.data).length≤4480 := by have := uAu h.oks; have := h.sizes; omega
theorem GlOk.wth {g : Gl} (h : GlOk g) : g.wth.length≤24:=by
 cases ha : I9 g.kind with
 | true=>exact Bz (h.w1 ha)
 | false=>rw[h.w0 ha]; simp
theorem Nf (fs : List Fs) : ∀ k,k≤fs.length → ∀ i ∈ frI fs k,∃ r l,i = .fresh r l∧l≠[]∧l.length≤k ∧ ∀ p ∈ l,∃ f ∈ fs,p=f.pr∧f.role=r
 | 0,_,i,h=>by simp [frI] at h
 | k + 1,hk,i,h=>by
  have ih:=Nf fs k (by omega)
  have hm : fs.getD k default ∈ fs:=by
   rw[List.getD_eq_getElem?_getD,List.getElem?_eq_getElem (by omega)]; exact List.getElem_mem _
  by_cases hs : Kb fs k
  ·obtain ⟨I,l,_,h2,h3⟩:=Pq hs
   rw[h3] at h
   rw[h2] at ih
   rcases List.mem_append.1 h with q | q
   ·obtain ⟨r,l',e1,e2,e3,e4⟩:=ih i (by simp [q])
    exact ⟨r,l',e1,e2,by omega,e4⟩
   ·obtain ⟨r,l',e1,e2,e3,e4⟩:=ih _ (List.mem_append.2 (.inr (List.mem_singleton.2 rfl)))
    simp only [Itm.fresh.injEq] at e1
    obtain ⟨rfl,rfl⟩:=e1
    refine ⟨_,_,List.mem_singleton.1 q,by simp,by simp only [List.length_append,List.length_singleton]; omega,fun p hp=>?_⟩
    rcases List.mem_append.1 hp with z | z
    ·exact e4 p z
    ·exact ⟨_,hm,List.mem_singleton.1 z,rfl⟩
  ·rw[Vw hs] at h
   rcases List.mem_append.1 h with q | q
   ·obtain ⟨r,l',e1,e2,e3,e4⟩:=ih i q
    exact ⟨r,l',e1,e2,by omega,e4⟩
   ·refine ⟨_,_,List.mem_singleton.1 q,by simp,by simp,fun p hp=>⟨_,hm,List.mem_singleton.1 hp,rfl⟩⟩
def FsOk (fs : List Fs) : Prop:=∀ f ∈ fs,E3 f.role=true∧E3 f.name=true∧2≤f.sort∧f.sort≤4
theorem uCL {fs : List Fs} (h : FsOk fs) {k : Nat} (hk : k≤fs.length) : ∀ i ∈ frI fs k,i.ok:=by
 intro i hi
 obtain ⟨r,l,rfl,h2,h3,h4⟩:=Nf fs k hk i hi
 refine ⟨?_,h2,fun p hp=>?_⟩
 ·obtain ⟨p,q,rfl⟩ : ∃ p q,l=p :: q:=by
   cases l with
   | nil=>exact absurd J h2
   | cons p q=>exact ⟨p,q,rfl⟩
  obtain ⟨f,hf,_,e⟩:=h4 p (by simp)
  rw[← e]; exact (h f hf).1
 ·obtain ⟨f,hf,e,_⟩:=h4 p hp
  subst e
  exact ⟨(h f hf).2.1,(h f hf).2.2.1,(h f hf).2.2.2⟩
theorem uBi {L : List (List UInt8)} {M : Nat} (h : ∀ x ∈ L,x.length≤M) : Ca L≤(M + 2) * L.length:=by
 induction L with
 | nil=>simp [Ca]
 | cons x L ih =>
  have h1:=h x (by simp)
  have h2:=ih fun y hy=>h y (by simp [hy])
  simp only [Ca,List.map_cons,List.sum_cons,List.length_cons,Nat.mul_succ] at h2 ⊢
  omega
theorem Wo {L : List (List UInt8)} {M : Nat} (h : ∀ x ∈ L,x.length≤M) : (Lib.join L [44,32]).length≤(M + 2) * L.length:=Nat.le_trans (Db L).1 (uBi h)
theorem Yx (k : Int) : (uAY k).length≤5:=by
 unfold uAY
 have : ∀ j : Nat,(sortW.getD j []).length≤5:=by
  intro j
  match j with
  | 0=>decide
  | 1=>decide
  | 2=>decide
  | j + 3=>simp [sortW,List.getD_eq_getElem?_getD]
 exact this _
theorem uAw {fs : List Fs} (h : FsOk fs) {k : Nat} (hk : k≤fs.length) (h12 : fs.length≤12) : ∀ i ∈ frI fs k,i.text.length≤500:=by
 intro i hi
 have ho:=uCL h hk i hi
 obtain ⟨r,l,rfl,h2,h3,h4⟩:=Nf fs k hk i hi
 obtain ⟨o1,o2,o3⟩:=ho
 have h5:=Bz o1
 have h6 : (Lib.join (l.map fsW) [44,32]).length≤(30 + 2) * l.length:=by
  have := Wo (L := l.map fsW) (M := 30) fun x hx=>by
   obtain ⟨p,hp,rfl⟩:=List.mem_map.1 hx
   have := Bz (o3 p hp).1
   have := Yx p.2
   simp only [fsW,List.length_append,List.length_cons,List.length_nil]; omega
  rwa [List.length_map] at this
 have : hFresh.length=8:=rfl
 simp only [Itm.text,List.length_append,List.length_cons,List.length_nil]
 omega
theorem Jf {l : List (List UInt8)} (h : ∀ w ∈ l,E3 w=true) : (Lib.join l [44,32]).length≤26 * l.length:=Wo fun x hx=>Bz (h x hx)
theorem Zb {s : Sp} (h1 : E3 s.frm=true) (h2 : E3 s.dst=true) (h3 : MsgOk s.msg) : (Itm.step s).text.length≤1300:=by
 have a:=Bz h1
 have b:=Bz h2
 have c:=h3.len
 have : hMsg.length=10:=rfl
 have : arrow.length=4:=rfl
 simp only [Itm.text,List.length_append,List.length_cons,List.length_nil]; omega
theorem Xs (k : Int) : (uBl k).length≤7:=by
 unfold uBl
 have : ∀ j : Nat,(kindW.getD j []).length≤7:=by
  intro j
  match j with
  | 0=>decide
  | 1=>decide
  | 2=>decide
  | 3=>decide
  | 4=>decide
  | j + 5=>simp [kindW,List.getD_eq_getElem?_getD]
 exact this _
theorem Xg {g : Gl} (h : GlOk g) : (Itm.goal g).text.length≤4600:=by
 have a:=Bz h.role
 have b:=h.wth
 have c:=h.len
 have d:=Xs g.kind
 have : hGoal.length=7:=rfl
 simp only [Itm.text,List.length_append,List.length_cons,List.length_nil]
 split <;> (simp only [List.length_append,List.length_cons,List.length_nil]; omega)
theorem uCV (L : List (List UInt8)) {M : Nat} (h : ∀ x ∈ L,x.length≤M) : (nl L).length≤(M + 1) * L.length:=by
 induction L with
 | nil=>simp [nl]
 | cons x L ih =>
  have h1:=h x (by simp)
  have h2:=ih fun y hy=>h y (by simp [hy])
  have e : nl (x :: L)=x++([10]++nl L):=by simp [nl]
  rw[e]
  simp only [List.length_append,List.length_cons,List.length_nil,Nat.mul_succ]
  omega
theorem Ti {α : Type} (f : α→List UInt8) (l : List α) {M : Nat} (h : ∀ x ∈ l,(f x).length≤M) : (nl (l.map f)).length≤(M + 1) * l.length:=by
 have := uCV (l.map f) (M := M) fun x hx=>by
  obtain ⟨y,hy,rfl⟩:=List.mem_map.1 hx; exact h y hy
 rwa [List.length_map] at this
theorem NarOk.text_len {n : Nar} (h : NarOk n) : n.text.length≤60000:=by
 rw[n.text_eq]
 have e : n.lines=[Qy n]++([(Itm.roles n.roles).text]++((frI n.fresh n.fresh.length).map Itm.text++((if n.tags=[] then [] else [.tags n.tags]).map Itm.text++(n.steps.map (fun s=>(Itm.step s).text)++(n.goals.map (fun g=>(Itm.goal g).text)++[[125]]))))):=by
  unfold Nar.lines Nar.itms
  simp [List.map_map,Function.comp_def]
 rw[e]
 simp only [uCT,List.length_append]
 have h1 : (nl [Qy n]).length≤60:=by
  have := Bz h.name
  have : hProt.length=9:=rfl
  simp only [nl,Qy,List.map_cons,List.map_nil,List.flatten_cons,List.flatten_nil,List.length_append,List.length_cons,List.length_nil]; omega
 have h2 : (nl [(Itm.roles n.roles).text]).length≤200:=by
  have := Jf h.roles
  have := h.r2
  have : hRole.length=7:=rfl
  simp only [nl,Itm.text,List.map_cons,List.map_nil,List.flatten_cons,List.flatten_nil,List.length_append,List.length_cons,List.length_nil]; omega
 have h3:=Ti Itm.text (frI n.fresh n.fresh.length) (uAw h.fresh (Nat.le_refl _) h.f2)
 have h3':=Wr n.fresh n.fresh.length
 have h4 : (nl ((if n.tags=[] then [] else [.tags n.tags]).map Itm.text)).length≤300:=by
  split
  ·simp [nl]
  ·have := Jf h.tags
   have := h.t2
   have : hTag.length=6:=rfl
   simp only [nl,Itm.text,List.map_cons,List.map_nil,List.flatten_cons,List.flatten_nil,List.length_append,List.length_cons,List.length_nil]; omega
 have h5:=Ti (fun s=>(Itm.step s).text) n.steps (M:=1300) fun s hs=>by
  obtain ⟨s1,s2,s3⟩:=h.steps s hs
  exact Zb s1 s2 s3
 have h6:=Ti (fun g=>(Itm.goal g).text) n.goals (M:=4600) fun g hg=>Xg (h.goals g hg)
 have h7 : (nl [[125]]).length=2:=rfl
 have := h.f2
 have := h.s2
 have := h.g2
 omega
theorem sagree_iff {k : Int} : I9 k=true ↔ k=2∨k=3:=by simp [I9]
theorem Uc (n : Nar) (b : Nat) (g : Gl) (hg : T.sizes g.data≤900000) : Ctr (sys.add b (mapL (nmsL n))) 42 [xtb n.roles (.map (some b)),xg g] [] (xi (Q5 n g)) none []:=by
 have hr:=T.rows_len g.data
 have hls:=T.len_sizes g.data
 refine D1 Tryz.func42 J J J J J J ?_;refine A8 (A6 ?_);refine C3 J (D8 J J J J) ?_;refine C3 J (D8 J J J J) ?_;refine A5 J J J (A9 J gU) ?_;refine B0 ?_;refine A8 ?_;refine A8 (A6 ?_);refine A5 J J J (B1 J gU J J) ?_;refine A5 J J J (B2 J gU J J J J) ?_;refine A5 J J J (B1 J gU J J) ?_;refine A5 J J J (B2 J gU J J J J) ?_;refine C7 J J J J J J gU gU (Ctr.add (P0 _ _)) J ?_;refine A5 J J J (F9 J gU) ?_;refine B0 ?_;refine B6 (s:=⟨[(2,_,_),(3,_,_),(14,_,_)],[(.l 2,_),(.l 3,_)],[],[]⟩) (B4 (⟨U J,U J,U J,O⟩) (⟨U J,U J,O⟩) O) ?_;refine B9 J (fun hc=>?_) (fun hc=>?_)
 ·try simp only [nn,B3,nq] at hc
  refine A8 (A6 ?_);refine A5 J J J (A9 J gU) ?_;refine B0 ?_;refine C1 ?_
  repeat(first|refine tR ?_|refine bR ?_)
  refine C5 J ?_ O
  (rw[Q5,if_pos hc]; rfl)
 ·try simp only [nn,B3,nq] at hc
  have c1 : ¬ n.roles.contains g.role=false:=by rw[hc]; simp
  refine C0 ?_;refine A8 ?_;refine A8 (A6 ?_);refine A5 J J J (B1 J gU J J) ?_;refine A5 J J J (B2 J gU J J J J) ?_;refine A5 J J J (B7 J J gU gU J) ?_;refine A5 J J J (A7 J gU) ?_;refine A5 J J J (B1 J gU J J) ?_;refine A5 J J J (B2 J (fun hh=>hh) J J J J) ?_;refine A5 J J J (B7 J J (fun hh=>hh) gU J) ?_;refine A5 J J J (E5 J J gU (fun _ hi=>gP J hi)) ?_;refine B0 ?_;refine B6 (s:=⟨[(2,_,_),(3,_,_),(22,_,_)],[(.l 2,_),(.l 3,_)],[],[]⟩) (B4 (⟨U J,U J,U J,O⟩) (⟨U J,U J,O⟩) O) ?_;refine B9 J (fun hc2=>?_) (fun hc2=>?_)
  ·try simp only [nn,B3,nq] at hc2
   have ha : I9 g.kind=true:=sagree_iff.2 hc2
   refine A8 (A6 ?_);refine A5 J J J (B8 J gU J J J J J) ?_;refine A5 J J J (B1 J gU J J) ?_;refine A5 J J J (B2 J gU J J J J) ?_;refine A5 J J J (B1 J gU J J) ?_;refine A5 J J J (B2 J gU J J J J) ?_;refine C7 J J J J J J gU gU (Ctr.add (Mk _ _ _ _)) J ?_;refine A5 J J J (A9 J gU) ?_;refine B0 ?_;refine B6 (s:=⟨[(2,_,_),(3,_,_),(5,_,_)],[(.l 2,_),(.l 3,_)],[],[]⟩) (B4 (⟨U J,U J,U J,O⟩) (⟨U J,U J,O⟩) O) ?_;refine A8 (A6 ?_);refine A5 J J J (A7 J gU) ?_;refine A5 J J J (B7 J J gU gU J) ?_;refine B0 ?_;refine B9 J (fun hc3=>?_) (fun hc3=>?_)
   ·try simp only [nn,B3,nq] at hc3
    refine A8 (A6 ?_);refine A5 J J J (A7 J gU) ?_;refine A5 J J J (A9 J gU) ?_;refine B0 ?_;refine C1 ?_
    repeat(first|refine tR ?_|refine bR ?_)
    refine C5 J ?_ O
    (rw[Q5,if_neg c1,if_pos ⟨ha,hc3⟩]; rfl)
   ·try simp only [nn,B3,nq] at hc3
    have hE : Q5 n g=errs (O8 n.roles (H2 n)) g.data:=by rw[Q5,if_neg c1,if_neg (fun q=>q.2 hc3)]
    rw[hE]
    refine C0 ?_;refine A8 ?_;refine A8 (A6 ?_);refine A5 J J J (B1 J gU J J) ?_;refine A5 J J J (B2 J gU J J J J) ?_;refine E0 J J J J J gU J J ?_ (fun hh=>by simp at hh); intro hlen;refine A5 J J J (A7 J gU) ?_;refine B0 ?_;refine B6 (s:=⟨[(2,_,_),(33,_,_),(34,_,_),(35,_,_)],[(.l 2,_)],[],[]⟩) (B4 (⟨U J,U J,U J,U J,O⟩) (⟨U J,O⟩) O) ?_;refine C4 ?_;refine F2 (ι:=Nat) { t:=[(2,_,_),(33,_,_),(34,_,_)],bx:=[(.l 2,_)],ow:=[] } (fun k=>[(35,true,xi (k : Int))]) (fun k=>[]) (fun k=>k≤g.data.length ∧ ∀ j,j < k→O8 n.roles (H2 n) (g.data.getD j default)=0) (fun k=>g.data.length - k) (0) (⟨by omega,fun j hj=>by omega⟩) (B4 (⟨U J,U J,U J,U J,O⟩) (⟨U J,O⟩) O) ?_
    intro k hoka
    dsimp only [List.cons_append,List.nil_append]
    obtain ⟨hk,hi⟩:=hoka
    refine A8 (A6 ?_);refine A5 J J J (B7 J J gU gU J) ?_;refine B0 ?_;refine A8 ?_;refine B9 J (fun hc4=>?_) (fun hc4=>?_)
    ·try simp only [nn,B3,nq] at hc4
     have hlt : k < g.data.length:=by omega
     have hks:=T.getD_size hlt
     have hts:=T.sizes_take_le g.data k
     refine C0 ?_;refine A8 ?_;refine C4 ?_;refine A8 (A6 ?_);refine A5 J J J (C2 J J gU gU J J J (fun hh=>T.rows_at (by first|omega|(simp at hh ⊢; omega)))) ?_;refine A5 J J J (D4 J gU J J J J) ?_;refine C3 J (D9 J J J) ?_;refine C3 J (C8 J J J J J J J) ?_;refine B0 ?_;refine A8 (A6 ?_);refine A5 J J J (B8 J gU J J J J J) ?_;refine A5 J J J (B8 J gU J J J J J) ?_;refine C7 J J J J J J gU gU (Eg n.roles (nmsL n) b _ (g.data.getD k default) (Nat.le_refl _) (by omega)) J ?_;refine A5 J J J (A9 J gU) ?_;refine B0 ?_;refine B6 (s:=⟨[(2,_,_),(8,_,_),(33,_,_),(34,_,_),(35,_,_)],[(.l 2,_)],[],[]⟩) (B4 (⟨U J,U J,U J,U J,U J,O⟩) (⟨U J,O⟩) O) ?_;refine A8 (A6 ?_);refine A5 J J J (A7 J gU) ?_;refine A5 J J J (B7 J J gU gU J) ?_;refine B0 ?_;refine B9 J (fun hc5=>?_) (fun hc5=>?_)
     ·try simp only [nn,B3,nq] at hc5
      refine A8 (A6 ?_);refine A5 J J J (A7 J gU) ?_;refine A5 J J J (A9 J gU) ?_;refine B0 ?_;refine C1 ?_
      repeat(first|refine tR ?_|refine bR ?_)
      refine C5 J ?_ O
      (rw[Aq hlt hi hc5]; rfl)
     ·try simp only [nn,B3,nq] at hc5
      refine C0 ?_;refine A6 ?_;refine A5 J J J (D0 J J gU gU J (IntWalk.i64_in _ (by omega))) ?_;refine A5 J J J (A7 J gU) ?_;refine B0 ?_;refine ⟨k + 1,?_,?_,B4 (⟨⟨_,rfl,?_⟩,⟨U J,U J,U J,O⟩⟩) (⟨U J,O⟩) O⟩
      all_goals (first|rfl|omega|exact ⟨by omega,R0 hi hc5⟩)
    ·try simp only [nn,B3,nq] at hc4
     have hke : k=g.data.length:=by omega
     subst hke
     refine E1 ?_
     repeat(first|refine D5 ?_|refine D6 ?_|refine D2 J ?_)
     refine A8 (A6 ?_);refine A5 J J J (A9 J gU) ?_;refine B0 ?_;refine C1 ?_
     repeat(first|refine tR ?_|refine bR ?_)
     refine C5 J ?_ O
     (rw[X9 hi]; rfl)
  ·try simp only [nn,B3,nq] at hc2
   have ha : ¬ I9 g.kind=true := fun q=>by have := sagree_iff.1 q; omega
   have hE : Q5 n g=errs (O8 n.roles (H2 n)) g.data:=by rw[Q5,if_neg c1,if_neg (fun q=>ha q.1)]
   rw[hE]
   refine C0 ?_;refine A8 ?_;refine A8 (A6 ?_);refine A5 J J J (B1 J gU J J) ?_;refine A5 J J J (B2 J gU J J J J) ?_;refine E0 J J J J J gU J J ?_ (fun hh=>by simp at hh); intro hlen;refine A5 J J J (A7 J gU) ?_;refine B0 ?_;refine C4 ?_;refine F2 (ι:=Nat) { t:=[(2,_,_),(33,_,_),(34,_,_)],bx:=[(.l 2,_)],ow:=[] } (fun k=>[(35,true,xi (k : Int))]) (fun k=>[]) (fun k=>k≤g.data.length ∧ ∀ j,j < k→O8 n.roles (H2 n) (g.data.getD j default)=0) (fun k=>g.data.length - k) (0) (⟨by omega,fun j hj=>by omega⟩) (B4 (⟨U J,U J,U J,U J,O⟩) (⟨U J,O⟩) O) ?_
   intro k hokb
   dsimp only [List.cons_append,List.nil_append]
   obtain ⟨hk,hi⟩:=hokb
   refine A8 (A6 ?_);refine A5 J J J (B7 J J gU gU J) ?_;refine B0 ?_;refine A8 ?_;refine B9 J (fun hc4=>?_) (fun hc4=>?_)
   ·try simp only [nn,B3,nq] at hc4
    have hlt : k < g.data.length:=by omega
    have hks:=T.getD_size hlt
    have hts:=T.sizes_take_le g.data k
    refine C0 ?_;refine A8 ?_;refine C4 ?_;refine A8 (A6 ?_);refine A5 J J J (C2 J J gU gU J J J (fun hh=>T.rows_at (by first|omega|(simp at hh ⊢; omega)))) ?_;refine A5 J J J (D4 J gU J J J J) ?_;refine C3 J (D9 J J J) ?_;refine C3 J (C8 J J J J J J J) ?_;refine B0 ?_;refine A8 (A6 ?_);refine A5 J J J (B8 J gU J J J J J) ?_;refine A5 J J J (B8 J gU J J J J J) ?_;refine C7 J J J J J J gU gU (Eg n.roles (nmsL n) b _ (g.data.getD k default) (Nat.le_refl _) (by omega)) J ?_;refine A5 J J J (A9 J gU) ?_;refine B0 ?_;refine B6 (s:=⟨[(2,_,_),(8,_,_),(33,_,_),(34,_,_),(35,_,_)],[(.l 2,_)],[],[]⟩) (B4 (⟨U J,U J,U J,U J,U J,O⟩) (⟨U J,O⟩) O) ?_;refine A8 (A6 ?_);refine A5 J J J (A7 J gU) ?_;refine A5 J J J (B7 J J gU gU J) ?_;refine B0 ?_;refine B9 J (fun hc5=>?_) (fun hc5=>?_)
    ·try simp only [nn,B3,nq] at hc5
     refine A8 (A6 ?_);refine A5 J J J (A7 J gU) ?_;refine A5 J J J (A9 J gU) ?_;refine B0 ?_;refine C1 ?_
     repeat(first|refine tR ?_|refine bR ?_)
     refine C5 J ?_ O
     (rw[Aq hlt hi hc5]; rfl)
    ·try simp only [nn,B3,nq] at hc5
     refine C0 ?_;refine A6 ?_;refine A5 J J J (D0 J J gU gU J (IntWalk.i64_in _ (by omega))) ?_;refine A5 J J J (A7 J gU) ?_;refine B0 ?_;refine ⟨k + 1,?_,?_,B4 (⟨⟨_,rfl,?_⟩,⟨U J,U J,U J,O⟩⟩) (⟨U J,O⟩) O⟩
     all_goals (first|rfl|omega|exact ⟨by omega,R0 hi hc5⟩)
   ·try simp only [nn,B3,nq] at hc4
    have hke : k=g.data.length:=by omega
    subst hke
    refine E1 ?_
    repeat(first|refine D5 ?_|refine D6 ?_|refine D2 J ?_)
    refine A8 (A6 ?_);refine A5 J J J (A9 J gU) ?_;refine B0 ?_;refine C1 ?_
    repeat(first|refine tR ?_|refine bR ?_)
    refine C5 J ?_ O
    (rw[X9 hi]; rfl)
abbrev xii (r : Int × Int) : X:=.tup [.c (.i .i64 r.1), .c (.i .i64 r.2)]
set_option maxHeartbeats 4000000 in
theorem O0 (n : Nar) (hs : ∀ s ∈ n.steps,s.msg.size≤900000) (hg : ∀ g ∈ n.goals,T.sizes g.data≤900000) : Ctr sys 13 [xn n] [] (xii (chkE E3 n)) none []:=by
 have l5:=Sp.rows_len n.steps
 have l6:=Gl.rows_len n.goals
 refine D1 Tryz.func13 J J J J J J ?_;refine A8 (A6 ?_);refine C3 J (D8 J J J J) ?_;refine A5 J J J (A9 J gU) ?_;refine A5 J J J (A9 J gU) ?_;refine B0 ?_;refine A8 ?_;refine A8 (A6 ?_);refine A5 J J J (B8 J gU J J J J J) ?_;refine C7 J J J J J J gU gU (Uh _ hs hg) J ?_;refine A5 J J J (A9 J gU) ?_;refine B0 ?_;refine B6 (s:=⟨[(1,_,_),(4,_,_)],[(.l 1,_)],[],[]⟩) (B4 (⟨U J,U J,O⟩) (⟨U J,O⟩) O) ?_;refine A8 (A6 ?_);refine A5 J J J (A7 J gU) ?_;refine A5 J J J (B7 J J gU gU J) ?_;refine B0 ?_;refine B9 J (fun hc=>?_) (fun hc=>?_)
 ·try simp only [nn,B3,nq] at hc
  refine A8 (A6 ?_);refine A5 J J J (A7 J gU) ?_;refine A5 J J J (A9 J gU) ?_;refine A5 J J J (A9 J gU) ?_;refine B0 ?_;refine C1 ?_
  repeat(first|refine tR ?_|refine bR ?_)
  refine C5 J ?_ O
  (rw[chkE,if_pos hc]; rfl)
 ·try simp only [nn,B3,nq] at hc
  have hok:=My (n:=n) hc
  have e1 : chkE E3 n=if decE n≠0 then (0,decE n) else useE n:=by rw[chkE,if_neg (by simpa using hc)]
  rw[e1]
  refine C0 ?_;refine A8 ?_;refine A8 (A6 ?_);refine A5 J J J (B8 J gU J J J J J) ?_;refine C7 J J J J J J gU gU (Kp n (by have := hok.r2; omega) (by have := hok.f2; omega) (by have := hok.t2; omega)) J ?_;refine A5 J J J (A9 J gU) ?_;refine B0 ?_;refine B6 (s := ⟨[(1,_,_),(5,_,_)],[(.l 1,_)],[],[]⟩) (B4 (⟨U J,U J,O⟩) (⟨U J,O⟩) O) ?_;refine A8 (A6 ?_);refine A5 J J J (A7 J gU) ?_;refine A5 J J J (B7 J J gU gU J) ?_;refine B0 ?_;refine B9 J (fun hc2=>?_) (fun hc2=>?_)
  ·try simp only [nn,B3,nq] at hc2
   refine A8 (A6 ?_);refine A5 J J J (A7 J gU) ?_;refine A5 J J J (A9 J gU) ?_;refine A5 J J J (A9 J gU) ?_;refine B0 ?_;refine C1 ?_
   repeat(first|refine tR ?_|refine bR ?_)
   refine C5 J ?_ O
   (rw[if_pos hc2]; rfl)
  ·try simp only [nn,B3,nq] at hc2
   rw[if_neg (by simpa using hc2)]
   refine C0 ?_;refine A8 (A6 ?_);refine A5 J J J (B8 J gU J J J J J) ?_;refine Iq J J J J J J (Cn n) (fun _=>rfl) (fun bm=>?_);refine C3 J (D9 J J J) ?_;refine C3 J (C8 J J J J J J J) ?_;refine B0 ?_;refine B6 (s:={ t:=[(1,_,_),(6,_,_)],bx:=[(.l 1,_),(.l 6,_)],ow:=[],mp:=_ }) (B4 (⟨U J,U J,O⟩) (⟨U J,U J,O⟩) O (.inr J)) ?_;refine A8 ?_;refine A8 (A6 ?_);refine A5 J J J (B1 J gU J J) ?_;refine A5 J J J (B2 J gU J J J J) ?_;refine E0 J J J J J gU J J ?_ (fun hh=>by simp at hh); intro hlen;refine A5 J J J (A7 J gU) ?_;refine B0 ?_;refine C4 ?_;refine F2 (ι:=Nat) { t:=[(1,_,_),(6,_,_),(26,_,_),(27,_,_)],bx:=[(.l 1,_),(.l 6,_)],ow:=[],mp:=_ } (fun k=>[(28,true,xi (k : Int))]) (fun k=>[]) (fun k=>k≤n.steps.length ∧ ∀ j,j < k→V9 n (n.steps.getD j default)=0) (fun k=>n.steps.length - k) (0) (⟨by omega,fun j hj=>by omega⟩) (B4 (⟨U J,U J,U J,U J,U J,O⟩) (⟨U J,U J,O⟩) O (.inr J)) ?_
   intro k hoka
   dsimp only [List.cons_append,List.nil_append]
   obtain ⟨hk,hi⟩:=hoka
   refine A8 (A6 ?_);refine A5 J J J (B7 J J gU gU J) ?_;refine B0 ?_;refine A8 ?_;refine B9 J (fun hc3=>?_) (fun hc3=>?_)
   ·try simp only [nn,B3,nq] at hc3
    have hlt : k < n.steps.length:=by omega
    have hks:=hs _ (K8 (d:=default) hlt)
    have hhit : V9 n (n.steps.getD k default)≠0→useE n=((n.steps.getD k default).line,V9 n (n.steps.getD k default)):=fun q=>by
     have := Hq (ln := Sp.line) hlt hi q
     rw[useE,if_pos (by rw[this]; exact q),this]
    refine C0 ?_;refine A8 ?_;refine C4 ?_;refine A8 (A6 ?_);refine A5 J J J (C2 J J gU gU J J J (fun hh=>Sp.rows_at (by first|omega|(simp at hh ⊢; omega)))) ?_;refine A5 J J J (D4 J gU J J J J) ?_;refine C3 J (D9 J J J) ?_;refine C3 J (C8 J J J J J J J) ?_;refine B0 ?_;refine A8 (A6 ?_);refine A5 J J J (B8 J gU J J J J J) ?_;refine A5 J J J (B1 J gU J J) ?_;refine A5 J J J (B2 J gU J J J J) ?_;refine A5 J J J (B1 J gU J J) ?_;refine A5 J J J (B2 J gU J J J J) ?_;refine C7 J J J J J J gU gU (Mk _ _ _ _) J ?_;refine A5 J J J (A9 J gU) ?_;refine B0 ?_;refine B6 (s:={ t:=[(1,_,_),(6,_,_),(8,_,_),(9,_,_),(26,_,_),(27,_,_),(28,_,_)],bx:=[(.l 1,_),(.l 6,_),(.l 8,_)],ow:=[],mp:=_ }) (B4 (⟨U J,U J,U J,U J,U J,U J,U J,O⟩) (⟨U J,U J,U J,O⟩) O (.inr J)) ?_;refine A8 ?_;refine A8 (A6 ?_);refine A5 J J J (A7 J gU) ?_;refine A5 J J J (B7 J J gU gU J) ?_;refine B0 ?_;refine B9 J (fun hc4=>?_) (fun hc4=>?_)
    ·try simp only [nn,B3,nq] at hc4
     have hstep : V9 n (n.steps.getD k default)=O8 n.roles (H2 n) (n.steps.getD k default).msg:=by rw[V9,if_neg (by simpa using hc4)]
     refine A6 ?_;refine A5 J J J (B8 J gU J J J J J) ?_;refine A5 J J J (B1 J gU J J) ?_;refine A5 J J J (B8 J gU J J J J J) ?_;refine Qq 0 J J J J J J J gU gU (Eg n.roles (nmsL n) bm _ (n.steps.getD k default).msg (Nat.le_refl _) (by omega)) J ?_;refine A5 J J J (A9 J gU) ?_;refine B0 ?_;refine B6 (s:={ t:=[(1,_,_),(6,_,_),(8,_,_),(9,_,_),(26,_,_),(27,_,_),(28,_,_)],bx:=[(.l 1,_),(.l 6,_),(.l 8,_)],ow:=[],mp:=_ }) (B4 (⟨U J,U J,U J,U J,U J,U J,U J,O⟩) (⟨U J,U J,U J,O⟩) O (.inr J)) ?_;refine A8 (A6 ?_);refine A5 J J J (A7 J gU) ?_;refine A5 J J J (B7 J J gU gU J) ?_;refine B0 ?_;refine B9 J (fun hc5=>?_) (fun hc5=>?_)
     ·try simp only [nn,B3,nq] at hc5
      have hh:=hhit (by rw[hstep]; exact hc5)
      rw[hh,hstep]
      refine A8 (A6 ?_);refine A5 J J J (B1 J gU J J) ?_;refine A5 J J J (B2 J gU J J J J) ?_;refine A5 J J J (A7 J gU) ?_;refine A5 J J J (A9 J gU) ?_;refine A5 J J J (A9 J gU) ?_;refine B0 ?_;refine C1 ?_
      repeat(first|refine tR ?_|refine bR ?_)
      refine C5 J ?_ O
      rfl
     ·try simp only [nn,B3,nq] at hc5
      refine C0 ?_;refine A6 ?_;refine A5 J J J (D0 J J gU gU J (IntWalk.i64_in _ (by omega))) ?_;refine A5 J J J (A7 J gU) ?_;refine B0 ?_;refine ⟨k + 1,?_,?_,B4 (⟨⟨_,rfl,?_⟩,⟨U J,U J,U J,U J,O⟩⟩) (⟨U J,U J,O⟩) O (.inr J)⟩
      all_goals (first|rfl|omega|exact ⟨by omega,R0 hi (by rw[hstep]; exact hc5)⟩)
    ·try simp only [nn,B3,nq] at hc4
     have hstep : V9 n (n.steps.getD k default)=twoE n.roles (n.steps.getD k default).frm (n.steps.getD k default).dst:=by rw[V9,if_pos hc4]
     have hh:=hhit (by rw[hstep]; exact hc4)
     rw[hh,hstep]
     refine C0 ?_;refine A8 (A6 ?_);refine A5 J J J (A7 J gU) ?_;refine A5 J J J (B7 J J gU gU J) ?_;refine B0 ?_;refine B9 J (fun hc5=>?_) (fun hc5=>?_)
     ·refine A8 (A6 ?_)
      refine A5 J J J (B1 J gU J J) ?_;refine A5 J J J (B2 J gU J J J J) ?_;refine A5 J J J (A7 J gU) ?_;refine A5 J J J (A9 J gU) ?_;refine A5 J J J (A9 J gU) ?_;refine B0 ?_;refine C1 ?_
      repeat(first|refine tR ?_|refine bR ?_)
      refine C5 J ?_ O
      rfl
     ·try simp only [nn,B3,nq] at hc5
      exact absurd hc5 hc4
   ·try simp only [nn,B3,nq] at hc3
    have hke : k=n.steps.length:=by omega
    subst hke
    have hus : useE n=lnE (Q5 n) Gl.line n.goals:=by rw[useE,if_neg (by rw[El (ln:=Sp.line) hi]; simp)]
    rw[hus]
    refine E1 ?_
    repeat(first|refine D5 ?_|refine D6 ?_|refine D2 J ?_)
    refine A8 ?_;refine A8 (A6 ?_);refine A5 J J J (B1 J gU J J) ?_;refine A5 J J J (B2 J gU J J J J) ?_;refine E0 J J J J J gU J J ?_ (fun hh=>by simp at hh); intro hlen;refine A5 J J J (A7 J gU) ?_;refine B0 ?_;refine B6 (s:={ t:=[(6,_,_),(51,_,_),(52,_,_),(53,_,_)],bx:=[(.l 6,_)],ow:=[],mp:=_ }) (B4 (⟨U J,U J,U J,U J,O⟩) (⟨U J,O⟩) O (.inr J)) ?_;refine C4 ?_;refine F2 (ι:=Nat) { t:=[(6,_,_),(51,_,_),(52,_,_)],bx:=[(.l 6,_)],ow:=[],mp:=_ } (fun j=>[(53,true,xi (j : Int))]) (fun j=>[]) (fun j=>j≤n.goals.length ∧ ∀ i,i < j→Q5 n (n.goals.getD i default)=0) (fun j=>n.goals.length - j) (0) (⟨by omega,fun j hj=>by omega⟩) (B4 (⟨U J,U J,U J,U J,O⟩) (⟨U J,O⟩) O (.inr J)) ?_
    intro j hokb
    dsimp only [List.cons_append,List.nil_append]
    obtain ⟨hj,hi2⟩:=hokb
    refine A8 (A6 ?_);refine A5 J J J (B7 J J gU gU J) ?_;refine B0 ?_;refine A8 ?_;refine B9 J (fun hc6=>?_) (fun hc6=>?_)
    ·try simp only [nn,B3,nq] at hc6
     have hlt : j < n.goals.length:=by omega
     have hks:=hg _ (K8 (d:=default) hlt)
     refine C0 ?_;refine A8 ?_;refine C4 ?_;refine A8 (A6 ?_);refine A5 J J J (C2 J J gU gU J J J (fun hh=>Gl.rows_at (by first|omega|(simp at hh ⊢; omega)))) ?_;refine A5 J J J (D4 J gU J J J J) ?_;refine C3 J (D9 J J J) ?_;refine C3 J (C8 J J J J J J J) ?_;refine B0 ?_;refine A8 (A6 ?_);refine A5 J J J (B8 J gU J J J J J) ?_;refine A5 J J J (B8 J gU J J J J J) ?_;refine Qq 0 J J J J J J J gU gU (Uc n bm (n.goals.getD j default) hks) J ?_;refine A5 J J J (A9 J gU) ?_;refine B0 ?_;refine B6 (s:={ t:=[(6,_,_),(11,_,_),(12,_,_),(51,_,_),(52,_,_),(53,_,_)],bx:=[(.l 11,_),(.l 6,_)],ow:=[],mp:=_ }) (B4 (⟨U J,U J,U J,U J,U J,U J,O⟩) (⟨U J,U J,O⟩) O (.inr J)) ?_;refine A8 (A6 ?_);refine A5 J J J (A7 J gU) ?_;refine A5 J J J (B7 J J gU gU J) ?_;refine B0 ?_;refine B9 J (fun hc7=>?_) (fun hc7=>?_)
     ·try simp only [nn,B3,nq] at hc7
      rw[Hq (ln:=Gl.line) hlt hi2 hc7]
      refine A8 (A6 ?_);refine A5 J J J (B1 J gU J J) ?_;refine A5 J J J (B2 J gU J J J J) ?_;refine A5 J J J (A7 J gU) ?_;refine A5 J J J (A9 J gU) ?_;refine A5 J J J (A9 J gU) ?_;refine B0 ?_;refine C1 ?_
      repeat(first|refine tR ?_|refine bR ?_)
      refine C5 J ?_ O
      rfl
     ·try simp only [nn,B3,nq] at hc7
      refine C0 ?_;refine A6 ?_;refine A5 J J J (D0 J J gU gU J (IntWalk.i64_in _ (by omega))) ?_;refine A5 J J J (A7 J gU) ?_;refine B0 ?_;refine ⟨j + 1,?_,?_,B4 (⟨⟨_,rfl,?_⟩,⟨U J,U J,U J,O⟩⟩) (⟨U J,O⟩) O (.inr J)⟩
      all_goals (first|rfl|omega|exact ⟨by omega,R0 hi2 hc7⟩)
    ·try simp only [nn,B3,nq] at hc6
     have hje : j=n.goals.length:=by omega
     subst hje
     rw[El (ln:=Gl.line) hi2]
     refine E1 ?_
     repeat(first|refine D5 ?_|refine D6 ?_|refine D2 J ?_)
     refine A8 (A6 ?_);refine A5 J J J (A9 J gU) ?_;refine A5 J J J (A9 J gU) ?_;refine B0 ?_;refine C1 ?_
     repeat(first|refine tR ?_|refine bR ?_)
     refine C5 J ?_ O
     rfl
def occA (s : List UInt8) : Nat→T→Bool
 | 0,_=>false
 | n + 1,t=>(decide (t.kind=2) && decide (t.name=s)) || t.kids.any (occA s n)
def occT (s : List UInt8) (t : T) : Bool:=occA s t.size t
theorem Ll {α : Type} {l : List α} {p q : α→Bool} (h : ∀ x ∈ l,p x=q x) : l.any p=l.any q:=by
 induction l with
 | nil=>rfl
 | cons x l ih=>rw[List.any_cons,List.any_cons,h x (by simp),ih fun y hy=>h y (by simp [hy])]
theorem La (s : List UInt8) : ∀ (n m : Nat) (t : T),t.size≤n→t.size≤m→occA s n t=occA s m t
 | 0,_,t,h,_=>by have := t.size_pos; omega
 | _,0,t,_,h=>by have := t.size_pos; omega
 | n + 1,m + 1,t,hn,hm=>by
  rw[occA,occA]
  congr 1
  exact Ll fun x hx=>by
   have := M8 hx
   exact La s n m x (by omega) (by omega)
theorem uBT (s : List UInt8) (t : T) : occT s t=((decide (t.kind=2) && decide (t.name=s)) || t.kids.any (occT s)):=by
 obtain ⟨m,hm⟩ : ∃ m,t.size=m + 1 := ⟨t.size - 1,by have := t.size_pos; omega⟩
 conv=>lhs; unfold occT
 rw[hm,occA]
 congr 1
 exact Ll fun x hx=>by
  have := M8 hx
  exact La s m x.size x (by omega) (by omega)
def idxT (p : T→Bool) : List T→Int
 | []=>-1
 | t :: r=>if p t=true then 0 else if idxT p r < 0 then -1 else idxT p r + 1
theorem Pt (p : T→Bool) : ∀ l : List T,decide (0≤idxT p l)=l.any p
 | []=>rfl
 | t :: r=>by
  have ih:=Pt p r
  rw[List.any_cons,idxT]
  by_cases h : p t=true
  ·rw[if_pos h,h]; rfl
  ·rw[if_neg h,← ih]
   rw[Bool.not_eq_true] at h
   rw[h,Bool.false_or]
   split
   ·rename_i q
    rw[Bool.eq_iff_iff,decide_eq_true_iff,decide_eq_true_iff]; omega
   ·rename_i q
    rw[Bool.eq_iff_iff,decide_eq_true_iff,decide_eq_true_iff]; omega
theorem uAN {p : T→Bool} {l : List T} {k : Nat} (hk : k < l.length) (h : ∀ j,j < k→p (l.getD j default)=false) (hx : p (l.getD k default)=true) : idxT p l=(k : Int):=by
 induction l generalizing k with
 | nil=>simp at hk
 | cons t r ih =>
  cases k with
  | zero=>rw[idxT,if_pos (by simpa using hx)]; rfl
  | succ k =>
   have h0:=h 0 (by omega)
   have := ih (k := k) (by simpa using hk) (fun j hj=>by simpa using h (j + 1) (by omega)) (by simpa using hx)
   rw[idxT,if_neg (by simpa using h0),this,if_neg (by omega)]; push_cast; rfl
theorem Wv {p : T→Bool} {l : List T} (h : ∀ j,j < l.length→p (l.getD j default)=false) : idxT p l = -1:=by
 induction l with
 | nil=>rfl
 | cons t r ih =>
  have h0:=h 0 (by simp)
  rw[idxT,if_neg (by simpa using h0),ih fun j hj=>by simpa using h (j + 1) (by simpa using hj)]
  rfl
theorem Xm (s : List UInt8) (t : T) (h : Ctr sysO 47 [xm t,xs s] [] (xb (occT s t)) none []) : CtrO sysO 88 [xm t, .v (.ptr (.o 0) 0)] [[.s s]] [] (xb (occT s t)) [[.s s]] .box:=by
 refine N8 Tryz.func88 J J J J J J J ?_;refine A8 (A6 ?_);refine C3 J (D8 J J J J) ?_;refine A5 J J J (A9 J gU) ?_;refine B0 ?_;refine A8 (A6 ?_);refine A5 J J J (B8 J gU J J J J J) ?_;refine A5 J J J (B2 J gU J J J J) ?_;refine C7 J J J J J J gU gU (h) J ?_;refine A5 J J J (A9 J gU) ?_;refine B0 ?_;refine C1 ?_
 repeat(first|refine tR ?_|refine bR ?_)
 refine Af J ?_ (⟨⟨_,rfl,?_⟩,O⟩) (by kernel_rfl)
 all_goals rfl
theorem Qm (s : List UInt8) (ks : List T) (hl : ks.length≤900000) (h : ∀ t ∈ ks,Ctr sysO 47 [xm t,xs s] [] (xb (occT s t)) none []) : CtrO sysO 64 [xl ks, .fn 88 [.ptr (.o 0) 0]] [[.s s]] [] (xi (idxT (occT s) ks)) [[.s s]] .box:=by
 have hr:=T.rows_len ks
 refine N8 Tryz.func64 J J J J J J J ?_;refine A8 (A6 ?_);refine A5 J J J (A9 J gU) ?_;refine B0 ?_;refine A8 ?_;refine A8 (A6 ?_);refine A5 J J J (A7 J gU) ?_;refine E0 J J J J J gU J J ?_ (fun hh=>by simp at hh); intro hlen;refine A5 J J J (A7 J gU) ?_;refine B0 ?_;refine C4 ?_;refine F2 (ι:=Nat) { t:=[(0,_,_),(1,_,_),(7,_,_)],bx:=[(.o 0,_)],ow:=[] } (fun k=>[(8,true,xi (k : Int))]) (fun k=>[]) (fun k=>k≤ks.length ∧ ∀ j,j < k→occT s (ks.getD j default)=false) (fun k=>ks.length - k) (0) (⟨by omega,fun j hj=>by omega⟩) (B4 (⟨U J,U J,U J,U J,O⟩) (⟨U J,O⟩) O) ?_
 intro k hok
 dsimp only [List.cons_append,List.nil_append]
 obtain ⟨hk,hi⟩:=hok
 refine A8 (A6 ?_);refine A5 J J J (B7 J J gU gU J) ?_;refine B0 ?_;refine A8 ?_;refine B9 J (fun hc=>?_) (fun hc=>?_)
 ·try simp only [nn,B3,nq] at hc
  have hlt : k < ks.length:=by omega
  refine C0 ?_;refine A8 ?_;refine C4 ?_;refine A8 (A6 ?_);refine A5 J J J (A7 J gU) ?_;refine A5 J J J (A9 J gU) ?_;refine B0 ?_;refine A8 (A6 ?_);refine A5 J J J (A7 J gU) ?_;refine A5 J J J (A7 J gU) ?_;refine A5 J J J (A7 J gU) ?_;refine A5 J J J (C2 J J gU gU J J J (fun hh=>T.rows_at (by first|omega|(simp at hh ⊢; omega)))) ?_;refine A5 J J J (D4 J gU J J J J) ?_;refine Ez [⟨.o 0,0,[.s s],[.s s]⟩] [] J J J J J J (ps1 J) J J (Xm s (ks.getD k default) (h _ (K8 hlt))) J J J ?_;refine B0 ?_;refine B6 (s:=⟨[(0,_,_),(1,_,_),(5,_,_),(7,_,_),(8,_,_),(16,_,_)],[(.o 0,_)],[],[]⟩) (B4 (⟨U J,U J,U J,U J,U J,U J,O⟩) (⟨U J,O⟩) O) ?_;refine B9 J (fun hc2=>?_) (fun hc2=>?_)
  ·try simp only [nn,B3,nq] at hc2
   rw[uAN hlt hi hc2]
   refine A8 (A6 ?_);refine A5 J J J (A7 J gU) ?_;refine A5 J J J (A9 J gU) ?_;refine B0 ?_;refine C1 ?_
   repeat(first|refine tR ?_|refine bR ?_)
   refine Af J ?_ (⟨⟨_,rfl,?_⟩,O⟩) (by kernel_rfl)
   all_goals rfl
  ·try simp only [nn,B3,nq] at hc2
   have hi2 : ∀ j,j < k + 1→occT s (ks.getD j default)=false:=fun j q=>by
    by_cases e : j=k
    ·subst e; exact hc2
    ·exact hi j (by omega)
   refine C0 ?_;refine A6 ?_;refine A5 J J J (D0 J J gU gU J (IntWalk.i64_in _ (by omega))) ?_;refine A5 J J J (A7 J gU) ?_;refine B0 ?_;refine ⟨k + 1,?_,?_,B4 (⟨⟨_,rfl,?_⟩,⟨U J,U J,U J,O⟩⟩) (⟨U J,O⟩) O⟩
   all_goals (first|rfl|omega|exact ⟨by omega,hi2⟩)
 ·try simp only [nn,B3,nq] at hc
  have hke : k=ks.length:=by omega
  subst hke
  rw[Wv hi]
  refine E1 ?_
  repeat(first|refine D5 ?_|refine D6 ?_|refine D2 J ?_)
  refine A8 (A6 ?_);refine A5 J J J (A9 J gU) ?_;refine B0 ?_;refine C1 ?_
  repeat(first|refine tR ?_|refine bR ?_)
  refine Af J ?_ (⟨⟨_,rfl,?_⟩,O⟩) (by kernel_rfl)
  all_goals rfl
theorem Px (s : List UInt8) (ks : List T) (hl : ks.length≤900000) (h : ∀ t ∈ ks,Ctr sysO 47 [xm t,xs s] [] (xb (occT s t)) none []) : CtrO sysO 30 [xl ks, .fn 88 [.ptr (.o 0) 0]] [[.s s]] [] (xb (ks.any (occT s))) [[.s s]] .box:=by
 have hr:=T.rows_len ks
 refine N8 Tryz.func30 J J J J J J J ?_;refine A8 (A6 ?_);refine A5 J J J (A9 J gU) ?_;refine B0 ?_;refine A8 (A6 ?_);refine A5 J J J (A7 J gU) ?_;refine A5 J J J (A7 J gU) ?_;refine Qc [⟨.o 0,0,[.s s],[.s s]⟩] [] J J J J J J (ps1 J) J J (Qm s ks hl h) J J J ?_
 rw[← Pt]
 refine A5 J J J (B7 J J gU gU J) ?_;refine A5 J J J (A9 J gU) ?_;refine B0 ?_;refine C1 ?_
 repeat(first|refine tR ?_|refine bR ?_)
 refine Af J ?_ (⟨⟨_,rfl,?_⟩,O⟩) (by kernel_rfl)
 all_goals rfl
theorem Nb (s : List UInt8) : ∀ (m : Nat) (t : T),t.size≤m→m≤900000→Ctr sysO 47 [xm t,xs s] [] (xb (occT s t)) none []:=by
 intro m
 induction m with
 | zero=>intro t h; have := t.size_pos; omega
 | succ m ih =>
  intro t ht hm
  have hr:=T.rows_len t.kids
  have hls:=T.len_sizes t.kids
  have hse:=t.size_eq
  have hk : ∀ x ∈ t.kids,Ctr sysO 47 [xm x,xs s] [] (xb (occT s x)) none []:=fun x hx=>by
   have := M8 hx
   exact ih x (by omega) (by omega)
  refine D1 Tryz.func47 J J J J J J ?_;refine A8 (A6 ?_);refine C3 J (D8 J J J J) ?_;refine C3 J (D8 J J J J) ?_;refine A5 J J J (A9 J gU) ?_;refine B0 ?_;refine A8 (A6 ?_);refine A5 J J J (B1 J gU J J) ?_;refine A5 J J J (B2 J gU J J J J) ?_;refine A5 J J J (B7 J J gU gU J) ?_;refine A5 J J J (A7 J gU) ?_;refine A5 J J J (B1 J gU J J) ?_;refine A5 J J J (B2 J (fun hh=>hh) J J J J) ?_;refine A5 J J J (B2 J gU J J J J) ?_;refine A5 J J J (G0 J J (fun hh=>hh) (fun hh=>hh) J) ?_;refine A5 J J J (E2 J J gU (fun _ hi=>gP J hi)) ?_
  have hE:=uBT s t
  generalize hb : (t.kind == 2 && t.name == s)=b
  have hb2 : (decide (t.kind=2) && decide (t.name=s))=b:=by
   rw[← hb,Bool.eq_iff_iff]; simp
  rw[hb2] at hE
  cases b
  ·rw[Bool.false_or] at hE
   refine H3 (s:=⟨[(2,_,_),(3,_,_),(13,_,_)],[(.l 2,_),(.l 3,_)],[],[]⟩) (B4 (⟨U J,U J,U J,O⟩) (⟨U J,U J,O⟩) O) ?_;refine A5 J J J (A7 J gU) ?_;refine A5 J J J (B1 J gU J J) ?_;refine A5 J J J (B2 J (fun hh=>hh) J J J J) ?_;refine A5 J J J (V1 (ys:=[.ptr (.l 3) 0]) J) ?_;refine Qc [⟨.l 3,0,[.s s],[.s s]⟩] [] J J J J J J (ps1 J) J J (Px s t.kids (by omega) hk) J J J ?_;refine A5 J J J (E5 J J gU (fun _ hi=>gP J hi)) ?_;refine A5 J J J (A9 J gU) ?_;refine B0 ?_;refine C1 ?_
   repeat(first|refine tR ?_|refine bR ?_)
   refine C5 J ?_ O
   (rw[hE]; rfl)
  ·skip
   rw[Bool.true_or] at hE
   refine H3 (s:=⟨[(2,_,_),(3,_,_),(13,_,_)],[(.l 2,_),(.l 3,_)],[],[]⟩) (B4 (⟨U J,U J,U J,O⟩) (⟨U J,U J,O⟩) O) ?_;refine A5 J J J (A7 J gU) ?_;refine A5 J J J (B1 J gU J J) ?_;refine A5 J J J (B2 J (fun hh=>hh) J J J J) ?_;refine Wn (xb false) J J J ?_;refine Wn (xb false) J J J ?_;refine A5 J J J (E5 J J gU (fun _ hi=>gP J hi)) ?_;refine A5 J J J (A9 J gU) ?_;refine B0 ?_;refine C1 ?_
   repeat(first|refine tR ?_|refine bR ?_)
   refine C5 J ?_ O
   (rw[hE]; rfl)
theorem Rv (s : List UInt8) (t : T) (ht : t.size≤900000) : Ctr sys 47 [xm t,xs s] [] (xb (occT s t)) none []:=(Nb s _ t (Nat.le_refl _) ht).wk J fun _ h=>h
def Sv (n : Nar) (s : List UInt8) : Int × Int:=if (chkE E3 n).2≠0 then (0,(chkE E3 n).2) else if (H2 n).contains s=true then (mapI (nmsL n) s,0) else (0,4)
def Br (s : List UInt8) : Nat→List Sp→List Int
 | _,[]=>[]
 | k,x :: r=>if occT s x.msg=true then (k : Int) :: Br s (k + 1) r else Br s (k + 1) r
def Wm (n : Nar) (s : List UInt8) : List Int:=if (chkE E3 n).2≠0 then [] else Br s 0 n.steps
theorem Ut (s : List UInt8) (l : List Sp) (x : Sp) : ∀ k,Br s k (l++[x])=Br s k l++if occT s x.msg=true then [((k + l.length : Nat) : Int)] else []:=by
 induction l with
 | nil=>intro k; simp [Br]
 | cons y r ih =>
  intro k
  rw[List.cons_append,Br,Br,ih (k + 1)]
  have : k + 1 + r.length=k + (y :: r).length:=by simp; omega
  rw[this]
  split <;> simp
theorem Mm (s : List UInt8) : ∀ (l : List Sp) (k : Nat),(Br s k l).length≤l.length
 | [],_=>by simp [Br]
 | y :: r,k=>by
  have := Mm s r (k + 1)
  rw[Br]
  split
  ·simp only [List.length_cons]; omega
  ·simp only [List.length_cons]; omega
theorem Iz (n : Nar) (s : List UInt8) (hs : ∀ s ∈ n.steps,s.msg.size≤900000) (hg : ∀ g ∈ n.goals,T.sizes g.data≤900000) : Ctr sys 18 [xn n,xs s] [] (xii (Sv n s)) none []:=by
 refine D1 Tryz.func18 J J J J J J ?_;refine A8 (A6 ?_);refine C3 J (D8 J J J J) ?_;refine A5 J J J (A9 J gU) ?_;refine A5 J J J (A9 J gU) ?_;refine B0 ?_;refine A8 ?_;refine A8 (A6 ?_);refine A5 J J J (B8 J gU J J J J J) ?_;refine C7 J J J J J J gU gU (O0 n hs hg) J ?_;refine A5 J J J (A7 J gU) ?_;refine A5 J J J (C6 J gU J) ?_;refine A5 J J J (C6 J gU J) ?_;refine A5 J J J (A9 J gU) ?_;refine A5 J J J (A9 J gU) ?_;refine B0 ?_;refine B6 (s:=⟨[(1,_,_),(2,_,_),(7,_,_)],[(.l 2,_)],[],[]⟩) (B4 (⟨U J,U J,U J,O⟩) (⟨U J,O⟩) O) ?_;refine A8 (A6 ?_);refine A5 J J J (A7 J gU) ?_;refine A5 J J J (B7 J J gU gU J) ?_;refine B0 ?_;refine B9 J (fun hc=>?_) (fun hc=>?_)
 ·try simp only [nn,B3,nq] at hc
  refine A8 (A6 ?_);refine A5 J J J (A7 J gU) ?_;refine A5 J J J (A9 J gU) ?_;refine A5 J J J (A9 J gU) ?_;refine B0 ?_;refine C1 ?_
  repeat(first|refine tR ?_|refine bR ?_)
  refine C5 J ?_ O
  (rw[Sv,if_pos hc]; rfl)
 ·try simp only [nn,B3,nq] at hc
  rw[Sv,if_neg (by simpa using hc)]
  refine C0 ?_;refine A8 (A6 ?_);refine A5 J J J (B8 J gU J J J J J) ?_;refine Iq J J J J J J (Cn n) (fun _=>rfl) (fun bm=>?_);refine A5 J J J (Dw J gU (Tryz.underlying63) J J J J J J) ?_;refine A5 J J J (A7 J gU) ?_;refine A5 J J J (U4 (i:=0) (c:=.i .i64 (mapI (nmsL n) s)) (z:=.int .i64 0) J J gU gU J Tryz.underlying61 Tryz.underlying9 (by kernel_rfl) (fun w S=>Hn (nmsL n) s) J) ?_;refine A5 J J J (A7 J gU) ?_;refine A5 J J J (C6 J gU J) ?_;refine A5 J J J (C6 J gU J) ?_;refine A5 J J J (A9 J gU) ?_;refine A5 J J J (A9 J gU) ?_;refine B0 ?_;refine B6 (s:={ t:=[(8,_,_),(9,_,_)],bx:=[],ow:=[],mp:=_ }) (B4 (⟨U J,U J,O⟩) O O (.inr J)) ?_;refine A8 ?_;refine A8 (A6 ?_);refine A5 J J J (A7 J gU) ?_;refine A5 J J J (F9 J gU) ?_;refine B0 ?_;refine B9 J (fun hc2=>?_) (fun hc2=>?_)
  ·try simp only [nn,B3,nq] at hc2
   rw[S0] at hc2
   have h2 : (H2 n).contains s=false:=hc2
   rw[if_neg (by rw[h2]; simp)]
   refine A8 (A6 ?_);refine A5 J J J (A9 J gU) ?_;refine A5 J J J (A9 J gU) ?_;refine B0 ?_;refine C1 ?_
   repeat(first|refine tR ?_|refine bR ?_)
   refine C5 J ?_ O
   rfl
  ·try simp only [nn,B3,nq] at hc2
   rw[S0] at hc2
   have h2 : (H2 n).contains s=true:=hc2
   rw[if_pos h2]
   refine C0 ?_;refine A8 (A6 ?_);refine A5 J J J (A7 J gU) ?_;refine A5 J J J (A9 J gU) ?_;refine A5 J J J (A9 J gU) ?_;refine B0 ?_;refine C1 ?_
   repeat(first|refine tR ?_|refine bR ?_)
   refine C5 J ?_ O
   rfl
theorem Ty (n : Nar) (s : List UInt8) (hs : ∀ s ∈ n.steps,s.msg.size≤900000) (hg : ∀ g ∈ n.goals,T.sizes g.data≤900000) : Ctr sys 16 [xn n,xs s] [] (xis (Wm n s)) none []:=by
 have l5:=Sp.rows_len n.steps
 refine D1 Tryz.func16 J J J J J J ?_;refine A8 (A6 ?_);refine C3 J (D8 J J J J) ?_;refine C3 J (H4 (.inr J) J J) ?_;refine B0 ?_;refine A8 ?_;refine A8 (A6 ?_);refine A5 J J J (B8 J gU J J J J J) ?_;refine C7 J J J J J J gU gU (O0 n hs hg) J ?_;refine A5 J J J (A7 J gU) ?_;refine A5 J J J (C6 J gU J) ?_;refine A5 J J J (C6 J gU J) ?_;refine A5 J J J (A9 J gU) ?_;refine A5 J J J (A9 J gU) ?_;refine B0 ?_;refine B6 (s:=⟨[(1,_,_),(2,_,_),(6,_,_)],[(.l 2,_)],[],[]⟩) (B4 (⟨U J,U J,U J,O⟩) (⟨U J,O⟩) O) ?_;refine A8 (A6 ?_);refine A5 J J J (A7 J gU) ?_;refine A5 J J J (B7 J J gU gU J) ?_;refine B0 ?_;refine B9 J (fun hc=>?_) (fun hc=>?_)
 ·try simp only [nn,B3,D3,nq] at hc
  refine A8 (A6 ?_);refine C3 J (H4 (.inr J) J J) ?_;refine B0 ?_;refine C1 ?_
  repeat(first|refine tR ?_|refine bR ?_)
  refine C5 J ?_ O
  (rw[Wm,if_pos hc]; rfl)
 ·try simp only [nn,B3,D3,nq] at hc
  rw[Wm,if_neg (by simpa using hc)]
  have hok:=My (n:=n) (by
   have : (chkE E3 n).2=0:=by simpa using hc
   rw[chkE] at this
   split at this
   ·exact this
   ·rename_i q; simpa using q)
  have hs2:=hok.s2
  refine C0 ?_;refine A8 (A6 ?_);refine C3 J (H4 (.inr J) J J) ?_;refine B0 ?_;refine A8 ?_;refine A8 (A6 ?_);refine A5 J J J (B1 J gU J J) ?_;refine A5 J J J (B2 J gU J J J J) ?_;refine E0 J J J J J gU J J ?_ (fun hh=>by simp at hh); intro hlen;refine A5 J J J (A7 J gU) ?_;refine B0 ?_;refine B6 (s:=⟨[(1,_,_),(7,_,_),(18,_,_),(19,_,_),(20,_,_)],[],[(.t 7,_)],[]⟩) (B4 (⟨U J,U J,U J,U J,U J,O⟩) O (⟨rfl,O⟩)) ?_;refine C4 ?_;refine F2 (ι:=Nat) { t:=[(1,_,_),(18,_,_),(19,_,_)],bx:=[],ow:=[(.t 7,_)] } (fun k=>[(20,true,xi (k : Int)),(7,true,xis (Br s 0 (n.steps.take k)))]) (fun k=>[]) (fun k=>k≤n.steps.length) (fun k=>n.steps.length - k) (0) (by simp) (B4 (⟨U J,U J,U J,U J,U J,O⟩) O (⟨rfl,O⟩)) ?_
  intro k hok
  dsimp only [List.cons_append,List.nil_append]
  have hul:=Mm s (n.steps.take k) 0
  rw[List.length_take] at hul
  refine A8 (A6 ?_);refine A5 J J J (B7 J J gU gU J) ?_;refine B0 ?_;refine A8 ?_;refine B9 J (fun hc2=>?_) (fun hc2=>?_)
  ·try simp only [nn,B3,D3,nq] at hc2
   have hlt : k < n.steps.length:=by omega
   have hks:=hs _ (K8 (d:=default) hlt)
   have hT:=I2 (l:=n.steps) (d:=default) hlt
   have hmin : (n.steps.take k).length=k:=by rw[List.length_take]; omega
   have hS:=Ut s (n.steps.take k) (n.steps.getD k default) 0
   rw[← hT,hmin,Nat.zero_add] at hS
   refine C0 ?_;refine A8 ?_;refine C4 ?_;refine A8 (A6 ?_);refine A5 J J J (A7 J gU) ?_;refine A5 J J J (C2 J J gU gU J J J (fun hh=>Sp.rows_at (by first|omega|(simp at hh ⊢; omega)))) ?_;refine A5 J J J (D4 J gU J J J J) ?_;refine C3 J (D9 J J J) ?_;refine A5 J J J (A9 J gU) ?_;refine C3 J (C8 J J J J J J J) ?_;refine B0 ?_;refine B6 (s:=⟨[(1,_,_),(7,_,_),(8,_,_),(9,_,_),(18,_,_),(19,_,_),(20,_,_)],[(.l 9,_)],[(.t 7,_)],[]⟩) (B4 (⟨U J,U J,U J,U J,U J,U J,U J,O⟩) (⟨U J,O⟩) (⟨rfl,O⟩)) ?_;refine A8 (A6 ?_);refine A5 J J J (B1 J gU J J) ?_;refine A5 J J J (B8 J gU J J J J J) ?_;refine A5 J J J (A7 J gU) ?_;refine C7 J J J J J J gU gU (Rv _ _ (by omega)) J ?_;refine B0 ?_;refine B9 J (fun hc3=>?_) (fun hc3=>?_)
   ·try simp only [nn,B3,D3,nq] at hc3
    rw[if_pos hc3] at hS
    refine A6 ?_;refine C3 J (E8 (.inl J) J J J) ?_;refine A5 J J J (A7 J gU) ?_;refine E6 (xs:=[_]) J J J J J J J J J gU J ?_;refine C3 J (F8 J J J J J J J (by first|omega|(simp only [List.length_append,List.length_singleton,D3,List.length_map,List.length_take]; omega)) (by first|omega|(simp only [List.length_append,List.length_singleton,D3,List.length_map,List.length_take]; omega))) ?_;refine C3 J (E8 (.inr J) J J J) ?_;refine B0 ?_;refine B6 (s:=⟨[(1,_,_),(7,_,_),(18,_,_),(19,_,_),(20,_,_)],[],[(.t 7,_)],[]⟩) (B4 (⟨U J,U J,U J,U J,U J,O⟩) O (⟨rfl,O⟩)) ?_;refine A6 ?_;refine A5 J J J (D0 J J gU gU J (IntWalk.i64_in _ (by omega))) ?_;refine A5 J J J (A7 J gU) ?_;refine B0 ?_;refine ⟨k + 1,?_,?_,B4 (⟨⟨_,rfl,?_⟩,⟨⟨_,rfl,?_⟩,⟨U J,U J,U J,O⟩⟩⟩) O (⟨rfl,O⟩)⟩
    all_goals (first|rfl|omega|exact tx ((Fe _ _).trans (by rw[hS])))
   ·try simp only [nn,B3,D3,nq] at hc3
    rw[if_neg (by rw[hc3]; simp),List.append_nil] at hS
    refine C0 ?_;refine A6 ?_;refine A5 J J J (D0 J J gU gU J (IntWalk.i64_in _ (by omega))) ?_;refine A5 J J J (A7 J gU) ?_;refine B0 ?_;refine ⟨k + 1,?_,?_,B4 (⟨⟨_,rfl,?_⟩,⟨⟨_,rfl,?_⟩,⟨U J,U J,U J,O⟩⟩⟩) O (⟨rfl,O⟩)⟩
    all_goals (first|rfl|omega|exact tx (by rw[hS]))
  ·try simp only [nn,B3,D3,nq] at hc2
   have hke : k=n.steps.length:=by omega
   subst hke
   rw[List.take_length]
   refine E1 ?_
   repeat(first|refine D5 ?_|refine D6 ?_|refine D2 J ?_)
   refine A8 (A6 ?_);refine C3 J (E8 (.inl J) J J J) ?_;refine C3 J (E8 (.inr J) J J J) ?_;refine B0 ?_;refine C1 ?_
   repeat(first|refine tR ?_|refine bR ?_)
   refine C5 J ?_ O
   rfl
theorem V7 (s : List UInt8) : Ctr sys 82 [xs s] [] (xb (E3 s)) none []:=by rw[← uC2 s]; exact Un s
theorem Yi : ∀ (n : Nat) (t : T),t.size≤n→n≤2000000→Ctr sys 144 [xm t] [] (xi (rawE E3 t)) none []:=by
 intro n
 induction n with
 | zero=>intro t h; have := t.size_pos; omega
 | succ n ih =>
  intro t ht hn
  have hse:=t.size_eq
  have hrl:=T.rows_len t.kids
  have hls:=T.len_sizes t.kids
  have he:=Wp E3 t
  rw[Eb] at he
  refine D1 Tryz.func144 J J J J J J ?_;refine A8 (A6 ?_);refine C3 J (D8 J J J J) ?_;refine A5 J J J (A9 J gU) ?_;refine B0 ?_;refine A8 ?_;refine A8 (A6 ?_);refine A5 J J J (B1 J gU J J) ?_;refine A5 J J J (B2 J gU J J J J) ?_;refine A5 J J J (B7 J J gU gU J) ?_;refine A5 J J J (A7 J gU) ?_;refine A5 J J J (B1 J gU J J) ?_;refine A5 J J J (B2 J (fun hh=>hh) J J J J) ?_;refine A5 J J J (B7 J J (fun hh=>hh) gU J) ?_;refine A5 J J J (E5 J J gU (fun _ hi=>gP J hi)) ?_;refine B0 ?_;refine B6 (s:=⟨[(1,_,_),(12,_,_)],[(.l 1,_)],[],[]⟩) (B4 (⟨U J,U J,O⟩) (⟨U J,O⟩) O) ?_;refine B9 J (fun hc=>?_) (fun hc=>?_)
  ·try simp only [nn,B3,T.rows_len,Fs.rows_len,Sp.rows_len,Gl.rows_len] at hc
   refine A8 (A6 ?_);refine A5 J J J (A9 J gU) ?_;refine B0 ?_;refine C1 ?_
   repeat(first|refine tR ?_|refine bR ?_)
   refine C5 J ?_ O
   (rw[he,if_pos (by grind)]; rfl)
  ·try simp only [nn,B3,T.rows_len,Fs.rows_len,Sp.rows_len,Gl.rows_len] at hc
   rw[if_neg (by grind)] at he
   refine C0 ?_;refine A8 ?_;refine A8 (A6 ?_);refine A5 J J J (B1 J gU J J) ?_;refine A5 J J J (B2 J gU J J J J) ?_;refine C7 J J J J J J gU gU (V7 _) J ?_;refine A5 J J J (F9 J gU) ?_;refine B0 ?_;refine B9 J (fun hc2=>?_) (fun hc2=>?_)
   ·try simp only [nn,B3,T.rows_len,Fs.rows_len,Sp.rows_len,Gl.rows_len] at hc2
    refine A8 (A6 ?_);refine A5 J J J (A9 J gU) ?_;refine B0 ?_;refine C1 ?_
    repeat(first|refine tR ?_|refine bR ?_)
    refine C5 J ?_ O
    (rw[he,if_pos hc2]; rfl)
   ·try simp only [nn,B3,T.rows_len,Fs.rows_len,Sp.rows_len,Gl.rows_len] at hc2
    rw[if_neg (by rw[hc2]; simp)] at he
    refine C0 ?_;refine A8 ?_;refine A8 (A6 ?_);refine A5 J J J (A9 J gU) ?_;refine B0 ?_;refine B6 (s:=⟨[(1,_,_),(3,_,_)],[(.l 1,_)],[],[]⟩) (B4 (⟨U J,U J,O⟩) (⟨U J,O⟩) O) ?_;refine C4 ?_;refine F2 (ι:=Nat) { t:=[(1,_,_)],bx:=[(.l 1,_)],ow:=[] } (fun k=>[(3,true,xi (k : Int))]) (fun k=>[]) (fun k=>k≤t.kids.length∧errs (rawE E3) (t.kids.drop k)=rawE E3 t) (fun k=>t.kids.length - k) (0) (⟨by simp,by rw[he]; rfl⟩) (B4 (⟨U J,U J,O⟩) (⟨U J,O⟩) O) ?_
    intro k hok
    dsimp only [List.cons_append,List.nil_append]
    obtain ⟨hk,hi⟩:=hok
    refine A8 ?_;refine A8 (A6 ?_);refine A5 J J J (A7 J gU) ?_;refine A5 J J J (B1 J gU J J) ?_;refine A5 J J J (B2 J gU J J J J) ?_;refine E0 J J J J J gU J J ?_ (fun hh=>by simp at hh); intro hlen;refine A5 J J J (B7 J J gU gU J) ?_;refine B0 ?_;refine B6 (s:=⟨[(1,_,_),(3,_,_),(21,_,_)],[(.l 1,_)],[],[]⟩) (B4 (⟨U J,U J,U J,O⟩) (⟨U J,O⟩) O) ?_;refine B9 J (fun hc3=>?_) (fun hc3=>?_)
    ·try simp only [nn,B3,T.rows_len,Fs.rows_len,Sp.rows_len,Gl.rows_len] at hc3
     have hlt : k < t.kids.length:=by omega
     have h2:=T.getD_size hlt
     have hd:=P4 (d:=default) hlt hi
     refine C0 ?_;refine A8 ?_;refine C4 ?_;refine A8 (A6 ?_);refine A5 J J J (B1 J gU J J) ?_;refine A5 J J J (B2 J gU J J J J) ?_;refine A5 J J J (A7 J gU) ?_;refine A5 J J J (C2 J J gU gU J J J (fun hh=>T.rows_at (by first|omega|(simp at hh ⊢; omega)))) ?_;refine A5 J J J (D4 J gU J J J J) ?_;refine C7 J J J J J J gU gU (ih (t.kids.getD k default) (by omega) (by omega)) J ?_;refine A5 J J J (A9 J gU) ?_;refine B0 ?_;refine B6 (s:=⟨[(1,_,_),(3,_,_),(4,_,_)],[(.l 1,_)],[],[]⟩) (B4 (⟨U J,U J,U J,O⟩) (⟨U J,O⟩) O) ?_;refine A8 (A6 ?_);refine A5 J J J (A7 J gU) ?_;refine A5 J J J (B7 J J gU gU J) ?_;refine B0 ?_;refine B9 J (fun hc1=>?_) (fun hc1=>?_)
     ·try simp only [nn,B3,T.rows_len,Fs.rows_len,Sp.rows_len,Gl.rows_len] at hc1
      refine A8 (A6 ?_);refine A5 J J J (A7 J gU) ?_;refine A5 J J J (A9 J gU) ?_;refine B0 ?_;refine C1 ?_
      repeat(first|refine tR ?_|refine bR ?_)
      refine C5 J ?_ O;exact H5 (hd.1 (by assumption)).symm
     ·try simp only [nn,B3,T.rows_len,Fs.rows_len,Sp.rows_len,Gl.rows_len] at hc1
      refine C0 ?_;refine A6 ?_;refine A5 J J J (A7 J gU) ?_;refine A5 J J J (D0 J J gU gU J (IntWalk.i64_in _ (by omega))) ?_;refine A5 J J J (A9 J gU) ?_;refine B0 ?_;refine ⟨k + 1,?_,?_,B4 (⟨⟨_,rfl,?_⟩,⟨U J,O⟩⟩) (⟨U J,O⟩) O⟩
      all_goals (first|rfl|omega|exact ⟨by omega,hd.2 (by assumption)⟩)
    ·try simp only [nn,B3,T.rows_len,Fs.rows_len,Sp.rows_len,Gl.rows_len] at hc3
     refine E1 ?_
     repeat(first|refine D5 ?_|refine D6 ?_|refine D2 J ?_)
     refine A8 (A6 ?_);refine A5 J J J (A9 J gU) ?_;refine B0 ?_;refine C1 ?_
     repeat(first|refine tR ?_|refine bR ?_)
     refine C5 J ?_ O;exact H5 (Z4 (by omega) hi).symm
theorem Yp (t : T) (ht : t.size≤900000) : Ctr sys 117 [xm t] [] (xi (Aw E3 t)) none []:=by
 refine D1 Tryz.func117 J J J J J J ?_;refine A8 (A6 ?_);refine C3 J (D8 J J J J) ?_;refine A5 J J J (A9 J gU) ?_;refine B0 ?_;refine A8 ?_;refine A8 (A6 ?_);refine A5 J J J (B8 J gU J J J J J) ?_;refine C7 J J J J J J gU gU (Ud _ (by omega)) J ?_;refine A5 J J J (A9 J gU) ?_;refine B0 ?_;refine B6 (s:=⟨[(1,_,_),(3,_,_)],[(.l 1,_)],[],[]⟩) (B4 (⟨U J,U J,O⟩) (⟨U J,O⟩) O) ?_;refine A8 (A6 ?_);refine A5 J J J (A7 J gU) ?_;refine A5 J J J (B7 J J gU gU J) ?_;refine B0 ?_;refine B9 J (fun hc=>?_) (fun hc=>?_)
 ·try simp only [nn,B3,T.rows_len,Fs.rows_len,Sp.rows_len,Gl.rows_len] at hc
  refine A8 (A6 ?_);refine A5 J J J (A7 J gU) ?_;refine A5 J J J (A9 J gU) ?_;refine B0 ?_;refine C1 ?_
  repeat(first|refine tR ?_|refine bR ?_)
  refine C5 J ?_ O
  (rw[Aw,if_pos hc]; rfl)
 ·try simp only [nn,B3,T.rows_len,Fs.rows_len,Sp.rows_len,Gl.rows_len] at hc
  refine C0 ?_;refine A8 (A6 ?_);refine A5 J J J (B8 J gU J J J J J) ?_;refine C7 J J J J J J gU gU (Yi _ _ (Nat.le_refl _) (by omega)) J ?_;refine A5 J J J (A9 J gU) ?_;refine B0 ?_;refine C1 ?_
  repeat(first|refine tR ?_|refine bR ?_)
  refine C5 J ?_ O
  (rw[Aw,if_neg (by simpa using hc)]; rfl)
theorem Ds (t : T) (ht : t.size≤900000) : Ctr sys 85 [xm t] [] (xi (msgE E3 t)) none []:=by
 refine D1 Tryz.func85 J J J J J J ?_;refine A8 (A6 ?_);refine C3 J (D8 J J J J) ?_;refine A5 J J J (A9 J gU) ?_;refine B0 ?_;refine A8 ?_;refine A8 (A6 ?_);refine A5 J J J (B8 J gU J J J J J) ?_;refine C7 J J J J J J gU gU (Yp _ (by omega)) J ?_;refine A5 J J J (A9 J gU) ?_;refine B0 ?_;refine B6 (s:=⟨[(1,_,_),(3,_,_)],[(.l 1,_)],[],[]⟩) (B4 (⟨U J,U J,O⟩) (⟨U J,O⟩) O) ?_;refine A8 (A6 ?_);refine A5 J J J (A7 J gU) ?_;refine A5 J J J (B7 J J gU gU J) ?_;refine B0 ?_;refine B9 J (fun hc=>?_) (fun hc=>?_)
 ·try simp only [nn,B3,T.rows_len,Fs.rows_len,Sp.rows_len,Gl.rows_len] at hc
  refine A8 (A6 ?_);refine A5 J J J (A7 J gU) ?_;refine A5 J J J (A9 J gU) ?_;refine B0 ?_;refine C1 ?_
  repeat(first|refine tR ?_|refine bR ?_)
  refine C5 J ?_ O
  (rw[msgE,if_pos hc]; rfl)
 ·try simp only [nn,B3,T.rows_len,Fs.rows_len,Sp.rows_len,Gl.rows_len] at hc
  refine C0 ?_;refine A8 ?_;refine A8 (A6 ?_);refine A5 J J J (B8 J gU J J J J J) ?_;refine C7 J J J J J J gU gU (Dh _ _ (Nat.le_refl _) (by omega)) J ?_;refine A5 J J J (B7 J J gU gU J) ?_;refine B0 ?_;refine B6 (s:=⟨[(11,_,_)],[],[],[]⟩) (B4 (⟨U J,O⟩) O O) ?_;refine B9 J (fun hc2=>?_) (fun hc2=>?_)
  ·try simp only [nn,B3,T.rows_len,Fs.rows_len,Sp.rows_len,Gl.rows_len] at hc2
   refine A8 (A6 ?_);refine A5 J J J (A9 J gU) ?_;refine B0 ?_;refine C1 ?_
   repeat(first|refine tR ?_|refine bR ?_)
   refine C5 J ?_ O
   (rw[msgE,if_neg (by simpa using hc),if_pos (by omega)]; rfl)
  ·try simp only [nn,B3,T.rows_len,Fs.rows_len,Sp.rows_len,Gl.rows_len] at hc2
   refine C0 ?_;refine A8 (A6 ?_);refine A5 J J J (A9 J gU) ?_;refine B0 ?_;refine C1 ?_
   repeat(first|refine tR ?_|refine bR ?_)
   refine C5 J ?_ O
   (rw[msgE,if_neg (by simpa using hc),if_neg (by omega)]; rfl)
theorem R2 (g : Gl) : Ctr sys 119 [xg g] [] (xb (I9 g.kind)) none []:=by
 refine D1 Tryz.func119 J J J J J J ?_;refine A8 (A6 ?_);refine C3 J (D8 J J J J) ?_;refine A5 J J J (A9 J gU) ?_;refine B0 ?_;refine A8 (A6 ?_);refine A5 J J J (B1 J gU J J) ?_;refine A5 J J J (B2 J gU J J J J) ?_;refine A5 J J J (B7 J J gU gU J) ?_;refine A5 J J J (A7 J gU) ?_;refine A5 J J J (B1 J gU J J) ?_;refine A5 J J J (B2 J (fun hh=>hh) J J J J) ?_;refine A5 J J J (B7 J J (fun hh=>hh) gU J) ?_;refine A5 J J J (E5 J J gU (fun _ hi=>gP J hi)) ?_;refine A5 J J J (A9 J gU) ?_;refine B0 ?_;refine C1 ?_
 repeat(first|refine tR ?_|refine bR ?_)
 refine C5 J ?_ O
 rfl
theorem uAd {f : List UInt8→Bool} {l : List (List UInt8)} {k : Nat} {e : Bool} (h : k < l.length) (hi : (l.drop k).all f=e) : (f (l.getD k [])=false→e=false)∧(f (l.getD k [])=true→(l.drop (k + 1)).all f=e):=by
 rw[Mn (d:=[]) h,List.all_cons] at hi
 refine ⟨fun q=>?_,fun q=>?_⟩
 ·rw[q] at hi; exact hi.symm
 ·rw[q] at hi; exact hi
theorem Z8 (l : List (List UInt8)) : Ctr sys 84 [xss l] [] (xb (l.all E3)) none []:=by
 have hrl:=B3 l
 refine D1 Tryz.func84 J J J J J J ?_;refine A8 (A6 ?_);refine A5 J J J (A9 J gU) ?_;refine B0 ?_;refine A8 ?_;refine A8 (A6 ?_);refine A5 J J J (A9 J gU) ?_;refine B0 ?_;refine C4 ?_;refine F2 (ι:=Nat) { t:=[(0,_,_)],bx:=[],ow:=[] } (fun k=>[(3,true,xi (k : Int))]) (fun k=>[]) (fun k=>k≤l.length∧(l.drop k).all E3=l.all E3) (fun k=>l.length - k) (0) (⟨by simp,rfl⟩) (B4 (⟨U J,U J,O⟩) O O) ?_
 intro k hok
 dsimp only [List.cons_append,List.nil_append]
 obtain ⟨hk,hi⟩:=hok
 refine A8 ?_;refine A8 (A6 ?_);refine A5 J J J (A7 J gU) ?_;refine A5 J J J (A7 J gU) ?_;refine E0 J J J J J gU J J ?_ (fun hh=>by simp at hh); intro hlen;refine A5 J J J (B7 J J gU gU J) ?_;refine B0 ?_;refine B9 J (fun hc=>?_) (fun hc=>?_)
 ·try simp only [nn,B3,T.rows_len,Fs.rows_len,Sp.rows_len,Gl.rows_len] at hc
  have hlt : k < l.length:=by omega
  have hd:=uAd hlt hi
  refine C0 ?_;refine A8 ?_;refine C4 ?_;refine A8 (A6 ?_);refine A5 J J J (A7 J gU) ?_;refine A5 J J J (A7 J gU) ?_;refine A5 J J J (C2 J J gU gU J J J (fun hh=>L5 (by first|omega|(simp at hh ⊢; omega)))) ?_;refine A5 J J J (E4 J gU J J J) ?_;refine C7 J J J J J J gU gU (V7 _) J ?_;refine A5 J J J (F9 J gU) ?_;refine B0 ?_;refine B6 (s:=⟨[(0,_,_),(3,_,_),(15,_,_)],[],[],[]⟩) (B4 (⟨U J,U J,U J,O⟩) O O) ?_;refine B9 J (fun hc1=>?_) (fun hc1=>?_)
  ·try simp only [nn,B3,T.rows_len,Fs.rows_len,Sp.rows_len,Gl.rows_len] at hc1
   refine A8 (A6 ?_);refine A5 J J J (A9 J gU) ?_;refine B0 ?_;refine C1 ?_
   repeat(first|refine tR ?_|refine bR ?_)
   refine C5 J ?_ O;exact M3 (hd.1 (by assumption)).symm
  ·try simp only [nn,B3,T.rows_len,Fs.rows_len,Sp.rows_len,Gl.rows_len] at hc1
   refine C0 ?_;refine A6 ?_;refine A5 J J J (A7 J gU) ?_;refine A5 J J J (D0 J J gU gU J (IntWalk.i64_in _ (by omega))) ?_;refine A5 J J J (A9 J gU) ?_;refine B0 ?_;refine ⟨k + 1,?_,?_,B4 (⟨⟨_,rfl,?_⟩,⟨U J,O⟩⟩) O O⟩
   all_goals (first|rfl|omega|exact ⟨by omega,hd.2 (by assumption)⟩)
 ·try simp only [nn,B3,T.rows_len,Fs.rows_len,Sp.rows_len,Gl.rows_len] at hc
  rw[List.drop_of_length_le (by omega)] at hi
  refine E1 ?_
  repeat(first|refine D5 ?_|refine D6 ?_|refine D2 J ?_)
  refine A8 (A6 ?_);refine A5 J J J (A9 J gU) ?_;refine B0 ?_;refine C1 ?_
  repeat(first|refine tR ?_|refine bR ?_)
  refine C5 J ?_ O;exact M3 hi
theorem Nc (n : Nar) : Ctr sys 83 [xn n] [] (xi (cntE n)) none []:=by
 have hr1:=B3 n.roles
 have hr2:=Fs.rows_len n.fresh
 have hr3:=B3 n.tags
 have hr4:=Sp.rows_len n.steps
 have hr5:=Gl.rows_len n.goals
 refine D1 Tryz.func83 J J J J J J ?_;refine A8 (A6 ?_);refine C3 J (D8 J J J J) ?_;refine A5 J J J (A9 J gU) ?_;refine B0 ?_;refine A8 ?_;refine A8 (A6 ?_);refine A5 J J J (B1 J gU J J) ?_;refine A5 J J J (B2 J gU J J J J) ?_;refine E0 J J J J J gU J J ?_ (fun hh=>by simp at hh); intro hlen;refine A5 J J J (B7 J J gU gU J) ?_;refine B0 ?_;refine B6 (s:=⟨[(1,_,_),(6,_,_)],[(.l 1,_)],[],[]⟩) (B4 (⟨U J,U J,O⟩) (⟨U J,O⟩) O) ?_;refine B9 J (fun hc1=>?_) (fun hc1=>?_)
 ·try simp only [nn,B3,T.rows_len,Fs.rows_len,Sp.rows_len,Gl.rows_len] at hc1
  refine A8 (A6 ?_);refine A5 J J J (A9 J gU) ?_;refine B0 ?_;refine C1 ?_
  repeat(first|refine tR ?_|refine bR ?_)
  refine C5 J ?_ O
  (refine H5 ?_; unfold cntE; (repeat' split) <;> omega)
 ·try simp only [nn,B3,T.rows_len,Fs.rows_len,Sp.rows_len,Gl.rows_len] at hc1
  refine C0 ?_;refine A8 ?_;refine A8 (A6 ?_);refine A5 J J J (B1 J gU J J) ?_;refine A5 J J J (B2 J gU J J J J) ?_;refine E0 J J J J J gU J J ?_ (fun hh=>by simp at hh); intro hlen;refine A5 J J J (B7 J J gU gU J) ?_;refine A5 J J J (A7 J gU) ?_;refine A5 J J J (B1 J gU J J) ?_;refine A5 J J J (B2 J (fun hh=>hh) J J J J) ?_;refine A5 J J J (G8 J (fun hh=>hh) J J) ?_;refine A5 J J J (B7 J J (fun hh=>hh) gU J) ?_;refine A5 J J J (E5 J J gU (fun _ hi=>gP J hi)) ?_;refine A5 J J J (A7 J gU) ?_;refine A5 J J J (B1 J gU J J) ?_;refine H3 (s:=⟨[(1,_,_),(17,_,_),(18,_,_)],[(.l 1,_)],[],[]⟩) (B4 (⟨U J,U J,U J,O⟩) (⟨U J,O⟩) O) ?_;refine A5 J J J (B2 J (fun hh=>hh) J J J J) ?_;refine A5 J J J (G8 J (fun hh=>hh) J J) ?_;refine A5 J J J (B7 J J (fun hh=>hh) gU J) ?_;refine A5 J J J (E5 J J gU (fun _ hi=>gP J hi)) ?_;refine B0 ?_;refine B9 J (fun hc2=>?_) (fun hc2=>?_)
  ·try simp only [nn,B3,T.rows_len,Fs.rows_len,Sp.rows_len,Gl.rows_len] at hc2
   refine A8 (A6 ?_);refine A5 J J J (A9 J gU) ?_;refine B0 ?_;refine C1 ?_
   repeat(first|refine tR ?_|refine bR ?_)
   refine C5 J ?_ O
   (refine H5 ?_; unfold cntE; (repeat' split) <;> omega)
  ·try simp only [nn,B3,T.rows_len,Fs.rows_len,Sp.rows_len,Gl.rows_len] at hc2
   refine C0 ?_;refine A8 ?_;refine A8 (A6 ?_);refine A5 J J J (B1 J gU J J) ?_;refine A5 J J J (B2 J gU J J J J) ?_;refine E0 J J J J J gU J J ?_ (fun hh=>by simp at hh); intro hlen;refine A5 J J J (B7 J J gU gU J) ?_;refine B0 ?_;refine B6 (s:=⟨[(1,_,_),(26,_,_)],[(.l 1,_)],[],[]⟩) (B4 (⟨U J,U J,O⟩) (⟨U J,O⟩) O) ?_;refine B9 J (fun hc3=>?_) (fun hc3=>?_)
   ·try simp only [nn,B3,T.rows_len,Fs.rows_len,Sp.rows_len,Gl.rows_len] at hc3
    refine A8 (A6 ?_);refine A5 J J J (A9 J gU) ?_;refine B0 ?_;refine C1 ?_
    repeat(first|refine tR ?_|refine bR ?_)
    refine C5 J ?_ O
    (refine H5 ?_; unfold cntE; (repeat' split) <;> omega)
   ·try simp only [nn,B3,T.rows_len,Fs.rows_len,Sp.rows_len,Gl.rows_len] at hc3
    refine C0 ?_;refine A8 ?_;refine A8 (A6 ?_);refine A5 J J J (B1 J gU J J) ?_;refine A5 J J J (B2 J gU J J J J) ?_;refine E0 J J J J J gU J J ?_ (fun hh=>by simp at hh); intro hlen;refine A5 J J J (B7 J J gU gU J) ?_;refine A5 J J J (A7 J gU) ?_;refine A5 J J J (B1 J gU J J) ?_;refine A5 J J J (B2 J (fun hh=>hh) J J J J) ?_;refine A5 J J J (G8 J (fun hh=>hh) J J) ?_;refine A5 J J J (B7 J J (fun hh=>hh) gU J) ?_;refine A5 J J J (E5 J J gU (fun _ hi=>gP J hi)) ?_;refine B0 ?_;refine B6 (s:=⟨[(36,_,_)],[],[],[]⟩) (B4 (⟨U J,O⟩) O O) ?_;refine B9 J (fun hc4=>?_) (fun hc4=>?_)
    ·try simp only [nn,B3,T.rows_len,Fs.rows_len,Sp.rows_len,Gl.rows_len] at hc4
     refine A8 (A6 ?_);refine A5 J J J (A9 J gU) ?_;refine B0 ?_;refine C1 ?_
     repeat(first|refine tR ?_|refine bR ?_)
     refine C5 J ?_ O
     (refine H5 ?_; unfold cntE; (repeat' split) <;> omega)
    ·try simp only [nn,B3,T.rows_len,Fs.rows_len,Sp.rows_len,Gl.rows_len] at hc4
     refine C0 ?_;refine A8 (A6 ?_);refine A5 J J J (A9 J gU) ?_;refine B0 ?_;refine C1 ?_
     repeat(first|refine tR ?_|refine bR ?_)
     refine C5 J ?_ O
     (refine H5 ?_; unfold cntE; (repeat' split) <;> omega)
theorem Ux (g : Gl) (hg : T.sizes g.data≤900000) : Ctr sys 86 [xg g] [] (xi (O6 E3 g)) none []:=by
 have hls:=T.len_sizes g.data
 have hrl:=T.rows_len g.data
 refine D1 Tryz.func86 J J J J J J ?_;refine A8 (A6 ?_);refine C3 J (D8 J J J J) ?_;refine A5 J J J (A9 J gU) ?_;refine B0 ?_;refine A8 ?_;refine A8 (A6 ?_);refine A5 J J J (B1 J gU J J) ?_;refine A5 J J J (B2 J gU J J J J) ?_;refine A5 J J J (B7 J J gU gU J) ?_;refine A5 J J J (A7 J gU) ?_;refine A5 J J J (B1 J gU J J) ?_;refine A5 J J J (B2 J (fun hh=>hh) J J J J) ?_;refine A5 J J J (B7 J J (fun hh=>hh) gU J) ?_;refine A5 J J J (E5 J J gU (fun _ hi=>gP J hi)) ?_;refine B0 ?_;refine B6 (s:=⟨[(1,_,_),(12,_,_)],[(.l 1,_)],[],[]⟩) (B4 (⟨U J,U J,O⟩) (⟨U J,O⟩) O) ?_;refine B9 J (fun hc=>?_) (fun hc=>?_)
 ·try simp only [nn,B3,T.rows_len,Fs.rows_len,Sp.rows_len,Gl.rows_len] at hc
  refine A8 (A6 ?_);refine A5 J J J (A9 J gU) ?_;refine B0 ?_;refine C1 ?_
  repeat(first|refine tR ?_|refine bR ?_)
  refine C5 J ?_ O
  (rw[O6,if_pos (by grind)]; rfl)
 ·try simp only [nn,B3,T.rows_len,Fs.rows_len,Sp.rows_len,Gl.rows_len] at hc
  refine C0 ?_;refine A8 ?_;refine A8 (A6 ?_);refine A5 J J J (B1 J gU J J) ?_;refine A5 J J J (B2 J gU J J J J) ?_;refine C7 J J J J J J gU gU (V7 _) J ?_;refine A5 J J J (F9 J gU) ?_;refine A5 J J J (A7 J gU) ?_;refine A5 J J J (B8 J gU J J J J J) ?_;refine C7 J J J J J J gU (fun hh=>gA ((fun hh=>hh) hh) (rfl)) (R2 _) J ?_;refine A5 J J J (A7 J (fun hh=>hh)) ?_;refine A5 J J J (B1 J gU J J) ?_;refine A5 J J J (B2 J (fun hh=>hh) J J J J) ?_;refine C7 J J J J J J gU (fun hh=>gA ((fun hh=>hh) hh) (rfl)) (V7 _) J ?_;refine A5 J J J (F9 J (fun hh=>hh)) ?_;refine H3 (s:=⟨[(1,_,_),(17,_,_),(20,_,_),(24,_,_)],[(.l 1,_)],[],[]⟩) (B4 (⟨U J,U J,U J,U J,O⟩) (⟨U J,O⟩) O) ?_;refine A5 J J J (E2 J J (fun hh=>hh) (fun hh hi=>gP hh hi)) ?_;refine A5 J J J (E5 J J gU (fun _ hi=>gP J hi)) ?_;refine B0 ?_;refine B9 J (fun hc2=>?_) (fun hc2=>?_)
  ·try simp only [nn,B3,T.rows_len,Fs.rows_len,Sp.rows_len,Gl.rows_len] at hc2
   refine A8 (A6 ?_);refine A5 J J J (A9 J gU) ?_;refine B0 ?_;refine C1 ?_
   repeat(first|refine tR ?_|refine bR ?_)
   refine C5 J ?_ O
   (rw[O6,if_neg (by omega),if_pos (by grind)]; rfl)
  ·try simp only [nn,B3,T.rows_len,Fs.rows_len,Sp.rows_len,Gl.rows_len] at hc2
   refine C0 ?_;refine A8 ?_;refine A8 (A6 ?_);refine A5 J J J (B8 J gU J J J J J) ?_;refine C7 J J J J J J gU gU (R2 _) J ?_;refine A5 J J J (F9 J gU) ?_;refine A5 J J J (A7 J gU) ?_;refine A5 J J J (B1 J gU J J) ?_;refine A5 J J J (B2 J (fun hh=>hh) J J J J) ?_;refine A5 J J J (G0 J J (fun hh=>hh) gU J) ?_;refine A5 J J J (E2 J J gU (fun _ hi=>gP J hi)) ?_;refine B0 ?_;refine B6 (s:=⟨[(1,_,_),(34,_,_)],[(.l 1,_)],[],[]⟩) (B4 (⟨U J,U J,O⟩) (⟨U J,O⟩) O) ?_;refine B9 J (fun hc3=>?_) (fun hc3=>?_)
   ·try simp only [nn,B3,T.rows_len,Fs.rows_len,Sp.rows_len,Gl.rows_len] at hc3
    refine A8 (A6 ?_);refine A5 J J J (A9 J gU) ?_;refine B0 ?_;refine C1 ?_
    repeat(first|refine tR ?_|refine bR ?_)
    refine C5 J ?_ O
    (rw[O6,if_neg (by omega),if_neg (by grind),if_pos (by grind)]; rfl)
   ·try simp only [nn,B3,T.rows_len,Fs.rows_len,Sp.rows_len,Gl.rows_len] at hc3
    refine C0 ?_;refine A8 ?_;refine A8 (A6 ?_);refine A5 J J J (B1 J gU J J) ?_;refine A5 J J J (B2 J gU J J J J) ?_;refine E0 J J J J J gU J J ?_ (fun hh=>by simp at hh); intro hlen;refine A5 J J J (B7 J J gU gU J) ?_;refine A5 J J J (A7 J gU) ?_;refine A5 J J J (B1 J gU J J) ?_;refine A5 J J J (B2 J (fun hh=>hh) J J J J) ?_;refine A5 J J J (G8 J (fun hh=>hh) J J) ?_;refine A5 J J J (B7 J J (fun hh=>hh) gU J) ?_;refine A5 J J J (E5 J J gU (fun _ hi=>gP J hi)) ?_;refine A5 J J J (A7 J gU) ?_;refine A5 J J J (B8 J gU J J J J J) ?_;refine H3 (s:=⟨[(1,_,_),(45,_,_),(46,_,_)],[(.l 1,_)],[],[]⟩) (B4 (⟨U J,U J,U J,O⟩) (⟨U J,O⟩) O) ?_;refine C7 J J J J J J gU (fun hh=>gA ((fun hh=>hh) hh) (rfl)) (R2 _) J ?_;refine A5 J J J (F9 J (fun hh=>hh)) ?_;refine A5 J J J (A7 J (fun hh=>hh)) ?_;refine A5 J J J (B1 J gU J J) ?_;refine A5 J J J (B2 J (fun hh=>hh) J J J J) ?_;refine A5 J J J (G8 J (fun hh=>hh) J J) ?_;refine A5 J J J (B7 J J (fun hh=>hh) gU J) ?_
    refine A5 J J J (E2 J J (fun hh=>hh) (fun hh hi=>gP hh hi)) ?_;refine A5 J J J (E5 J J gU (fun _ hi=>gP J hi)) ?_;refine B0 ?_;refine B6 (s:=⟨[(1,_,_),(55,_,_)],[(.l 1,_)],[],[]⟩) (B4 (⟨U J,U J,O⟩) (⟨U J,O⟩) O) ?_;refine B9 J (fun hc4=>?_) (fun hc4=>?_)
    ·try simp only [nn,B3,T.rows_len,Fs.rows_len,Sp.rows_len,Gl.rows_len] at hc4
     refine A8 (A6 ?_);refine A5 J J J (A9 J gU) ?_;refine B0 ?_;refine C1 ?_
     repeat(first|refine tR ?_|refine bR ?_)
     refine C5 J ?_ O
     (rw[O6,if_neg (by omega),if_neg (by grind),if_neg (by grind),if_pos (by cases ha : I9 g.kind <;> simp only [ha,Bool.true_eq_false,Bool.false_eq_true,false_and,true_and,and_true,or_false,false_or,not_true_eq_false,not_false_eq_true,ne_eq,reduceCtorEq,and_false] at hc4 ⊢ <;> omega)]; rfl)
    ·try simp only [nn,B3,T.rows_len,Fs.rows_len,Sp.rows_len,Gl.rows_len] at hc4
     have he : O6 E3 g=errs (msgE E3) g.data:=by
      rw[O6,if_neg (by omega),if_neg (by grind),if_neg (by grind),if_neg (by cases ha : I9 g.kind <;> simp only [ha,Bool.true_eq_false,Bool.false_eq_true,false_and,true_and,and_true,or_false,false_or,not_true_eq_false,not_false_eq_true,ne_eq,reduceCtorEq,and_false] at hc4 ⊢ <;> omega)]
     refine C0 ?_;refine A8 ?_;refine A8 (A6 ?_);refine A5 J J J (A9 J gU) ?_;refine B0 ?_;refine C4 ?_;refine F2 (ι:=Nat) { t:=[(1,_,_)],bx:=[(.l 1,_)],ow:=[] } (fun k=>[(3,true,xi (k : Int))]) (fun k=>[]) (fun k=>k≤g.data.length∧errs (msgE E3) (g.data.drop k)=O6 E3 g) (fun k=>g.data.length - k) (0) (⟨by simp,by rw[he]; rfl⟩) (B4 (⟨U J,U J,O⟩) (⟨U J,O⟩) O) ?_
     intro k hok
     dsimp only [List.cons_append,List.nil_append]
     obtain ⟨hk,hi⟩:=hok
     refine A8 ?_;refine A8 (A6 ?_);refine A5 J J J (A7 J gU) ?_;refine A5 J J J (B1 J gU J J) ?_;refine A5 J J J (B2 J gU J J J J) ?_;refine E0 J J J J J gU J J ?_ (fun hh=>by simp at hh); intro hlen;refine A5 J J J (B7 J J gU gU J) ?_;refine B0 ?_;refine B6 (s:=⟨[(1,_,_),(3,_,_),(60,_,_)],[(.l 1,_)],[],[]⟩) (B4 (⟨U J,U J,U J,O⟩) (⟨U J,O⟩) O) ?_;refine B9 J (fun hc5=>?_) (fun hc5=>?_)
     ·try simp only [nn,B3,T.rows_len,Fs.rows_len,Sp.rows_len,Gl.rows_len] at hc5
      have hlt : k < g.data.length:=by omega
      have h2:=T.getD_size hlt
      have hd:=P4 (d:=default) hlt hi
      refine C0 ?_;refine A8 ?_;refine C4 ?_;refine A8 (A6 ?_);refine A5 J J J (B1 J gU J J) ?_;refine A5 J J J (B2 J gU J J J J) ?_;refine A5 J J J (A7 J gU) ?_;refine A5 J J J (C2 J J gU gU J J J (fun hh=>T.rows_at (by first|omega|(simp at hh ⊢; omega)))) ?_;refine A5 J J J (D4 J gU J J J J) ?_;refine C7 J J J J J J gU gU (Ds _ (by omega)) J ?_;refine A5 J J J (A9 J gU) ?_;refine B0 ?_;refine B6 (s:=⟨[(1,_,_),(3,_,_),(4,_,_)],[(.l 1,_)],[],[]⟩) (B4 (⟨U J,U J,U J,O⟩) (⟨U J,O⟩) O) ?_;refine A8 (A6 ?_);refine A5 J J J (A7 J gU) ?_;refine A5 J J J (B7 J J gU gU J) ?_;refine B0 ?_;refine B9 J (fun hc1=>?_) (fun hc1=>?_)
      ·try simp only [nn,B3,T.rows_len,Fs.rows_len,Sp.rows_len,Gl.rows_len] at hc1
       refine A8 (A6 ?_);refine A5 J J J (A7 J gU) ?_;refine A5 J J J (A9 J gU) ?_;refine B0 ?_;refine C1 ?_
       repeat(first|refine tR ?_|refine bR ?_)
       refine C5 J ?_ O;exact H5 (hd.1 (by assumption)).symm
      ·try simp only [nn,B3,T.rows_len,Fs.rows_len,Sp.rows_len,Gl.rows_len] at hc1
       refine C0 ?_;refine A6 ?_;refine A5 J J J (A7 J gU) ?_;refine A5 J J J (D0 J J gU gU J (IntWalk.i64_in _ (by omega))) ?_;refine A5 J J J (A9 J gU) ?_;refine B0 ?_;refine ⟨k + 1,?_,?_,B4 (⟨⟨_,rfl,?_⟩,⟨U J,O⟩⟩) (⟨U J,O⟩) O⟩
       all_goals (first|rfl|omega|exact ⟨by omega,hd.2 (by assumption)⟩)
     ·try simp only [nn,B3,T.rows_len,Fs.rows_len,Sp.rows_len,Gl.rows_len] at hc5
      refine E1 ?_
      repeat(first|refine D5 ?_|refine D6 ?_|refine D2 J ?_)
      refine A8 (A6 ?_);refine A5 J J J (A9 J gU) ?_;refine B0 ?_;refine C1 ?_
      repeat(first|refine tR ?_|refine bR ?_)
      refine C5 J ?_ O;exact H5 (Z4 (by omega) hi).symm
theorem Il {α : Type} {f : α→Int} {l : List α} {k : Nat} (h : l.length≤k) : errs f (l.drop k)=0:=by rw[List.drop_of_length_le h]; rfl
set_option maxHeartbeats 4000000 in
theorem Gt (n : Nar) (hs : ∀ s ∈ n.steps,s.msg.size≤900000) (hg : ∀ g ∈ n.goals,T.sizes g.data≤900000) : Ctr sys 43 [xn n] [] (xi (narE E3 n)) none []:=by
 have hr1:=B3 n.roles
 have hr2:=Fs.rows_len n.fresh
 have hr3:=B3 n.tags
 have hr4:=Sp.rows_len n.steps
 have hr5:=Gl.rows_len n.goals
 refine D1 Tryz.func43 J J J J J J ?_;refine A8 (A6 ?_);refine C3 J (D8 J J J J) ?_;refine A5 J J J (A9 J gU) ?_;refine B0 ?_;refine A8 ?_;refine A8 (A6 ?_);refine A5 J J J (B1 J gU J J) ?_;refine A5 J J J (B2 J gU J J J J) ?_;refine C7 J J J J J J gU gU (V7 _) J ?_;refine A5 J J J (F9 J gU) ?_;refine B0 ?_;refine B6 (s:=⟨[(1,_,_),(13,_,_)],[(.l 1,_)],[],[]⟩) (B4 (⟨U J,U J,O⟩) (⟨U J,O⟩) O) ?_;refine B9 J (fun hc=>?_) (fun hc=>?_)
 ·try simp only [nn,B3,T.rows_len,Fs.rows_len,Sp.rows_len,Gl.rows_len] at hc
  refine A8 (A6 ?_);refine A5 J J J (A9 J gU) ?_;refine B0 ?_;refine C1 ?_
  repeat(first|refine tR ?_|refine bR ?_)
  refine C5 J ?_ O
  (rw[narE,if_pos (by rw[As,if_pos hc]; simp),As,if_pos hc]; rfl)
 ·try simp only [nn,B3,T.rows_len,Fs.rows_len,Sp.rows_len,Gl.rows_len] at hc
  refine C0 ?_;refine A8 ?_;refine A8 (A6 ?_);refine A5 J J J (B8 J gU J J J J J) ?_;refine C7 J J J J J J gU gU (Nc _) J ?_;refine A5 J J J (A9 J gU) ?_;refine B0 ?_;refine A8 (A6 ?_);refine A5 J J J (A7 J gU) ?_;refine A5 J J J (B7 J J gU gU J) ?_;refine B0 ?_;refine B6 (s:=⟨[(1,_,_),(3,_,_),(17,_,_)],[(.l 1,_)],[],[]⟩) (B4 (⟨U J,U J,U J,O⟩) (⟨U J,O⟩) O) ?_;refine B9 J (fun hc2=>?_) (fun hc2=>?_)
  ·try simp only [nn,B3,T.rows_len,Fs.rows_len,Sp.rows_len,Gl.rows_len] at hc2
   have hh : As E3 n=cntE n:=by rw[As,if_neg (by rw[hc]; simp),if_pos hc2]
   refine A8 (A6 ?_);refine A5 J J J (A7 J gU) ?_;refine A5 J J J (A9 J gU) ?_;refine B0 ?_;refine C1 ?_
   repeat(first|refine tR ?_|refine bR ?_)
   refine C5 J ?_ O
   (rw[narE,if_pos (by rw[hh]; exact hc2),hh]; rfl)
  ·try simp only [nn,B3,T.rows_len,Fs.rows_len,Sp.rows_len,Gl.rows_len] at hc2
   have hh : As E3 n=(if n.roles.all E3=false then 2 else if errs (frE E3) n.fresh≠0 then errs (frE E3) n.fresh else if n.tags.all E3=false then 2 else 0):=by rw[As,if_neg (by rw[hc]; simp),if_neg (by rw[hc2]; simp)]
   refine C0 ?_;refine A8 ?_;refine A8 (A6 ?_);refine A5 J J J (B1 J gU J J) ?_;refine A5 J J J (B2 J gU J J J J) ?_;refine C7 J J J J J J gU gU (Z8 _) J ?_;refine A5 J J J (F9 J gU) ?_;refine B0 ?_;refine B9 J (fun hc3=>?_) (fun hc3=>?_)
   ·try simp only [nn,B3,T.rows_len,Fs.rows_len,Sp.rows_len,Gl.rows_len] at hc3
    rw[if_pos hc3] at hh
    refine A8 (A6 ?_);refine A5 J J J (A9 J gU) ?_;refine B0 ?_;refine C1 ?_
    repeat(first|refine tR ?_|refine bR ?_)
    refine C5 J ?_ O
    (rw[narE,if_pos (by rw[hh]; simp),hh]; rfl)
   ·try simp only [nn,B3,T.rows_len,Fs.rows_len,Sp.rows_len,Gl.rows_len] at hc3
    rw[if_neg (by rw[hc3]; simp)] at hh
    refine C0 ?_;refine A8 ?_;refine A8 (A6 ?_);refine A5 J J J (A9 J gU) ?_;refine B0 ?_;refine B6 (s:=⟨[(1,_,_),(4,_,_)],[(.l 1,_)],[],[]⟩) (B4 (⟨U J,U J,O⟩) (⟨U J,O⟩) O) ?_;refine C4 ?_;refine F2 (ι:=Nat) { t:=[(1,_,_)],bx:=[(.l 1,_)],ow:=[] } (fun k=>[(4,true,xi (k : Int))]) (fun k=>[]) (fun k=>k≤n.fresh.length∧errs (frE E3) (n.fresh.drop k)=errs (frE E3) n.fresh) (fun k=>n.fresh.length - k) (0) (⟨by simp,rfl⟩) (B4 (⟨U J,U J,O⟩) (⟨U J,O⟩) O) ?_
    intro k hokk
    dsimp only [List.cons_append,List.nil_append]
    obtain ⟨hk,hi⟩:=hokk
    refine A8 ?_;refine A8 (A6 ?_);refine A5 J J J (A7 J gU) ?_;refine A5 J J J (B1 J gU J J) ?_;refine A5 J J J (B2 J gU J J J J) ?_;refine E0 J J J J J gU J J ?_ (fun hh=>by simp at hh); intro hlen;refine A5 J J J (B7 J J gU gU J) ?_;refine B0 ?_;refine B6 (s:=⟨[(1,_,_),(4,_,_),(27,_,_)],[(.l 1,_)],[],[]⟩) (B4 (⟨U J,U J,U J,O⟩) (⟨U J,O⟩) O) ?_;refine B9 J (fun hc4=>?_) (fun hc4=>?_)
    ·try simp only [nn,B3,T.rows_len,Fs.rows_len,Sp.rows_len,Gl.rows_len] at hc4
     have hlt : k < n.fresh.length:=by omega
     have hd:=P4 (d:=default) hlt hi
     have hn2:=Z8 [(n.fresh.getD k default).role,(n.fresh.getD k default).name]
     refine C0 ?_;refine A8 ?_;refine C4 ?_;refine A8 (A6 ?_);refine A5 J J J (B1 J gU J J) ?_;refine A5 J J J (B2 J gU J J J J) ?_;refine A5 J J J (A7 J gU) ?_;refine A5 J J J (C2 J J gU gU J J J (fun hh=>Fs.rows_at (by first|omega|(simp at hh ⊢; omega)))) ?_;refine A5 J J J (D4 J gU J J J J) ?_;refine C3 J (D9 J J J) ?_;refine C3 J (C8 J J J J J J J) ?_;refine B0 ?_;refine B6 (s:=⟨[(1,_,_),(4,_,_),(5,_,_)],[(.l 1,_),(.l 5,_)],[],[]⟩) (B4 (⟨U J,U J,U J,O⟩) (⟨U J,U J,O⟩) O) ?_;refine A8 ?_;refine A8 (A6 ?_);refine A5 J J J (B1 J gU J J) ?_;refine A5 J J J (B2 J gU J J J J) ?_;refine A5 J J J (B1 J gU J J) ?_;refine A5 J J J (B2 J gU J J J J) ?_;refine E6 (xs:=[_,_]) J J J J J J J J J gU J ?_;refine C7 J J J J J J gU gU (hn2) J ?_;refine A5 J J J (F9 J gU) ?_;refine B0 ?_;refine B6 (s:=⟨[(1,_,_),(4,_,_),(5,_,_),(41,_,_)],[(.l 1,_),(.l 5,_)],[],[]⟩) (B4 (⟨U J,U J,U J,U J,O⟩) (⟨U J,U J,O⟩) O) ?_
     refine B9 J (fun hc5=>?_) (fun hc5=>?_)
     ·try simp only [nn,B3,T.rows_len,Fs.rows_len,Sp.rows_len,Gl.rows_len] at hc5
      have hf : frE E3 (n.fresh.getD k default)=2:=by rw[frE,if_pos (by simpa [Decidable.or_iff_not_imp_left] using hc5)]
      have he:=hd.1 (by rw[hf]; simp)
      rw[he,hf] at hh
      rw[if_pos (by simp)] at hh
      refine A8 (A6 ?_);refine A5 J J J (A9 J gU) ?_;refine B0 ?_;refine C1 ?_
      repeat(first|refine tR ?_|refine bR ?_)
      refine C5 J ?_ O
      (rw[narE,if_pos (by rw[hh]; simp),hh]; rfl)
     ·try simp only [nn,B3,T.rows_len,Fs.rows_len,Sp.rows_len,Gl.rows_len] at hc5
      have hnn : ¬(E3 (n.fresh.getD k default).role=false∨E3 (n.fresh.getD k default).name=false):=by
       simp at hc5 ⊢; simp [hc5]
      refine C0 ?_;refine A8 (A6 ?_);refine A5 J J J (B1 J gU J J) ?_;refine A5 J J J (B2 J gU J J J J) ?_;refine A5 J J J (B7 J J gU gU J) ?_;refine A5 J J J (A7 J gU) ?_;refine A5 J J J (B1 J gU J J) ?_;refine A5 J J J (B2 J (fun hh=>hh) J J J J) ?_;refine A5 J J J (B7 J J (fun hh=>hh) gU J) ?_;refine A5 J J J (E2 J J gU (fun _ hi=>gP J hi)) ?_;refine A5 J J J (A7 J gU) ?_;refine A5 J J J (B1 J gU J J) ?_;refine A5 J J J (B2 J (fun hh=>hh) J J J J) ?_;refine A5 J J J (B7 J J (fun hh=>hh) gU J) ?_;refine H3 (s:=⟨[(1,_,_),(4,_,_),(50,_,_),(53,_,_)],[(.l 1,_)],[],[]⟩) (B4 (⟨U J,U J,U J,U J,O⟩) (⟨U J,O⟩) O) ?_;refine A5 J J J (E2 J J gU (fun _ hi=>gP J hi)) ?_;refine B0 ?_;refine B9 J (fun hc6=>?_) (fun hc6=>?_)
      ·try simp only [nn,B3,T.rows_len,Fs.rows_len,Sp.rows_len,Gl.rows_len] at hc6
       have hf : frE E3 (n.fresh.getD k default)=10:=by rw[frE,if_neg hnn,if_pos (by omega)]
       have he:=hd.1 (by rw[hf]; simp)
       rw[he,hf] at hh
       rw[if_pos (by simp)] at hh
       refine A8 (A6 ?_);refine A5 J J J (A9 J gU) ?_;refine B0 ?_;refine C1 ?_
       repeat(first|refine tR ?_|refine bR ?_)
       refine C5 J ?_ O
       (rw[narE,if_pos (by rw[hh]; simp),hh]; rfl)
      ·try simp only [nn,B3,T.rows_len,Fs.rows_len,Sp.rows_len,Gl.rows_len] at hc6
       have hf : frE E3 (n.fresh.getD k default)=0:=by rw[frE,if_neg hnn,if_neg (by omega)]
       refine C0 ?_;refine A6 ?_;refine A5 J J J (A7 J gU) ?_;refine A5 J J J (D0 J J gU gU J (IntWalk.i64_in _ (by omega))) ?_;refine A5 J J J (A9 J gU) ?_;refine B0 ?_;refine ⟨k + 1,?_,?_,B4 (⟨⟨_,rfl,?_⟩,⟨U J,O⟩⟩) (⟨U J,O⟩) O⟩
       all_goals first|rfl|omega|exact ⟨by omega,hd.2 hf⟩
    ·try simp only [nn,B3,T.rows_len,Fs.rows_len,Sp.rows_len,Gl.rows_len] at hc4
     rw[Il (by omega)] at hi
     rw[← hi,if_neg (by simp)] at hh
     refine E1 ?_
     repeat(first|refine D5 ?_|refine D6 ?_|refine D2 J ?_)
     refine A8 ?_;refine A8 (A6 ?_);refine A5 J J J (B1 J gU J J) ?_;refine A5 J J J (B2 J gU J J J J) ?_;refine C7 J J J J J J gU gU (Z8 _) J ?_;refine A5 J J J (F9 J gU) ?_;refine B0 ?_;refine B9 J (fun hc5=>?_) (fun hc5=>?_)
     ·try simp only [nn,B3,T.rows_len,Fs.rows_len,Sp.rows_len,Gl.rows_len] at hc5
      rw[if_pos hc5] at hh
      refine A8 (A6 ?_);refine A5 J J J (A9 J gU) ?_;refine B0 ?_;refine C1 ?_
      repeat(first|refine tR ?_|refine bR ?_)
      refine C5 J ?_ O
      (rw[narE,if_pos (by rw[hh]; simp),hh]; rfl)
     ·try simp only [nn,B3,T.rows_len,Fs.rows_len,Sp.rows_len,Gl.rows_len] at hc5
      rw[if_neg (by rw[hc5]; simp)] at hh
      have hN : narE E3 n=(if errs (spE E3) n.steps≠0 then errs (spE E3) n.steps else errs (O6 E3) n.goals):=by rw[narE,if_neg (by rw[hh]; simp)]
      refine C0 ?_;refine A8 ?_;refine A8 (A6 ?_);refine A5 J J J (A9 J gU) ?_;refine B0 ?_;refine B6 (s:=⟨[(1,_,_),(6,_,_)],[(.l 1,_)],[],[]⟩) (B4 (⟨U J,U J,O⟩) (⟨U J,O⟩) O) ?_;refine C4 ?_;refine F2 (ι:=Nat) { t:=[(1,_,_)],bx:=[(.l 1,_)],ow:=[] } (fun j=>[(6,true,xi (j : Int))]) (fun j=>[]) (fun j=>j≤n.steps.length∧errs (spE E3) (n.steps.drop j)=errs (spE E3) n.steps) (fun j=>n.steps.length - j) (0) (⟨by simp,rfl⟩) (B4 (⟨U J,U J,O⟩) (⟨U J,O⟩) O) ?_
      intro j hokj
      dsimp only [List.cons_append,List.nil_append]
      obtain ⟨hj,hij⟩:=hokj
      refine A8 ?_;refine A8 (A6 ?_);refine A5 J J J (A7 J gU) ?_;refine A5 J J J (B1 J gU J J) ?_;refine A5 J J J (B2 J gU J J J J) ?_;refine E0 J J J J J gU J J ?_ (fun hh=>by simp at hh); intro hlen;refine A5 J J J (B7 J J gU gU J) ?_;refine B0 ?_;refine B6 (s:=⟨[(1,_,_),(6,_,_),(63,_,_)],[(.l 1,_)],[],[]⟩) (B4 (⟨U J,U J,U J,O⟩) (⟨U J,O⟩) O) ?_;refine B9 J (fun hc6=>?_) (fun hc6=>?_)
      ·try simp only [nn,B3,T.rows_len,Fs.rows_len,Sp.rows_len,Gl.rows_len] at hc6
       have hlt : j < n.steps.length:=by omega
       have hd:=P4 (d:=default) hlt hij
       have hmem:=hs _ (Fk (d:=default) hlt)
       have hn2:=Z8 [(n.steps.getD j default).frm,(n.steps.getD j default).dst]
       refine C0 ?_;refine A8 ?_;refine C4 ?_;refine A8 ?_;refine A8 ?_;refine awp_drawn' (by kernel_rfl) ?_;refine B5 J J J J (B1 J gU J J) ?_;refine G4 J J J J J J J gU J J J J ?_;refine B5 J J J J (A7 J gU) ?_;refine B5 J J J J (C2 J J gU gU J J J (fun hh=>Sp.rows_at (by first|omega|(simp at hh ⊢; omega)))) ?_;refine B5 J J J J (F4 J gU J J) ?_;refine B5 J J J J (E4 J gU J J J) ?_;refine B5 J J J J (B1 J gU J J) ?_;refine G4 J J J J J J J gU J J J J ?_;refine B5 J J J J (A7 J gU) ?_;refine B5 J J J J (C2 J J gU gU J J J (fun hh=>Sp.rows_at (by first|omega|(simp at hh ⊢; omega)))) ?_;refine B5 J J J J (F4 J gU J J) ?_;refine B5 J J J J (E4 J gU J J J) ?_;refine W6 (xs:=[_,_]) J J J J J J J J J J gU J ?_;refine E9 J J J J J J J gU gU (hn2) J ?_;refine B5 J J J J (F9 J gU) ?_;refine F6 (by kernel_rfl) ?_;refine B6 (s:=⟨[(1,_,_),(6,_,_),(80,_,_)],[(.l 1,_)],[],[]⟩) (B4 (⟨U J,U J,U J,O⟩) (⟨U J,O⟩) O) ?_;refine B9 J (fun hc7=>?_) (fun hc7=>?_)
       ·try simp only [nn,B3,T.rows_len,Fs.rows_len,Sp.rows_len,Gl.rows_len] at hc7
        have hf : spE E3 (n.steps.getD j default)=2:=by rw[spE,if_pos (by simpa [Decidable.or_iff_not_imp_left] using hc7)]
        have he:=hd.1 (by rw[hf]; simp)
        rw[he,hf,if_pos (by simp)] at hN
        refine A8 (A6 ?_);refine A5 J J J (A9 J gU) ?_;refine B0 ?_;refine C1 ?_
        repeat(first|refine tR ?_|refine bR ?_)
        refine C5 J ?_ O
        (rw[hN]; rfl)
       ·try simp only [nn,B3,T.rows_len,Fs.rows_len,Sp.rows_len,Gl.rows_len] at hc7
        have hnn : ¬(E3 (n.steps.getD j default).frm=false∨E3 (n.steps.getD j default).dst=false):=by
         simp at hc7 ⊢; simp [hc7]
        have hf : spE E3 (n.steps.getD j default)=msgE E3 (n.steps.getD j default).msg:=by rw[spE,if_neg hnn]
        rw[hf] at hd
        refine C0 ?_;refine A8 (A6 ?_);refine A5 J J J (B1 J gU J J) ?_;refine A5 J J J (B2 J gU J J J J) ?_;refine A5 J J J (A7 J gU) ?_;refine A5 J J J (C2 J J gU gU J J J (fun hh=>Sp.rows_at (by first|omega|(simp at hh ⊢; omega)))) ?_;refine A5 J J J (F4 J gU J J) ?_;refine A5 J J J (D4 J gU J J J J) ?_;refine C7 J J J J J J gU gU (Ds _ hmem) J ?_;refine A5 J J J (A9 J gU) ?_;refine B0 ?_;refine B6 (s:=⟨[(1,_,_),(6,_,_),(7,_,_)],[(.l 1,_)],[],[]⟩) (B4 (⟨U J,U J,U J,O⟩) (⟨U J,O⟩) O) ?_;refine A8 (A6 ?_);refine A5 J J J (A7 J gU) ?_;refine A5 J J J (B7 J J gU gU J) ?_;refine B0 ?_;refine B9 J (fun hc8=>?_) (fun hc8=>?_)
        ·try simp only [nn,B3,T.rows_len,Fs.rows_len,Sp.rows_len,Gl.rows_len] at hc8
         have he:=hd.1 hc8
         rw[he,if_pos hc8] at hN
         refine A8 (A6 ?_);refine A5 J J J (A7 J gU) ?_;refine A5 J J J (A9 J gU) ?_;refine B0 ?_;refine C1 ?_
         repeat(first|refine tR ?_|refine bR ?_)
         refine C5 J ?_ O
         (rw[hN]; rfl)
        ·try simp only [nn,B3,T.rows_len,Fs.rows_len,Sp.rows_len,Gl.rows_len] at hc8
         refine C0 ?_;refine A6 ?_;refine A5 J J J (A7 J gU) ?_;refine A5 J J J (D0 J J gU gU J (IntWalk.i64_in _ (by omega))) ?_;refine A5 J J J (A9 J gU) ?_;refine B0 ?_;refine ⟨j + 1,?_,?_,B4 (⟨⟨_,rfl,?_⟩,⟨U J,O⟩⟩) (⟨U J,O⟩) O⟩
         all_goals first|rfl|omega|exact ⟨by omega,hd.2 hc8⟩
      ·try simp only [nn,B3,T.rows_len,Fs.rows_len,Sp.rows_len,Gl.rows_len] at hc6
       rw[Il (by omega)] at hij
       rw[← hij,if_neg (by simp)] at hN
       refine E1 ?_
       repeat(first|refine D5 ?_|refine D6 ?_|refine D2 J ?_)
       refine A8 ?_;refine A8 (A6 ?_);refine A5 J J J (A9 J gU) ?_;refine B0 ?_;refine C4 ?_;refine F2 (ι:=Nat) { t:=[(1,_,_)],bx:=[(.l 1,_)],ow:=[] } (fun i=>[(8,true,xi (i : Int))]) (fun i=>[]) (fun i=>i≤n.goals.length∧errs (O6 E3) (n.goals.drop i)=errs (O6 E3) n.goals) (fun i=>n.goals.length - i) (0) (⟨by simp,rfl⟩) (B4 (⟨U J,U J,O⟩) (⟨U J,O⟩) O) ?_
       intro i hoki
       dsimp only [List.cons_append,List.nil_append]
       obtain ⟨hi2,hii⟩:=hoki
       refine A8 ?_;refine A8 (A6 ?_);refine A5 J J J (A7 J gU) ?_;refine A5 J J J (B1 J gU J J) ?_;refine A5 J J J (B2 J gU J J J J) ?_;refine E0 J J J J J gU J J ?_ (fun hh=>by simp at hh); intro hlen;refine A5 J J J (B7 J J gU gU J) ?_;refine B0 ?_;refine B6 (s:=⟨[(1,_,_),(8,_,_),(95,_,_)],[(.l 1,_)],[],[]⟩) (B4 (⟨U J,U J,U J,O⟩) (⟨U J,O⟩) O) ?_;refine B9 J (fun hc7=>?_) (fun hc7=>?_)
       ·try simp only [nn,B3,T.rows_len,Fs.rows_len,Sp.rows_len,Gl.rows_len] at hc7
        have hlt : i < n.goals.length:=by omega
        have hd:=P4 (d:=default) hlt hii
        have hmem:=hg _ (Fk (d:=default) hlt)
        refine C0 ?_;refine A8 ?_;refine C4 ?_;refine A8 (A6 ?_);refine A5 J J J (B1 J gU J J) ?_;refine A5 J J J (B2 J gU J J J J) ?_;refine A5 J J J (A7 J gU) ?_;refine A5 J J J (C2 J J gU gU J J J (fun hh=>Gl.rows_at (by first|omega|(simp at hh ⊢; omega)))) ?_;refine A5 J J J (D4 J gU J J J J) ?_;refine C7 J J J J J J gU gU (Ux _ hmem) J ?_;refine A5 J J J (A9 J gU) ?_;refine B0 ?_;refine B6 (s:=⟨[(1,_,_),(8,_,_),(9,_,_)],[(.l 1,_)],[],[]⟩) (B4 (⟨U J,U J,U J,O⟩) (⟨U J,O⟩) O) ?_;refine A8 (A6 ?_);refine A5 J J J (A7 J gU) ?_;refine A5 J J J (B7 J J gU gU J) ?_;refine B0 ?_;refine B9 J (fun hc1=>?_) (fun hc1=>?_)
        ·try simp only [nn,B3,T.rows_len,Fs.rows_len,Sp.rows_len,Gl.rows_len] at hc1
         refine A8 (A6 ?_);refine A5 J J J (A7 J gU) ?_;refine A5 J J J (A9 J gU) ?_;refine B0 ?_;refine C1 ?_
         repeat(first|refine tR ?_|refine bR ?_)
         refine C5 J ?_ O
         (rw[hN,hd.1 (by assumption)]; rfl)
        ·try simp only [nn,B3,T.rows_len,Fs.rows_len,Sp.rows_len,Gl.rows_len] at hc1
         refine C0 ?_;refine A6 ?_;refine A5 J J J (A7 J gU) ?_;refine A5 J J J (D0 J J gU gU J (IntWalk.i64_in _ (by omega))) ?_;refine A5 J J J (A9 J gU) ?_;refine B0 ?_;refine ⟨i + 1,?_,?_,B4 (⟨⟨_,rfl,?_⟩,⟨U J,O⟩⟩) (⟨U J,O⟩) O⟩
         all_goals (first|rfl|omega|exact ⟨by omega,hd.2 (by assumption)⟩)
       ·try simp only [nn,B3,T.rows_len,Fs.rows_len,Sp.rows_len,Gl.rows_len] at hc7
        rw[Il (by omega)] at hii
        refine E1 ?_
        repeat(first|refine D5 ?_|refine D6 ?_|refine D2 J ?_)
        refine A8 (A6 ?_);refine A5 J J J (A9 J gU) ?_;refine B0 ?_;refine C1 ?_
        repeat(first|refine tR ?_|refine bR ?_)
        refine C5 J ?_ O
        (rw[hN,← hii]; rfl)
theorem Lh {α : Type} {l : List Tk} {f : PS→α × PS} (hf : Fwd l f) : ∀ (n : Nat) (p : PS) (out : List α),(M0 l f n p out).1.length + p.at'≤out.length + (M0 l f n p out).2.at'
 | 0,p,out=>by simp [M0]
 | n + 1,p,out=>by
  rw[M0]
  split
  ·have h1:=(hf p.go).1
   have h2:=Lh hf n (f p.go).2 (out++[(f p.go).1])
   have hg : p.go.at'=p.at' + 1:=rfl
   rw[List.length_append,List.length_singleton] at h2
   omega
  ·simp
theorem Di {α : Type} {l : List Tk} {f : PS→α × PS} (hf : Fwd l f) (p : PS) : (H1 l f p).1.length + p.at'≤1 + (H1 l f p).2.at':=by
 have h1:=(hf p).1
 have h2:=Lh hf (l.length + 1) (f p).2 [(f p).1]
 unfold H1
 rw[List.length_singleton] at h2
 omega
theorem Kd (l : List Tk) (role : List UInt8) : ∀ (n : Nat) (p : PS) (out : List Fs),(O1 l role n p out).1.length + p.at'≤out.length + 1 + (O1 l role n p out).2.at'
 | 0,p,out=>by simp [O1]
 | n + 1,p,out=>by
  have h1:=(H0 l [] p).1
  have h2:=(H0 l sortW (C9 l [] p).2).1
  rw[O1]
  split
  ·dsimp only; omega
  split
  ·have hg : (C9 l sortW (C9 l [] p).2).2.go.at'=(C9 l sortW (C9 l [] p).2).2.at' + 1:=rfl
   have h4:=Kd l role n (C9 l sortW (C9 l [] p).2).2.go (out++[⟨role,(C9 l [] p).1,2 + I8 sortW (C9 l sortW (C9 l [] p).2).1⟩])
   rw[List.length_append,List.length_singleton] at h4
   omega
  ·simp only [List.length_append,List.length_singleton]; omega
theorem Ue (l : List Tk) (p : PS) (out : List Fs) : (Bd l p out).1.length + p.at'≤out.length + 1 + (Bd l p out).2.at':=by
 have h1:=(H0 l [] p).1
 have h2:=(J8 l [58] (C9 l [] p).2).1
 have h3:=Kd l (C9 l [] p).1 (l.length + 1) (F0 l [58] (C9 l [] p).2) out
 unfold Bd
 omega
structure Nar.Le (n : Nar) (k : Nat) : Prop where
 roles : n.roles.length≤k
 fresh : n.fresh.length≤k
 tags : n.tags.length≤k
 steps : n.steps.length≤k
 goals : n.goals.length≤k
theorem Nar.Le.mono {n : Nar} {k j : Nat} (h : n.Le k) (hj : k≤j) : n.Le j:=⟨Nat.le_trans h.roles hj,Nat.le_trans h.fresh hj,Nat.le_trans h.tags hj,Nat.le_trans h.steps hj,Nat.le_trans h.goals hj⟩
theorem Xj {l : List Tk} {ws : List (List UInt8)} {p : PS} (h : (C9 l ws p).1≠[]) : (C9 l ws p).2.at'=p.at' + 1:=by
 cases hq : namQ l p ws with
 | true=>rw[C9,if_pos hq]; rfl
 | false=>rw[C9,hq] at h; exact absurd J h
theorem uBm {l : List Tk} {n : Nar} {line : Int} {w : List UInt8} {q : PS} {k : Nat} (h : n.Le k) (hk : w≠[]→k + 1≤q.at') (hq : k≤q.at') : (X2 l n line w q).1.Le (X2 l n line w q).2.at':=by
 have hz:=Iy l n line w q
 unfold X2 at hz ⊢
 split
 ·rename_i hw
  rw[if_pos hw] at hz
  have h1 : (J9 l q).1.length + q.at'≤1 + (J9 l q).2.at':=Di (H0 l []) q
  have h2:=hk (by rw[hw]; decide)
  have h3:=hz.1
  have := h.mono (j := (J9 l q).2.at') (by dsimp only at h3; omega)
  have h4:=h.roles
  exact ⟨by dsimp only; rw[List.length_append]; omega,this.fresh,this.tags,this.steps,this.goals⟩
 rename_i hw1
 rw[if_neg hw1] at hz
 split
 ·rename_i hw
  rw[if_pos hw] at hz
  have h1:=Ue l q n.fresh
  have h2:=hk (by rw[hw]; decide)
  have h3:=hz.1
  have := h.mono (j := (Bd l q n.fresh).2.at') (by dsimp only at h3; omega)
  have h4:=h.fresh
  exact ⟨this.roles,by dsimp only; omega,this.tags,this.steps,this.goals⟩
 rename_i hw2
 rw[if_neg hw2] at hz
 split
 ·rename_i hw
  rw[if_pos hw] at hz
  have h1 : (J9 l q).1.length + q.at'≤1 + (J9 l q).2.at':=Di (H0 l []) q
  have h2:=hk (by rw[hw]; decide)
  have h3:=hz.1
  have := h.mono (j := (J9 l q).2.at') (by dsimp only at h3; omega)
  have h4:=h.tags
  exact ⟨this.roles,this.fresh,by dsimp only; rw[List.length_append]; omega,this.steps,this.goals⟩
 rename_i hw3
 rw[if_neg hw3] at hz
 split
 ·rename_i hw
  rw[if_pos hw] at hz
  have h2:=hk (by rw[hw]; decide)
  have h3:=hz.1
  have := h.mono (j := (Hz l line q).2.at') (by dsimp only at h3; omega)
  have h4:=h.steps
  exact ⟨this.roles,this.fresh,this.tags,by dsimp only at h3 ⊢; rw[List.length_append,List.length_singleton]; omega,this.goals⟩
 rename_i hw4
 rw[if_neg hw4] at hz
 split
 ·rename_i hw
  rw[if_pos hw] at hz
  have h2:=hk (by rw[hw]; decide)
  have h3:=hz.1
  have := h.mono (j := (He l line q).2.at') (by dsimp only at h3; omega)
  have h4:=h.goals
  exact ⟨this.roles,this.fresh,this.tags,this.steps,by dsimp only at h3 ⊢; rw[List.length_append,List.length_singleton]; omega⟩
 exact h.mono hq
theorem uAx {l : List Tk} {n : Nar} {p : PS} (h : n.Le p.at') : (Ao l n p).1.Le (Ao l n p).2.at':=by
 have h1:=(H0 l K2 p).1
 have h2:=uBm (l:=l) (line:=Q7 l p) (w:=(C9 l K2 p).1) (q:=(C9 l K2 p).2) h (fun hw=>by rw[Xj hw]; exact Nat.le_refl _) h1
 exact h2.mono (J8 l [59] _).1
theorem Ju (t : T) : ∀ l : List T,T.sizes (l++[t])=T.sizes l + t.size
 | []=>by simp [T.sizes]
 | x :: l=>by rw[List.cons_append,T.sizes,T.sizes,Ju t l]; omega
theorem Md : ∀ l : List T,l≠[]→(tupT l).size + 1=T.sizes l + l.length
 | [],h=>absurd J h
 | [t],_=>by simp [tupT,T.sizes]
 | t :: u :: l,_=>by
  have ih:=Md (u :: l) (by simp)
  have e : (uCp t (tupT (u :: l))).size=1 + (t.size + (tupT (u :: l)).size):=by rw[T.size_eq]; show 1 + T.sizes [t,tupT (u :: l)]=_; simp [T.sizes]
  rw[tupT,e,T.sizes,List.length_cons (a:=t)]
  omega
def Szd (f : PS→T × PS) : Prop:=∀ p : PS,(f p).1.size + 2 * p.at'≤2 * (f p).2.at' + 1
theorem Ii {l : List Tk} {f : PS→T × PS} (hs : Szd f) : ∀ (n : Nat) (p : PS) (out : List T),T.sizes (M0 l f n p out).1 + (M0 l f n p out).1.length + 2 * p.at'≤T.sizes out + out.length + 2 * (M0 l f n p out).2.at'
 | 0,p,out=>by simp [M0]
 | n + 1,p,out=>by
  rw[M0]
  split
  ·have h1:=hs p.go
   have h2:=Ii (l:=l) hs n (f p.go).2 (out++[(f p.go).1])
   have hg : p.go.at'=p.at' + 1:=rfl
   rw[List.length_append,List.length_singleton,Ju] at h2
   omega
  ·simp
theorem Dz {l : List Tk} {f : PS→T × PS} (hs : Szd f) (p : PS) : T.sizes (H1 l f p).1 + (H1 l f p).1.length + 2 * p.at'≤2 + 2 * (H1 l f p).2.at':=by
 have h1:=hs p
 have h2:=Ii (l:=l) hs (l.length + 1) (f p).2 [(f p).1]
 unfold H1
 rw[List.length_singleton,T.sizes,T.sizes] at h2
 omega
theorem Vr {α : Type} {l : List Tk} {f : PS→α × PS} : ∀ (n : Nat) (p : PS) (out : List α),out≠[]→(M0 l f n p out).1≠[]
 | 0,p,out,h=>h
 | n + 1,p,out,h=>by
  rw[M0]
  split
  ·exact Vr n _ _ (by simp)
  ·exact h
theorem Ef (l : List Tk) : ∀ n : Nat,Szd (J3 l n)
 | 0,p=>by
  have : (default : T).size=1:=by rw[T.size_eq]; rfl
  show (default : T).size + _≤_
  rw[this]; show 1 + 2 * p.at'≤2 * p.at' + 1; omega
 | n + 1,p=>by
  have ih:=Ef l n
  have hf:=By l n
  rw[J3]
  split
  ·have hg : p.go.at'=p.at' + 1:=rfl
   have h1:=ih p.go
   have h2:=(J8 l [44] (J3 l n p.go).2).1
   have h3:=Dz (l:=l) ih (F0 l [44] (J3 l n p.go).2)
   have h4:=(J8 l [62] (H1 l (J3 l n) (F0 l [44] (J3 l n p.go).2)).2).1
   have h5:=Md ((J3 l n p.go).1 :: (H1 l (J3 l n) (F0 l [44] (J3 l n p.go).2)).1) (by simp)
   rw[T.sizes,List.length_cons] at h5
   dsimp only
   omega
  ·have h1:=(H0 l [] p).1
   split
   ·have hg : (C9 l [] p).2.go.at'=(C9 l [] p).2.at' + 1:=rfl
    split
    ·have hg2 : (C9 l [] p).2.go.go.at'=(C9 l [] p).2.at' + 2:=rfl
     have : (⟨3,(C9 l [] p).1,0,[]⟩ : T).size=1:=by rw[T.size_eq]; rfl
     dsimp only; omega
    ·have h3:=Dz (l:=l) ih (C9 l [] p).2.go
     have h4:=(J8 l [41] (H1 l (J3 l n) (C9 l [] p).2.go).2).1
     have h5 : (H1 l (J3 l n) (C9 l [] p).2.go).1≠[]:=Vr _ _ _ (by simp)
     have h6:=List.length_pos_iff.2 h5
     have : (⟨3,(C9 l [] p).1,0,(H1 l (J3 l n) (C9 l [] p).2.go).1⟩ : T).size=1 + T.sizes (H1 l (J3 l n) (C9 l [] p).2.go).1:=by rw[T.size_eq]; rfl
     dsimp only; omega
   ·have : (⟨2,(C9 l [] p).1,0,[]⟩ : T).size=1:=by rw[T.size_eq]; rfl
    dsimp only; omega
structure Nar.Sm (n : Nar) (M : Nat) : Prop where
 steps : ∀ s ∈ n.steps,s.msg.size≤M
 goals : ∀ g ∈ n.goals,T.sizes g.data≤M
theorem Ta {l : List Tk} (line : Int) {p : PS} (hp : p.at'≤l.length) : (Hz l line p).1.msg.size≤2 * l.length + 2:=by
 have h:=(Jb l line p).2 hp
 have := Ef l (l.length + 1) (F0 l [58] (C9 l [] (F0 l [62] (F0 l [45] (C9 l [] p).2))).2)
 have h2 : (J3 l (l.length + 1) (F0 l [58] (C9 l [] (F0 l [62] (F0 l [45] (C9 l [] p).2))).2)).2.at'≤l.length:=h
 show (J3 l (l.length + 1) (F0 l [58] (C9 l [] (F0 l [62] (F0 l [45] (C9 l [] p).2))).2)).1.size≤_
 omega
theorem Um {l : List Tk} (line : Int) {p : PS} (hp : p.at'≤l.length) : T.sizes (He l line p).1.data≤2 * l.length + 2:=by
 have h:=(Ie l line p).2 hp
 have := Dz (l := l) (Ef l (l.length + 1)) (F0 l [58] (if I9 (1 + I8 kindW (C9 l kindW p).1)=true then C9 l [] (C9 l [] (C9 l kindW p).2).2 else ([],(C9 l [] (C9 l kindW p).2).2)).2)
 have h2 : (H1 l (J3 l (l.length + 1)) (F0 l [58] (if I9 (1 + I8 kindW (C9 l kindW p).1)=true then C9 l [] (C9 l [] (C9 l kindW p).2).2 else ([],(C9 l [] (C9 l kindW p).2).2)).2)).2.at'≤l.length:=h
 show T.sizes (H1 l (J3 l (l.length + 1)) (F0 l [58] (if I9 (1 + I8 kindW (C9 l kindW p).1)=true then C9 l [] (C9 l [] (C9 l kindW p).2).2 else ([],(C9 l [] (C9 l kindW p).2).2)).2)).1≤_
 omega
theorem uAt {l : List Tk} {n : Nar} {p : PS} (h : n.Sm (2 * l.length + 2)) (hp : p.at'≤l.length) : (Ao l n p).1.Sm (2 * l.length + 2):=by
 have hq:=(H0 l K2 p).2 hp
 show (X2 l n (Q7 l p) (C9 l K2 p).1 (C9 l K2 p).2).1.Sm _
 unfold X2
 repeat' split
 ·exact ⟨h.steps,h.goals⟩
 ·exact ⟨h.steps,h.goals⟩
 ·exact ⟨h.steps,h.goals⟩
 ·refine ⟨fun s hs=>?_,h.goals⟩
  rcases List.mem_append.1 hs with q | q
  ·exact h.steps s q
  ·simp at q; subst q; exact Ta _ hq
 ·refine ⟨h.steps,fun g hg=>?_⟩
  rcases List.mem_append.1 hg with q | q
  ·exact h.goals g q
  ·simp at q; subst q; exact Um _ hq
 ·exact h
end Go.Proofs.YteidahabkfgfjaaGreat
namespace Go.Proofs.YteidahabkfgfjaaGreat
open Go Go.Proofs Go.RowKit Go.Shelf
attribute [local go_sem] Oper.semAt_some
def KeepB (n₀ Bo : Nat) (W W' : World) : Prop:=∀ b,b < n₀→b≠Bo→W'.heap[b]? = W.heap[b]?
theorem KeepB.refl (n₀ Bo : Nat) (W : World) : KeepB n₀ Bo W W:=fun _ _ _=>rfl
theorem KeepB.trans {n₀ Bo : Nat} {A B C : World} (h : KeepB n₀ Bo A B) (k : KeepB n₀ Bo B C) : KeepB n₀ Bo A C:=fun b h1 h2=>(k b h1 h2).trans (h b h1 h2)
theorem KeepB.cell {n₀ Bo : Nat} {A B : World} (h : KeepB n₀ Bo A B) {b : Nat} (o : Nat) (h1 : b < n₀) (h2 : b≠Bo) : B.cell? ⟨b,o,none⟩=A.cell? ⟨b,o,none⟩:=by
 unfold World.cell?; dsimp only; rw[h b h1 h2]
theorem KeepB.alloc {n₀ Bo : Nat} (W : World) (ob : Obj) (h : n₀≤W.heap.size) : KeepB n₀ Bo W (W.alloc ob):=fun b h1 _=>Below.heap_alloc W ob b (by omega)
abbrev tStr (l : List UInt8) : Value:=.string ⟨l.toArray⟩
end Go.Proofs.YteidahabkfgfjaaGreat
namespace Go.Proofs.YteidahabkfgfjaaGreat
open Go Go.Abs
theorem map_take {α β : Type} (f : α→β) {l : List α} {d : α} {k : Nat} (h : k < l.length) : (l.take (k + 1)).map f=(l.take k).map f++[f (l.getD k d)]:=by rw[I2 (d:=d) h,List.map_append]; rfl
def Nar.lk (n : Nar) (k : Nat) : List (List UInt8):=[Qy n,(Itm.roles n.roles).text]++(frI n.fresh k).map Itm.text
def Nar.rest (n : Nar) (j k : Nat) : List (List UInt8):=n.lk n.fresh.length++((if n.tags=[] then [] else [(Itm.tags n.tags).text])++((n.steps.take j).map (fun s=>(Itm.step s).text)++(n.goals.take k).map fun g=>(Itm.goal g).text))
theorem Rl (t : T) (s : List UInt8) : Ctr sys 163 [xm t,xs s] [] (xb (decide (t.kind=3) && decide (t.name=s))) none []:=by
 refine D1 Tryz.func163 J J J J J J ?_;refine A8 (A6 ?_);refine C3 J (D8 J J J J) ?_;refine A5 J J J (A9 J gU) ?_;refine B0 ?_;refine A8 (A6 ?_);refine A5 J J J (B1 J gU J J) ?_;refine A5 J J J (B2 J gU J J J J) ?_;refine A5 J J J (B7 J J gU gU J) ?_;refine A5 J J J (A7 J gU) ?_;refine A5 J J J (B1 J gU J J) ?_;refine A5 J J J (B2 J (fun hh=>hh) J J J J) ?_;refine A5 J J J (A7 J gU) ?_;refine A5 J J J (G0 J J (fun hh=>hh) (fun hh=>hh) J) ?_;refine A5 J J J (E2 J J gU (fun _ hi=>gP J hi)) ?_;refine A5 J J J (A9 J gU) ?_;refine B0 ?_;refine C1 ?_
 repeat(first|refine tR ?_|refine bR ?_)
 refine C5 J ?_ O;refine M3 ?_
 rw[Bool.eq_iff_iff]; simp
theorem Uy : Ctr sys 154 [] [] (xss K5) none []:=by
 refine D1 Tryz.func154 J J J J J J ?_;refine A8 (A6 ?_);refine A5 J J J (A9 J gU) ?_;refine B0 ?_;refine A8 (A6 ?_);refine E6 (xs:=[_,_,_,_,_,_]) J J J J J J J J J gU J ?_;refine A5 J J J (A9 J gU) ?_;refine B0 ?_;refine C1 ?_
 repeat(first|refine tR ?_|refine bR ?_)
 refine C5 J ?_ O
 rfl
theorem Ha : Ctr sys 152 [] [] (xss J1) none []:=by
 refine D1 Tryz.func152 J J J J J J ?_;refine A8 (A6 ?_);refine A5 J J J (A9 J gU) ?_;refine B0 ?_;refine A8 (A6 ?_);refine E6 (xs:=[_,_,_,_,_]) J J J J J J J J J gU J ?_;refine A5 J J J (A9 J gU) ?_;refine B0 ?_;refine C1 ?_
 repeat(first|refine tR ?_|refine bR ?_)
 refine C5 J ?_ O
 rfl
def ixS (l : List (List UInt8)) (s : List UInt8) : Int:=idxF (fun x=>decide (s=x)) l
theorem S8 (l : List (List UInt8)) (s : List UInt8) : ixS l s < 0 ↔ l.contains s=false:=by
 have h:=(Ap (fun x=>decide (s=x)) l).trans (T5 s l)
 rw[← h,ixS]; simp
theorem Bg (l : List (List UInt8)) (s : List UInt8) : 0≤ixS l s ↔ l.contains s=true:=by
 have h:=(Ap (fun x=>decide (s=x)) l).trans (T5 s l)
 rw[← h,ixS]; simp
theorem Q8 (l : List (List UInt8)) (s : List UInt8) : Ctr sys 52 [xss l,xs s] [] (xi (ixS l s)) none []:=by
 have hrl:=B3 l
 refine D1 Tryz.func52 J J J J J J ?_;refine A8 (A6 ?_);refine A5 J J J (A9 J gU) ?_;refine B0 ?_;refine A8 ?_;refine A8 (A6 ?_);refine A5 J J J (A9 J gU) ?_;refine B0 ?_;refine C4 ?_;refine F2 (ι:=Nat) { t:=[(0,_,_),(1,_,_)],bx:=[],ow:=[] } (fun k=>[(5,true,xi (k : Int))]) (fun k=>[]) (fun k=>k≤l.length∧(if idxF (fun x=>decide (s=x)) (l.drop k) < 0 then -1 else idxF (fun x=>decide (s=x)) (l.drop k) + k)=idxF (fun x=>decide (s=x)) l) (fun k=>l.length - k) (0) (⟨by simp,(Ee _ _).trans (Gj _ _)⟩) (B4 (⟨U J,U J,U J,O⟩) O O) ?_
 intro k hok
 dsimp only [List.cons_append,List.nil_append]
 obtain ⟨hk,hi⟩:=hok
 refine A8 ?_;refine A8 (A6 ?_);refine A5 J J J (A7 J gU) ?_;refine A5 J J J (A7 J gU) ?_;refine E0 J J J J J gU J J ?_ (fun hh=>by simp at hh); intro hlen;refine A5 J J J (B7 J J gU gU J) ?_;refine B0 ?_;refine B9 J (fun hc=>?_) (fun hc=>?_)
 ·try simp only [nn,B3,D3,nq] at hc
  have hd:=Fu (k:=k) (l:=l) (by omega) hi
  refine C0 ?_;refine A8 ?_;refine C4 ?_;refine A8 (A6 ?_);refine A5 J J J (A7 J gU) ?_;refine A5 J J J (A7 J gU) ?_;refine A5 J J J (C2 J J gU gU J J J (fun hh=>L5 (by first|omega|(simp at hh ⊢; omega)|(simp [isT] at hh ⊢; omega)))) ?_;refine A5 J J J (E4 J gU J J J) ?_;refine A5 J J J (A7 J gU) ?_;refine A5 J J J (G0 J J gU gU J) ?_;refine B0 ?_;refine B6 (s:=⟨[(0,_,_),(1,_,_),(5,_,_),(17,_,_)],[],[],[]⟩) (B4 (⟨U J,U J,U J,U J,O⟩) O O) ?_;refine B9 J (fun hc2=>?_) (fun hc2=>?_)
  ·try simp only [nn,B3,D3,nq] at hc2
   refine A8 (A6 ?_);refine A5 J J J (A7 J gU) ?_;refine A5 J J J (A9 J gU) ?_;refine B0 ?_;refine C1 ?_
   repeat(first|refine tR ?_|refine bR ?_)
   refine C5 J ?_ O;exact H5 (hd.1 (decide_eq_true hc2.symm)).symm
  ·try simp only [nn,B3,D3,nq] at hc2
   refine C0 ?_;refine A6 ?_;refine A5 J J J (A7 J gU) ?_;refine A5 J J J (D0 J J gU gU J (IntWalk.i64_in _ (by omega))) ?_;refine A5 J J J (A9 J gU) ?_;refine B0 ?_;refine ⟨k + 1,?_,?_,B4 (⟨⟨_,rfl,?_⟩,⟨U J,U J,O⟩⟩) O O⟩
   all_goals (first|rfl|omega|exact ⟨by omega,hd.2 (decide_eq_false fun q=>hc2 q.symm)⟩)
 ·try simp only [nn,B3,D3,nq] at hc
  refine E1 ?_
  repeat(first|refine D5 ?_|refine D6 ?_|refine D2 J ?_)
  refine A8 (A6 ?_);refine A5 J J J (A9 J gU) ?_;refine B0 ?_;refine C1 ?_
  repeat(first|refine tR ?_|refine bR ?_)
  refine C5 J ?_ O;exact H5 (In (by omega) hi).symm
def srtL (n : Nar) : List Int:=(nmsL n).map (·.2)
abbrev x2l (a : List (List UInt8)) (b : List Int) : X:=.tup [.c (.sl 1 (strR a)), .c (.sl 1 (intR b))]
theorem Ff (n : Nar) : H2 n=n.roles++(n.fresh.map Fs.name++n.tags):=by
 rw[H2,nmsL]
 simp [List.map_append,List.map_map,Function.comp_def]
theorem uBt (n : Nar) : srtL n=n.roles.map (fun _=>(1 : Int))++(n.fresh.map Fs.sort++n.tags.map fun _=>(5 : Int)):=by
 rw[srtL,nmsL]
 simp [List.map_append,List.map_map,Function.comp_def]
theorem Cp (n : Nar) (h1 : n.roles.length≤900000) (h2 : n.fresh.length≤900000) (h3 : n.tags.length≤900000) : Ctr sys 51 [xn n] [] (x2l (H2 n) (srtL n)) none []:=by
 have l1:=B3 n.roles
 have l2:=Fs.rows_len n.fresh
 have l3:=B3 n.tags
 rw[Ff,uBt]
 refine D1 Tryz.func51 J J J J J J ?_;refine A8 (A6 ?_);refine C3 J (D8 J J J J) ?_;refine C3 J (H4 (.inr J) J J) ?_;refine C3 J (H4 (.inr J) J J) ?_;refine B0 ?_;refine A8 (A6 ?_);refine C3 J (H4 (.inr J) J J) ?_;refine B0 ?_;refine A8 (A6 ?_);refine C3 J (H4 (.inr J) J J) ?_;refine B0 ?_;refine B6 (s:=⟨[(1,_,_),(4,_,_),(5,_,_)],[(.l 1,_)],[(.t 4,_),(.t 5,_)],[]⟩) (B4 (⟨U J,U J,U J,O⟩) (⟨U J,O⟩) (⟨rfl,rfl,O⟩)) ?_;refine A8 ?_;refine A8 (A6 ?_);refine A5 J J J (A9 J gU) ?_;refine B0 ?_;refine C4 ?_;refine F2 (ι:=Nat) { t:=[(1,_,_)],bx:=[(.l 1,_)],ow:=[(.t 4,_),(.t 5,_)] } (fun k=>[(6,true,xi (k : Int)),(4,true,xss (n.roles.take k)),(5,true,xis ((n.roles.take k).map fun _=>(1 : Int)))]) (fun k=>[]) (fun k=>k≤n.roles.length) (fun k=>n.roles.length - k) (0) (by simp) (B4 (⟨U J,U J,U J,U J,O⟩) (⟨U J,O⟩) (⟨rfl,rfl,O⟩)) ?_
 intro k hoka
 dsimp only [List.cons_append,List.nil_append]
 refine A8 ?_;refine A8 (A6 ?_);refine A5 J J J (A7 J gU) ?_;refine A5 J J J (B1 J gU J J) ?_;refine A5 J J J (B2 J gU J J J J) ?_;refine E0 J J J J J gU J J ?_ (fun hh=>by simp at hh); intro hlen;refine A5 J J J (B7 J J gU gU J) ?_;refine B0 ?_;refine B6 (s:=⟨[(1,_,_),(4,_,_),(5,_,_),(6,_,_),(13,_,_)],[(.l 1,_)],[(.t 4,_),(.t 5,_)],[]⟩) (B4 (⟨U J,U J,U J,U J,U J,O⟩) (⟨U J,O⟩) (⟨rfl,rfl,O⟩)) ?_;refine B9 J (fun hc=>?_) (fun hc=>?_)
 ·try simp only [nn,B3,D3,nq] at hc
  have hT:=I2 (l:=n.roles) (d:=[]) (k:=k) (by omega)
  refine C0 ?_;refine A8 ?_;refine C4 ?_;refine A6 ?_;refine C3 J (E8 (.inl J) J J J) ?_;refine A5 J J J (B1 J gU J J) ?_;refine A5 J J J (B2 J gU J J J J) ?_;refine A5 J J J (A7 J gU) ?_;refine A5 J J J (C2 J J gU gU J J J (fun hh=>L5 (by first|omega|(simp at hh ⊢; omega)|(simp [isT] at hh ⊢; omega)))) ?_;refine A5 J J J (E4 J gU J J J) ?_;refine E6 (xs:=[_]) J J J J J J J J J gU J ?_;refine C3 J (F8 J J J J J J J (by first|omega|(simp only [List.length_append,List.length_singleton,B3,D3,List.length_map,List.length_take]; omega)) (by first|omega|(simp only [List.length_append,List.length_singleton,B3,D3,List.length_map,List.length_take]; omega))) ?_;refine C3 J (E8 (.inl J) J J J) ?_;refine E6 (xs:=[_]) J J J J J J J J J gU J ?_;refine C3 J (F8 J J J J J J J (by first|omega|(simp only [List.length_append,List.length_singleton,B3,D3,List.length_map,List.length_take]; omega)) (by first|omega|(simp only [List.length_append,List.length_singleton,B3,D3,List.length_map,List.length_take]; omega))) ?_;refine C3 J (E8 (.inr J) J J J) ?_;refine H3 (s:=⟨[(1,_,_),(4,_,_),(6,_,_),(26,_,_)],[(.l 1,_)],[(.t 26,_),(.t 4,_)],[]⟩) (B4 (⟨U J,U J,U J,U J,O⟩) (⟨U J,O⟩) (⟨rfl,rfl,O⟩)) ?_
  refine C3 J (E8 (.inr J) J J J) ?_;refine B0 ?_;refine A6 ?_;refine A5 J J J (A7 J gU) ?_;refine A5 J J J (D0 J J gU gU J (IntWalk.i64_in _ (by omega))) ?_;refine A5 J J J (A9 J gU) ?_;refine B0 ?_;refine ⟨k + 1,?_,?_,B4 (⟨⟨_,rfl,?_⟩,⟨⟨_,rfl,?_⟩,⟨⟨_,rfl,?_⟩,⟨U J,O⟩⟩⟩⟩) (⟨U J,O⟩) (⟨rfl,rfl,O⟩)⟩
  all_goals (first|rfl|omega|exact tx ((Y3 _ _).trans (by rw[hT]))|exact tx ((Fe _ _).trans (by rw[hT,List.map_append]; rfl)))
 ·try simp only [nn,B3,D3,nq] at hc
  have hk : k=n.roles.length:=by omega
  subst hk
  rw[List.take_length]
  refine E1 ?_
  repeat(first|refine D5 ?_|refine D6 ?_|refine D2 J ?_)
  refine A8 ?_;refine A8 (A6 ?_);refine A5 J J J (A9 J gU) ?_;refine B0 ?_;refine C4 ?_;refine F2 (ι:=Nat) { t:=[(1,_,_)],bx:=[(.l 1,_)],ow:=[(.t 4,_),(.t 5,_)] } (fun j=>[(7,true,xi (j : Int)),(4,true,xss (n.roles++(n.fresh.take j).map Fs.name)),(5,true,xis (n.roles.map (fun _=>(1 : Int))++(n.fresh.take j).map Fs.sort))]) (fun j=>[]) (fun j=>j≤n.fresh.length) (fun j=>n.fresh.length - j) (0) (by simp) (B4 (⟨U J,⟨⟨_,rfl,by simp⟩,⟨⟨_,rfl,by simp⟩,⟨U J,O⟩⟩⟩⟩) (⟨U J,O⟩) (⟨rfl,rfl,O⟩)) ?_
  intro j hokb
  dsimp only [List.cons_append,List.nil_append]
  refine A8 ?_;refine A8 (A6 ?_);refine A5 J J J (A7 J gU) ?_;refine A5 J J J (B1 J gU J J) ?_;refine A5 J J J (B2 J gU J J J J) ?_;refine E0 J J J J J gU J J ?_ (fun hh=>by simp at hh); intro hlen;refine A5 J J J (B7 J J gU gU J) ?_;refine B0 ?_;refine B6 (s:=⟨[(1,_,_),(4,_,_),(5,_,_),(7,_,_),(31,_,_)],[(.l 1,_)],[(.t 4,_),(.t 5,_)],[]⟩) (B4 (⟨U J,U J,U J,U J,U J,O⟩) (⟨U J,O⟩) (⟨rfl,rfl,O⟩)) ?_;refine B9 J (fun hc2=>?_) (fun hc2=>?_)
  ·try simp only [nn,B3,D3,nq] at hc2
   have hT:=I2 (l:=n.fresh) (d:=default) (k:=j) (by omega)
   refine C0 ?_;refine A8 ?_;refine C4 ?_;refine awp_drawn' (by kernel_rfl) ?_;refine Ai J (.inl J) J J J J J ?_;refine B5 J J J J (B1 J gU J J) ?_;refine G4 J J J J J J J gU J J J J ?_;refine B5 J J J J (A7 J gU) ?_;refine B5 J J J J (C2 J J gU gU J J J (fun hh=>Fs.rows_at (by first|omega|(simp at hh ⊢; omega)|(simp [isT] at hh ⊢; omega)))) ?_;refine B5 J J J J (F4 J gU J J) ?_;refine B5 J J J J (E4 J gU J J J) ?_;refine W6 (xs:=[_]) J J J J J J J J J J gU J ?_;refine Y1 J J J J J (rko (ak2 J (ak J (ak J (ak J (ak J (ak J (ak J (rfl))))))))) J J J J J (by first|omega|(simp only [List.length_append,List.length_singleton,B3,D3,List.length_map,List.length_take]; omega)) (by first|omega|(simp only [List.length_append,List.length_singleton,B3,D3,List.length_map,List.length_take]; omega)) ?_;refine Ai J (.inl J) J J J J J ?_;refine B5 J J J J (B1 J gU J J) ?_;refine G4 J J J J J J J gU J J J J ?_;refine B5 J J J J (A7 J gU) ?_;refine B5 J J J J (C2 J J gU gU J J J (fun hh=>Fs.rows_at (by first|omega|(simp at hh ⊢; omega)|(simp [isT] at hh ⊢; omega)))) ?_
   refine B5 J J J J (F4 J gU J J) ?_;refine B5 J J J J (E4 J gU J J J) ?_;refine W6 (xs:=[_]) J J J J J J J J J J gU J ?_;refine Y1 J J J J J (rko (ak2 J (ak J (ak J (ak J (ak J (ak J (ak J (rfl))))))))) J J J J J (by first|omega|(simp only [List.length_append,List.length_singleton,B3,D3,List.length_map,List.length_take]; omega)) (by first|omega|(simp only [List.length_append,List.length_singleton,B3,D3,List.length_map,List.length_take]; omega)) ?_;refine Ai J (.inr J) J J J J J ?_;refine Ai J (.inr J) J J J J J ?_;refine F6 (by kernel_rfl) ?_;refine B6 (s:=⟨[(1,_,_),(4,_,_),(5,_,_),(7,_,_)],[(.l 1,_)],[(.t 4,_),(.t 5,_)],[]⟩) (B4 (⟨U J,U J,U J,U J,O⟩) (⟨U J,O⟩) (⟨rfl,rfl,O⟩)) ?_;refine A6 ?_;refine A5 J J J (A7 J gU) ?_;refine A5 J J J (D0 J J gU gU J (IntWalk.i64_in _ (by omega))) ?_;refine A5 J J J (A9 J gU) ?_;refine B0 ?_;refine ⟨j + 1,?_,?_,B4 (⟨⟨_,rfl,?_⟩,⟨⟨_,rfl,?_⟩,⟨⟨_,rfl,?_⟩,⟨U J,O⟩⟩⟩⟩) (⟨U J,O⟩) (⟨rfl,rfl,O⟩)⟩
   all_goals (first|rfl|omega|exact tx ((Y3 _ _).trans (by rw[hT,List.map_append,List.append_assoc]; rfl))|exact tx ((Fe _ _).trans (by rw[hT,List.map_append,List.append_assoc]; rfl)))
  ·try simp only [nn,B3,D3,nq] at hc2
   have hj : j=n.fresh.length:=by omega
   subst hj
   rw[List.take_length]
   refine E1 ?_
   repeat(first|refine D5 ?_|refine D6 ?_|refine D2 J ?_)
   refine A8 ?_;refine A8 (A6 ?_);refine A5 J J J (A9 J gU) ?_;refine B0 ?_;refine C4 ?_;refine F2 (ι:=Nat) { t:=[(1,_,_)],bx:=[(.l 1,_)],ow:=[(.t 4,_),(.t 5,_)] } (fun i=>[(8,true,xi (i : Int)),(4,true,xss (n.roles++(n.fresh.map Fs.name++n.tags.take i))),(5,true,xis (n.roles.map (fun _=>(1 : Int))++(n.fresh.map Fs.sort++(n.tags.take i).map fun _=>(5 : Int))))]) (fun i=>[]) (fun i=>i≤n.tags.length) (fun i=>n.tags.length - i) (0) (by simp) (B4 (⟨U J,⟨⟨_,rfl,by simp⟩,⟨⟨_,rfl,by simp⟩,⟨U J,O⟩⟩⟩⟩) (⟨U J,O⟩) (⟨rfl,rfl,O⟩)) ?_
   intro i hokc
   dsimp only [List.cons_append,List.nil_append]
   refine A8 ?_;refine A8 (A6 ?_);refine A5 J J J (A7 J gU) ?_;refine A5 J J J (B1 J gU J J) ?_;refine A5 J J J (B2 J gU J J J J) ?_;refine E0 J J J J J gU J J ?_ (fun hh=>by simp at hh); intro hlen;refine A5 J J J (B7 J J gU gU J) ?_;refine B0 ?_;refine B6 (s:=⟨[(1,_,_),(4,_,_),(5,_,_),(8,_,_),(56,_,_)],[(.l 1,_)],[(.t 4,_),(.t 5,_)],[]⟩) (B4 (⟨U J,U J,U J,U J,U J,O⟩) (⟨U J,O⟩) (⟨rfl,rfl,O⟩)) ?_;refine B9 J (fun hc3=>?_) (fun hc3=>?_)
   ·try simp only [nn,B3,D3,nq] at hc3
    have hT:=I2 (l:=n.tags) (d:=[]) (k:=i) (by omega)
    refine C0 ?_;refine A8 ?_;refine C4 ?_;refine A6 ?_;refine C3 J (E8 (.inl J) J J J) ?_;refine A5 J J J (B1 J gU J J) ?_;refine A5 J J J (B2 J gU J J J J) ?_;refine A5 J J J (A7 J gU) ?_;refine A5 J J J (C2 J J gU gU J J J (fun hh=>L5 (by first|omega|(simp at hh ⊢; omega)|(simp [isT] at hh ⊢; omega)))) ?_;refine A5 J J J (E4 J gU J J J) ?_;refine E6 (xs:=[_]) J J J J J J J J J gU J ?_;refine C3 J (F8 J J J J J J J (by first|omega|(simp only [List.length_append,List.length_singleton,B3,D3,List.length_map,List.length_take]; omega)) (by first|omega|(simp only [List.length_append,List.length_singleton,B3,D3,List.length_map,List.length_take]; omega))) ?_;refine C3 J (E8 (.inl J) J J J) ?_;refine E6 (xs:=[_]) J J J J J J J J J gU J ?_;refine C3 J (F8 J J J J J J J (by first|omega|(simp only [List.length_append,List.length_singleton,B3,D3,List.length_map,List.length_take]; omega)) (by first|omega|(simp only [List.length_append,List.length_singleton,B3,D3,List.length_map,List.length_take]; omega))) ?_;refine C3 J (E8 (.inr J) J J J) ?_;refine H3 (s:=⟨[(1,_,_),(4,_,_),(8,_,_),(69,_,_)],[(.l 1,_)],[(.t 4,_),(.t 69,_)],[]⟩) (B4 (⟨U J,U J,U J,U J,O⟩) (⟨U J,O⟩) (⟨rfl,rfl,O⟩)) ?_
    refine C3 J (E8 (.inr J) J J J) ?_;refine B0 ?_;refine A6 ?_;refine A5 J J J (A7 J gU) ?_;refine A5 J J J (D0 J J gU gU J (IntWalk.i64_in _ (by omega))) ?_;refine A5 J J J (A9 J gU) ?_;refine B0 ?_;refine ⟨i + 1,?_,?_,B4 (⟨⟨_,rfl,?_⟩,⟨⟨_,rfl,?_⟩,⟨⟨_,rfl,?_⟩,⟨U J,O⟩⟩⟩⟩) (⟨U J,O⟩) (⟨rfl,rfl,O⟩)⟩
    all_goals (first|rfl|omega|exact tx ((Y3 _ _).trans (by rw[hT,List.append_assoc,List.append_assoc]))|exact tx ((Fe _ _).trans (by rw[hT,List.map_append,List.append_assoc,List.append_assoc]; rfl)))
   ·try simp only [nn,B3,D3,nq] at hc3
    have hi : i=n.tags.length:=by omega
    subst hi
    rw[List.take_length]
    refine E1 ?_
    repeat(first|refine D5 ?_|refine D6 ?_|refine D2 J ?_)
    refine A8 (A6 ?_);refine C3 J (E8 (.inl J) J J J) ?_;refine C3 J (E8 (.inl J) J J J) ?_;refine C3 J (E8 (.inr J) J J J) ?_;refine C3 J (E8 (.inr J) J J J) ?_;refine B0 ?_;refine C1 ?_
    repeat(first|refine tR ?_|refine bR ?_)
    refine C5 J ?_ O
    rfl
theorem Dy (n : Nar) (t : T) : Ctr sys 147 [xn n,xm t] [] (xb (Cj n.roles t)) none []:=by
 refine D1 Tryz.func147 J J J J J J ?_;refine A8 (A6 ?_);refine C3 J (D8 J J J J) ?_;refine C3 J (D8 J J J J) ?_;refine A5 J J J (A9 J gU) ?_;refine B0 ?_;refine A8 (A6 ?_);refine A5 J J J (B1 J gU J J) ?_;refine A5 J J J (B2 J gU J J J J) ?_;refine A5 J J J (B7 J J gU gU J) ?_;refine A5 J J J (A7 J gU) ?_;refine A5 J J J (B1 J gU J J) ?_;refine A5 J J J (B2 J (fun hh=>hh) J J J J) ?_;refine A5 J J J (B1 J gU J J) ?_;refine A5 J J J (B2 J (fun hh=>hh) J J J J) ?_;refine C7 J J J J J J gU (fun hh=>gA ((fun hh=>hh) hh) (gA ((fun hh=>hh) hh) (rfl))) (Q8 _ _) J ?_;refine H3 (s:=⟨[(8,_,_),(13,_,_)],[],[],[]⟩) (B4 (⟨U J,U J,O⟩) O O) ?_;refine A5 J J J (B7 J J (fun hh=>hh) gU J) ?_;refine A5 J J J (E2 J J gU (fun _ hi=>gP J hi)) ?_;refine A5 J J J (A9 J gU) ?_;refine B0 ?_;refine C1 ?_
 repeat(first|refine tR ?_|refine bR ?_)
 refine C5 J ?_ O;refine M3 ?_
 rw[Cj,← (Ap _ n.roles).trans (T5 t.name n.roles)]
 rw[Bool.eq_iff_iff]
 simp [ixS]
 intro _; exact decide_eq_true_iff
theorem Jp (n : Nar) (t : T) : Ctr sys 146 [xn n,xm t] [] (xb (Ax n.roles t)) none []:=by
 have hr:=T.rows_len t.kids
 refine D1 Tryz.func146 J J J J J J ?_;refine A8 (A6 ?_);refine C3 J (D8 J J J J) ?_;refine C3 J (D8 J J J J) ?_;refine A5 J J J (A9 J gU) ?_;refine B0 ?_;refine A8 ?_;refine awp_drawn' (by kernel_rfl) ?_;refine D7 J J J J J J J gU J J J J J ?_;refine E9 J J J J J J J gU gU (Rl _ _) J ?_;refine B5 J J J J (A7 J gU) ?_;refine B5 J J J J (B1 J gU J J) ?_;refine G4 J J J J J J J (fun hh=>hh) J J J J ?_;refine B5 J J J J (G8 J (fun hh=>hh) J J) ?_;refine B5 J J J J (B7 J J (fun hh=>hh) gU J) ?_;refine B5 J J J J (E2 J J gU (fun _ hi=>gP J hi)) ?_;refine B5 J J J J (A7 J gU) ?_;refine D7 J J J J J J J gU J J J J J ?_;refine B5 J J J J (B1 J gU J J) ?_;refine G4 J J J J J J J (fun hh=>hh) J J J J ?_;refine B5 J J J J (C2 (j:=0) J J (fun hh=>hh) gU J J (by first|omega|(simp at hh ⊢; omega)|(simp [isT] at hh ⊢; omega)) (fun hh=>T.rows_at (by first|omega|(simp at hh ⊢; omega)|(simp [isT] at hh ⊢; omega)))) ?_;refine B5 J J J J (D4 J (fun hh=>hh) J J J J) ?_;refine E9 J J J J J J J gU (fun hh=>gA ((fun hh=>hh) hh) (gA ((fun hh=>hh) hh) (rfl))) (Dy _ _) J ?_
 refine B5 J J J J (E2 J J gU (fun _ hi=>gP J hi)) ?_;refine B5 J J J J (A9 J gU) ?_;refine F6 (by kernel_rfl) ?_;refine C1 ?_
 repeat(first|refine tR ?_|refine bR ?_)
 refine C5 J ?_ O;refine M3 ?_
 rw[Ax,isT,kid,Bool.eq_iff_iff]
 simp [and_assoc]
 intro _; rw[hr]; exact Iff.rfl
theorem Ks (n : Nar) (t : T) : Ctr sys 145 [xn n,xm t] [] (xb (pubT n.roles t)) none []:=by
 have hr:=T.rows_len t.kids
 refine D1 Tryz.func145 J J J J J J ?_;refine A8 (A6 ?_);refine C3 J (D8 J J J J) ?_;refine C3 J (D8 J J J J) ?_;refine A5 J J J (A9 J gU) ?_;refine B0 ?_;refine A8 ?_;refine awp_drawn' (by kernel_rfl) ?_;refine D7 J J J J J J J gU J J J J J ?_;refine E9 J J J J J J J gU gU (Rl _ _) J ?_;refine B5 J J J J (A7 J gU) ?_;refine B5 J J J J (B1 J gU J J) ?_;refine G4 J J J J J J J (fun hh=>hh) J J J J ?_;refine B5 J J J J (G8 J (fun hh=>hh) J J) ?_;refine B5 J J J J (B7 J J (fun hh=>hh) gU J) ?_;refine B5 J J J J (E2 J J gU (fun _ hi=>gP J hi)) ?_;refine B5 J J J J (A7 J gU) ?_;refine D7 J J J J J J J gU J J J J J ?_;refine B5 J J J J (B1 J gU J J) ?_;refine G4 J J J J J J J (fun hh=>hh) J J J J ?_;refine B5 J J J J (C2 (j:=0) J J (fun hh=>hh) gU J J (by first|omega|(simp at hh ⊢; omega)|(simp [isT] at hh ⊢; omega)) (fun hh=>T.rows_at (by first|omega|(simp at hh ⊢; omega)|(simp [isT] at hh ⊢; omega)))) ?_;refine B5 J J J J (D4 J (fun hh=>hh) J J J J) ?_;refine E9 J J J J J J J gU (fun hh=>gA ((fun hh=>hh) hh) (gA ((fun hh=>hh) hh) (rfl))) (Jp _ _) J ?_
 refine B5 J J J J (E2 J J gU (fun _ hi=>gP J hi)) ?_;refine B5 J J J J (A9 J gU) ?_;refine F6 (by kernel_rfl) ?_;refine C1 ?_
 repeat(first|refine tR ?_|refine bR ?_)
 refine C5 J ?_ O;refine M3 ?_
 rw[pubT,isT,kid,Bool.eq_iff_iff]
 simp [and_assoc]
 intro _; rw[hr]; exact Iff.rfl
end Go.Proofs.YteidahabkfgfjaaGreat
