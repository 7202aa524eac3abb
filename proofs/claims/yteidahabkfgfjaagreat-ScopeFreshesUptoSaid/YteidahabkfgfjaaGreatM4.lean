/- Our abstract program logic and contracts of this seat's functions, part 4: no statement of its own (long names of ours are shortened by a program). -/
import Derived.Test.YteidahabkfgfjaaGreatM3
import Derived.Lib.Join
import Derived.RangeFuncNested
import Derived.RangeFuncLeaves
import Derived.Shelf.Abstract
import Derived.WalkKit
import Derived.OwnWalkIn
import Derived.TacticsInMore
import Derived.LoopNIn
import Derived.LoopIn
import Derived.KernelRfl
set_option linter.unusedVariables false
set_option linter.unusedSimpArgs false
namespace Go.Proofs.YteidahabkfgfjaaGreat
open Go Go.Abs
abbrev xtb (R : List (List UInt8)) (u : Value) : X:=.v (.agg [.sl 1 (strR R), .o u])
theorem uCU (t : T) (w : List UInt8) (k : Int) : Ctr sys 78 [xm t,xs w,xi k] [] (xb (isT t w k)) none []:=by
 have hr:=T.rows_len t.kids
 refine uAA Tryz.func78 rfl rfl rfl rfl rfl rfl ?_;refine uAd (uAb ?_);refine uAt rfl (uAI rfl rfl rfl rfl) ?_;refine uAa rfl rfl rfl (uAe rfl gU) ?_;refine uAf ?_;refine uAd (uAb ?_);refine uAa rfl rfl rfl (uAg rfl gU rfl rfl) ?_;refine uAa rfl rfl rfl (uAi rfl gU rfl rfl rfl rfl) ?_;refine uAa rfl rfl rfl (uAk rfl rfl gU gU rfl) ?_;refine uAa rfl rfl rfl (uAc rfl gU) ?_;refine uAa rfl rfl rfl (uAg rfl gU rfl rfl) ?_;refine uAa rfl rfl rfl (uAi rfl (fun hh=>hh) rfl rfl rfl rfl) ?_;refine uAa rfl rfl rfl (uAc rfl gU) ?_;refine uAa rfl rfl rfl (uA2 rfl rfl (fun hh=>hh) (fun hh=>hh) rfl) ?_;refine uAa rfl rfl rfl (uAH rfl rfl gU (fun _ hi=>gP rfl hi)) ?_;refine uAa rfl rfl rfl (uAc rfl gU) ?_;refine uA8 (s:=⟨[(2,_,_),(3,_,_),(16,_,_)],[(.l 3,_)],[],[]⟩) (uAj (⟨sx rfl,sx rfl,sx rfl,trivial⟩) (⟨sx rfl,trivial⟩) trivial) ?_;refine uAa rfl rfl rfl (uAg rfl gU rfl rfl) ?_;refine uAa rfl rfl rfl (uAi rfl (fun hh=>hh) rfl rfl rfl rfl) ?_;refine uAa rfl rfl rfl (uA4 rfl (fun hh=>hh) rfl rfl) ?_;refine uAa rfl rfl rfl (uAc rfl gU) ?_;refine uAa rfl rfl rfl (uAk rfl rfl (fun hh=>hh) (fun hh=>hh) rfl) ?_;refine uAa rfl rfl rfl (uAH rfl rfl gU (fun _ hi=>gP rfl hi)) ?_;refine uAa rfl rfl rfl (uAe rfl gU) ?_
 refine uAf ?_;refine uAo ?_
 repeat (first | refine tR ?_ | refine bR ?_)
 refine uAs rfl ?_ trivial;refine uBV ?_
 rw [Bool.eq_iff_iff]
 simp [isT,hr,and_assoc]
theorem uEM (R : List (List UInt8)) (u : Value) (t : T) : Ctr sys 81 [xtb R u,xm t] [] (xb (uFg R t)) none []:=by
 refine uAA Tryz.func81 rfl rfl rfl rfl rfl rfl ?_;refine uAd (uAb ?_);refine uAt rfl (uAI rfl rfl rfl rfl) ?_;refine uAt rfl (uAI rfl rfl rfl rfl) ?_;refine uAa rfl rfl rfl (uAe rfl gU) ?_;refine uAf ?_;refine uAd (uAb ?_);refine uAa rfl rfl rfl (uAg rfl gU rfl rfl) ?_;refine uAa rfl rfl rfl (uAi rfl gU rfl rfl rfl rfl) ?_;refine uAa rfl rfl rfl (uAk rfl rfl gU gU rfl) ?_;refine uAa rfl rfl rfl (uAc rfl gU) ?_;refine uAa rfl rfl rfl (uAg rfl gU rfl rfl) ?_;refine uAa rfl rfl rfl (uAi rfl (fun hh=>hh) rfl rfl rfl rfl) ?_;refine uAa rfl rfl rfl (uAg rfl gU rfl rfl) ?_;refine uAa rfl rfl rfl (uAi rfl (fun hh=>hh) rfl rfl rfl rfl) ?_;refine uAx rfl rfl rfl rfl rfl rfl gU (fun hh=>gA ((fun hh=>hh) hh) (gA ((fun hh=>hh) hh) (rfl))) (uCa _ _) rfl ?_;refine uA8 (s:=⟨[(8,_,_),(13,_,_)],[],[],[]⟩) (uAj (⟨sx rfl,sx rfl,trivial⟩) trivial trivial) ?_;refine uAa rfl rfl rfl (uAH rfl rfl gU (fun _ hi=>gP rfl hi)) ?_;refine uAa rfl rfl rfl (uAe rfl gU) ?_;refine uAf ?_;refine uAo ?_
 repeat (first | refine tR ?_ | refine bR ?_)
 refine uAs rfl ?_ trivial;refine uBV ?_
 rw [Bool.eq_iff_iff]
 simp [uFg]
theorem uGM (R : List (List UInt8)) (u : Value) (t : T) : Ctr sys 80 [xtb R u,xm t] [] (xb (uEm R t)) none []:=by
 have hr:=T.rows_len t.kids
 refine uAA Tryz.func80 rfl rfl rfl rfl rfl rfl ?_;refine uAd (uAb ?_);refine uAt rfl (uAI rfl rfl rfl rfl) ?_;refine uAt rfl (uAI rfl rfl rfl rfl) ?_;refine uAa rfl rfl rfl (uAe rfl gU) ?_;refine uAf ?_;refine uAd ?_;refine awp_drawn' (by kernel_rfl) ?_;refine uAD rfl rfl rfl rfl rfl rfl rfl gU rfl rfl rfl rfl rfl ?_;refine uAR rfl rfl rfl rfl rfl rfl rfl gU gU (uCU _ _ _) rfl ?_;refine uAq rfl rfl rfl rfl (uAc rfl gU) ?_;refine uAD rfl rfl rfl rfl rfl rfl rfl gU rfl rfl rfl rfl rfl ?_;refine uAq rfl rfl rfl rfl (uAg rfl gU rfl rfl) ?_;refine uBa rfl rfl rfl rfl rfl rfl rfl (fun hh=>hh) rfl rfl rfl rfl ?_;refine uAq rfl rfl rfl rfl (uAr (j:=0) rfl rfl (fun hh=>hh) gU rfl rfl (by first | omega | (simp at hh ⊢; omega) | (simp [isT] at hh ⊢; omega)) (fun hh=>T.rows_at (by first | omega | (simp at hh ⊢; omega) | (simp [isT] at hh ⊢; omega)))) ?_;refine uAq rfl rfl rfl rfl (uAE rfl (fun hh=>hh) rfl rfl rfl rfl) ?_;refine uAR rfl rfl rfl rfl rfl rfl rfl gU (fun hh=>gA ((fun hh=>hh) hh) (gA ((fun hh=>hh) hh) (rfl))) (uEM _ _ _) rfl ?_;refine uAq rfl rfl rfl rfl (uAH rfl rfl gU (fun _ hi=>gP rfl hi)) ?_;refine uAq rfl rfl rfl rfl (uAe rfl gU) ?_;refine uA1 (by kernel_rfl) ?_;refine uAo ?_
 repeat (first | refine tR ?_ | refine bR ?_)
 refine uAs rfl ?_ trivial
 rfl
theorem uHm (R : List (List UInt8)) (u : Value) (t : T) : Ctr sys 79 [xtb R u,xm t] [] (xb (pubT R t)) none []:=by
 have hr:=T.rows_len t.kids
 refine uAA Tryz.func79 rfl rfl rfl rfl rfl rfl ?_;refine uAd (uAb ?_);refine uAt rfl (uAI rfl rfl rfl rfl) ?_;refine uAt rfl (uAI rfl rfl rfl rfl) ?_;refine uAa rfl rfl rfl (uAe rfl gU) ?_;refine uAf ?_;refine uAd ?_;refine awp_drawn' (by kernel_rfl) ?_;refine uAD rfl rfl rfl rfl rfl rfl rfl gU rfl rfl rfl rfl rfl ?_;refine uAR rfl rfl rfl rfl rfl rfl rfl gU gU (uCU _ _ _) rfl ?_;refine uAq rfl rfl rfl rfl (uAc rfl gU) ?_;refine uAD rfl rfl rfl rfl rfl rfl rfl gU rfl rfl rfl rfl rfl ?_;refine uAq rfl rfl rfl rfl (uAg rfl gU rfl rfl) ?_;refine uBa rfl rfl rfl rfl rfl rfl rfl (fun hh=>hh) rfl rfl rfl rfl ?_;refine uAq rfl rfl rfl rfl (uAr (j:=0) rfl rfl (fun hh=>hh) gU rfl rfl (by first | omega | (simp at hh ⊢; omega) | (simp [isT] at hh ⊢; omega)) (fun hh=>T.rows_at (by first | omega | (simp at hh ⊢; omega) | (simp [isT] at hh ⊢; omega)))) ?_;refine uAq rfl rfl rfl rfl (uAE rfl (fun hh=>hh) rfl rfl rfl rfl) ?_;refine uAR rfl rfl rfl rfl rfl rfl rfl gU (fun hh=>gA ((fun hh=>hh) hh) (gA ((fun hh=>hh) hh) (rfl))) (uGM _ _ _) rfl ?_;refine uAq rfl rfl rfl rfl (uAH rfl rfl gU (fun _ hi=>gP rfl hi)) ?_;refine uAq rfl rfl rfl rfl (uAe rfl gU) ?_;refine uA1 (by kernel_rfl) ?_;refine uAo ?_
 repeat (first | refine tR ?_ | refine bR ?_)
 refine uAs rfl ?_ trivial
 rfl
theorem uHn (R : List (List UInt8)) (u : Value) (a b : List UInt8) : Ctr sys 40 [xtb R u,xs a,xs b] [] (xi (twoE R a b)) none []:=by
 refine uAA Tryz.func40 rfl rfl rfl rfl rfl rfl ?_;refine uAd (uAb ?_);refine uAt rfl (uAI rfl rfl rfl rfl) ?_;refine uAa rfl rfl rfl (uAe rfl gU) ?_;refine uAf ?_;refine uAd ?_;refine uAv ?_;refine uAd (uAb ?_);refine uAa rfl rfl rfl (uAg rfl gU rfl rfl) ?_;refine uAa rfl rfl rfl (uAi rfl gU rfl rfl rfl rfl) ?_;refine uAa rfl rfl rfl (uAc rfl gU) ?_;refine uAx rfl rfl rfl rfl rfl rfl gU gU (uCa _ _) rfl ?_;refine uAa rfl rfl rfl (uAX rfl gU) ?_;refine uAa rfl rfl rfl (uAc rfl gU) ?_;refine uAa rfl rfl rfl (uAg rfl gU rfl rfl) ?_;refine uAa rfl rfl rfl (uAi rfl (fun hh=>hh) rfl rfl rfl rfl) ?_;refine uAa rfl rfl rfl (uAc rfl gU) ?_;refine uAx rfl rfl rfl rfl rfl rfl gU (fun hh=>gA ((fun hh=>hh) hh) (gA ((fun hh=>hh) hh) (rfl))) (uCa _ _) rfl ?_;refine uA8 (s:=⟨[(1,_,_),(2,_,_),(13,_,_),(17,_,_)],[],[],[]⟩) (uAj (⟨sx rfl,sx rfl,sx rfl,sx rfl,trivial⟩) trivial trivial) ?_;refine uAa rfl rfl rfl (uAX rfl (fun hh=>hh)) ?_;refine uAa rfl rfl rfl (uAN rfl rfl gU (fun _ hi=>gP rfl hi)) ?_;refine uAa rfl rfl rfl (uAe rfl gU) ?_;refine uAf ?_;refine uAn rfl (fun hc=>?_) (fun hc=>?_)
 ·try simp only [nn,uAh,T.rows_len,Gl.rows_len,Fs.rows_len,Sp.rows_len] at hc
  refine uAd (uAb ?_);refine uAa rfl rfl rfl (uAe rfl gU) ?_;refine uAf ?_;refine uAo ?_
  repeat (first | refine tR ?_ | refine bR ?_)
  refine uAs rfl ?_ trivial
  (rw [twoE,if_pos hc]; rfl)
 ·try simp only [nn,uAh,T.rows_len,Gl.rows_len,Fs.rows_len,Sp.rows_len] at hc
  have h1 : ¬(R.contains a=false∨R.contains b=false):=by simpa using hc
  refine uAd (uAb ?_);refine uAa rfl rfl rfl (uAc rfl gU) ?_;refine uAa rfl rfl rfl (uAc rfl gU) ?_;refine uAa rfl rfl rfl (uA2 rfl rfl gU gU rfl) ?_;refine uAa rfl rfl rfl (uAe rfl gU) ?_;refine uAf ?_;refine uAl (s:=⟨[(20,_,_)],[],[],[]⟩) (uAj (⟨sx rfl,trivial⟩) trivial trivial) ?_;refine uAn rfl (fun hc2=>?_) (fun hc2=>?_)
  ·try simp only [nn,uAh,T.rows_len,Gl.rows_len,Fs.rows_len,Sp.rows_len] at hc2
   refine uAd (uAb ?_);refine uAa rfl rfl rfl (uAe rfl gU) ?_;refine uAf ?_;refine uAo ?_
   repeat (first | refine tR ?_ | refine bR ?_)
   refine uAs rfl ?_ trivial
   (rw [twoE,if_neg h1,if_pos hc2]; rfl)
  ·try simp only [nn,uAh,T.rows_len,Gl.rows_len,Fs.rows_len,Sp.rows_len] at hc2
   refine uAp ?_;refine uAd (uAb ?_);refine uAa rfl rfl rfl (uAe rfl gU) ?_;refine uAf ?_;refine uAo ?_
   repeat (first | refine tR ?_ | refine bR ?_)
   refine uAs rfl ?_ trivial
   (rw [twoE,if_neg h1,if_neg hc2]; rfl)
theorem uF8 (n : Nar) : CtrM sys 39 [xn n] (fun b=>xtb n.roles (.map (some b))) (mapL (nmsL n)):=by
 have l1:=uAh n.roles
 have l2:=Fs.rows_len n.fresh
 have l3:=uAh n.tags
 refine uJc Tryz.func39 rfl rfl rfl rfl rfl (fun _=>rfl) ?_;refine uAd (uAb ?_);refine uAt rfl (uAI rfl rfl rfl rfl) ?_;refine uAt rfl (uAM rfl rfl rfl) ?_;refine uAf ?_;refine uAd (uAb ?_);refine uAa rfl rfl rfl (uAg rfl gU rfl rfl) ?_;refine uAa rfl rfl rfl (uAi rfl gU rfl rfl rfl rfl) ?_;refine uJ7 rfl rfl rfl rfl (fun bm12=>?_);refine uAa rfl rfl rfl (uBc rfl Tryz.underlying63 rfl gU) ?_;refine uAt rfl (uAM rfl rfl rfl) ?_;refine uAt rfl (uAz rfl rfl rfl rfl rfl rfl rfl) ?_;refine uAf ?_;refine uAl (s:={ t:=[(1,_,_),(2,_,_),(3,_,_)],bx:=[(.l 1,_),(.l 2,_),(.l 3,_)],ow:=[],mp:=_ }) (uAj (⟨sx rfl,sx rfl,sx rfl,trivial⟩) (⟨sx rfl,sx rfl,sx rfl,trivial⟩) trivial (.inr rfl)) ?_;refine uAd ?_;refine uAd (uAb ?_);refine uAa rfl rfl rfl (uAg rfl gU rfl rfl) ?_;refine uAa rfl rfl rfl (uAi rfl gU rfl rfl rfl rfl) ?_;refine uAJ rfl rfl rfl rfl rfl gU rfl rfl ?_ (fun hh=>by simp at hh); intro hlen;refine uAa rfl rfl rfl (uAc rfl gU) ?_;refine uAf ?_;refine uAv ?_;refine uG4 (ι:=Nat) { t:=[(1,_,_),(2,_,_),(3,_,_),(15,_,_),(16,_,_)],bx:=[(.l 1,_),(.l 2,_),(.l 3,_)],ow:=[] } (fun k=>[(17,true,xi (k : Int))]) (fun k=>[]) (fun k=>[(bm12,true,mapL ((n.roles.take k).map fun r=>(r,1)))]) (fun k=>k≤n.roles.length) (fun k=>n.roles.length - k) (0) (by simp) (uAj (⟨sx rfl,sx rfl,sx rfl,sx rfl,sx rfl,sx rfl,trivial⟩) (⟨sx rfl,sx rfl,sx rfl,trivial⟩) trivial (.inr rfl)) ?_
 intro k hoka
 dsimp only [List.cons_append,List.nil_append]
 refine uAd (uAb ?_);refine uAa rfl rfl rfl (uAk rfl rfl gU gU rfl) ?_;refine uAf ?_;refine uAd ?_;refine uAn rfl (fun hc=>?_) (fun hc=>?_)
 ·try simp only [nn,uAh,T.rows_len,Gl.rows_len,Fs.rows_len,Sp.rows_len] at hc
  have hT : mapL ((n.roles.take (k + 1)).map fun r=>(r,1))=mput (mapL ((n.roles.take k).map fun r=>(r,1))) (n.roles.getD k []) (iv 1):=by
   rw [uBx (d:=[]) (by omega),List.map_append,List.map_cons,List.map_nil,uEE]
  refine uAp ?_;refine uAd ?_;refine uAv ?_;refine uAd (uAb ?_);refine uAa rfl rfl rfl (uAr rfl rfl gU gU rfl rfl rfl (fun hh=>uBI (by first | omega | (simp at hh ⊢; omega) | (simp [isT] at hh ⊢; omega)))) ?_;refine uAa rfl rfl rfl (uAQ rfl gU rfl rfl rfl) ?_;refine uAa rfl rfl rfl (uAe rfl gU) ?_;refine uAf ?_;refine uAb ?_;refine uAa rfl rfl rfl (uAg rfl gU rfl rfl) ?_;refine uAa rfl rfl rfl (uAi rfl gU rfl rfl rfl rfl) ?_;refine uAa rfl rfl rfl (uAc rfl gU) ?_;refine uAt rfl (uDm rfl rfl rfl rfl Tryz.underlying61 Tryz.underlying9 (fun _ _ _ h=>by cases h; rfl)) ?_;refine uAf ?_;refine uAl (s:={ t:=[(1,_,_),(2,_,_),(3,_,_),(15,_,_),(16,_,_),(17,_,_)],bx:=[(.l 1,_),(.l 2,_),(.l 3,_)],ow:=[],mp:=_ }) (uAj (⟨sx rfl,sx rfl,sx rfl,sx rfl,sx rfl,sx rfl,trivial⟩) (⟨sx rfl,sx rfl,sx rfl,trivial⟩) trivial (.inr rfl)) ?_;refine uAb ?_;refine uAa rfl rfl rfl (uAy rfl rfl gU gU rfl (IntWalk.i64_in _ (by omega))) ?_;refine uAa rfl rfl rfl (uAc rfl gU) ?_;refine uAf ?_;refine ⟨k + 1,?_,?_,uAj (⟨⟨_,rfl,?_⟩,⟨sx rfl,sx rfl,sx rfl,sx rfl,sx rfl,trivial⟩⟩) (⟨sx rfl,sx rfl,sx rfl,trivial⟩) trivial (.inr ?_)⟩
  all_goals (first | rfl | omega | (rw [hT]; done) | (rw [hT]; rfl))
 ·try simp only [nn,uAh,T.rows_len,Gl.rows_len,Fs.rows_len,Sp.rows_len] at hc
  have hk : k=n.roles.length:=by omega
  subst hk
  rw [List.take_length]
  refine uAO ?_
  repeat (first | refine uAG ?_ | refine uAF ?_ | refine uAC rfl ?_)
  refine uAd ?_;refine uAd (uAb ?_);refine uAa rfl rfl rfl (uAg rfl gU rfl rfl) ?_;refine uAa rfl rfl rfl (uAi rfl gU rfl rfl rfl rfl) ?_;refine uAJ rfl rfl rfl rfl rfl gU rfl rfl ?_ (fun hh=>by simp at hh); intro hlen;refine uAa rfl rfl rfl (uAc rfl gU) ?_;refine uAf ?_;refine uAl (s:={ t:=[(1,_,_),(2,_,_),(3,_,_),(26,_,_),(27,_,_),(28,_,_)],bx:=[(.l 1,_),(.l 2,_),(.l 3,_)],ow:=[],mp:=_ }) (uAj (⟨sx rfl,sx rfl,sx rfl,sx rfl,sx rfl,sx rfl,trivial⟩) (⟨sx rfl,sx rfl,sx rfl,trivial⟩) trivial (.inr rfl)) ?_;refine uAv ?_;refine uG4 (ι:=Nat) { t:=[(1,_,_),(2,_,_),(3,_,_),(26,_,_),(27,_,_)],bx:=[(.l 1,_),(.l 2,_),(.l 3,_)],ow:=[] } (fun j=>[(28,true,xi (j : Int))]) (fun j=>[]) (fun j=>[(bm12,true,mapL (n.roles.map (fun r=>(r,1))++(n.fresh.take j).map fun f=>(f.name,f.sort)))]) (fun j=>j≤n.fresh.length) (fun j=>n.fresh.length - j) (0) (by omega) (uAj (⟨sx rfl,sx rfl,sx rfl,sx rfl,sx rfl,sx rfl,trivial⟩) (⟨sx rfl,sx rfl,sx rfl,trivial⟩) trivial (.inr (by (simp <;> rfl)))) ?_
  intro j hokb
  dsimp only [List.cons_append,List.nil_append]
  refine uAd (uAb ?_);refine uAa rfl rfl rfl (uAk rfl rfl gU gU rfl) ?_;refine uAf ?_;refine uAd ?_;refine uAn rfl (fun hc2=>?_) (fun hc2=>?_)
  ·try simp only [nn,uAh,T.rows_len,Gl.rows_len,Fs.rows_len,Sp.rows_len] at hc2
   have hT : mapL (n.roles.map (fun r=>(r,1))++(n.fresh.take (j + 1)).map fun f=>(f.name,f.sort))=mput (mapL (n.roles.map (fun r=>(r,1))++(n.fresh.take j).map fun f=>(f.name,f.sort))) (n.fresh.getD j default).name (iv (n.fresh.getD j default).sort):=by
    rw [uBx (d:=default) (by omega),List.map_append,List.map_cons,List.map_nil,← List.append_assoc,uEE]
   refine uAp ?_;refine uAd ?_;refine uAv ?_;refine uAd (uAb ?_);refine uAa rfl rfl rfl (uAr rfl rfl gU gU rfl rfl rfl (fun hh=>Fs.rows_at (by first | omega | (simp at hh ⊢; omega) | (simp [isT] at hh ⊢; omega)))) ?_;refine uAa rfl rfl rfl (uAE rfl gU rfl rfl rfl rfl) ?_;refine uAt rfl (uAM rfl rfl rfl) ?_;refine uAt rfl (uAz rfl rfl rfl rfl rfl rfl rfl) ?_;refine uAf ?_;refine uAb ?_;refine uAa rfl rfl rfl (uAg rfl gU rfl rfl) ?_;refine uAa rfl rfl rfl (uAi rfl gU rfl rfl rfl rfl) ?_;refine uAa rfl rfl rfl (uAg rfl gU rfl rfl) ?_;refine uAa rfl rfl rfl (uAi rfl gU rfl rfl rfl rfl) ?_;refine uAa rfl rfl rfl (uAg rfl gU rfl rfl) ?_;refine uAa rfl rfl rfl (uAi rfl gU rfl rfl rfl rfl) ?_;refine uAt rfl (uDm rfl rfl rfl rfl Tryz.underlying61 Tryz.underlying9 (fun _ _ _ h=>by cases h; rfl)) ?_;refine uAf ?_;refine uAl (s:={ t:=[(1,_,_),(2,_,_),(3,_,_),(26,_,_),(27,_,_),(28,_,_)],bx:=[(.l 1,_),(.l 2,_),(.l 3,_)],ow:=[],mp:=_ }) (uAj (⟨sx rfl,sx rfl,sx rfl,sx rfl,sx rfl,sx rfl,trivial⟩) (⟨sx rfl,sx rfl,sx rfl,trivial⟩) trivial (.inr rfl)) ?_;refine uAb ?_;refine uAa rfl rfl rfl (uAy rfl rfl gU gU rfl (IntWalk.i64_in _ (by omega))) ?_;refine uAa rfl rfl rfl (uAc rfl gU) ?_;refine uAf ?_;refine ⟨j + 1,?_,?_,uAj (⟨⟨_,rfl,?_⟩,⟨sx rfl,sx rfl,sx rfl,sx rfl,sx rfl,trivial⟩⟩) (⟨sx rfl,sx rfl,sx rfl,trivial⟩) trivial (.inr ?_)⟩
   all_goals (first | rfl | omega | (rw [hT]; done) | (rw [hT]; rfl))
  ·try simp only [nn,uAh,T.rows_len,Gl.rows_len,Fs.rows_len,Sp.rows_len] at hc2
   have hj : j=n.fresh.length:=by omega
   subst hj
   rw [List.take_length]
   refine uAO ?_
   repeat (first | refine uAG ?_ | refine uAF ?_ | refine uAC rfl ?_)
   refine uAd ?_;refine uAd (uAb ?_);refine uAa rfl rfl rfl (uAg rfl gU rfl rfl) ?_;refine uAa rfl rfl rfl (uAi rfl gU rfl rfl rfl rfl) ?_;refine uAJ rfl rfl rfl rfl rfl gU rfl rfl ?_ (fun hh=>by simp at hh); intro hlen;refine uAa rfl rfl rfl (uAc rfl gU) ?_;refine uAf ?_;refine uAl (s:={ t:=[(2,_,_),(3,_,_),(40,_,_),(41,_,_),(42,_,_)],bx:=[(.l 2,_),(.l 3,_)],ow:=[],mp:=_ }) (uAj (⟨sx rfl,sx rfl,sx rfl,sx rfl,sx rfl,trivial⟩) (⟨sx rfl,sx rfl,trivial⟩) trivial (.inr rfl)) ?_;refine uAv ?_;refine uG4 (ι:=Nat) { t:=[(2,_,_),(3,_,_),(40,_,_),(41,_,_)],bx:=[(.l 2,_),(.l 3,_)],ow:=[] } (fun i=>[(42,true,xi (i : Int))]) (fun i=>[]) (fun i=>[(bm12,true,mapL (n.roles.map (fun r=>(r,1))++(n.fresh.map (fun f=>(f.name,f.sort))++(n.tags.take i).map fun g=>(g,5))))]) (fun i=>i≤n.tags.length) (fun i=>n.tags.length - i) (0) (by omega) (uAj (⟨sx rfl,sx rfl,sx rfl,sx rfl,sx rfl,trivial⟩) (⟨sx rfl,sx rfl,trivial⟩) trivial (.inr (by (simp <;> rfl)))) ?_
   intro i hokc
   dsimp only [List.cons_append,List.nil_append]
   refine uAd (uAb ?_);refine uAa rfl rfl rfl (uAk rfl rfl gU gU rfl) ?_;refine uAf ?_;refine uAd ?_;refine uAn rfl (fun hc3=>?_) (fun hc3=>?_)
   ·try simp only [nn,uAh,T.rows_len,Gl.rows_len,Fs.rows_len,Sp.rows_len] at hc3
    have hT : mapL (n.roles.map (fun r=>(r,1))++(n.fresh.map (fun f=>(f.name,f.sort))++(n.tags.take (i + 1)).map fun g=>(g,5)))=mput (mapL (n.roles.map (fun r=>(r,1))++(n.fresh.map (fun f=>(f.name,f.sort))++(n.tags.take i).map fun g=>(g,5)))) (n.tags.getD i []) (iv 5):=by
     rw [uBx (d:=[]) (by omega),List.map_append,List.map_cons,List.map_nil,← List.append_assoc,← List.append_assoc,← List.append_assoc,uEE]
    refine uAp ?_;refine uAd ?_;refine uAv ?_;refine uAd (uAb ?_);refine uAa rfl rfl rfl (uAr rfl rfl gU gU rfl rfl rfl (fun hh=>uBI (by first | omega | (simp at hh ⊢; omega) | (simp [isT] at hh ⊢; omega)))) ?_;refine uAa rfl rfl rfl (uAQ rfl gU rfl rfl rfl) ?_;refine uAa rfl rfl rfl (uAe rfl gU) ?_;refine uAf ?_;refine uAb ?_;refine uAa rfl rfl rfl (uAg rfl gU rfl rfl) ?_;refine uAa rfl rfl rfl (uAi rfl gU rfl rfl rfl rfl) ?_;refine uAa rfl rfl rfl (uAc rfl gU) ?_;refine uAt rfl (uDm rfl rfl rfl rfl Tryz.underlying61 Tryz.underlying9 (fun _ _ _ h=>by cases h; rfl)) ?_;refine uAf ?_;refine uAl (s:={ t:=[(2,_,_),(3,_,_),(40,_,_),(41,_,_),(42,_,_)],bx:=[(.l 2,_),(.l 3,_)],ow:=[],mp:=_ }) (uAj (⟨sx rfl,sx rfl,sx rfl,sx rfl,sx rfl,trivial⟩) (⟨sx rfl,sx rfl,trivial⟩) trivial (.inr rfl)) ?_;refine uAb ?_;refine uAa rfl rfl rfl (uAy rfl rfl gU gU rfl (IntWalk.i64_in _ (by omega))) ?_;refine uAa rfl rfl rfl (uAc rfl gU) ?_;refine uAf ?_;refine ⟨i + 1,?_,?_,uAj (⟨⟨_,rfl,?_⟩,⟨sx rfl,sx rfl,sx rfl,sx rfl,trivial⟩⟩) (⟨sx rfl,sx rfl,trivial⟩) trivial (.inr ?_)⟩
    all_goals (first | rfl | omega | (rw [hT]; done) | (rw [hT]; rfl))
   ·try simp only [nn,uAh,T.rows_len,Gl.rows_len,Fs.rows_len,Sp.rows_len] at hc3
    have hi : i=n.tags.length:=by omega
    subst hi
    rw [List.take_length]
    refine uAO ?_
    repeat (first | refine uAG ?_ | refine uAF ?_ | refine uAC rfl ?_)
    refine uAd (uAb ?_);refine uAa rfl rfl rfl (uAm rfl gU rfl rfl rfl rfl rfl) ?_;refine uAt rfl (uAz rfl rfl rfl rfl rfl rfl rfl) ?_;refine uAf ?_;refine uAo ?_
    repeat (first | refine tR ?_ | refine bR ?_)
    refine ⟨_,0,rfl,?_⟩
    rfl
end Go.Proofs.YteidahabkfgfjaaGreat
namespace Go.Proofs.YteidahabkfgfjaaGreat
open Go Go.Abs
theorem uB3 {l : List Tk} {p : PS} {c : List UInt8} (h : symQ l p c=true) : p.at' < l.length∧p.bad=false:=by
 simp only [symQ,Bool.and_eq_true,decide_eq_true_eq,Bool.not_eq_true'] at h
 exact ⟨h.1.1.2,h.1.1.1⟩
theorem uBs (l : List Tk) (c : List UInt8) (p : PS) : p.at'≤(uAP l c p).at'∧(p.at'≤l.length→(uAP l c p).at'≤l.length):=by
 unfold uAP
 split
 ·rename_i h; have := (uB3 h).1; simp only [PS.go]; omega
 ·simp [PS.off]
theorem uA5 (l : List Tk) (ws : List (List UInt8)) (p : PS) : p.at'≤(uAw l ws p).2.at'∧(p.at'≤l.length→(uAw l ws p).2.at'≤l.length):=by
 unfold uAw
 split
 ·rename_i h
  simp only [namQ,Bool.and_eq_true,decide_eq_true_eq] at h
  have := h.1.1.2
  simp only [PS.go]; omega
 ·simp [PS.off]
theorem uEX {α : Type} {l : List Tk} {f : PS→α × PS} {p : PS} {out : List α} (h : symQ l p [44]=false) : ∀ n,uBL l f n p out=(out,p)
 | 0=>rfl
 | n + 1=>by rw [uBL,h]; rfl
theorem uID {α : Type} {l : List Tk} {f : PS→α × PS} {p : PS} {out : List α} {n : Nat} (h : symQ l p [44]=true) : uBL l f (n + 1) p out=uBL l f n (f p.go).2 (out++[(f p.go).1]):=by rw [uBL,if_pos h]
end Go.Proofs.YteidahabkfgfjaaGreat
namespace Go.Proofs.YteidahabkfgfjaaGreat
open Go Go.Abs
theorem uJk {α : Type} {l : List Tk} {f : PS→α × PS} (hf : ∀ p,p.at'≤(f p).2.at'∧(p.at'≤l.length→(f p).2.at'≤l.length)) : ∀ (n : Nat) (p : PS) (out : List α),p.at'≤(uBL l f n p out).2.at'∧(p.at'≤l.length→(uBL l f n p out).2.at'≤l.length)
 | 0,p,out=>by simp [uBL]
 | n + 1,p,out=>by
  rw [uBL]
  split
  ·rename_i h
   have h1:=(uB3 h).1
   have h2:=hf p.go
   have h3:=uJk hf n (f p.go).2 (out++[(f p.go).1])
   have hg : p.go.at'=p.at' + 1:=rfl
   omega
  ·simp
theorem uCB {α : Type} {l : List Tk} {f : PS→α × PS} (hf : ∀ p,p.at'≤(f p).2.at'∧(p.at'≤l.length→(f p).2.at'≤l.length)) (p : PS) : p.at'≤(uA6 l f p).2.at'∧(p.at'≤l.length→(uA6 l f p).2.at'≤l.length):=by
 have h1:=hf p
 have h2:=uJk hf (l.length + 1) (f p).2 [(f p).1]
 unfold uA6; omega
theorem uEf (l : List Tk) : ∀ (n : Nat) (p : PS),p.at'≤(uBp l n p).2.at'∧(p.at'≤l.length→(uBp l n p).2.at'≤l.length)
 | 0,p=>by simp [uBp]
 | n + 1,p=>by
  have ih:=uEf l n
  have hg : ∀ q : PS,q.go.at'=q.at' + 1:=fun _=>rfl
  rw [uBp]
  split
  ·rename_i h
   have h1:=(uB3 h).1
   have h2:=ih p.go
   have h3:=uBs l [44] (uBp l n p.go).2
   have h4:=uCB ih (uAP l [44] (uBp l n p.go).2)
   have h5:=uBs l [62] (uA6 l (uBp l n) (uAP l [44] (uBp l n p.go).2)).2
   have := hg p
   dsimp only; omega
  ·have h1:=uA5 l [] p
   split
   ·rename_i h
    have h2:=(uB3 h).1
    split
    ·rename_i h3
     have h4:=(uB3 h3).1
     have := hg (uAw l [] p).2
     have := hg (uAw l [] p).2.go
     dsimp only; omega
    ·have h3:=uCB ih (uAw l [] p).2.go
     have h4:=uBs l [41] (uA6 l (uBp l n) (uAw l [] p).2.go).2
     have := hg (uAw l [] p).2
     dsimp only; omega
   ·exact h1
end Go.Proofs.YteidahabkfgfjaaGreat
namespace Go.Proofs.YteidahabkfgfjaaGreat
open Go Go.Abs
end Go.Proofs.YteidahabkfgfjaaGreat
namespace Go.Proofs.YteidahabkfgfjaaGreat
open Go Go.Abs
noncomputable def sysO : Pg:={ P:=Tryz.prog,T:=tab,ok:=uMu,mix:=uML,gv:=[],old:=true }
theorem up {f : FuncId} {args : List X} {bs bs' : List (List C)} {res : X} {ro : Option Nat} (h : Ctr sys f args bs res ro bs') : Ctr sysO f args bs res ro bs':=h.wk rfl fun _ hg=>hg
theorem uBX {l : List Tk} {c : List UInt8} {p : PS} (h : p.at'≤l.length) : (uAP l c p).at'≤l.length:=(uBs l c p).2 h
theorem uBC {l : List Tk} {ws : List (List UInt8)} {p : PS} (h : p.at'≤l.length) : (uAw l ws p).2.at'≤l.length:=(uA5 l ws p).2 h
theorem le3 {l : List Tk} {x : Nat} (hl : l.length≤2000000) (h : x≤l.length) : x≤3000000:=by omega
end Go.Proofs.YteidahabkfgfjaaGreat
namespace Go.Proofs.YteidahabkfgfjaaGreat
open Go Go.Abs Go.Proofs Go.Shelf
theorem uHd (l : List UInt8) (c : UInt8) : decide (0≤Lib.indexByte l c)=l.contains c:=by
 induction l with
 | nil=>rfl
 | cons b l ih =>
  have hge:=Lib.indexByte_ge l c
  rw [Bool.eq_iff_iff] at ih ⊢
  simp only [decide_eq_true_eq,List.contains_iff_mem,List.mem_cons] at ih ⊢
  by_cases h : b=c
  ·subst h; simp [Lib.indexByte]
  ·have h2 : ¬ c=b:=fun q=>h q.symm
   simp only [Lib.indexByte,beq_iff_eq,h,h2,if_false,false_or]
   rw [← ih]
   split <;> omega
theorem uLD (s : List UInt8) : Ctr sys 76 [xs s,xs [35]] [] (xb (s.contains 35)) none []:=by
 rw [← uHd]
 refine uIT [.string ⟨s.toArray⟩, .string ⟨#[35]⟩] ⟨_,Tryz.func76,by kernel_rfl,by kernel_rfl⟩ (fun w G vs h=>?_) (fun w=>Any.strings_Contains_one uNJ ⟨s.toArray⟩ 35 w) (fun w G=>CRep.b _)
 match vs,h with
 | [u,v],⟨h1,h2,_⟩=>rw [XRep.str h1,XRep.str h2]
theorem ps1 {st : St} {a : Pass} (ha : st.box a.n=some a.cs) : ∀ p ∈ [a],st.box p.n=some p.cs:=by
 intro p hp
 rw [List.mem_singleton.1 hp]; exact ha
def nxE (seen : List (List UInt8)) (s : List UInt8) (fr : Bool) : Int:=if s.contains 35=true then 2 else if fr=true∧(s=[101]∨s=[103]) then 1 else if seen.contains s=true then 5 else 0
def nxS (seen : List (List UInt8)) (s : List UInt8) (fr : Bool) : List (List UInt8):=if nxE seen s fr=0 then seen++[s] else seen
theorem uK1 (R seen : List (List UInt8)) (x : List UInt8 × Option (List UInt8)) : dclE R seen x=if nxE seen x.1 x.2.isSome≠0 then nxE seen x.1 x.2.isSome else match x.2 with
  | some r=>if R.contains r=true then 0 else 13
  | none=>0:=by
 unfold dclE nxE
 by_cases h1 : x.1.contains 35=true
 ·rw [if_pos h1,if_pos h1,if_pos (by simp)]
 ·rw [if_neg h1,if_neg h1]
  by_cases h2 : x.2.isSome=true∧(x.1=[101]∨x.1=[103])
  ·rw [if_pos h2,if_pos h2,if_pos (by simp)]
  ·rw [if_neg h2,if_neg h2]
   by_cases h3 : seen.contains x.1=true
   ·rw [if_pos h3,if_pos h3,if_pos (by simp)]
   ·rw [if_neg h3,if_neg h3,if_neg (by simp)]
    obtain ⟨a,o⟩:=x
    cases o <;> rfl
theorem uHF (R seen : List (List UInt8)) (s : List UInt8) : dclE R seen (s,none)=nxE seen s false:=by
 rw [uK1]
 split
 ·rfl
 ·rename_i h; exact (Decidable.not_not.1 h).symm
theorem uLF (R seen : List (List UInt8)) (s r : List UInt8) : dclE R seen (s,some r)=if nxE seen s true≠0 then nxE seen s true else if R.contains r=true then 0 else 13:=uK1 R seen (s,some r)
theorem uFy (seen : List (List UInt8)) (s : List UInt8) (fr : Bool) (hs : seen.length≤900000) : CtrO sysO 75 [xs s,xb fr, .v (.ptr (.o 0) 0)] [[.sl 1 (strR seen)]] [(0,0,1)] (xi (nxE seen s fr)) [[.sl 1 (strR (nxS seen s fr))]] .box:=by
 have hr:=uAh seen
 refine uB0 Tryz.func75 rfl rfl rfl rfl rfl rfl rfl ?_;refine uAd (uAb ?_);refine uAa rfl rfl rfl (uAe rfl gU) ?_;refine uAf ?_;refine uAd ?_;refine uAv ?_;refine uAd (uAb ?_);refine uAa rfl rfl rfl (uAc rfl gU) ?_;refine uAx rfl rfl rfl rfl rfl rfl gU gU (up (uLD _)) rfl ?_;refine uAa rfl rfl rfl (uAe rfl gU) ?_;refine uAf ?_;refine uAn rfl (fun hc=>?_) (fun hc=>?_)
 ·try simp only [nn,uAh,T.rows_len,Gl.rows_len,Fs.rows_len,Sp.rows_len] at hc
  have h1 : nxE seen s fr=2:=by rw [nxE,if_pos hc]
  have h2 : nxS seen s fr=seen:=by rw [nxS,if_neg (by rw [h1]; simp)]
  rw [h1,h2]
  refine uAd (uAb ?_);refine uAa rfl rfl rfl (uAe rfl gU) ?_;refine uAf ?_;refine uAo ?_
  repeat (first | refine tR ?_ | refine bR ?_)
  refine uDx rfl ?_ (⟨⟨_,rfl,?_⟩,trivial⟩) (by kernel_rfl)
  all_goals rfl
 ·try simp only [nn,uAh,T.rows_len,Gl.rows_len,Fs.rows_len,Sp.rows_len] at hc
  have n1 : ¬ s.contains 35=true:=by simpa using hc
  refine uAd (uAb ?_);refine uAa rfl rfl rfl (uAc rfl gU) ?_;refine uAa rfl rfl rfl (uAc rfl gU) ?_;refine uAa rfl rfl rfl (uAc rfl gU) ?_;refine uAa rfl rfl rfl (uA2 rfl rfl (fun hh=>hh) gU rfl) ?_;refine uAa rfl rfl rfl (uAc rfl (fun hh=>hh)) ?_;refine uAa rfl rfl rfl (uAc rfl gU) ?_;refine uAa rfl rfl rfl (uA2 rfl rfl (fun hh=>hh) gU rfl) ?_;refine uAa rfl rfl rfl (uAN rfl rfl (fun hh=>hh) (fun hh hi=>gP hh hi)) ?_;refine uA8 (s:=⟨[(0,_,_),(2,_,_),(11,_,_),(17,_,_)],[(.o 0,_)],[(.b (.o 0) 0,_)],[]⟩) (uAj (⟨sx rfl,sx rfl,sx rfl,sx rfl,trivial⟩) (⟨sx rfl,trivial⟩) (⟨rfl,trivial⟩)) ?_;refine uAa rfl rfl rfl (uAH rfl rfl gU (fun _ hi=>gP rfl hi)) ?_;refine uAa rfl rfl rfl (uAe rfl gU) ?_;refine uAf ?_;refine uAn rfl (fun hc2=>?_) (fun hc2=>?_)
  ·try simp only [nn,uAh,T.rows_len,Gl.rows_len,Fs.rows_len,Sp.rows_len] at hc2
   have h1 : nxE seen s fr=1:=by rw [nxE,if_neg n1,if_pos hc2]
   have h2 : nxS seen s fr=seen:=by rw [nxS,if_neg (by rw [h1]; simp)]
   rw [h1,h2]
   refine uAd (uAb ?_);refine uAa rfl rfl rfl (uAe rfl gU) ?_;refine uAf ?_;refine uAo ?_
   repeat (first | refine tR ?_ | refine bR ?_)
   refine uDx rfl ?_ (⟨⟨_,rfl,?_⟩,trivial⟩) (by kernel_rfl)
   all_goals rfl
  ·try simp only [nn,uAh,T.rows_len,Gl.rows_len,Fs.rows_len,Sp.rows_len] at hc2
   have n2 : ¬ (fr=true∧(s=[101]∨s=[103])):=by
    rintro ⟨q1,q2⟩
    rcases hc2 with z | z
    ·rw [q1] at z; cases z
    ·rcases q2 with q | q
     ·exact z.1 q
     ·exact z.2 q
   refine uAd (uAb ?_);refine uAa rfl rfl rfl (uAi rfl gU rfl rfl rfl rfl) ?_;refine uAa rfl rfl rfl (uAc rfl gU) ?_;refine uAx rfl rfl rfl rfl rfl rfl gU gU (up (uCa _ _)) rfl ?_;refine uAa rfl rfl rfl (uAe rfl gU) ?_;refine uAf ?_;refine uAl (s:=⟨[(0,_,_),(2,_,_),(19,_,_)],[(.o 0,_)],[(.b (.o 0) 0,_)],[]⟩) (uAj (⟨sx rfl,sx rfl,sx rfl,trivial⟩) (⟨sx rfl,trivial⟩) (⟨rfl,trivial⟩)) ?_;refine uAn rfl (fun hc3=>?_) (fun hc3=>?_)
   ·try simp only [nn,uAh,T.rows_len,Gl.rows_len,Fs.rows_len,Sp.rows_len] at hc3
    have h1 : nxE seen s fr=5:=by rw [nxE,if_neg n1,if_neg n2,if_pos hc3]
    have h2 : nxS seen s fr=seen:=by rw [nxS,if_neg (by rw [h1]; simp)]
    rw [h1,h2]
    refine uAd (uAb ?_);refine uAa rfl rfl rfl (uAe rfl gU) ?_;refine uAf ?_;refine uAo ?_
    repeat (first | refine tR ?_ | refine bR ?_)
    refine uDx rfl ?_ (⟨⟨_,rfl,?_⟩,trivial⟩) (by kernel_rfl)
    all_goals rfl
   ·try simp only [nn,uAh,T.rows_len,Gl.rows_len,Fs.rows_len,Sp.rows_len] at hc3
    have h1 : nxE seen s fr=0:=by rw [nxE,if_neg n1,if_neg n2,if_neg (by rw [hc3]; simp)]
    have h2 : nxS seen s fr=seen++[s]:=by rw [nxS,if_pos h1]
    rw [h1,h2]
    refine uAp ?_;refine uAd (uAb ?_);refine uAt rfl (uBv rfl rfl rfl rfl rfl rfl rfl) ?_;refine uAa rfl rfl rfl (uAc rfl gU) ?_;refine uAU (xs:=[_]) rfl rfl rfl rfl rfl rfl rfl rfl rfl gU rfl ?_;refine uAt rfl (uA3 rfl rfl rfl rfl rfl rfl rfl (by first | omega | (simp only [List.length_append,List.length_singleton,uAh]; omega)) (by first | omega | (simp only [List.length_append,List.length_singleton,uAh]; omega))) ?_;refine uAt rfl (uBu rfl rfl rfl rfl rfl rfl rfl) ?_;refine uAf ?_;refine uAd (uAb ?_);refine uAa rfl rfl rfl (uAe rfl gU) ?_;refine uAf ?_;refine uAo ?_
    repeat (first | refine tR ?_ | refine bR ?_)
    refine uDx rfl ?_ (⟨⟨_,rfl,?_⟩,trivial⟩) (by kernel_rfl)
    all_goals first | rfl | (rw [uEb]; rfl)
theorem uGk {R seen : List (List UInt8)} {D : List (List UInt8 × Option (List UInt8))} {j : Nat} {x : List UInt8 × Option (List UInt8)} (hx : D[j]? = some x) (h : dclE R seen x=0) : decA R seen (D.drop j)=decA R (seen++[x.1]) (D.drop (j + 1)):=by
 obtain ⟨hj,he⟩:=List.getElem?_eq_some_iff.1 hx
 rw [List.drop_eq_getElem_cons hj,decA,he,if_neg (by simp [h])]
theorem uCV {R seen : List (List UInt8)} {D : List (List UInt8 × Option (List UInt8))} {j : Nat} {x : List UInt8 × Option (List UInt8)} (hx : D[j]? = some x) (h : dclE R seen x≠0) : decA R seen (D.drop j)=dclE R seen x:=by
 obtain ⟨hj,he⟩:=List.getElem?_eq_some_iff.1 hx
 rw [List.drop_eq_getElem_cons hj,decA,he,if_pos h]
theorem uIY {n : Nar} {k : Nat} (h : k < n.roles.length) : (dclL n)[k]? = some (n.roles.getD k [],none):=by
 rw [dclL,List.getElem?_append_left (by simpa using h),List.getElem?_map,List.getD_eq_getElem?_getD,List.getElem?_eq_getElem h]; rfl
theorem uHs {n : Nar} {k : Nat} (h : k < n.fresh.length) : (dclL n)[n.roles.length + k]? = some ((n.fresh.getD k default).name,some (n.fresh.getD k default).role):=by
 rw [dclL,List.getElem?_append_right (by simp),List.getElem?_append_left (by simp; omega),List.getElem?_map,List.getD_eq_getElem?_getD,List.length_map,Nat.add_sub_cancel_left,List.getElem?_eq_getElem h]; rfl
theorem uLi {n : Nar} {k : Nat} (h : k < n.tags.length) : (dclL n)[n.roles.length + (n.fresh.length + k)]? = some (n.tags.getD k [],none):=by
 rw [dclL,List.getElem?_append_right (by simp),List.getElem?_append_right (by simp),List.getElem?_map,List.getD_eq_getElem?_getD,List.length_map,Nat.add_sub_cancel_left,List.length_map,Nat.add_sub_cancel_left,List.getElem?_eq_getElem h]; rfl
theorem uNB (n : Nar) : (dclL n).length=n.roles.length + (n.fresh.length + n.tags.length):=by simp [dclL]
theorem uHV {seen : List (List UInt8)} {s : List UInt8} {fr : Bool} (h : nxE seen s fr=0) : nxS seen s fr=seen++[s]:=by rw [nxS,if_pos h]
set_option maxHeartbeats 4000000 in
theorem uHa (n : Nar) (h1 : n.roles.length≤100000) (h2 : n.fresh.length≤100000) (h3 : n.tags.length≤100000) : Ctr sysO 38 [xn n] [] (xi (decE n)) none []:=by
 have l1:=uAh n.roles
 have l2:=Fs.rows_len n.fresh
 have l3:=uAh n.tags
 refine uAA Tryz.func38 rfl rfl rfl rfl rfl rfl ?_;refine uAd (uAb ?_);refine uAt rfl (uAI rfl rfl rfl rfl) ?_;refine uAa rfl rfl rfl (uAe rfl gU) ?_;refine uAf ?_;refine uAd (uAb ?_);refine uAt rfl (uF6 rfl rfl rfl rfl) ?_;refine uAf ?_;refine uAd (uAb ?_);refine uAa rfl rfl rfl (uEJ (ys:=[.ptr (.l 3) 0]) rfl) ?_;refine uAa rfl rfl rfl (uAe rfl gU) ?_;refine uAf ?_;refine uAl (s:=⟨[(1,_,_),(4,_,_)],[(.l 1,_),(.l 3,_)],[],[]⟩) (uAj (⟨sx rfl,sx rfl,trivial⟩) (⟨sx rfl,sx rfl,trivial⟩) trivial) ?_;refine uAd ?_;refine uAd (uAb ?_);refine uAa rfl rfl rfl (uAg rfl gU rfl rfl) ?_;refine uAa rfl rfl rfl (uAi rfl gU rfl rfl rfl rfl) ?_;refine uAJ rfl rfl rfl rfl rfl gU rfl rfl ?_ (fun hh=>by simp at hh); intro hlen;refine uAa rfl rfl rfl (uAc rfl gU) ?_;refine uAf ?_;refine uAv ?_;refine uEu (.l 3) 0 1 rfl rfl rfl ?_;refine uAW (ι:=Nat) { t:=[(1,_,_),(4,_,_),(16,_,_),(17,_,_)],bx:=[(.l 1,_)],ow:=[(.b (.l 3) 0,_)] } (fun k=>[(18,true,xi (k : Int))]) (fun k=>[((.l 3),[.sl 1 (strR (n.roles.take k))])]) (fun k=>k≤n.roles.length∧decA n.roles (n.roles.take k) ((dclL n).drop k)=decE n) (fun k=>n.roles.length - k) (0) (⟨by omega,by simp [decE]⟩) (uAj (⟨sx rfl,sx rfl,sx rfl,sx rfl,sx rfl,trivial⟩) (⟨sx rfl,sx rfl,trivial⟩) (⟨rfl,trivial⟩)) ?_
 intro k hoka
 dsimp only [List.cons_append,List.nil_append]
 obtain ⟨hk,hi⟩:=hoka
 have lt:=List.length_take_le k n.roles
 refine uAd (uAb ?_);refine uAa rfl rfl rfl (uAk rfl rfl gU gU rfl) ?_;refine uAf ?_;refine uAd ?_;refine uAn rfl (fun hc=>?_) (fun hc=>?_)
 ·try simp only [nn,uAh,T.rows_len,Gl.rows_len,Fs.rows_len,Sp.rows_len] at hc
  have hlt : k < n.roles.length:=by omega
  have hx:=uIY hlt
  have hd:=uHF n.roles (n.roles.take k) (n.roles.getD k [])
  have hT:=uBx (l:=n.roles) (d:=[]) hlt
  refine uAp ?_;refine uAd ?_;refine uAv ?_;refine uAd (uAb ?_);refine uAa rfl rfl rfl (uAr rfl rfl gU gU rfl rfl rfl (fun hh=>uBI (by first | omega | (simp at hh ⊢; omega)))) ?_;refine uAa rfl rfl rfl (uAQ rfl gU rfl rfl rfl) ?_;refine uAa rfl rfl rfl (uAe rfl gU) ?_;refine uAf ?_;refine uAd (uAb ?_);refine uAa rfl rfl rfl (uAc rfl gU) ?_;refine uAa rfl rfl rfl (uAc rfl gU) ?_;refine uFo [⟨.l 3,0,[.sl 1 (strR (n.roles.take k))],[.sl 1 (strR (nxS (n.roles.take k) (n.roles.getD k []) false))]⟩] [(0,0,1)] rfl rfl rfl rfl rfl rfl (ps1 rfl) rfl rfl (uFy _ _ _ (by omega)) rfl rfl rfl ?_;refine uAa rfl rfl rfl (uAe rfl gU) ?_;refine uAf ?_;refine uAl (s:=⟨[(1,_,_),(4,_,_),(7,_,_),(16,_,_),(17,_,_),(18,_,_)],[(.l 1,_),(.l 3,_)],[(.b (.l 3) 0,_)],[]⟩) (uAj (⟨sx rfl,sx rfl,sx rfl,sx rfl,sx rfl,sx rfl,trivial⟩) (⟨sx rfl,sx rfl,trivial⟩) (⟨rfl,trivial⟩)) ?_;refine uAd (uAb ?_);refine uAa rfl rfl rfl (uAc rfl gU) ?_;refine uAa rfl rfl rfl (uAk rfl rfl gU gU rfl) ?_;refine uAf ?_;refine uAn rfl (fun hc2=>?_) (fun hc2=>?_)
  ·try simp only [nn,uAh,T.rows_len,Gl.rows_len,Fs.rows_len,Sp.rows_len] at hc2
   have he:=uCV hx (by rw [hd]; exact hc2)
   rw [hi,hd] at he
   refine uAd (uAb ?_);refine uAa rfl rfl rfl (uAc rfl gU) ?_;refine uAa rfl rfl rfl (uAe rfl gU) ?_;refine uAf ?_;refine uAo ?_
   repeat (first | refine tR ?_ | refine bR ?_)
   refine uAs rfl ?_ trivial
   (rw [he]; rfl)
  ·try simp only [nn,uAh,T.rows_len,Gl.rows_len,Fs.rows_len,Sp.rows_len] at hc2
   have he:=uGk hx (hd.trans hc2)
   rw [hi] at he
   have hS:=uHV hc2
   refine uAp ?_;refine uAb ?_;refine uAa rfl rfl rfl (uAy rfl rfl gU gU rfl (IntWalk.i64_in _ (by omega))) ?_;refine uAa rfl rfl rfl (uAc rfl gU) ?_;refine uAf ?_;refine ⟨k + 1,?_,?_,uAj (⟨⟨_,rfl,?_⟩,⟨sx rfl,sx rfl,sx rfl,sx rfl,trivial⟩⟩) (⟨⟨_,rfl,?_⟩,⟨sx rfl,trivial⟩⟩) (⟨rfl,trivial⟩)⟩
   all_goals (first | rfl | omega | (rw [hS,hT]; rfl) | (rw [hT]; exact ⟨by omega,he.symm⟩))
 ·try simp only [nn,uAh,T.rows_len,Gl.rows_len,Fs.rows_len,Sp.rows_len] at hc
  have hke : k=n.roles.length:=by omega
  subst hke
  rw [List.take_length] at hi lt ⊢
  refine uAO ?_
  repeat (first | refine uAG ?_ | refine uAF ?_ | refine uAC rfl ?_)
  refine uAd ?_;refine uAd (uAb ?_);refine uAa rfl rfl rfl (uAg rfl gU rfl rfl) ?_;refine uAa rfl rfl rfl (uAi rfl gU rfl rfl rfl rfl) ?_;refine uAJ rfl rfl rfl rfl rfl gU rfl rfl ?_ (fun hh=>by simp at hh); intro hlen;refine uAa rfl rfl rfl (uAc rfl gU) ?_;refine uAf ?_;refine uAl (s:=⟨[(1,_,_),(4,_,_),(30,_,_),(31,_,_),(32,_,_)],[(.l 1,_),(.l 3,_)],[(.b (.l 3) 0,_)],[]⟩) (uAj (⟨sx rfl,sx rfl,sx rfl,sx rfl,sx rfl,trivial⟩) (⟨sx rfl,sx rfl,trivial⟩) (⟨rfl,trivial⟩)) ?_;refine uAv ?_;refine uAW (ι:=Nat) { t:=[(1,_,_),(4,_,_),(30,_,_),(31,_,_)],bx:=[(.l 1,_)],ow:=[(.b (.l 3) 0,_)] } (fun j=>[(32,true,xi (j : Int))]) (fun j=>[((.l 3),[.sl 1 (strR (n.roles++(n.fresh.take j).map Fs.name))])]) (fun j=>j≤n.fresh.length∧decA n.roles (n.roles++(n.fresh.take j).map Fs.name) ((dclL n).drop (n.roles.length + j))=decE n) (fun j=>n.fresh.length - j) (0) (⟨by omega,by simpa using hi⟩) (uAj (⟨sx rfl,sx rfl,sx rfl,sx rfl,sx rfl,trivial⟩) (⟨⟨_,rfl,by simp⟩,⟨sx rfl,trivial⟩⟩) (⟨rfl,trivial⟩)) ?_
  intro j hokb
  dsimp only [List.cons_append,List.nil_append]
  obtain ⟨hj,hi2⟩:=hokb
  have lt2:=List.length_take_le j n.fresh
  refine uAd (uAb ?_);refine uAa rfl rfl rfl (uAk rfl rfl gU gU rfl) ?_;refine uAf ?_;refine uAd ?_;refine uAn rfl (fun hc3=>?_) (fun hc3=>?_)
  ·try simp only [nn,uAh,T.rows_len,Gl.rows_len,Fs.rows_len,Sp.rows_len] at hc3
   have hlt : j < n.fresh.length:=by omega
   have hx:=uHs hlt
   have hd:=uLF n.roles (n.roles++(n.fresh.take j).map Fs.name) (n.fresh.getD j default).name (n.fresh.getD j default).role
   have hT:=uBx (l:=n.fresh) (d:=default) hlt
   refine uAp ?_;refine uAd ?_;refine uAv ?_;refine uAd (uAb ?_);refine uAa rfl rfl rfl (uAr rfl rfl gU gU rfl rfl rfl (fun hh=>Fs.rows_at (by first | omega | (simp at hh ⊢; omega)))) ?_;refine uAa rfl rfl rfl (uAE rfl gU rfl rfl rfl rfl) ?_;refine uAt rfl (uAM rfl rfl rfl) ?_;refine uAt rfl (uAz rfl rfl rfl rfl rfl rfl rfl) ?_;refine uAf ?_;refine uAd ?_;refine uAd (uAb ?_);refine uAa rfl rfl rfl (uAc rfl gU) ?_;refine uAa rfl rfl rfl (uAg rfl gU rfl rfl) ?_;refine uAa rfl rfl rfl (uAi rfl gU rfl rfl rfl rfl) ?_;refine uFo [⟨.l 3,0,[.sl 1 (strR (n.roles++(n.fresh.take j).map Fs.name))],[.sl 1 (strR (nxS (n.roles++(n.fresh.take j).map Fs.name) (n.fresh.getD j default).name true))]⟩] [(0,0,1)] rfl rfl rfl rfl rfl rfl (ps1 rfl) rfl rfl (uFy _ _ _ (by simp only [List.length_append,List.length_map]; omega)) rfl rfl rfl ?_;refine uAa rfl rfl rfl (uAe rfl gU) ?_;refine uAf ?_;refine uAl (s:=⟨[(1,_,_),(4,_,_),(9,_,_),(10,_,_),(30,_,_),(31,_,_),(32,_,_)],[(.l 1,_),(.l 3,_),(.l 9,_)],[(.b (.l 3) 0,_)],[]⟩) (uAj (⟨sx rfl,sx rfl,sx rfl,sx rfl,sx rfl,sx rfl,sx rfl,trivial⟩) (⟨sx rfl,sx rfl,sx rfl,trivial⟩) (⟨rfl,trivial⟩)) ?_;refine uAd (uAb ?_);refine uAa rfl rfl rfl (uAc rfl gU) ?_;refine uAa rfl rfl rfl (uAk rfl rfl gU gU rfl) ?_
   refine uAf ?_;refine uAn rfl (fun hc4=>?_) (fun hc4=>?_)
   ·try simp only [nn,uAh,T.rows_len,Gl.rows_len,Fs.rows_len,Sp.rows_len] at hc4
    rw [if_pos hc4] at hd
    have he:=uCV hx (by rw [hd]; exact hc4)
    rw [hi2,hd] at he
    refine uAd (uAb ?_);refine uAa rfl rfl rfl (uAc rfl gU) ?_;refine uAa rfl rfl rfl (uAe rfl gU) ?_;refine uAf ?_;refine uAo ?_
    repeat (first | refine tR ?_ | refine bR ?_)
    refine uAs rfl ?_ trivial
    (rw [he]; rfl)
   ·try simp only [nn,uAh,T.rows_len,Gl.rows_len,Fs.rows_len,Sp.rows_len] at hc4
    rw [if_neg (by simpa using hc4)] at hd
    have hS:=uHV hc4
    refine uAp ?_;refine uAd (uAb ?_);refine uAa rfl rfl rfl (uAg rfl gU rfl rfl) ?_;refine uAa rfl rfl rfl (uAi rfl gU rfl rfl rfl rfl) ?_;refine uAa rfl rfl rfl (uAg rfl gU rfl rfl) ?_;refine uAa rfl rfl rfl (uAi rfl gU rfl rfl rfl rfl) ?_;refine uAx rfl rfl rfl rfl rfl rfl gU gU (up (uCa _ _)) rfl ?_;refine uAa rfl rfl rfl (uAX rfl gU) ?_;refine uAf ?_;refine uAl (s:=⟨[(1,_,_),(4,_,_),(30,_,_),(31,_,_),(32,_,_),(48,_,_)],[(.l 1,_),(.l 3,_)],[(.b (.l 3) 0,_)],[]⟩) (uAj (⟨sx rfl,sx rfl,sx rfl,sx rfl,sx rfl,sx rfl,trivial⟩) (⟨sx rfl,sx rfl,trivial⟩) (⟨rfl,trivial⟩)) ?_;refine uAn rfl (fun hc5=>?_) (fun hc5=>?_)
    ·try simp only [nn,uAh,T.rows_len,Gl.rows_len,Fs.rows_len,Sp.rows_len] at hc5
     have hd : dclE n.roles (n.roles++(n.fresh.take j).map Fs.name) ((n.fresh.getD j default).name,some (n.fresh.getD j default).role)=13:=by rw [hd]; exact if_neg (by rw [hc5]; simp)
     have he:=uCV hx (by rw [hd]; simp)
     rw [hi2,hd] at he
     refine uAd (uAb ?_);refine uAa rfl rfl rfl (uAe rfl gU) ?_;refine uAf ?_;refine uAo ?_
     repeat (first | refine tR ?_ | refine bR ?_)
     refine uAs rfl ?_ trivial
     (rw [he]; rfl)
    ·try simp only [nn,uAh,T.rows_len,Gl.rows_len,Fs.rows_len,Sp.rows_len] at hc5
     have hd : dclE n.roles (n.roles++(n.fresh.take j).map Fs.name) ((n.fresh.getD j default).name,some (n.fresh.getD j default).role)=0:=by rw [hd]; exact if_pos hc5
     have he:=uGk hx hd
     rw [hi2] at he
     refine uAp ?_;refine uAb ?_;refine uAa rfl rfl rfl (uAy rfl rfl gU gU rfl (IntWalk.i64_in _ (by omega))) ?_;refine uAa rfl rfl rfl (uAc rfl gU) ?_;refine uAf ?_;refine ⟨j + 1,?_,?_,uAj (⟨⟨_,rfl,?_⟩,⟨sx rfl,sx rfl,sx rfl,sx rfl,trivial⟩⟩) (⟨⟨_,rfl,?_⟩,⟨sx rfl,trivial⟩⟩) (⟨rfl,trivial⟩)⟩
     all_goals (first | rfl | omega | (rw [hS,hT]; simp <;> rfl) | (rw [hT]; exact ⟨by omega,by rw [he]; simp [Nat.add_assoc]⟩))
  ·try simp only [nn,uAh,T.rows_len,Gl.rows_len,Fs.rows_len,Sp.rows_len] at hc3
   have hje : j=n.fresh.length:=by omega
   subst hje
   rw [List.take_length] at hi2 lt2 ⊢
   refine uAO ?_
   repeat (first | refine uAG ?_ | refine uAF ?_ | refine uAC rfl ?_)
   refine uAd ?_;refine uAd (uAb ?_);refine uAa rfl rfl rfl (uAg rfl gU rfl rfl) ?_;refine uAa rfl rfl rfl (uAi rfl gU rfl rfl rfl rfl) ?_;refine uAJ rfl rfl rfl rfl rfl gU rfl rfl ?_ (fun hh=>by simp at hh); intro hlen;refine uAa rfl rfl rfl (uAc rfl gU) ?_;refine uAf ?_;refine uAl (s:=⟨[(4,_,_),(51,_,_),(52,_,_),(53,_,_)],[(.l 3,_)],[(.b (.l 3) 0,_)],[]⟩) (uAj (⟨sx rfl,sx rfl,sx rfl,sx rfl,trivial⟩) (⟨sx rfl,trivial⟩) (⟨rfl,trivial⟩)) ?_;refine uAv ?_;refine uAW (ι:=Nat) { t:=[(4,_,_),(51,_,_),(52,_,_)],bx:=[],ow:=[(.b (.l 3) 0,_)] } (fun i=>[(53,true,xi (i : Int))]) (fun i=>[((.l 3),[.sl 1 (strR (n.roles++(n.fresh.map Fs.name++n.tags.take i)))])]) (fun i=>i≤n.tags.length∧decA n.roles (n.roles++(n.fresh.map Fs.name++n.tags.take i)) ((dclL n).drop (n.roles.length + (n.fresh.length + i)))=decE n) (fun i=>n.tags.length - i) (0) (⟨by omega,by simpa using hi2⟩) (uAj (⟨sx rfl,sx rfl,sx rfl,sx rfl,trivial⟩) (⟨⟨_,rfl,by simp⟩,trivial⟩) (⟨rfl,trivial⟩)) ?_
   intro i hokc
   dsimp only [List.cons_append,List.nil_append]
   obtain ⟨hii,hi3⟩:=hokc
   have lt3:=List.length_take_le i n.tags
   refine uAd (uAb ?_);refine uAa rfl rfl rfl (uAk rfl rfl gU gU rfl) ?_;refine uAf ?_;refine uAd ?_;refine uAn rfl (fun hc6=>?_) (fun hc6=>?_)
   ·try simp only [nn,uAh,T.rows_len,Gl.rows_len,Fs.rows_len,Sp.rows_len] at hc6
    have hlt : i < n.tags.length:=by omega
    have hx:=uLi hlt
    have hd:=uHF n.roles (n.roles++(n.fresh.map Fs.name++n.tags.take i)) (n.tags.getD i [])
    have hT:=uBx (l:=n.tags) (d:=[]) hlt
    refine uAp ?_;refine uAd ?_;refine uAv ?_;refine uAd (uAb ?_);refine uAa rfl rfl rfl (uAr rfl rfl gU gU rfl rfl rfl (fun hh=>uBI (by first | omega | (simp at hh ⊢; omega)))) ?_;refine uAa rfl rfl rfl (uAQ rfl gU rfl rfl rfl) ?_;refine uAa rfl rfl rfl (uAe rfl gU) ?_;refine uAf ?_;refine uAd (uAb ?_);refine uAa rfl rfl rfl (uAc rfl gU) ?_;refine uAa rfl rfl rfl (uAc rfl gU) ?_;refine uFo [⟨.l 3,0,[.sl 1 (strR (n.roles++(n.fresh.map Fs.name++n.tags.take i)))],[.sl 1 (strR (nxS (n.roles++(n.fresh.map Fs.name++n.tags.take i)) (n.tags.getD i []) false))]⟩] [(0,0,1)] rfl rfl rfl rfl rfl rfl (ps1 rfl) rfl rfl (uFy _ _ _ (by simp only [List.length_append,List.length_map]; omega)) rfl rfl rfl ?_;refine uAa rfl rfl rfl (uAe rfl gU) ?_;refine uAf ?_;refine uAl (s:=⟨[(4,_,_),(13,_,_),(51,_,_),(52,_,_),(53,_,_)],[(.l 3,_)],[(.b (.l 3) 0,_)],[]⟩) (uAj (⟨sx rfl,sx rfl,sx rfl,sx rfl,sx rfl,trivial⟩) (⟨sx rfl,trivial⟩) (⟨rfl,trivial⟩)) ?_;refine uAd (uAb ?_);refine uAa rfl rfl rfl (uAc rfl gU) ?_;refine uAa rfl rfl rfl (uAk rfl rfl gU gU rfl) ?_;refine uAf ?_;refine uAn rfl (fun hc7=>?_) (fun hc7=>?_)
    ·try simp only [nn,uAh,T.rows_len,Gl.rows_len,Fs.rows_len,Sp.rows_len] at hc7
     have he:=uCV hx (by rw [hd]; exact hc7)
     rw [hi3,hd] at he
     refine uAd (uAb ?_);refine uAa rfl rfl rfl (uAc rfl gU) ?_;refine uAa rfl rfl rfl (uAe rfl gU) ?_;refine uAf ?_;refine uAo ?_
     repeat (first | refine tR ?_ | refine bR ?_)
     refine uAs rfl ?_ trivial
     (rw [he]; rfl)
    ·try simp only [nn,uAh,T.rows_len,Gl.rows_len,Fs.rows_len,Sp.rows_len] at hc7
     have he:=uGk hx (hd.trans hc7)
     rw [hi3] at he
     have hS:=uHV hc7
     refine uAp ?_;refine uAb ?_;refine uAa rfl rfl rfl (uAy rfl rfl gU gU rfl (IntWalk.i64_in _ (by omega))) ?_;refine uAa rfl rfl rfl (uAc rfl gU) ?_;refine uAf ?_;refine ⟨i + 1,?_,?_,uAj (⟨⟨_,rfl,?_⟩,⟨sx rfl,sx rfl,sx rfl,trivial⟩⟩) (⟨⟨_,rfl,?_⟩,trivial⟩) (⟨rfl,trivial⟩)⟩
     all_goals (first | rfl | omega | (rw [hS,hT]; simp <;> rfl) | (rw [hT]; exact ⟨by omega,by rw [he]; simp [Nat.add_assoc]⟩))
   ·try simp only [nn,uAh,T.rows_len,Gl.rows_len,Fs.rows_len,Sp.rows_len] at hc6
    have hie : i=n.tags.length:=by omega
    subst hie
    rw [List.drop_of_length_le (by rw [uNB]; omega)] at hi3
    refine uAO ?_
    repeat (first | refine uAG ?_ | refine uAF ?_ | refine uAC rfl ?_)
    refine uAd (uAb ?_);refine uAa rfl rfl rfl (uAe rfl gU) ?_;refine uAf ?_;refine uAo ?_
    repeat (first | refine tR ?_ | refine bR ?_)
    refine uAs rfl ?_ trivial
    (rw [← hi3]; rfl)
theorem uHf (n : Nar) (h1 : n.roles.length≤100000) (h2 : n.fresh.length≤100000) (h3 : n.tags.length≤100000) : Ctr sys 38 [xn n] [] (xi (decE n)) none []:=(uHa n h1 h2 h3).wk rfl fun _ h=>h
end Go.Proofs.YteidahabkfgfjaaGreat
namespace Go.Proofs.YteidahabkfgfjaaGreat
open Go Go.Abs
def mapI (l : List (List UInt8 × Int)) (k : List UInt8) : Int:=((l.reverse.find? fun x=>decide (x.1=k)).map (·.2)).getD 0
theorem uLs (l : List (List UInt8 × Int)) (k : List UInt8) : mval (mapL l) k (.int .i64 0)=iv (mapI l k):=by
 rw [mval,uJv,mapI]
 cases l.reverse.find? fun x=>decide (x.1=k) <;> rfl
theorem uLl {w : World} {S : Nat→Nat→Prop} (l : List (List UInt8 × Int)) (k : List UInt8) : CRep w S (.i .i64 (mapI l k)) (mval (mapL l) k (.int .i64 0)):=by
 rw [uLs]; exact CRep.i _ _
def lkN (R : List (List UInt8)) (t : T) : List T:=t.kids.take ((uBq R t).getD 0)
theorem uJ1 {R : List (List UInt8)} {t : T} {k : Nat} (h : uBq R t=some k) (hl : t.kids.length≤k) : xl t.kids=xl (lkN R t):=by
 rw [lkN,h,Option.getD_some,List.take_of_length_le hl]
theorem uNe {R : List (List UInt8)} {t : T} (h : uBq R t=some 1) : X.v (.c (.sl 4 ((T.rows t.kids).take 1)))=xl (lkN R t):=by
 rw [lkN,h,Option.getD_some,xl,T.rows_eq,T.rows_eq,List.map_take]
theorem uM2 {R : List (List UInt8)} {t : T} (h : uBq R t=some 0) : X.v (.c (.sl 4 []))=xl (lkN R t):=by
 rw [lkN,h]; rfl
theorem uN5 {R : List (List UInt8)} {t x : T} (h : x ∈ lkN R t) : x.size < t.size:=uCm (List.mem_of_mem_take h)
theorem uMJ {R K : List (List UInt8)} {t : T} (h : t.kind=3) (hk : uBq R t≠none) : uCj R K t=errs (uCj R K) (lkN R t):=by
 rw [uCS,if_neg (by omega)]
 cases hl : uBq R t with
 | none=>exact absurd hl hk
 | some k=>rw [lkN,hl]; rfl
theorem uDN {α : Type} {f : α→Int} {d : α} {l : List α} {k : Nat} (hk : k < l.length) (h : ∀ j,j < k→f (l.getD j d)=0) (hx : f (l.getD k d)≠0) : errs f l=f (l.getD k d):=by
 induction l generalizing k with
 | nil=>simp at hk
 | cons x r ih =>
  cases k with
  | zero=>rw [errs,if_pos (by simpa using hx)]; rfl
  | succ k =>
   have h0:=h 0 (by omega)
   rw [errs,if_neg (by simpa using h0),ih (k:=k) (by simpa using hk) (fun j hj=>by simpa using h (j + 1) (by omega)) (by simpa using hx)]
   rfl
theorem uDh {α : Type} {f : α→Int} {d : α} {l : List α} (h : ∀ j,j < l.length→f (l.getD j d)=0) : errs f l=0:=by
 refine errs_zero.2 fun x hx=>?_
 obtain ⟨j,hj,rfl⟩:=List.mem_iff_getElem.1 hx
 have := h j hj
 rwa [List.getD_eq_getElem?_getD,List.getElem?_eq_getElem hj] at this
theorem uCz {α : Type} {l : List α} {k : Nat} {d : α} (h : k < l.length) : l.getD k d ∈ l:=by
 rw [List.getD_eq_getElem?_getD,List.getElem?_eq_getElem h]; exact List.getElem_mem _
theorem uCl {α : Type} {f : α→Int} {l : List α} {d : α} {k : Nat} (hi : ∀ j,j < k→f (l.getD j d)=0) (h : f (l.getD k d)=0) : ∀ j,j < k + 1→f (l.getD j d)=0:=by
 intro j hj
 by_cases e : j=k
 ·subst e; exact h
 ·exact hi j (by omega)
def stT (R : List (List UInt8)) (u : Value) (kk : List T) : St:={ t:=[(2,true, .v (.ptr (.l 2) 0)),(7,true,xl kk)],bx:=[(.l 2,[.sl 1 (strR R), .o u])],ow:=[] }
set_option maxHeartbeats 4000000 in
theorem uEW (R : List (List UInt8)) (l : List (List UInt8 × Int)) (b : Nat) : ∀ (n : Nat) (t : T),t.size≤n→n≤900000→Ctr (sys.add b (mapL l)) 41 [xtb R (.map (some b)),xm t] [] (xi (uCj R (l.map (·.1)) t)) none []:=by
 intro n
 induction n with
 | zero=>intro t h; have := t.size_pos; omega
 | succ n ih =>
  intro t ht hn
  have hr:=T.rows_len t.kids
  have hls:=T.len_sizes t.kids
  have hse:=t.size_eq
  refine uAA Tryz.func41 rfl rfl rfl rfl rfl rfl ?_;refine uAd (uAb ?_);refine uAt rfl (uAI rfl rfl rfl rfl) ?_;refine uAt rfl (uAI rfl rfl rfl rfl) ?_;refine uAa rfl rfl rfl (uAe rfl gU) ?_;refine uAf ?_;refine uAd ?_;refine uAd (uAb ?_);refine uAa rfl rfl rfl (uAg rfl gU rfl rfl) ?_;refine uAa rfl rfl rfl (uAi rfl gU rfl rfl rfl rfl) ?_;refine uAa rfl rfl rfl (uAk rfl rfl gU gU rfl) ?_;refine uAf ?_;refine uAl (s:=⟨[(2,_,_),(3,_,_),(13,_,_)],[(.l 2,_),(.l 3,_)],[],[]⟩) (uAj (⟨sx rfl,sx rfl,sx rfl,trivial⟩) (⟨sx rfl,sx rfl,trivial⟩) trivial) ?_;refine uAn rfl (fun hc=>?_) (fun hc=>?_)
  ·try simp only [nn,uAh,T.rows_len,Gl.rows_len,Fs.rows_len,Sp.rows_len] at hc
   refine uMa b (mapL l) (List.mem_cons_self ..) ?_;refine uAd ?_;refine uAd (uAb ?_);refine uAa rfl rfl rfl (uAg rfl gU rfl rfl) ?_;refine uAa rfl rfl rfl (uAi rfl gU rfl rfl rfl rfl) ?_;refine uAa rfl rfl rfl (uAg rfl gU rfl rfl) ?_;refine uAa rfl rfl rfl (uAi rfl gU rfl rfl rfl rfl) ?_;refine uAa rfl rfl rfl (uEH (i:=0) (c:=.i .i64 (mapI l t.name)) (z:=.int .i64 0) rfl rfl gU gU rfl Tryz.underlying61 Tryz.underlying9 (by kernel_rfl) (fun w S=>uLl l t.name) rfl) ?_;refine uAa rfl rfl rfl (uAc rfl gU) ?_;refine uAa rfl rfl rfl (uAu rfl gU rfl) ?_;refine uAa rfl rfl rfl (uAu rfl gU rfl) ?_;refine uAa rfl rfl rfl (uAe rfl gU) ?_;refine uAa rfl rfl rfl (uAe rfl gU) ?_;refine uAf ?_;refine uAl (s:={ t:=[(6,_,_)],bx:=[],ow:=[],mp:=_ }) (uAj (⟨sx rfl,trivial⟩) trivial trivial (.inr rfl)) ?_;refine uAd (uAb ?_);refine uAa rfl rfl rfl (uAc rfl gU) ?_;refine uAa rfl rfl rfl (uAX rfl gU) ?_;refine uAf ?_;refine uAn rfl (fun hc2=>?_) (fun hc2=>?_)
   ·try simp only [nn,uAh,T.rows_len,Gl.rows_len,Fs.rows_len,Sp.rows_len] at hc2
    rw [uEx] at hc2
    refine uAd (uAb ?_);refine uAa rfl rfl rfl (uAe rfl gU) ?_;refine uAf ?_;refine uAo ?_
    repeat (first | refine tR ?_ | refine bR ?_)
    refine uAs rfl ?_ trivial
    (rw [uCS,if_pos hc,if_neg (by rw [hc2]; simp)]; rfl)
   ·try simp only [nn,uAh,T.rows_len,Gl.rows_len,Fs.rows_len,Sp.rows_len] at hc2
    rw [uEx] at hc2
    refine uAp ?_;refine uAd (uAb ?_);refine uAa rfl rfl rfl (uAe rfl gU) ?_;refine uAf ?_;refine uAo ?_
    repeat (first | refine tR ?_ | refine bR ?_)
    refine uAs rfl ?_ trivial
    (rw [uCS,if_pos hc,if_pos hc2]; rfl)
  ·try simp only [nn,uAh,T.rows_len,Gl.rows_len,Fs.rows_len,Sp.rows_len] at hc
   refine uAp ?_;refine uAd (uAb ?_);refine uAa rfl rfl rfl (uAg rfl gU rfl rfl) ?_;refine uAa rfl rfl rfl (uAi rfl gU rfl rfl rfl rfl) ?_;refine uAa rfl rfl rfl (uAe rfl gU) ?_;refine uAf ?_;refine uK8 (stT R (.map (some b)) (lkN R t)) (uBq R t≠none) ?_ (fun hj=>?_)
   ·skip
    refine uAv ?_;refine uAd ?_;refine uAd (uAb ?_);refine uAa rfl rfl rfl (uAm rfl gU rfl rfl rfl rfl rfl) ?_;refine uAx rfl rfl rfl rfl rfl rfl gU gU (Ctr.add (uCU _ _ _)) rfl ?_;refine uAa rfl rfl rfl (uAe rfl gU) ?_;refine uAf ?_;refine uAl (s:={ t:=[(2,_,_),(3,_,_),(7,_,_),(26,_,_)],bx:=[(.l 2,_),(.l 3,_)],ow:=[],mp:=_ }) (uAj (⟨sx rfl,sx rfl,sx rfl,sx rfl,trivial⟩) (⟨sx rfl,sx rfl,trivial⟩) trivial (.inr rfl)) ?_;refine uAn rfl (fun hc3=>?_) (fun hc3=>?_)
    ·have p1 : isT t uFT 2=true:=hc3
     have hk : uBq R t=some 2:=by rw [uBq,if_pos (.inl p1)]
     refine uAp ?_;refine uAn rfl (fun hc4=>?_) (fun hc4=>?_)
     ·skip
      refine uAp ?_;refine ⟨by rw [hk]; simp,uAj ⟨⟨_,rfl,rfl⟩,⟨_,rfl,?_⟩,trivial⟩ ⟨⟨_,rfl,rfl⟩,trivial⟩ trivial⟩;exact tx (uJ1 hk (by simp [isT] at p1; omega))
     ·exact absurd (p1.symm.trans hc4) (by simp)
    ·have n1 : ¬ isT t uFT 2=true:=by rw [Bool.not_eq_true]; exact hc3
     refine uAd (uAb ?_);refine uAa rfl rfl rfl (uAm rfl gU rfl rfl rfl rfl rfl) ?_;refine uAx rfl rfl rfl rfl rfl rfl gU gU (Ctr.add (uCU _ _ _)) rfl ?_;refine uAa rfl rfl rfl (uAe rfl gU) ?_;refine uAf ?_;refine uAn rfl (fun hc5=>?_) (fun hc5=>?_)
     ·have p1 : isT t wEnc 2=true:=hc5
      have hk : uBq R t=some 2:=by rw [uBq,if_pos (.inr p1)]
      refine uAp ?_;refine uAn rfl (fun hc6=>?_) (fun hc6=>?_)
      ·skip
       refine uAp ?_;refine ⟨by rw [hk]; simp,uAj ⟨⟨_,rfl,rfl⟩,⟨_,rfl,?_⟩,trivial⟩ ⟨⟨_,rfl,rfl⟩,trivial⟩ trivial⟩;exact tx (uJ1 hk (by simp [isT] at p1; omega))
      ·exact absurd (p1.symm.trans hc6) (by simp)
     ·have n2 : ¬ isT t wEnc 2=true:=by rw [Bool.not_eq_true]; exact hc5
      have m1 : ¬ (isT t uFT 2=true∨isT t wEnc 2=true):=fun q=>q.elim n1 n2
      refine uAb ?_;refine uAa rfl rfl rfl (uAm rfl gU rfl rfl rfl rfl rfl) ?_;refine uAx rfl rfl rfl rfl rfl rfl gU gU (Ctr.add (uCU _ _ _)) rfl ?_;refine uAa rfl rfl rfl (uAe rfl gU) ?_;refine uAf ?_;refine uAl (s:={ t:=[(2,_,_),(3,_,_),(7,_,_),(26,_,_)],bx:=[(.l 2,_),(.l 3,_)],ow:=[],mp:=_ }) (uAj (⟨sx rfl,sx rfl,sx rfl,sx rfl,trivial⟩) (⟨sx rfl,sx rfl,trivial⟩) trivial (.inr rfl)) ?_;refine uAn rfl (fun hc7=>?_) (fun hc7=>?_)
      ·have p1 : isT t uJw 1=true:=hc7
       have hk : uBq R t=some 1:=by rw [uBq,if_neg m1,if_pos p1]
       refine uAp ?_;refine ⟨by rw [hk]; simp,uAj ⟨⟨_,rfl,rfl⟩,⟨_,rfl,?_⟩,trivial⟩ ⟨⟨_,rfl,rfl⟩,trivial⟩ trivial⟩;exact tx (uJ1 hk (by simp [isT] at p1; omega))
      ·have n3 : ¬ isT t uJw 1=true:=by rw [Bool.not_eq_true]; exact hc7
       refine uAd ?_;refine uAd ?_;refine awp_drawn' (by kernel_rfl) ?_;refine uAD rfl rfl rfl rfl rfl rfl rfl gU rfl rfl rfl rfl rfl ?_;refine uAR rfl rfl rfl rfl rfl rfl rfl gU gU (Ctr.add (uCU _ _ _)) rfl ?_;refine uAq rfl rfl rfl rfl (uAc rfl gU) ?_;refine uAD rfl rfl rfl rfl rfl rfl rfl gU rfl rfl rfl rfl rfl ?_;refine uAq rfl rfl rfl rfl (uAc rfl gU) ?_;refine uAq rfl rfl rfl rfl (uAr (j:=1) rfl rfl (fun hh=>hh) gU rfl rfl (by first | omega | (simp at hh ⊢; omega) | (simp [isT] at hh ⊢; omega)) (fun hh=>T.rows_at (by first | omega | (simp at hh ⊢; omega) | (simp [isT] at hh ⊢; omega)))) ?_;refine uAq rfl rfl rfl rfl (uAE rfl (fun hh=>hh) rfl rfl rfl rfl) ?_;refine uAR rfl rfl rfl rfl rfl rfl rfl gU (fun hh=>gA ((fun hh=>hh) hh) (gA ((fun hh=>hh) hh) (rfl))) (Ctr.add (uHm _ _ _)) rfl ?_;refine uAq rfl rfl rfl rfl (uAH rfl rfl gU (fun _ hi=>gP rfl hi)) ?_;refine uAq rfl rfl rfl rfl (uAe rfl gU) ?_;refine uA1 (by kernel_rfl) ?_;refine uAl (s:={ t:=[(2,_,_),(3,_,_),(7,_,_),(33,_,_)],bx:=[(.l 2,_),(.l 3,_)],ow:=[],mp:=_ }) (uAj (⟨sx rfl,sx rfl,sx rfl,sx rfl,trivial⟩) (⟨sx rfl,sx rfl,trivial⟩) trivial (.inr rfl)) ?_;refine uAn rfl (fun hc8=>?_) (fun hc8=>?_)
       ·have p1 : isT t uGH 2=true∧pubT R (kid t 1)=true:=by rw [← Bool.and_eq_true]; exact hc8
        have hk : uBq R t=some 1:=by rw [uBq,if_neg m1,if_neg n3,if_pos (.inl p1)]
        have hlen : t.kids.length=2 := by have := p1.1; simp [isT] at this; omega
        refine uAp ?_;refine uAn rfl (fun hc9=>?_) (fun hc9=>?_)
        ·skip
         refine uAb ?_;refine uAa rfl rfl rfl (uAc rfl gU) ?_;refine uAa rfl rfl rfl (uDY rfl gU rfl rfl (fun _=>rfl) (fun _=>⟨_,_,_,rfl,gU,rfl⟩) (fun hh=>by first | omega | (simp at hh ⊢; omega) | (simp [isT] at hh ⊢; omega)) (fun hh=>by first | omega | (simp at hh ⊢; omega) | (simp [isT] at hh ⊢; omega))) ?_;refine uAa rfl rfl rfl (uAe rfl gU) ?_;refine uAf ?_;refine ⟨by rw [hk]; simp,uAj ⟨⟨_,rfl,rfl⟩,⟨_,rfl,?_⟩,trivial⟩ ⟨⟨_,rfl,rfl⟩,trivial⟩ trivial⟩;exact tx (uNe hk)
        ·exact absurd (hc8.symm.trans hc9) (by simp)
       ·have n4 : ¬ (isT t uGH 2=true∧pubT R (kid t 1)=true):=by rw [← Bool.and_eq_true,Bool.not_eq_true]; exact hc8
        refine awp_drawn' (by kernel_rfl) ?_;refine uAD rfl rfl rfl rfl rfl rfl rfl gU rfl rfl rfl rfl rfl ?_;refine uAR rfl rfl rfl rfl rfl rfl rfl gU gU (Ctr.add (uCU _ _ _)) rfl ?_;refine uAq rfl rfl rfl rfl (uAc rfl gU) ?_;refine uAD rfl rfl rfl rfl rfl rfl rfl gU rfl rfl rfl rfl rfl ?_;refine uAq rfl rfl rfl rfl (uAc rfl gU) ?_;refine uAq rfl rfl rfl rfl (uAr (j:=1) rfl rfl (fun hh=>hh) gU rfl rfl (by first | omega | (simp at hh ⊢; omega) | (simp [isT] at hh ⊢; omega)) (fun hh=>T.rows_at (by first | omega | (simp at hh ⊢; omega) | (simp [isT] at hh ⊢; omega)))) ?_;refine uAq rfl rfl rfl rfl (uAE rfl (fun hh=>hh) rfl rfl rfl rfl) ?_;refine uAR rfl rfl rfl rfl rfl rfl rfl gU (fun hh=>gA ((fun hh=>hh) hh) (gA ((fun hh=>hh) hh) (rfl))) (Ctr.add (uGM _ _ _)) rfl ?_;refine uAq rfl rfl rfl rfl (uAH rfl rfl gU (fun _ hi=>gP rfl hi)) ?_;refine uAq rfl rfl rfl rfl (uAe rfl gU) ?_;refine uA1 (by kernel_rfl) ?_;refine uAl (s:={ t:=[(2,_,_),(3,_,_),(7,_,_),(33,_,_)],bx:=[(.l 2,_),(.l 3,_)],ow:=[],mp:=_ }) (uAj (⟨sx rfl,sx rfl,sx rfl,sx rfl,trivial⟩) (⟨sx rfl,sx rfl,trivial⟩) trivial (.inr rfl)) ?_;refine uAn rfl (fun hc10=>?_) (fun hc10=>?_)
        ·have p1 : isT t uHb 2=true∧uEm R (kid t 1)=true:=by rw [← Bool.and_eq_true]; exact hc10
         have hk : uBq R t=some 1:=by rw [uBq,if_neg m1,if_neg n3,if_pos (.inr p1)]
         have hlen : t.kids.length=2 := by have := p1.1; simp [isT] at this; omega
         refine uAb ?_;refine uAa rfl rfl rfl (uAc rfl gU) ?_;refine uAa rfl rfl rfl (uDY rfl gU rfl rfl (fun _=>rfl) (fun _=>⟨_,_,_,rfl,gU,rfl⟩) (fun hh=>by first | omega | (simp at hh ⊢; omega) | (simp [isT] at hh ⊢; omega)) (fun hh=>by first | omega | (simp at hh ⊢; omega) | (simp [isT] at hh ⊢; omega))) ?_;refine uAa rfl rfl rfl (uAe rfl gU) ?_;refine uAf ?_;refine ⟨by rw [hk]; simp,uAj ⟨⟨_,rfl,rfl⟩,⟨_,rfl,?_⟩,trivial⟩ ⟨⟨_,rfl,rfl⟩,trivial⟩ trivial⟩;exact tx (uNe hk)
        ·have n5 : ¬ (isT t uHb 2=true∧uEm R (kid t 1)=true):=by rw [← Bool.and_eq_true,Bool.not_eq_true]; exact hc10
         have m2 : ¬ ((isT t uGH 2=true∧pubT R (kid t 1)=true)∨(isT t uHb 2=true∧uEm R (kid t 1)=true)):=fun q=>q.elim n4 n5
         refine uAd ?_;refine uAd (uAb ?_);refine uAa rfl rfl rfl (uAm rfl gU rfl rfl rfl rfl rfl) ?_;refine uAa rfl rfl rfl (uAm rfl gU rfl rfl rfl rfl rfl) ?_;refine uAx rfl rfl rfl rfl rfl rfl gU gU (Ctr.add (uHm _ _ _)) rfl ?_;refine uAa rfl rfl rfl (uAe rfl gU) ?_;refine uAf ?_;refine uAn rfl (fun hc11=>?_) (fun hc11=>?_)
         ·have p1 : pubT R t=true:=hc11
          have hk : uBq R t=some 0:=by rw [uBq,if_neg m1,if_neg n3,if_neg m2,if_pos (.inl p1)]
          refine uAp ?_;refine uAn rfl (fun hc12=>?_) (fun hc12=>?_)
          ·skip
           refine uAb ?_;refine uAa rfl rfl rfl (uAe rfl gU) ?_;refine uAf ?_;refine ⟨by rw [hk]; simp,uAj ⟨⟨_,rfl,rfl⟩,⟨_,rfl,?_⟩,trivial⟩ ⟨⟨_,rfl,rfl⟩,trivial⟩ trivial⟩;exact tx (uM2 hk)
          ·exact absurd (hc11.symm.trans hc12) (by simp)
         ·have n6 : ¬ pubT R t=true:=by rw [Bool.not_eq_true]; exact hc11
          refine awp_drawn' (by kernel_rfl) ?_;refine uAD rfl rfl rfl rfl rfl rfl rfl gU rfl rfl rfl rfl rfl ?_;refine uAR rfl rfl rfl rfl rfl rfl rfl gU gU (Ctr.add (uCU _ _ _)) rfl ?_;refine uAq rfl rfl rfl rfl (uAc rfl gU) ?_;refine uAD rfl rfl rfl rfl rfl rfl rfl gU rfl rfl rfl rfl rfl ?_;refine uAq rfl rfl rfl rfl (uAc rfl gU) ?_;refine uAq rfl rfl rfl rfl (uAr (j:=0) rfl rfl (fun hh=>hh) gU rfl rfl (by first | omega | (simp at hh ⊢; omega) | (simp [isT] at hh ⊢; omega)) (fun hh=>T.rows_at (by first | omega | (simp at hh ⊢; omega) | (simp [isT] at hh ⊢; omega)))) ?_;refine uAq rfl rfl rfl rfl (uAE rfl (fun hh=>hh) rfl rfl rfl rfl) ?_;refine uAR rfl rfl rfl rfl rfl rfl rfl gU (fun hh=>gA ((fun hh=>hh) hh) (gA ((fun hh=>hh) hh) (rfl))) (Ctr.add (uEM _ _ _)) rfl ?_;refine uAq rfl rfl rfl rfl (uAH rfl rfl gU (fun _ hi=>gP rfl hi)) ?_;refine uAq rfl rfl rfl rfl (uAc rfl gU) ?_;refine uAD rfl rfl rfl rfl rfl rfl rfl gU rfl rfl rfl rfl rfl ?_;refine uAq rfl rfl rfl rfl (uAc rfl gU) ?_;refine uAq rfl rfl rfl rfl (uAr (j:=1) rfl rfl (fun hh=>hh) gU rfl rfl (by first | omega | (simp at hh ⊢; omega) | (simp [isT] at hh ⊢; omega)) (fun hh=>T.rows_at (by first | omega | (simp at hh ⊢; omega) | (simp [isT] at hh ⊢; omega)))) ?_;refine uAq rfl rfl rfl rfl (uAE rfl (fun hh=>hh) rfl rfl rfl rfl) ?_;refine uAR rfl rfl rfl rfl rfl rfl rfl gU (fun hh=>gA ((fun hh=>hh) hh) (gA ((fun hh=>hh) hh) (rfl))) (Ctr.add (uEM _ _ _)) rfl ?_
          refine uAq rfl rfl rfl rfl (uAH rfl rfl gU (fun _ hi=>gP rfl hi)) ?_;refine uAq rfl rfl rfl rfl (uAc rfl gU) ?_;refine uAq rfl rfl rfl rfl (uAc rfl gU) ?_;refine uAq rfl rfl rfl rfl (uAr (j:=0) rfl rfl (fun hh=>hh) gU rfl rfl (by first | omega | (simp at hh ⊢; omega) | (simp [isT] at hh ⊢; omega)) (fun hh=>T.rows_at (by first | omega | (simp at hh ⊢; omega) | (simp [isT] at hh ⊢; omega)))) ?_;refine uAq rfl rfl rfl rfl (uA0 rfl (fun hh=>hh) rfl rfl) ?_;refine uAq rfl rfl rfl rfl (uAQ rfl (fun hh=>hh) rfl rfl rfl) ?_;refine uAq rfl rfl rfl rfl (uAc rfl gU) ?_;refine uAq rfl rfl rfl rfl (uAr (j:=1) rfl rfl (fun hh=>hh) gU rfl rfl (by first | omega | (simp at hh ⊢; omega) | (simp [isT] at hh ⊢; omega)) (fun hh=>T.rows_at (by first | omega | (simp at hh ⊢; omega) | (simp [isT] at hh ⊢; omega)))) ?_;refine uAq rfl rfl rfl rfl (uA0 rfl (fun hh=>hh) rfl rfl) ?_;refine uAq rfl rfl rfl rfl (uAQ rfl (fun hh=>hh) rfl rfl rfl) ?_;refine uAq rfl rfl rfl rfl (uA2 rfl rfl (fun hh=>hh) (fun hh=>hh) rfl) ?_;refine uAq rfl rfl rfl rfl (uAH rfl rfl gU (fun _ hi=>gP rfl hi)) ?_;refine uAq rfl rfl rfl rfl (uAe rfl gU) ?_;refine uA1 (by kernel_rfl) ?_;refine uAl (s:={ t:=[(2,_,_),(54,_,_)],bx:=[(.l 2,_)],ow:=[],mp:=_ }) (uAj (⟨sx rfl,sx rfl,trivial⟩) (⟨sx rfl,trivial⟩) trivial (.inr rfl)) ?_
          refine uAn rfl (fun hc13=>?_) (fun hc13=>?_)
          ·have p1 : shkT R t=true:=by rw [← hc13]; rfl
           have hk : uBq R t=some 0:=by rw [uBq,if_neg m1,if_neg n3,if_neg m2,if_pos (.inr p1)]
           refine uAb ?_;refine uAa rfl rfl rfl (uAe rfl gU) ?_;refine uAf ?_;refine ⟨by rw [hk]; simp,uAj ⟨⟨_,rfl,rfl⟩,⟨_,rfl,?_⟩,trivial⟩ ⟨⟨_,rfl,rfl⟩,trivial⟩ trivial⟩;exact tx (uM2 hk)
          ·have n7 : ¬ shkT R t=true:=by rw [Bool.not_eq_true,← hc13]; rfl
           have hk : uBq R t=none:=by rw [uBq,if_neg m1,if_neg n3,if_neg m2,if_neg (fun q=>q.elim n6 n7)]
           refine uAd (uAb ?_);refine uAa rfl rfl rfl (uAe rfl gU) ?_;refine uAf ?_;refine uAo ?_
           repeat (first | refine tR ?_ | refine bR ?_)
           refine uAs rfl ?_ trivial
           (rw [uCS,if_neg (by omega),hk]; rfl)
   ·have hE:=uMJ (K:=l.map (·.1)) hc hj
    have hrk:=T.rows_len (lkN R t)
    rw [hE]
    refine uAd ?_;refine uAd (uAb ?_);refine uAa rfl rfl rfl (uAc rfl gU) ?_;refine uAJ rfl rfl rfl rfl rfl gU rfl rfl ?_ (fun hh=>by simp at hh); intro hlen;refine uAa rfl rfl rfl (uAc rfl gU) ?_;refine uAf ?_;refine uAv ?_;refine uAW (ι:=Nat) { t:=[(2,_,_),(85,_,_),(86,_,_)],bx:=[(.l 2,_)],ow:=[],mp:=_ } (fun k=>[(87,true,xi (k : Int))]) (fun k=>[]) (fun k=>k≤(lkN R t).length ∧ ∀ j,j < k→uCj R (l.map (·.1)) ((lkN R t).getD j default)=0) (fun k=>(lkN R t).length - k) (0) (⟨by omega,fun j hj=>by omega⟩) (uAj (⟨sx rfl,sx rfl,sx rfl,sx rfl,trivial⟩) (⟨sx rfl,trivial⟩) trivial (.inr rfl)) ?_
    intro k hok
    dsimp only [List.cons_append,List.nil_append]
    obtain ⟨hk,hi⟩:=hok
    refine uAd (uAb ?_);refine uAa rfl rfl rfl (uAk rfl rfl gU gU rfl) ?_;refine uAf ?_;refine uAd ?_;refine uAn rfl (fun hc14=>?_) (fun hc14=>?_)
    ·try simp only [nn,uAh,T.rows_len,Gl.rows_len,Fs.rows_len,Sp.rows_len] at hc14
     have hlt : k < (lkN R t).length:=by omega
     have hks:=uN5 (uCz (d:=default) hlt)
     refine uAp ?_;refine uAd ?_;refine uAv ?_;refine uAd (uAb ?_);refine uAa rfl rfl rfl (uAr rfl rfl gU gU rfl rfl rfl (fun hh=>T.rows_at (by first | omega | (simp at hh ⊢; omega) | (simp [isT] at hh ⊢; omega)))) ?_;refine uAa rfl rfl rfl (uAE rfl gU rfl rfl rfl rfl) ?_;refine uAt rfl (uAM rfl rfl rfl) ?_;refine uAt rfl (uAz rfl rfl rfl rfl rfl rfl rfl) ?_;refine uAf ?_;refine uAd (uAb ?_);refine uAa rfl rfl rfl (uAm rfl gU rfl rfl rfl rfl rfl) ?_;refine uAa rfl rfl rfl (uAm rfl gU rfl rfl rfl rfl rfl) ?_;refine uAx rfl rfl rfl rfl rfl rfl gU gU (ih ((lkN R t).getD k default) (by omega) (by omega)) rfl ?_;refine uAa rfl rfl rfl (uAe rfl gU) ?_;refine uAf ?_;refine uAl (s:={ t:=[(2,_,_),(10,_,_),(85,_,_),(86,_,_),(87,_,_)],bx:=[(.l 2,_)],ow:=[],mp:=_ }) (uAj (⟨sx rfl,sx rfl,sx rfl,sx rfl,sx rfl,trivial⟩) (⟨sx rfl,trivial⟩) trivial (.inr rfl)) ?_;refine uAd (uAb ?_);refine uAa rfl rfl rfl (uAc rfl gU) ?_;refine uAa rfl rfl rfl (uAk rfl rfl gU gU rfl) ?_;refine uAf ?_;refine uAn rfl (fun hc15=>?_) (fun hc15=>?_)
     ·try simp only [nn,uAh,T.rows_len,Gl.rows_len,Fs.rows_len,Sp.rows_len] at hc15
      refine uAd (uAb ?_);refine uAa rfl rfl rfl (uAc rfl gU) ?_;refine uAa rfl rfl rfl (uAe rfl gU) ?_;refine uAf ?_;refine uAo ?_
      repeat (first | refine tR ?_ | refine bR ?_)
      refine uAs rfl ?_ trivial
      (rw [uDN hlt hi hc15]; rfl)
     ·try simp only [nn,uAh,T.rows_len,Gl.rows_len,Fs.rows_len,Sp.rows_len] at hc15
      refine uAp ?_;refine uAb ?_;refine uAa rfl rfl rfl (uAy rfl rfl gU gU rfl (IntWalk.i64_in _ (by omega))) ?_;refine uAa rfl rfl rfl (uAc rfl gU) ?_;refine uAf ?_;refine ⟨k + 1,?_,?_,uAj (⟨⟨_,rfl,?_⟩,⟨sx rfl,sx rfl,sx rfl,trivial⟩⟩) (⟨sx rfl,trivial⟩) trivial (.inr rfl)⟩
      all_goals (first | rfl | omega | exact ⟨by omega,uCl hi hc15⟩)
    ·try simp only [nn,uAh,T.rows_len,Gl.rows_len,Fs.rows_len,Sp.rows_len] at hc14
     have hke : k=(lkN R t).length:=by omega
     subst hke
     refine uAO ?_
     repeat (first | refine uAG ?_ | refine uAF ?_ | refine uAC rfl ?_)
     refine uAd (uAb ?_);refine uAa rfl rfl rfl (uAe rfl gU) ?_;refine uAf ?_;refine uAo ?_
     repeat (first | refine tR ?_ | refine bR ?_)
     refine uAs rfl ?_ trivial
     (rw [uDh hi]; rfl)
end Go.Proofs.YteidahabkfgfjaaGreat
namespace Go.Proofs.YteidahabkfgfjaaGreat
open Go Go.Abs
def idx0 (l : List (List UInt8)) (s : List UInt8) : Int:=if idxF (fun x=>decide (x=s) && decide (s≠[])) l < 0 then 0 else idxF (fun x=>decide (x=s) && decide (s≠[])) l
def chR (l : List Tk) (ws : List (List UInt8)) (p : PS) : Int × PS:=if (uAw l [] p).2.bad=true∨idx0 ws (uAw l [] p).1=0 then (0,p.off) else (idx0 ws (uAw l [] p).1,(uAw l [] p).2)
def uBo : List (List UInt8):=[] :: [] :: sortW
def uBA : List (List UInt8):=[] :: kindW
def uDu : List (List UInt8):=[] :: uBy
def uCs : List (List UInt8):=[[],uGI]
def frRA (l : List Tk) (role : List UInt8) : Nat→PS→List Fs→List Fs × PS
 | 0,p,out=>(out,p)
 | n + 1,p,out =>
  if (chR l uBo (uAw l [] p).2).2.bad=true then (out++[⟨role,(uAw l [] p).1,(chR l uBo (uAw l [] p).2).1⟩],(chR l uBo (uAw l [] p).2).2)
  else if symQ l (chR l uBo (uAw l [] p).2).2 [44]=true then frRA l role n (chR l uBo (uAw l [] p).2).2.go (out++[⟨role,(uAw l [] p).1,(chR l uBo (uAw l [] p).2).1⟩])
  else (out++[⟨role,(uAw l [] p).1,(chR l uBo (uAw l [] p).2).1⟩],(chR l uBo (uAw l [] p).2).2)
def frRd (l : List Tk) (p : PS) (out : List Fs) : List Fs × PS:=frRA l (uAw l [] p).1 (l.length + 1) (uAP l [58] (uAw l [] p).2) out
def uEd (l : List Tk) (line : Int) (p : PS) : Sp × PS :=
 let a:=uAw l [] p
 let b:=uAw l [] (uAP l [62] (uAP l [45] a.2))
 let t:=uAZ l (l.length + 1) (uAP l [58] b.2)
 (⟨a.1,b.1,t.1,line⟩,t.2)
def uDD (l : List Tk) (line : Int) (p : PS) : Gl × PS :=
 let k:=chR l uBA p
 let r:=uAw l [] k.2
 let w:=if uBm k.1=true then uAw l [] r.2 else ([],r.2)
 let d:=uA6 l (uAZ l (l.length + 1)) (uAP l [58] w.2)
 (⟨k.1,r.1,w.1,d.1,line⟩,d.2)
def uB2 (l : List Tk) (n : Nar) (line : Int) (k : Int) (q : PS) : Nar × PS :=
 if k=1 then ({ n with roles:=n.roles++(uBt l q).1 },(uBt l q).2)
 else if k=2 then ({ n with fresh:=(frRd l q n.fresh).1 },(frRd l q n.fresh).2)
 else if k=3 then ({ n with tags:=n.tags++(uBt l q).1 },(uBt l q).2)
 else if k=4 then ({ n with steps:=n.steps++[(uEd l line q).1] },(uEd l line q).2)
 else if k=5 then ({ n with goals:=n.goals++[(uDD l line q).1] },(uDD l line q).2)
 else (n,q)
def uDO (l : List Tk) (n : Nar) (p : PS) : Nar × PS :=
 ((uB2 l n (uCk l p) (chR l uDu p).1 (chR l uDu p).2).1,uAP l [59] (uB2 l n (uCk l p) (chR l uDu p).1 (chR l uDu p).2).2)
def uCt (l : List Tk) : Nat→Nar→PS→Nar × PS
 | 0,n,p=>(n,p)
 | m + 1,n,p=>if p.bad=true then (n,p) else if symQ l p [125]=true then (n,p) else uCt l m (uDO l n p).1 (uDO l n p).2
def uJd (l : List Tk) : Nar × PS :=
 let a:=chR l uCs ⟨0,false⟩
 let b:=uAw l [] a.2
 let r:=uCt l (l.length + 2) { nar0 with name:=b.1 } (uAP l [123] b.2)
 (r.1,uAP l [125] r.2)
def Keeps {α : Type} (f : PS→α × PS) : Prop:=∀ p : PS,p.bad=true→(f p).2=p
theorem uKQ {p : PS} (h : p.bad=true) : p.off=p:=by cases p; simp [PS.off] at h ⊢; exact h
theorem uCw {l : List Tk} {p : PS} {c : List UInt8} (h : p.bad=true) : symQ l p c=false:=by simp [symQ,h]
theorem uLt {l : List Tk} {p : PS} {ws : List (List UInt8)} (h : p.bad=true) : namQ l p ws=false:=by simp [namQ,h]
theorem uBZ (l : List Tk) (c : List UInt8) {p : PS} (h : p.bad=true) : uAP l c p=p:=by rw [uAP,uCw h]; exact uKQ h
theorem uBF (l : List Tk) (ws : List (List UInt8)) : Keeps (uAw l ws):=fun p h=>by rw [uAw,uLt h]; exact uKQ h
theorem uLw {α : Type} {l : List Tk} {f : PS→α × PS} {p : PS} {out : List α} (n : Nat) (h : p.bad=true) : uBL l f n p out=(out,p):=uEX (uCw h) n
theorem uDE {α : Type} {l : List Tk} {f : PS→α × PS} (hf : Keeps f) : Keeps (uA6 l f):=fun p h=>by
 unfold uA6; rw [hf p h,uLw _ h]
theorem uEl (l : List Tk) (n : Nat) : Keeps (uBp l n):=fun p h=>by
 cases n with
 | zero=>rfl
 | succ n=>rw [uBp,if_neg (by rw [uCw h]; simp),uBF l [] p h,if_neg (by rw [uCw h]; simp)]
theorem uI5 (l : List Tk) (n : Nat) : Keeps (uAZ l n):=fun p h=>by
 cases n with
 | zero=>rfl
 | succ n=>rw [uAZ,if_neg (by rw [uCw h]; simp),uBF l [] p h,if_neg (by rw [uCw h]; simp)]
theorem Keeps.good {α : Type} {f : PS→α × PS} (hf : Keeps f) {p : PS} (h : (f p).2.bad=false) : p.bad=false:=by
 cases hb : p.bad with
 | false=>rfl
 | true=>rw [hf p hb,hb] at h; exact h
theorem uCI {l : List Tk} {c : List UInt8} {p : PS} (h : (uAP l c p).bad=false) : p.bad=false:=by
 cases hb : p.bad with
 | false=>rfl
 | true=>rw [uBZ l c hb,hb] at h; exact h
def Agr {α : Type} (f g : PS→α × PS) : Prop:=∀ p : PS,(f p).2=(g p).2∧((f p).2.bad=false→(f p).1=(g p).1)
theorem uHP {α : Type} {l : List Tk} {f g : PS→α × PS} (h : Agr f g) : ∀ (n : Nat) (p : PS) (out out' : List α),(p.bad=false→out=out') →
  (uBL l f n p out).2=(uBL l g n p out').2∧((uBL l f n p out).2.bad=false→(uBL l f n p out).1=(uBL l g n p out').1)
 | 0,p,out,out',ho=>⟨rfl,ho⟩
 | n + 1,p,out,out',ho=>by
  rw [uBL,uBL]
  split
  ·rename_i hq
   have hb:=(uB3 hq).2
   obtain ⟨e1,e2⟩:=h p.go
   have ih:=uHP (l:=l) h n (f p.go).2 (out++[(f p.go).1]) (out'++[(g p.go).1]) fun hz=>by rw [ho hb,e2 hz]
   rw [e1] at ih ⊢
   exact ih
  ·exact ⟨rfl,ho⟩
theorem uHU {α : Type} {l : List Tk} {f g : PS→α × PS} (h : Agr f g) : Agr (uA6 l f) (uA6 l g):=fun p=>by
 unfold uA6
 obtain ⟨e1,e2⟩:=h p
 have := uHP (l := l) h (l.length + 1) (f p).2 [(f p).1] [(g p).1] fun hz=>by rw [e2 hz]
 rw [e1] at this ⊢
 exact this
theorem uFk (l : List Tk) : ∀ n : Nat,Agr (uAZ l n) (uBp l n)
 | 0,p=>⟨rfl,fun _=>rfl⟩
 | n + 1,p=>by
  have ih:=uFk l n
  have ihm:=uHU (l:=l) ih
  rw [uAZ,uBp]
  split
  ·have e1:=(ih p.go).1
   have e2:=(ihm (uAP l [44] (uAZ l n p.go).2)).1
   rw [e1] at e2
   have e3 : (uAP l [62] (uA6 l (uAZ l n) (uAP l [44] (uAZ l n p.go).2)).2)=uAP l [62] (uA6 l (uBp l n) (uAP l [44] (uBp l n p.go).2)).2:=by rw [e1,e2]
   split
   ·rename_i hb
    exact ⟨e3,fun hz=>by dsimp only at hz; rw [hb] at hz; cases hz⟩
   ·rename_i hb
    refine ⟨e3,fun _=>?_⟩
    have hb : (uAP l [62] (uA6 l (uAZ l n) (uAP l [44] (uAZ l n p.go).2)).2).bad=false:=by simpa using hb
    have h1:=uCI hb
    have h2:=(uDE (l:=l) (uI5 l n)).good h1
    have h3:=uCI h2
    dsimp only
    rw [(ih p.go).2 h3,(ihm _).2 h1,e1]
  ·split
   ·split
    ·exact ⟨rfl,fun _=>rfl⟩
    ·have e2:=(ihm (uAw l [] p).2.go).1
     dsimp only
     rw [e2]
     refine ⟨rfl,fun hz=>?_⟩
     rw [← e2] at hz
     rw [(ihm _).2 (uCI hz)]
   ·exact ⟨rfl,fun _=>rfl⟩
theorem uFU {p : List UInt8→Bool} : ∀ {l : List (List UInt8)},(∃ x ∈ l,p x=true)→0≤idxF p l
 | [],h=>by simp at h
 | x :: r,h=>by
  rw [idxF]
  split
  ·omega
  ·rename_i hx
   have : 0≤idxF p r:=uFU (by
    obtain ⟨y,hy,hp⟩:=h
    rcases List.mem_cons.1 hy with q | q
    ·subst q; exact absurd hp hx
    ·exact ⟨y,q,hp⟩)
   rw [if_neg (by omega)]; omega
theorem uIy {p : List UInt8→Bool} : ∀ {l : List (List UInt8)},(∀ x ∈ l,p x=false)→idxF p l = -1
 | [],_=>rfl
 | x :: r,h=>by
  rw [idxF,if_neg (by rw [h x (by simp)]; simp),uIy fun y hy=>h y (by simp [hy]),if_pos (by omega)]
theorem uGV {p q : List UInt8→Bool} : ∀ {l : List (List UInt8)},(∀ x ∈ l,p x=q x)→idxF p l=idxF q l
 | [],_=>rfl
 | x :: r,h=>by rw [idxF,idxF,h x (by simp),uGV fun y hy=>h y (by simp [hy])]
theorem uEU (s : List UInt8) : ∀ l : List (List UInt8),uBn l s=idxF (fun x=>decide (x=s)) l
 | []=>rfl
 | x :: l=>by
  rw [uBn,idxF,uEU s l]
  by_cases h : x=s
  ·rw [if_pos h,if_pos (by simp [h])]
  ·have h' : ¬decide (x=s)=true:=by simp [h]
   rw [if_neg h,if_neg h']
theorem uE1 {l : List (List UInt8)} {s : List UInt8} (h : l.contains s=true) : 0≤uBn l s:=by
 rw [uEU]
 exact uFU ⟨s,by simpa using h,by simp⟩
theorem uNH {ws : List (List UInt8)} (hne : [] ∉ ws) (s : List UInt8) : ∀ k : Nat,0 < k→idx0 (List.replicate k []++ws) s=if ws.contains s=true then uBn ws s + k else 0:=by
 have key : ∀ k : Nat,idxF (fun x=>decide (x=s) && decide (s≠[])) (List.replicate k []++ws)=if ws.contains s=true then uBn ws s + k else -1:=by
  intro k
  induction k with
  | zero =>
   show idxF _ ws=_
   split
   ·rename_i hc
    have hm : s ∈ ws:=by simpa using hc
    have hs : s≠[]:=fun q=>hne (q ▸ hm)
    rw [uEU,show ((0 : Nat) : Int)=0 from rfl,Int.add_zero]
    exact uGV fun x _=>by simp [hs]
   ·rename_i hc
    refine uIy fun x hx=>?_
    have : x≠s:=fun q=>by subst q; exact hc (by simpa using hx)
    simp [this]
  | succ k ih =>
   rw [List.replicate_succ,List.cons_append,idxF,if_neg (by simp),ih]
   split
   ·rename_i hc
    have := uE1 hc
    rw [if_neg (by omega)]; push_cast; omega
   ·rw [if_pos (by omega)]
 intro k hk
 unfold idx0
 rw [key k]
 split
 ·rename_i hc
  have := uE1 hc
  rw [if_neg (by omega)]
 ·rw [if_pos (by omega)]
theorem uH8 (l : List Tk) {ws : List (List UInt8)} (hne : [] ∉ ws) (h0 : ws≠[]) (k : Nat) (hk : 0 < k) (p : PS) :
  chR l (List.replicate k []++ws) p=(if namQ l p ws=true then uBn ws (uAw l ws p).1 + k else 0,(uAw l ws p).2):=by
 unfold chR
 rw [uNH hne _ k hk]
 by_cases h1 : namQ l p []=true
 ·have e1 : uAw l [] p=((l.getD p.at' tk0).text,p.go):=by rw [uAw,if_pos h1]
  have hb : p.bad=false:=by
   simp only [namQ,Bool.and_eq_true,Bool.not_eq_true'] at h1; exact h1.1.1.1
  rw [e1]
  dsimp only
  by_cases hc : ws.contains (l.getD p.at' tk0).text=true
  ·have h2 : namQ l p ws=true:=by
    simp only [namQ,Bool.and_eq_true] at h1 ⊢
    exact ⟨h1.1,by rw [hc]; simp⟩
   have e2 : uAw l ws p=((l.getD p.at' tk0).text,p.go):=by rw [uAw,if_pos h2]
   have := uE1 hc
   rw [if_pos hc,if_neg (by rintro (q | q); { simp [PS.go,hb] at q }; { omega }),if_pos h2,e2]
  ·have h2 : ¬namQ l p ws=true:=by
    simp only [namQ,Bool.and_eq_true,Bool.or_eq_true]
    rintro ⟨_,q | q⟩
    ·exact h0 (by simpa using q)
    ·exact hc q
   have e2 : uAw l ws p=([],p.off):=by rw [uAw,if_neg h2]
   rw [if_neg hc,if_pos (.inr rfl),if_neg h2,e2]
 ·have e1 : uAw l [] p=([],p.off):=by rw [uAw,if_neg h1]
  have h2 : ¬namQ l p ws=true:=by
   intro q
   apply h1
   simp only [namQ,Bool.and_eq_true] at q ⊢
   exact ⟨q.1,by simp⟩
  have e2 : uAw l ws p=([],p.off):=by rw [uAw,if_neg h2]
  rw [e1,if_pos (.inl rfl),if_neg h2,e2]
theorem uFF {l : List Tk} {ws : List (List UInt8)} {p : PS} (h : (uAw l ws p).2.bad=false) : namQ l p ws=true:=by
 cases hq : namQ l p ws with
 | true=>rfl
 | false=>rw [uAw,hq] at h; simp [PS.off] at h
theorem uK5 (l : List Tk) (p : PS) : (chR l uBo p).2=(uAw l sortW p).2∧((chR l uBo p).2.bad=false→(chR l uBo p).1=2 + uBn sortW (uAw l sortW p).1):=by
 have h : chR l uBo p=_:=uH8 l (ws:=sortW) (by decide) (by decide) 2 (by omega) p
 rw [h]
 refine ⟨rfl,fun hb=>?_⟩
 rw [if_pos (uFF hb)]; omega
theorem uN7 (l : List Tk) (p : PS) : (chR l uBA p).2=(uAw l kindW p).2∧(chR l uBA p).1=1 + uBn kindW (uAw l kindW p).1:=by
 have h : chR l uBA p=_:=uH8 l (ws:=kindW) (by decide) (by decide) 1 (by omega) p
 rw [h]
 refine ⟨rfl,?_⟩
 split
 ·omega
 ·rename_i hq
  rw [uAw,if_neg hq]; rfl
theorem uNL (l : List Tk) (p : PS) : (chR l uDu p).2=(uAw l uBy p).2∧(chR l uDu p).1=1 + uBn uBy (uAw l uBy p).1:=by
 have h : chR l uDu p=_:=uH8 l (ws:=uBy) (by decide) (by decide) 1 (by omega) p
 rw [h]
 refine ⟨rfl,?_⟩
 split
 ·omega
 ·rename_i hq
  rw [uAw,if_neg hq]; rfl
theorem uN1 (l : List Tk) (p : PS) : (chR l uCs p).2=(uAw l [uGI] p).2:=by
 have h : chR l uCs p=_:=uH8 l (ws:=[uGI]) (by decide) (by decide) 1 (by omega) p
 rw [h]
theorem uKv {l : List Tk} {role : List UInt8} {p : PS} {out : List Fs} (h : p.bad=true) : ∀ n,uB1 l role n p out=(out,p)
 | 0=>rfl
 | n + 1=>by rw [uB1,if_pos h]
theorem uMr (l : List Tk) (role : List UInt8) : ∀ (n : Nat) (p : PS) (out : List Fs),0 < n→l.length < n + p.at' →
  (frRA l role n p out).2=(uB1 l role n p out).2∧((frRA l role n p out).2.bad=false→(frRA l role n p out).1=(uB1 l role n p out).1)
 | 0,p,out,h,_=>by omega
 | n + 1,p,out,_,hn=>by
  have hc:=uK5 l (uAw l [] p).2
  have hk:=uBF l []
  have hk2:=uBF l sortW
  by_cases hp : p.bad=true
  ·have e1:=hk p hp
   have e2 : (chR l uBo (uAw l [] p).2).2=p:=by rw [hc.1,e1,hk2 p hp]
   rw [frRA,uB1,if_pos hp,e2,if_pos hp]
   exact ⟨rfl,fun q=>by dsimp only at q; rw [hp] at q; cases q⟩
  ·rw [frRA,uB1,if_neg hp,hc.1]
   split
   ·rename_i hb
    rw [if_neg (by rw [uCw hb]; simp)]
    exact ⟨rfl,fun q=>by dsimp only at q; rw [hb] at q; cases q⟩
   ·rename_i hb
    have hb : (uAw l sortW (uAw l [] p).2).2.bad=false:=by simpa using hb
    have hv:=hc.2 (by rw [hc.1]; exact hb)
    rw [hv]
    split
    ·rename_i hq
     have h1:=(uB3 hq).1
     have h2:=(uA5 l [] p).1
     have h3:=(uA5 l sortW (uAw l [] p).2).1
     have hg : (uAw l sortW (uAw l [] p).2).2.go.at'=(uAw l sortW (uAw l [] p).2).2.at' + 1:=rfl
     exact uMr l role n _ _ (by omega) (by omega)
    ·exact ⟨rfl,fun _=>rfl⟩
theorem uH3 (l : List Tk) (out : List Fs) : Keeps (fun p=>uDV l p out):=fun p h=>by
 show (uB1 _ _ _ _ _).2=p
 rw [uBF l [] p h,uBZ l [58] h,uKv h]
theorem uJi (l : List Tk) (out : List Fs) : Agr (fun p=>frRd l p out) (fun p=>uDV l p out):=fun p=>by
 refine uMr l _ (l.length + 1) _ out (by omega) ?_
 omega
theorem uJG (l : List Tk) (line : Int) : Keeps (uGU l line):=fun p h=>by
 show (uBp _ _ _).2=p
 rw [uBF l [] p h,uBZ l _ h,uBZ l _ h,uBF l [] p h,uBZ l _ h,uEl l _ p h]
theorem uJU (l : List Tk) (line : Int) : Agr (uEd l line) (uGU l line):=fun p=>by
 obtain ⟨e1,e2⟩:=uFk l (l.length + 1) (uAP l [58] (uAw l [] (uAP l [62] (uAP l [45] (uAw l [] p).2))).2)
 refine ⟨e1,fun hb=>?_⟩
 show (⟨_,_,_,_⟩ : Sp)=⟨_,_,_,_⟩
 rw [e2 hb]
theorem uJa (l : List Tk) (line : Int) : Keeps (uF3 l line):=fun p h=>by
 show (uA6 _ _ _).2=p
 rw [uBF l kindW p h,uBF l [] p h]
 split
 ·rw [uBF l [] p h,uBZ l _ h,uDE (uEl l _) p h]
 ·rw [uBZ l _ h,uDE (uEl l _) p h]
theorem uJH (l : List Tk) (line : Int) : Agr (uDD l line) (uF3 l line):=fun p=>by
 obtain ⟨c1,c2⟩:=uN7 l p
 have hm:=uHU (l:=l) (uFk l (l.length + 1))
 unfold uDD uF3
 dsimp only
 rw [c1,c2]
 obtain ⟨e1,e2⟩:=hm (uAP l [58] (if uBm (1 + uBn kindW (uAw l kindW p).1)=true then uAw l [] (uAw l [] (uAw l kindW p).2).2 else ([],(uAw l [] (uAw l kindW p).2).2)).2)
 exact ⟨e1,fun hb=>by rw [e2 hb]⟩
theorem uE8 (l : List Tk) : Keeps (uBt l):=uDE (uBF l [])
theorem uKK (w : List UInt8) : (1 + uBn uBy w=1 ↔ w=uLa)∧(1 + uBn uBy w=2 ↔ w=uH6)∧(1 + uBn uBy w=3 ↔ w=uKM)∧(1 + uBn uBy w=4 ↔ w=wMsg)∧(1 + uBn uBy w=5 ↔ w=uK9):=by
  have e : uBn uBy w=if uLa=w then 0 else if uH6=w then 1 else if uKM=w then 2 else if wMsg=w then 3 else if uK9=w then 4 else -1:=by
    simp only [uBy,uBn]
    repeat' split
    all_goals omega
  rw [e]
  refine ⟨⟨fun h=>?_,fun h=>?_⟩,⟨fun h=>?_,fun h=>?_⟩,⟨fun h=>?_,fun h=>?_⟩,⟨fun h=>?_,fun h=>?_⟩,⟨fun h=>?_,fun h=>?_⟩⟩
  all_goals first
    | (subst h; decide)
    | (repeat' split at h
       all_goals first
         | (symm; assumption)
         | omega)
theorem uJs (l : List Tk) (n : Nar) (line : Int) (w : List UInt8) : Keeps (uC6 l n line w):=fun p h=>by
 unfold uC6
 repeat' split
 ·exact uE8 l p h
 ·exact uH3 l n.fresh p h
 ·exact uE8 l p h
 ·exact uJG l line p h
 ·exact uJa l line p h
 ·rfl
theorem uLv (l : List Tk) (n : Nar) (line : Int) (w : List UInt8) (q : PS) : (uB2 l n line (1 + uBn uBy w) q).2=(uC6 l n line w q).2∧((uB2 l n line (1 + uBn uBy w) q).2.bad=false→(uB2 l n line (1 + uBn uBy w) q).1=(uC6 l n line w q).1):=by
 obtain ⟨h1,h2,h3,h4,h5⟩:=uKK w
 unfold uB2 uC6
 simp only [h1,h2,h3,h4,h5]
 repeat' split
 ·exact ⟨rfl,fun _=>rfl⟩
 ·obtain ⟨e1,e2⟩:=uJi l n.fresh q
  exact ⟨e1,fun hb=>by have := e2 hb; dsimp only at this ⊢; rw [this]⟩
 ·exact ⟨rfl,fun _=>rfl⟩
 ·obtain ⟨e1,e2⟩:=uJU l line q
  exact ⟨e1,fun hb=>by have := e2 hb; dsimp only at this ⊢; rw [this]⟩
 ·obtain ⟨e1,e2⟩:=uJH l line q
  exact ⟨e1,fun hb=>by have := e2 hb; dsimp only at this ⊢; rw [this]⟩
 ·exact ⟨rfl,fun _=>rfl⟩
theorem uHj (l : List Tk) (role : List UInt8) : ∀ (n : Nat) (p : PS) (out : List Fs),p.at'≤(uB1 l role n p out).2.at'∧(p.at'≤l.length→(uB1 l role n p out).2.at'≤l.length)
 | 0,p,out=>by simp [uB1]
 | n + 1,p,out=>by
  have h1:=uA5 l [] p
  have h2:=uA5 l sortW (uAw l [] p).2
  rw [uB1]
  split
  ·simp
  split
  ·rename_i hq
   have h3:=(uB3 hq).1
   have hg : (uAw l sortW (uAw l [] p).2).2.go.at'=(uAw l sortW (uAw l [] p).2).2.at' + 1:=rfl
   have h4:=uHj l role n (uAw l sortW (uAw l [] p).2).2.go (out++[⟨role,(uAw l [] p).1,2 + uBn sortW (uAw l sortW (uAw l [] p).2).1⟩])
   omega
  ·dsimp only; omega
def Fwd {α : Type} (l : List Tk) (f : PS→α × PS) : Prop:=∀ p : PS,p.at'≤(f p).2.at'∧(p.at'≤l.length→(f p).2.at'≤l.length)
theorem uHI (l : List Tk) (out : List Fs) : Fwd l (fun p=>uDV l p out):=fun p=>by
 have h1:=uA5 l [] p
 have h2:=uBs l [58] (uAw l [] p).2
 have h3:=uHj l (uAw l [] p).1 (l.length + 1) (uAP l [58] (uAw l [] p).2) out
 show p.at'≤(uB1 _ _ _ _ _).2.at'∧(_→(uB1 _ _ _ _ _).2.at'≤_)
 omega
theorem uGL (l : List Tk) (line : Int) : Fwd l (uGU l line):=fun p=>by
 have h1:=uA5 l [] p
 have h2:=uBs l [45] (uAw l [] p).2
 have h3:=uBs l [62] (uAP l [45] (uAw l [] p).2)
 have h4:=uA5 l [] (uAP l [62] (uAP l [45] (uAw l [] p).2))
 have h5:=uBs l [58] (uAw l [] (uAP l [62] (uAP l [45] (uAw l [] p).2))).2
 have h6:=uEf l (l.length + 1) (uAP l [58] (uAw l [] (uAP l [62] (uAP l [45] (uAw l [] p).2))).2)
 show p.at'≤(uBp _ _ _).2.at'∧(_→(uBp _ _ _).2.at'≤_)
 omega
theorem uGu (l : List Tk) (line : Int) : Fwd l (uF3 l line):=fun p=>by
 have h1:=uA5 l kindW p
 have h2:=uA5 l [] (uAw l kindW p).2
 have h3 : (uAw l [] (uAw l kindW p).2).2.at'≤(if uBm (1 + uBn kindW (uAw l kindW p).1)=true then uAw l [] (uAw l [] (uAw l kindW p).2).2 else ([],(uAw l [] (uAw l kindW p).2).2)).2.at'∧((uAw l [] (uAw l kindW p).2).2.at'≤l.length→(if uBm (1 + uBn kindW (uAw l kindW p).1)=true then uAw l [] (uAw l [] (uAw l kindW p).2).2 else ([],(uAw l [] (uAw l kindW p).2).2)).2.at'≤l.length):=by
  split
  ·exact uA5 l [] _
  ·simp
 have h4:=uBs l [58] (if uBm (1 + uBn kindW (uAw l kindW p).1)=true then uAw l [] (uAw l [] (uAw l kindW p).2).2 else ([],(uAw l [] (uAw l kindW p).2).2)).2
 have h5:=uCB (uEf l (l.length + 1)) (uAP l [58] (if uBm (1 + uBn kindW (uAw l kindW p).1)=true then uAw l [] (uAw l [] (uAw l kindW p).2).2 else ([],(uAw l [] (uAw l kindW p).2).2)).2)
 show p.at'≤(uA6 _ _ _).2.at'∧(_→(uA6 _ _ _).2.at'≤_)
 omega
theorem uGE (l : List Tk) (n : Nar) (line : Int) (w : List UInt8) : Fwd l (uC6 l n line w):=fun p=>by
 unfold uC6
 repeat' split
 ·exact uCB (uA5 l []) p
 ·exact uHI l n.fresh p
 ·exact uCB (uA5 l []) p
 ·exact uGL l line p
 ·exact uGu l line p
 ·exact ⟨Nat.le_refl _,fun h=>h⟩
theorem uII (l : List Tk) (n : Nar) (p : PS) (hp : p.at'≤l.length) : (uDL l n p).2.at'≤l.length∧((uDL l n p).2.bad=false→p.at' < (uDL l n p).2.at'):=by
 have h1:=uA5 l uBy p
 have h2:=uGE l n (uCk l p) (uAw l uBy p).1 (uAw l uBy p).2
 have h3:=uBs l [59] (uC6 l n (uCk l p) (uAw l uBy p).1 (uAw l uBy p).2).2
 have e : (uDL l n p).2=uAP l [59] (uC6 l n (uCk l p) (uAw l uBy p).1 (uAw l uBy p).2).2:=rfl
 rw [e]
 refine ⟨by omega,fun hb=>?_⟩
 have hq:=uFF ((uJs l n _ _).good (uCI hb))
 have : (uAw l uBy p).2.at'=p.at' + 1:=by rw [uAw,if_pos hq]; rfl
 omega
theorem uIA (l : List Tk) (n : Nar) : Agr (uDO l n) (uDL l n):=fun p=>by
 obtain ⟨c1,c2⟩:=uNL l p
 unfold uDO uDL
 dsimp only
 rw [c1,c2]
 obtain ⟨e1,e2⟩:=uLv l n (uCk l p) (uAw l uBy p).1 (uAw l uBy p).2
 rw [e1] at e2 ⊢
 exact ⟨rfl,fun hb=>e2 (uCI hb)⟩
theorem uIi (l : List Tk) (m : Nat) (n : Nar) : Keeps (uD6 l m n):=fun p h=>by
 cases m with
 | zero=>rfl
 | succ m=>rw [uD6,if_pos h]
theorem uIf (l : List Tk) (m : Nat) (n : Nar) : Keeps (uCt l m n):=fun p h=>by
 cases m with
 | zero=>rfl
 | succ m=>rw [uCt,if_pos h]
theorem uHQ (l : List Tk) : ∀ (m : Nat) (p : PS) (n n' : Nar),(p.bad=false→n=n')→p.at'≤l.length→l.length < m + p.at'∨p.bad=true →
  (uAP l [125] (uCt l m n p).2)=(uD6 l m n' p).2∧((uD6 l m n' p).2.bad=false→(uCt l m n p).1=(uD6 l m n' p).1)
 | m,p,n,n',hn,hp,hm=>by
  by_cases hb : p.bad=true
  ·rw [uIi l m n' p hb,uIf l m n p hb,uBZ l _ hb]
   exact ⟨rfl,fun q=>by rw [hb] at q; cases q⟩
  ·have hm:=hm.resolve_right hb
   match m with
   | 0=>omega
   | m + 1 =>
    have hb' : p.bad=false:=by simpa using hb
    rw [uD6,uCt,if_neg hb,if_neg hb]
    split
    ·rename_i hq
     dsimp only
     rw [uAP,if_pos hq]
     exact ⟨rfl,fun _=>hn hb'⟩
    ·obtain ⟨e1,e2⟩:=uIA l n p
     have hn:=hn hb'
     subst hn
     obtain ⟨a1,a2⟩:=uII l n p hp
     rw [e1]
     refine uHQ l m _ _ _ (fun q=>e2 (by rw [e1]; exact q)) a1 ?_
     cases hz : (uDL l n p).2.bad with
     | true=>exact .inr rfl
     | false=>exact .inl (by have := a2 hz; omega)
theorem uMm (l : List Tk) : (uJd l).2=(uDQ l).2∧((uDQ l).2.bad=false→(uJd l).1=(uDQ l).1):=by
 unfold uJd uDQ
 dsimp only
 rw [uN1]
 have h1:=uA5 l [uGI] ⟨0,false⟩
 have h2:=uA5 l [] (uAw l [uGI] ⟨0,false⟩).2
 have h3:=uBs l [123] (uAw l [] (uAw l [uGI] ⟨0,false⟩).2).2
 exact uHQ l _ _ _ _ (fun _=>rfl) (by dsimp only at h1; omega) (.inl (by omega))
end Go.Proofs.YteidahabkfgfjaaGreat
namespace Go.Proofs.YteidahabkfgfjaaGreat
open Go Go.Abs
structure GoodTk (N : Nat) (t : Tk) : Prop where
 form : (t.kind=1∧t.int=0∧t.str=[]∧uBg ((t.text.getD 0 0).toNat : Int)=true∧nlE t.text=t.text.length∧t.text≠[]∧t.text.length≤24) ∨
  (t.kind=2∧t.text=[]∧t.str=[]∧0≤t.int∧t.int≤9223372036854775807)∨(t.kind=3∧t.text=[]∧t.int=0) ∨
  (t.kind=4∧t.int=0∧t.str=[] ∧ ∃ c,t.text=[c]∧symB c=true)
 s : t.str.length≤N
theorem uOA {c : UInt8} (h : symB c=true) : uBg (c.toNat : Int)≠true∧uBB (c.toNat : Int)≠true∧c.toNat≠34∧c.toNat≠35∧c.toNat≠10∧uCe c=false:=by
 have hm : c ∈ syms:=by simpa [symB] using h
 simp only [syms,List.mem_cons,List.not_mem_nil,or_false] at hm
 rcases hm with rfl | rfl | rfl | rfl | rfl | rfl | rfl | rfl | rfl | rfl | rfl | rfl | rfl | rfl | rfl | rfl | rfl | rfl <;> decide
theorem GoodTk.onl {N : Nat} {t : Tk} (h : GoodTk N t) (k : Int) : GoodTk N (t.onl k):=⟨h.form,h.s⟩
theorem GoodTk.mono {N M : Nat} {t : Tk} (h : GoodTk N t) (hm : N≤M) : GoodTk M t:=⟨h.form,Nat.le_trans h.s hm⟩
theorem lineP_len' : ∀ (n : Nat) (l : List UInt8) (k : Int) (out : List Tk),(uBw n l k out).1.length≤out.length + l.length
 | 0,l,k,out=>by simp [uBw]
 | n + 1,l,k,out=>by
  have h1:=uMg l
  rw [uBw]
  split
  ·simp
  ·rename_i hq
   have hne : 0 < (uBW l).length:=List.length_pos_iff.2 fun h=>hq (.inl h)
   split
   ·simp
   ·rename_i he
    have h2:=uG1 hne
    have h3:=h2.2 (Decidable.not_not.1 he)
    have ih:=lineP_len' n ((uBW l).drop (uCc (uBW l)).2.1) k (out++[(uCc (uBW l)).1.onl k])
    simp only [List.length_drop,List.length_append,List.length_singleton] at ih
    omega
def sumL (L : List (List UInt8)) : Nat:=(L.map List.length).sum
theorem uKZ : ∀ (s : List UInt8),sumL (spl s)≤s.length
 | []=>by simp [sumL,spl]
 | b :: l=>by
  have ih:=uKZ l
  rw [spl]
  split
  ·simp only [sumL,List.map_cons,List.sum_cons,List.length_nil,List.length_cons] at ih ⊢; omega
  ·split
   ·simp [sumL]
   ·rename_i h; rw [h] at ih
    simp only [sumL,List.map_cons,List.sum_cons,List.length_cons] at ih ⊢; omega
def Apart (r : List UInt8) : Prop:=r=[]∨uCe (r.getD 0 0)=true
end Go.Proofs.YteidahabkfgfjaaGreat
namespace Go.Proofs.YteidahabkfgfjaaGreat
open Go Go.Abs
def TT (s : List UInt8) (k : Nat) (out : List Tk) : List Tk × Nat × Int:=uC7 (spl s) k out
theorem uGq {l : List UInt8} (h : ∀ b ∈ l,b.toNat≠10) {n m : Nat} (k : Int) (out : List Tk) (hn : l.length < n) (hm : l.length < m) : uBw n l k out=uBw m l k out:=by
 rw [← uDg l.length l (Nat.le_refl _) h n ((uA9 l).length + 1) k out hn (by omega),← uDg l.length l (Nat.le_refl _) h m ((uA9 l).length + 1) k out hm (by omega)]
theorem uGA {b : UInt8} {l x : List UInt8} {r : List (List UInt8)} (hb : b.toNat≠10) (h : spl l=x :: r) : spl (b :: l)=(b :: x) :: r:=by
 rw [spl,if_neg hb,h]
theorem uMM {b : UInt8} {l : List UInt8} (hb : b.toNat=10) : spl (b :: l)=[] :: spl l:=by rw [spl,if_pos hb]
theorem uLj : ∀ (w : List UInt8) {l x : List UInt8} {r : List (List UInt8)},(∀ b ∈ w,b.toNat≠10)→spl l=x :: r→spl (w++l)=(w++x) :: r
 | [],_,_,_,_,h=>h
 | b :: w,l,x,r,hw,h=>uGA (hw b (by simp)) (uLj w (fun c hc=>hw c (by simp [hc])) h)
theorem uFu (s : List UInt8) : ∃ x r,spl s=x :: r:=by
 cases h : spl s with
 | nil=>exact absurd h (uIh s)
 | cons x r=>exact ⟨x,r,rfl⟩
theorem uKp {n : Nat} {l l' : List UInt8} {k : Int} {out : List Tk} (h : uBW l=uBW l') : uBw (n + 1) l k out=uBw (n + 1) l' k out:=by simp only [uBw,h]
theorem uG5 {l l' : List UInt8} {L : List (List UInt8)} {k : Nat} {out out' : List Tk} (h : uBw (l.length + 1) l (k : Int) out=uBw (l'.length + 1) l' (k : Int) out') : uC7 (l :: L) k out=uC7 (l' :: L) k out':=by
 rw [uC7,uC7,h]
theorem uNf {w : UInt8} (hw : w.toNat=32∨w.toNat=9∨w.toNat=13) (r : List UInt8) (k : Nat) (out : List Tk) : TT (w :: r) k out=TT r k out:=by
 obtain ⟨x,xs',h⟩:=uFu r
 have hin : wsp.contains w=true:=by
  rcases hw with q | q | q
  ·rw [show w=32 from UInt8.toNat_inj.1 q]; rfl
  ·rw [show w=9 from UInt8.toNat_inj.1 q]; rfl
  ·rw [show w=13 from UInt8.toNat_inj.1 q]; rfl
 have ht : uBW (w :: x)=uBW x:=by unfold uBW; rw [List.dropWhile_cons,if_pos hin]
 have hno : ∀ b ∈ x,b.toNat≠10:=uFb r x (by rw [h]; simp)
 unfold TT
 rw [uGA (by omega) h,h]
 refine uG5 ?_
 rw [← uGq hno (n:=x.length + 1 + 1) (m:=x.length + 1) _ _ (by omega) (by omega)]
 exact uKp ht
theorem uOJ {b : UInt8} (hb : b.toNat=10) (r : List UInt8) (k : Nat) (out : List Tk) : TT (b :: r) k out=TT r (k + 1) out:=by
 unfold TT
 rw [uMM hb,uC7,uHD,if_neg (by simp)]
theorem uFS : ∀ (L : List (List UInt8)) (k : Nat) (out : List Tk),(uC7 L k out).1.length≤out.length + sumL L
 | [],k,out=>by simp [uC7]
 | l :: L,k,out=>by
  rw [uC7]
  split
  ·simp
  ·have h1:=lineP_len' (l.length + 1) l (k : Nat) out
   have ih:=uFS L (k + 1) (uBw (l.length + 1) l (k : Nat) out).1
   simp only [sumL,List.map_cons,List.sum_cons] at ih ⊢
   omega
theorem uKc (s : List UInt8) : (tokP s).1.length≤s.length:=by
 unfold tokP
 split
 ·simp
 ·have h1:=uFS (spl s) 1 []
  have h2:=uKZ s
  simp only [List.length_nil] at h1
  omega
end Go.Proofs.YteidahabkfgfjaaGreat
namespace Go.Proofs.YteidahabkfgfjaaGreat
open Go Go.Abs
def nmT (w : List UInt8) : Tk:=⟨1,w,0,[],0⟩
def syT (c : UInt8) : Tk:=⟨4,[c],0,[],0⟩
def uOs : List (List Tk)→List Tk
 | []=>[]
 | x :: r=>x++(r.map fun y=>syT 44 :: y).flatten
def Apt (r : List UInt8) : Prop:=r=[]∨uBT ((r.getD 0 0).toNat : Int)≠true
theorem uLc : ∀ (l r : List UInt8),nmP l=l.length→Apt r→nmP (l++r)=l.length
 | [],r,_,hr=>by
  rcases hr with h | h
  ·subst h; rfl
  ·cases r with
   | nil=>rfl
   | cons c r =>
    rw [List.getD_cons_zero] at h
    show nmP (c :: r)=0
    rw [nmP,if_neg (fun q=>h q.1)]
 | b :: l,r,h,hr=>by
  rw [nmP] at h
  split at h
  ·rename_i hq
   have ih:=uLc l r (by simpa using h) hr
   show nmP (b :: (l++r))=_
   rw [nmP,if_pos,ih]; rfl
   refine ⟨hq.1,fun q=>?_⟩
   cases l with
   | cons d l=>exact hq.2 q
   | nil =>
    obtain ⟨q1,q2⟩:=q
    rcases hr with z | z
    ·subst z; simp at q2
    ·rw [List.nil_append] at q2
     rw [q2] at z
     exact z (by decide)
  ·simp at h
theorem uN2 {l r : List UInt8} (h : nlE l=l.length) (hl : l≠[]) (hr : Apt r) : nlE (l++r)=l.length:=by
 cases l with
 | nil=>exact absurd rfl hl
 | cons c l =>
  have h1 : nmP l=l.length:=by simp [nlE] at h; omega
  have h2:=uLc l r h1 hr
  simp [nlE,h2]; omega
theorem uND {r x : List UInt8} {xs' : List (List UInt8)} (hr : Apt r) (h : spl r=x :: xs') : Apt x:=by
 rcases hr with q | q
 ·subst q
  simp only [spl,List.cons.injEq] at h
  exact .inl h.1.symm
 ·cases r with
  | nil=>simp only [spl,List.cons.injEq] at h; exact .inl h.1.symm
  | cons c r =>
   rw [List.getD_cons_zero] at q
   by_cases hc : c.toNat=10
   ·rw [uMM hc] at h
    simp only [List.cons.injEq] at h
    exact .inl h.1.symm
   ·obtain ⟨y,ys,hy⟩:=uFu r
    rw [uGA hc hy] at h
    simp only [List.cons.injEq] at h
    rw [← h.1]
    exact .inr q
theorem uK6 {w r x : List UInt8} {xs' : List (List UInt8)} {t : Tk} {c : UInt8} {l : List UInt8} (h : spl r=x :: xs') (e1 : uCc (w++x)=(t.onl 0,w.length,0)) (e2 : w=c :: l) (e3 : uCe c=false) (e4 : c.toNat≠35)
  (hw : ∀ b ∈ w,b.toNat≠10) (k : Nat) (out : List Tk) : TT (w++r) k out=TT r k (out++[t.onl k]):=by
 have hno:=uFb r x (by rw [h]; simp)
 have hin : ¬wsp.contains c=true:=by
  intro q
  have : c=32∨c=9∨c=13:=by simpa [wsp] using q
  rcases this with rfl | rfl | rfl <;> simp [uCe] at e3
 have ht2 : uBW (w++x)=w++x:=by
  rw [e2]
  unfold uBW
  show List.dropWhile _ (c :: (l++x))=_
  rw [List.dropWhile_cons,if_neg hin]; rfl
 have hcut : ¬(w++x=[]∨[35,35].isPrefixOf (w++x)=true):=by
  rw [e2]
  rintro (q | q)
  ·cases q
  ·have q : ([35,35] : List UInt8).isPrefixOf (c :: (l++x))=true:=q
   rw [uKU] at q
   simp only [Bool.and_eq_true,decide_eq_true_eq] at q
   exact e4 q.1
 unfold TT
 rw [uLj w hw h,h]
 refine uG5 ?_
 rw [uBw,ht2,if_neg hcut,e1,if_neg (by simp)]
 dsimp only
 rw [List.drop_left' rfl]
 refine uGq hno _ _ ?_ (by omega)
 rw [List.length_append,e2]; simp only [List.length_cons]; omega
theorem uGr {w : List UInt8} (h : uAK w=true) : w≠[]∧uBg ((w.getD 0 0).toNat : Int)=true∧nlE w=w.length∧w.length≤24:=by
 simp only [uAK,Bool.and_eq_true,decide_eq_true_eq] at h
 exact ⟨h.1.1.1,h.1.1.2,h.1.2,h.2⟩
theorem uNC {w : List UInt8} (h : uAK w=true) : ∀ b ∈ w,b.toNat≠10:=by
 obtain ⟨h1,h2,h3,_⟩:=uGr h
 cases w with
 | nil=>exact absurd rfl h1
 | cons c r =>
  rw [List.getD_cons_zero] at h2
  intro b hb
  rcases List.mem_cons.1 hb with q | q
  ·subst q; intro z; rw [z] at h2; revert h2; decide
  ·have := uHY r (by unfold nlE at h3; simp at h3; omega)
   exact uFC (by have := List.all_eq_true.1 this b q; exact this)
theorem uNQ {w : List UInt8} (hn : uAK w=true) {r : List UInt8} (hr : Apt r) (k : Nat) (out : List Tk) : TT (w++r) k out=TT r k (out++[(nmT w).onl k]):=by
 obtain ⟨x,xs',h⟩:=uFu r
 obtain ⟨h1,h2,h3,h4⟩:=uGr hn
 obtain ⟨c,l,rfl⟩ : ∃ c l,w=c :: l:=by
  cases w with
  | nil=>exact absurd rfl h1
  | cons c l=>exact ⟨c,l,rfl⟩
 rw [List.getD_cons_zero] at h2
 refine uK6 h ?_ rfl ?_ ?_ (uNC hn) k out
 ·have e1:=uN2 h3 h1 (uND hr h)
  unfold uCc
  have e2 : ((c :: l)++x).getD 0 0=c:=rfl
  rw [e2,if_pos h2,e1,if_neg (by omega),List.take_left' rfl]; rfl
 ·rw [Bool.eq_false_iff]; intro q
  have : c.toNat=32∨c.toNat=9∨c.toNat=10∨c.toNat=13:=by simp [uCe] at q; omega
  rcases this with q | q | q | q <;> rw [q] at h2 <;> revert h2 <;> decide
 ·intro q; rw [q] at h2; revert h2; decide
theorem uOE {c : UInt8} (hc : symB c=true) (r : List UInt8) (k : Nat) (out : List Tk) : TT (c :: r) k out=TT r k (out++[(syT c).onl k]):=by
 obtain ⟨x,xs',h⟩:=uFu r
 obtain ⟨s1,s2,s3,s4,s5,s6⟩:=uOA hc
 refine uK6 (w:=[c]) h ?_ rfl s6 s4 (by simpa using s5) k out
 unfold uCc
 have e2 : ([c]++x).getD 0 0=c:=rfl
 rw [e2,if_neg s1,if_neg s2,if_neg s3,if_pos hc]; rfl
def Toks (b : Bool) (s : List UInt8) (ts : List Tk) : Prop:=∀ (r : List UInt8) (k : Nat) (out : List Tk),b=true∨Apt r → ∃ d l',l'.map (·.nl false)=ts∧TT (s++r) k out=TT r (k + d) (out++l')
def Fr (s : List UInt8) : Prop:=s≠[]∧uBT ((s.getD 0 0).toNat : Int)≠true
theorem Fr.apt {s : List UInt8} (h : Fr s) (r : List UInt8) : Apt (s++r):=by
 cases s with
 | nil=>exact absurd rfl h.1
 | cons c s=>exact .inr h.2
theorem Toks.nil : Toks true [] []:=fun r k out _=>⟨0,[],rfl,by simp⟩
theorem Toks.weak {b : Bool} {s : List UInt8} {ts : List Tk} (h : Toks true s ts) : Toks b s ts:=fun r k out _=>h r k out (.inl rfl)
theorem Toks.app {b b' : Bool} {s s' : List UInt8} {ts ts' : List Tk} (h : Toks b s ts) (h' : Toks b' s' ts') (hb : b=true∨Fr s') : Toks b' (s++s') (ts++ts'):=fun r k out hr=>by
 obtain ⟨d,l1,e1,e2⟩:=h (s'++r) k out (hb.elim .inl fun q=>.inr (q.apt r))
 obtain ⟨d',l2,e3,e4⟩:=h' r (k + d) (out++l1) hr
 exact ⟨d + d',l1++l2,by rw [List.map_append,e1,e3],by rw [List.append_assoc,e2,e4,List.append_assoc,Nat.add_assoc]⟩
theorem Toks.name {w : List UInt8} (h : uAK w=true) : Toks false w [nmT w]:=fun r k out hr=>⟨0,[(nmT w).onl k],rfl,uNQ h (hr.resolve_left (by simp)) k out⟩
theorem Toks.sym {c : UInt8} (h : symB c=true) : Toks true [c] [syT c]:=fun r k out _=>⟨0,[(syT c).onl k],rfl,uOE h r k out⟩
theorem Toks.sp : Toks true [32] []:=fun r k out _=>⟨0,[],rfl,by rw [List.append_nil]; exact uNf (.inl rfl) r k out⟩
theorem Toks.nl : Toks true [10] []:=fun r k out _=>⟨1,[],rfl,by rw [List.append_nil]; exact uOJ rfl r k out⟩
theorem Toks.join {α : Type} {f : α→List UInt8} {g : α→List Tk} : ∀ {l : List α},(∀ x ∈ l,Toks false (f x) (g x))→Toks false (Lib.join (l.map f) [44,32]) (uOs (l.map g))
 | [],_=>Toks.nil.weak
 | x :: l,h=>by
  have tail : ∀ {l : List α},(∀ x ∈ l,Toks false (f x) (g x))→Toks false (Lib.joinTail [44,32] (l.map f)) ((l.map g).map fun y=>syT 44 :: y).flatten∧(l=[]∨Fr (Lib.joinTail [44,32] (l.map f))):=by
   intro l
   induction l with
   | nil=>exact fun _=>⟨Toks.nil.weak, .inl rfl⟩
   | cons y l ih =>
    intro h
    have e : Lib.joinTail [44,32] ((y :: l).map f)=([44]++[32])++(f y++Lib.joinTail [44,32] (l.map f)):=by simp [Lib.joinTail]
    have e2 : (((y :: l).map g).map fun y=>syT 44 :: y).flatten=([syT 44]++[])++(g y++((l.map g).map fun y=>syT 44 :: y).flatten):=by simp
    obtain ⟨i1,i2⟩:=ih fun z hz=>h z (by simp [hz])
    rw [e,e2]
    refine ⟨((Toks.sym (by decide)).app Toks.sp (.inl rfl)).app ?_ (.inl rfl), .inr ⟨by simp,by simp; decide⟩⟩
    rcases i2 with q | q
    ·subst q
     simp only [List.map_nil,List.flatten_nil,List.append_nil,Lib.joinTail,List.flatMap_nil]
     exact h y (by simp)
    ·exact (h y (by simp)).app i1 (.inr q)
  rw [List.map_cons,List.map_cons,Lib.join_cons]
  obtain ⟨i1,i2⟩:=tail (l:=l) fun z hz=>h z (by simp [hz])
  show Toks false _ (g x++_)
  rcases i2 with q | q
  ·subst q
   simp only [List.map_nil,List.flatten_nil,List.append_nil,Lib.joinTail,List.flatMap_nil]
   exact h x (by simp)
  ·exact (h x (by simp)).app i1 (.inr q)
mutual
def gdB : T→Bool
 | .mk k n s ks=>decide (s=0) && uAK n && ((decide (k=2) && ks.isEmpty) || decide (k=3)) && gdBs ks
def gdBs : List T→Bool
 | []=>true
 | t :: ts=>gdB t && gdBs ts
end
end Go.Proofs.YteidahabkfgfjaaGreat
namespace Go.Proofs.YteidahabkfgfjaaGreat
open Go Go.Abs
def At (l : List Tk) (p : PS) (ts : List Tk) : Prop:=p.bad=false∧p.at'≤l.length∧l.drop p.at'=ts
theorem At.cons {l : List Tk} {p : PS} {t : Tk} {ts : List Tk} (h : At l p (t :: ts)) : p.at' < l.length∧l.getD p.at' tk0=t∧At l p.go ts:=by
 obtain ⟨h1,h2,h3⟩:=h
 have hlt : p.at' < l.length:=by
  rcases Nat.lt_or_ge p.at' l.length with q | q
  ·exact q
  ·rw [List.drop_of_length_le q] at h3; cases h3
 rw [uHH (d:=tk0) hlt] at h3
 simp only [List.cons.injEq] at h3
 exact ⟨hlt,h3.1,h1,hlt,h3.2⟩
theorem At.len {l : List Tk} {p : PS} {ts : List Tk} (h : At l p ts) : ts.length + p.at'=l.length:=by
 obtain ⟨h1,h2,h3⟩:=h
 rw [← h3,List.length_drop]; omega
theorem At.good {l : List Tk} {p : PS} {ts : List Tk} (h : At l p ts) : p.bad=false:=h.1
def Pln (ts : List Tk) : Prop:=∀ t ∈ ts,t.int=0∧t.str=[]∧t.line=0
theorem Pln.nil : Pln []:=by intro t h; simp at h
theorem Pln.app {a b : List Tk} (h : Pln a) (h' : Pln b) : Pln (a++b):=fun t ht=>(List.mem_append.1 ht).elim (h t) (h' t)
theorem Pln.nm (w : List UInt8) : Pln [nmT w]:=by intro t h; simp at h; subst h; exact ⟨rfl,rfl,rfl⟩
theorem Pln.cons {t : Tk} {ts : List Tk} (h : Pln [t]) (h' : Pln ts) : Pln (t :: ts):=h.app (a:=[t]) h'
theorem Pln.right {a b : List Tk} (h : Pln (a++b)) : Pln b:=fun t ht=>h t (by simp [ht])
theorem Pln.tail {a : Tk} {b : List Tk} (h : Pln (a :: b)) : Pln b:=fun t ht=>h t (by simp [ht])
def Stop (ts : List Tk) : Prop:=∀ r,ts≠syT 40 :: r
end Go.Proofs.YteidahabkfgfjaaGreat
namespace Go.Proofs.YteidahabkfgfjaaGreat
open Go Go.Abs
def Sp.el (s : Sp) : Sp:={ s with line:=0 }
def Gl.el (g : Gl) : Gl:={ g with line:=0 }
def Nar.el (n : Nar) : Nar:={ n with steps:=n.steps.map Sp.el,goals:=n.goals.map Gl.el }
inductive Itm where
 | roles (l : List (List UInt8))
 | fresh (role : List UInt8) (l : List (List UInt8 × Int))
 | tags (l : List (List UInt8))
 | step (s : Sp)
 | goal (g : Gl)
def uMT (k : Int) : List UInt8:=sortW.getD (k - 2).toNat []
def uM8 (k : Int) : List UInt8:=kindW.getD (k - 1).toNat []
def fsW (f : List UInt8 × Int) : List UInt8:=f.1++([32]++uMT f.2)
def Itm.text : Itm→List UInt8
 | .roles l=>hRole++(Lib.join l [44,32]++[59])
 | .fresh r l=>hFresh++(r++([58,32]++(Lib.join (l.map fsW) [44,32]++[59])))
 | .tags l=>hTag++(Lib.join l [44,32]++[59])
 | .step s=>hMsg++(s.frm++(arrow++(s.dst++([58,32]++(uC5 s.msg++[59])))))
 | .goal g=>hGoal++(uM8 g.kind++([32]++(g.role++((if uBm g.kind=true then [32]++g.wth else [])++([58,32]++(uDZ g.data++[59]))))))
def Itm.ok : Itm→Prop
 | .roles l=>l≠[] ∧ ∀ w ∈ l,uAK w=true
 | .fresh r l=>uAK r=true∧l≠[] ∧ ∀ f ∈ l,uAK f.1=true∧2≤f.2∧f.2≤4
 | .tags l=>l≠[] ∧ ∀ w ∈ l,uAK w=true
 | .step s=>uAK s.frm=true∧uAK s.dst=true∧gdB s.msg=true
 | .goal g=>1≤g.kind∧g.kind≤5∧uAK g.role=true∧(uBm g.kind=true→uAK g.wth=true)∧(uBm g.kind=false→g.wth=[])∧g.data≠[] ∧ ∀ t ∈ g.data,gdB t=true
end Go.Proofs.YteidahabkfgfjaaGreat
namespace Go.Proofs.YteidahabkfgfjaaGreat
open Go Go.Abs
def Itm.more (f : List UInt8 × Int) : Itm→Itm
 | .fresh r l=>.fresh r (l++[f])
 | i=>i
def glue (f : List UInt8 × Int) : List Itm→List Itm
 | []=>[]
 | [i]=>[i.more f]
 | i :: j :: r=>i :: glue f (j :: r)
theorem uFN (f : List UInt8 × Int) (r : List UInt8) (l : List (List UInt8 × Int)) : ∀ I : List Itm,glue f (I++[.fresh r l])=I++[.fresh r (l++[f])]
 | []=>rfl
 | [i]=>rfl
 | i :: j :: I=>by
  have ih:=uFN f r l (j :: I)
  rw [List.cons_append,List.cons_append] at ih
  rw [List.cons_append,List.cons_append,glue,ih]
  rfl
def uGJ (fs : List Fs) (k : Nat) : Prop:=0 < k∧(fs.getD (k - 1) default).role=(fs.getD k default).role
instance (fs : List Fs) (k : Nat) : Decidable (uGJ fs k):=by unfold uGJ; infer_instance
def Fs.pr (f : Fs) : List UInt8 × Int:=(f.name,f.sort)
def frI (fs : List Fs) : Nat→List Itm
 | 0=>[]
 | k + 1=>if uGJ fs k then glue (fs.getD k default).pr (frI fs k) else frI fs k++[.fresh (fs.getD k default).role [(fs.getD k default).pr]]
theorem uJg (fs : List Fs) : ∀ k,0 < k → ∃ I l,l≠[]∧frI fs k=I++[.fresh (fs.getD (k - 1) default).role l]
 | 0,h=>by omega
 | k + 1,_=>by
  rw [frI,Nat.add_sub_cancel]
  split
  ·rename_i hs
   obtain ⟨I,l,h1,h2⟩:=uJg fs k hs.1
   rw [h2,uFN,hs.2]
   exact ⟨I,_,by simp,rfl⟩
  ·exact ⟨_,_,by simp,rfl⟩
theorem uIu {fs : List Fs} {k : Nat} (hs : uGJ fs k) : ∃ I l,l≠[]∧frI fs k=I++[.fresh (fs.getD k default).role l]∧frI fs (k + 1)=I++[.fresh (fs.getD k default).role (l++[(fs.getD k default).pr])]:=by
 obtain ⟨I,l,h1,h2⟩:=uJg fs k hs.1
 rw [hs.2] at h2
 exact ⟨I,l,h1,h2,by rw [frI,if_pos hs,h2,uFN]⟩
theorem uLm {fs : List Fs} {k : Nat} (hs : ¬uGJ fs k) : frI fs (k + 1)=frI fs k++[.fresh (fs.getD k default).role [(fs.getD k default).pr]]:=by rw [frI,if_neg hs]
theorem uKP (fs : List Fs) : ∀ k,(frI fs k).length≤k
 | 0=>by simp [frI]
 | k + 1=>by
  have ih:=uKP fs k
  by_cases hs : uGJ fs k
  ·obtain ⟨I,l,_,h2,h3⟩:=uIu hs
   rw [h2] at ih
   rw [h3]
   simp only [List.length_append,List.length_singleton] at ih ⊢; omega
  ·rw [uLm hs]
   simp only [List.length_append,List.length_singleton]; omega
theorem uNr (sep x : List UInt8) : Lib.join [x] sep=x:=by rw [Lib.join_cons]; simp [Lib.joinTail]
def Nar.itms (n : Nar) : List Itm:=[.roles n.roles]++(frI n.fresh n.fresh.length++((if n.tags=[] then [] else [.tags n.tags])++(n.steps.map .step++n.goals.map .goal)))
def uIM (n : Nar) : List UInt8:=hProt++(n.name++[32,123])
def Nar.lines (n : Nar) : List (List UInt8):=[uIM n]++(n.itms.map Itm.text++[[125]])
def nl (L : List (List UInt8)) : List UInt8:=(L.map fun s=>s++[10]).flatten
theorem uOD (a b : List (List UInt8)) : nl (a++b)=nl a++nl b:=by simp [nl]
theorem uLg : ∀ L : List (List UInt8),L≠[]→Lib.join L [10]++[10]=nl L
 | [],h=>absurd rfl h
 | [x],_=>by rw [uNr]; simp [nl]
 | x :: y :: L,_=>by
  have ih:=uLg (y :: L) (by simp)
  have e : Lib.join (x :: y :: L) [10]=x++([10]++Lib.join (y :: L) [10]):=by
   rw [Lib.join_cons,Lib.join_cons]; simp [Lib.joinTail]
  have e2 : nl (x :: y :: L)=x++([10]++nl (y :: L)):=by simp [nl]
  rw [e,e2,← ih]; simp
def Nar.text (n : Nar) : List UInt8:=Lib.join n.lines [10]++[10]
theorem Nar.text_eq (n : Nar) : n.text=nl n.lines:=uLg _ (by simp [Nar.lines])
structure MsgOk (t : T) : Prop where
 raw : uEp uAK t=0
 size : t.size≤40
structure GlOk (g : Gl) : Prop where
 k1 : 1≤g.kind
 k2 : g.kind≤5
 role : uAK g.role=true
 w1 : uBm g.kind=true→uAK g.wth=true
 w0 : uBm g.kind=false→g.wth=[]
 d1 : 1≤g.data.length
 d2 : g.data.length≤4
 data : ∀ t ∈ g.data,MsgOk t
structure NarOk (n : Nar) : Prop where
 name : uAK n.name=true
 r1 : 2≤n.roles.length
 r2 : n.roles.length≤4
 roles : ∀ w ∈ n.roles,uAK w=true
 f2 : n.fresh.length≤12
 fresh : ∀ f ∈ n.fresh,uAK f.role=true∧uAK f.name=true∧2≤f.sort∧f.sort≤4
 t2 : n.tags.length≤8
 tags : ∀ w ∈ n.tags,uAK w=true
 s1 : 1≤n.steps.length
 s2 : n.steps.length≤8
 steps : ∀ s ∈ n.steps,uAK s.frm=true∧uAK s.dst=true∧MsgOk s.msg
 g2 : n.goals.length≤8
 goals : ∀ g ∈ n.goals,GlOk g
theorem uNn {t : T} (h : msgE uAK t=0) : MsgOk t:=by
 unfold msgE at h
 split at h
 ·rename_i hz; exact absurd h hz
 ·rename_i hz
  split at h
  ·simp at h
  ·exact ⟨Decidable.not_not.1 hz,by omega⟩
theorem uNG {g : Gl} (h : uB5 uAK g=0) : GlOk g:=by
 unfold uB5 at h
 split at h
 ·simp at h
 rename_i h1
 split at h
 ·simp at h
 rename_i h2
 split at h
 ·simp at h
 rename_i h3
 split at h
 ·simp at h
 rename_i h4
 have h5:=errs_zero.1 h
 refine ⟨by omega,by omega,?_,fun ha=>?_,fun ha=>?_,?_,?_,fun t ht=>uNn (h5 t ht)⟩
 ·cases hz : uAK g.role with
  | true=>rfl
  | false=>exact absurd (.inl hz) h2
 ·cases hz : uAK g.wth with
  | true=>rfl
  | false=>exact absurd (.inr ⟨ha,hz⟩) h2
 ·exact Decidable.byContradiction fun q=>h3 ⟨ha,q⟩
 ·cases ha : uBm g.kind with
  | true=>exact Decidable.byContradiction fun q=>h4 (.inl ⟨ha,by omega⟩)
  | false=>exact Decidable.byContradiction fun q=>h4 (.inr ⟨ha,by omega⟩)
 ·cases ha : uBm g.kind with
  | true=>exact Decidable.byContradiction fun q=>h4 (.inl ⟨ha,by omega⟩)
  | false=>exact Decidable.byContradiction fun q=>h4 (.inr ⟨ha,by omega⟩)
theorem uOp {n : Nar} (h : cntE n=0) : 2≤n.roles.length∧n.roles.length≤4∧n.fresh.length≤12∧n.tags.length≤8∧1≤n.steps.length∧n.steps.length≤8∧n.goals.length≤8:=by
 unfold cntE at h
 repeat' split at h
 all_goals first
  | (simp at h; done)
  | omega
theorem uFI {n : Nar} (h : narE uAK n=0) : NarOk n:=by
 unfold narE at h
 split at h
 ·rename_i hz; exact absurd h hz
 rename_i h1
 split at h
 ·rename_i hz; exact absurd h hz
 rename_i h2
 have h1:=Decidable.not_not.1 h1
 have h2:=errs_zero.1 (Decidable.not_not.1 h2)
 have h3:=errs_zero.1 h
 unfold uDP at h1
 split at h1
 ·simp at h1
 rename_i a1
 split at h1
 ·rename_i hz; exact absurd h1 hz
 rename_i a2
 split at h1
 ·simp at h1
 rename_i a3
 split at h1
 ·rename_i hz; exact absurd h1 hz
 rename_i a4
 split at h1
 ·simp at h1
 rename_i a5
 obtain ⟨c1,c2,c3,c4,c5,c6,c7⟩:=uOp (Decidable.not_not.1 a2)
 have a4:=errs_zero.1 (Decidable.not_not.1 a4)
 refine ⟨by simpa using a1,c1,c2,fun w hw=>List.all_eq_true.1 (by simpa using a3) w hw,c3,fun f hf=>?_,c4,fun w hw=>List.all_eq_true.1 (by simpa using a5) w hw,c5,c6,fun s hs=>?_,c7,fun g hg=>uNG (h3 g hg)⟩
 ·have := a4 f hf
  unfold frE at this
  split at this
  ·simp at this
  rename_i q
  split at this
  ·simp at this
  ·refine ⟨?_,?_,by omega,by omega⟩
   ·cases hz : uAK f.role with
    | true=>rfl
    | false=>exact absurd (.inl hz) q
   ·cases hz : uAK f.name with
    | true=>rfl
    | false=>exact absurd (.inr hz) q
 ·have := h2 s hs
  unfold spE at this
  split at this
  ·simp at this
  rename_i q
  refine ⟨?_,?_,uNn this⟩
  ·cases hz : uAK s.frm with
   | true=>rfl
   | false=>exact absurd (.inl hz) q
  ·cases hz : uAK s.dst with
   | true=>rfl
   | false=>exact absurd (.inr hz) q
theorem uEo {w : List UInt8} (h : uAK w=true) : w.length≤24:=(uGr h).2.2.2
theorem MsgOk.ok {t : T} (h : MsgOk t) : okB t=true:=(uOw h.raw).1
theorem MsgOk.len {t : T} (h : MsgOk t) : (uC5 t).length≤1120 := by have := uK4 h.ok; have := h.size; omega
theorem uI7 : ∀ {l : List T} {M : Nat},(∀ t ∈ l,t.size≤M)→T.sizes l≤M * l.length
 | [],M,_=>by simp [T.sizes]
 | t :: l,M,h=>by
  have h1:=h t (by simp)
  have h2:=uI7 (M:=M) fun x hx=>h x (List.mem_cons_of_mem t hx)
  rw [T.sizes,List.length_cons,Nat.mul_succ]; omega
theorem GlOk.sizes {g : Gl} (h : GlOk g) : T.sizes g.data≤160:=by
 have := uI7 (M := 40) fun t ht=>(h.data t ht).size
 have := h.d2; omega
theorem GlOk.oks {g : Gl} (h : GlOk g) : ∀ t ∈ g.data,okB t=true:=fun t ht=>(h.data t ht).ok
theorem GlOk.len {g : Gl} (h : GlOk g) : (uDZ g.data).length≤4480 := by have := uM4 h.oks; have := h.sizes; omega
theorem GlOk.wth {g : Gl} (h : GlOk g) : g.wth.length≤24:=by
 cases ha : uBm g.kind with
 | true=>exact uEo (h.w1 ha)
 | false=>rw [h.w0 ha]; simp
theorem uIb (fs : List Fs) : ∀ k,k≤fs.length → ∀ i ∈ frI fs k,∃ r l,i = .fresh r l∧l≠[]∧l.length≤k ∧ ∀ p ∈ l,∃ f ∈ fs,p=f.pr∧f.role=r
 | 0,_,i,h=>by simp [frI] at h
 | k + 1,hk,i,h=>by
  have ih:=uIb fs k (by omega)
  have hm : fs.getD k default ∈ fs:=by
   rw [List.getD_eq_getElem?_getD,List.getElem?_eq_getElem (by omega)]; exact List.getElem_mem _
  by_cases hs : uGJ fs k
  ·obtain ⟨I,l,_,h2,h3⟩:=uIu hs
   rw [h3] at h
   rw [h2] at ih
   rcases List.mem_append.1 h with q | q
   ·obtain ⟨r,l',e1,e2,e3,e4⟩:=ih i (by simp [q])
    exact ⟨r,l',e1,e2,by omega,e4⟩
   ·obtain ⟨r,l',e1,e2,e3,e4⟩:=ih _ (List.mem_append.2 (.inr (List.mem_singleton.2 rfl)))
    simp only [Itm.fresh.injEq] at e1
    obtain ⟨rfl,rfl⟩:=e1
    refine ⟨_,_,List.mem_singleton.1 q,by simp,by simp only [List.length_append,List.length_singleton]; omega,fun p hp=>?_⟩
    rcases List.mem_append.1 hp with z | z
    ·exact e4 p z
    ·exact ⟨_,hm,List.mem_singleton.1 z,rfl⟩
  ·rw [uLm hs] at h
   rcases List.mem_append.1 h with q | q
   ·obtain ⟨r,l',e1,e2,e3,e4⟩:=ih i q
    exact ⟨r,l',e1,e2,by omega,e4⟩
   ·refine ⟨_,_,List.mem_singleton.1 q,by simp,by simp,fun p hp=>⟨_,hm,List.mem_singleton.1 hp,rfl⟩⟩
def FsOk (fs : List Fs) : Prop:=∀ f ∈ fs,uAK f.role=true∧uAK f.name=true∧2≤f.sort∧f.sort≤4
theorem uOC {fs : List Fs} (h : FsOk fs) {k : Nat} (hk : k≤fs.length) : ∀ i ∈ frI fs k,i.ok:=by
 intro i hi
 obtain ⟨r,l,rfl,h2,h3,h4⟩:=uIb fs k hk i hi
 refine ⟨?_,h2,fun p hp=>?_⟩
 ·obtain ⟨p,q,rfl⟩ : ∃ p q,l=p :: q:=by
   cases l with
   | nil=>exact absurd rfl h2
   | cons p q=>exact ⟨p,q,rfl⟩
  obtain ⟨f,hf,_,e⟩:=h4 p (by simp)
  rw [← e]; exact (h f hf).1
 ·obtain ⟨f,hf,e,_⟩:=h4 p hp
  subst e
  exact ⟨(h f hf).2.1,(h f hf).2.2.1,(h f hf).2.2.2⟩
theorem uNk {L : List (List UInt8)} {M : Nat} (h : ∀ x ∈ L,x.length≤M) : uEi L≤(M + 2) * L.length:=by
 induction L with
 | nil=>simp [uEi]
 | cons x L ih =>
  have h1:=h x (by simp)
  have h2:=ih fun y hy=>h y (by simp [hy])
  simp only [uEi,List.map_cons,List.sum_cons,List.length_cons,Nat.mul_succ] at h2 ⊢
  omega
theorem uKN {L : List (List UInt8)} {M : Nat} (h : ∀ x ∈ L,x.length≤M) : (Lib.join L [44,32]).length≤(M + 2) * L.length:=Nat.le_trans (uEr L).1 (uNk h)
theorem uLu (k : Int) : (uMT k).length≤5:=by
 unfold uMT
 have : ∀ j : Nat,(sortW.getD j []).length≤5:=by
  intro j
  match j with
  | 0=>decide
  | 1=>decide
  | 2=>decide
  | j + 3=>simp [sortW,List.getD_eq_getElem?_getD]
 exact this _
theorem uM0 {fs : List Fs} (h : FsOk fs) {k : Nat} (hk : k≤fs.length) (h12 : fs.length≤12) : ∀ i ∈ frI fs k,i.text.length≤500:=by
 intro i hi
 have ho:=uOC h hk i hi
 obtain ⟨r,l,rfl,h2,h3,h4⟩:=uIb fs k hk i hi
 obtain ⟨o1,o2,o3⟩:=ho
 have h5:=uEo o1
 have h6 : (Lib.join (l.map fsW) [44,32]).length≤(30 + 2) * l.length:=by
  have := uKN (L := l.map fsW) (M := 30) fun x hx=>by
   obtain ⟨p,hp,rfl⟩:=List.mem_map.1 hx
   have := uEo (o3 p hp).1
   have := uLu p.2
   simp only [fsW,List.length_append,List.length_cons,List.length_nil]; omega
  rwa [List.length_map] at this
 have : hFresh.length=8:=rfl
 simp only [Itm.text,List.length_append,List.length_cons,List.length_nil]
 omega
theorem uG2 {l : List (List UInt8)} (h : ∀ w ∈ l,uAK w=true) : (Lib.join l [44,32]).length≤26 * l.length:=uKN fun x hx=>uEo (h x hx)
theorem uL9 {s : Sp} (h1 : uAK s.frm=true) (h2 : uAK s.dst=true) (h3 : MsgOk s.msg) : (Itm.step s).text.length≤1300:=by
 have a:=uEo h1
 have b:=uEo h2
 have c:=h3.len
 have : hMsg.length=10:=rfl
 have : arrow.length=4:=rfl
 simp only [Itm.text,List.length_append,List.length_cons,List.length_nil]; omega
theorem uL2 (k : Int) : (uM8 k).length≤7:=by
 unfold uM8
 have : ∀ j : Nat,(kindW.getD j []).length≤7:=by
  intro j
  match j with
  | 0=>decide
  | 1=>decide
  | 2=>decide
  | 3=>decide
  | 4=>decide
  | j + 5=>simp [kindW,List.getD_eq_getElem?_getD]
 exact this _
theorem uLo {g : Gl} (h : GlOk g) : (Itm.goal g).text.length≤4600:=by
 have a:=uEo h.role
 have b:=h.wth
 have c:=h.len
 have d:=uL2 g.kind
 have : hGoal.length=7:=rfl
 simp only [Itm.text,List.length_append,List.length_cons,List.length_nil]
 split <;> (simp only [List.length_append,List.length_cons,List.length_nil]; omega)
theorem uOu (L : List (List UInt8)) {M : Nat} (h : ∀ x ∈ L,x.length≤M) : (nl L).length≤(M + 1) * L.length:=by
 induction L with
 | nil=>simp [nl]
 | cons x L ih =>
  have h1:=h x (by simp)
  have h2:=ih fun y hy=>h y (by simp [hy])
  have e : nl (x :: L)=x++([10]++nl L):=by simp [nl]
  rw [e]
  simp only [List.length_append,List.length_cons,List.length_nil,Nat.mul_succ]
  omega
theorem uKD {α : Type} (f : α→List UInt8) (l : List α) {M : Nat} (h : ∀ x ∈ l,(f x).length≤M) : (nl (l.map f)).length≤(M + 1) * l.length:=by
 have := uOu (l.map f) (M := M) fun x hx=>by
  obtain ⟨y,hy,rfl⟩:=List.mem_map.1 hx; exact h y hy
 rwa [List.length_map] at this
theorem NarOk.text_len {n : Nar} (h : NarOk n) : n.text.length≤60000:=by
 rw [n.text_eq]
 have e : n.lines=[uIM n]++([(Itm.roles n.roles).text]++((frI n.fresh n.fresh.length).map Itm.text++((if n.tags=[] then [] else [.tags n.tags]).map Itm.text++(n.steps.map (fun s=>(Itm.step s).text)++(n.goals.map (fun g=>(Itm.goal g).text)++[[125]]))))):=by
  unfold Nar.lines Nar.itms
  simp [List.map_map,Function.comp_def]
 rw [e]
 simp only [uOD,List.length_append]
 have h1 : (nl [uIM n]).length≤60:=by
  have := uEo h.name
  have : hProt.length=9:=rfl
  simp only [nl,uIM,List.map_cons,List.map_nil,List.flatten_cons,List.flatten_nil,List.length_append,List.length_cons,List.length_nil]; omega
 have h2 : (nl [(Itm.roles n.roles).text]).length≤200:=by
  have := uG2 h.roles
  have := h.r2
  have : hRole.length=7:=rfl
  simp only [nl,Itm.text,List.map_cons,List.map_nil,List.flatten_cons,List.flatten_nil,List.length_append,List.length_cons,List.length_nil]; omega
 have h3:=uKD Itm.text (frI n.fresh n.fresh.length) (uM0 h.fresh (Nat.le_refl _) h.f2)
 have h3':=uKP n.fresh n.fresh.length
 have h4 : (nl ((if n.tags=[] then [] else [.tags n.tags]).map Itm.text)).length≤300:=by
  split
  ·simp [nl]
  ·have := uG2 h.tags
   have := h.t2
   have : hTag.length=6:=rfl
   simp only [nl,Itm.text,List.map_cons,List.map_nil,List.flatten_cons,List.flatten_nil,List.length_append,List.length_cons,List.length_nil]; omega
 have h5:=uKD (fun s=>(Itm.step s).text) n.steps (M:=1300) fun s hs=>by
  obtain ⟨s1,s2,s3⟩:=h.steps s hs
  exact uL9 s1 s2 s3
 have h6:=uKD (fun g=>(Itm.goal g).text) n.goals (M:=4600) fun g hg=>uLo (h.goals g hg)
 have h7 : (nl [[125]]).length=2:=rfl
 have := h.f2
 have := h.s2
 have := h.g2
 omega
end Go.Proofs.YteidahabkfgfjaaGreat
namespace Go.Proofs.YteidahabkfgfjaaGreat
open Go Go.Abs
theorem sagree_iff {k : Int} : uBm k=true ↔ k=2∨k=3:=by simp [uBm]
theorem uKl (n : Nar) (b : Nat) (g : Gl) (hg : T.sizes g.data≤900000) : Ctr (sys.add b (mapL (nmsL n))) 42 [xtb n.roles (.map (some b)),xg g] [] (xi (uCv n g)) none []:=by
 have hr:=T.rows_len g.data
 have hls:=T.len_sizes g.data
 refine uAA Tryz.func42 rfl rfl rfl rfl rfl rfl ?_;refine uAd (uAb ?_);refine uAt rfl (uAI rfl rfl rfl rfl) ?_;refine uAt rfl (uAI rfl rfl rfl rfl) ?_;refine uAa rfl rfl rfl (uAe rfl gU) ?_;refine uAf ?_;refine uAd ?_;refine uAd (uAb ?_);refine uAa rfl rfl rfl (uAg rfl gU rfl rfl) ?_;refine uAa rfl rfl rfl (uAi rfl gU rfl rfl rfl rfl) ?_;refine uAa rfl rfl rfl (uAg rfl gU rfl rfl) ?_;refine uAa rfl rfl rfl (uAi rfl gU rfl rfl rfl rfl) ?_;refine uAx rfl rfl rfl rfl rfl rfl gU gU (Ctr.add (uCa _ _)) rfl ?_;refine uAa rfl rfl rfl (uAX rfl gU) ?_;refine uAf ?_;refine uAl (s:=⟨[(2,_,_),(3,_,_),(14,_,_)],[(.l 2,_),(.l 3,_)],[],[]⟩) (uAj (⟨sx rfl,sx rfl,sx rfl,trivial⟩) (⟨sx rfl,sx rfl,trivial⟩) trivial) ?_;refine uAn rfl (fun hc=>?_) (fun hc=>?_)
 ·try simp only [nn,uAh,T.rows_len,Gl.rows_len,Fs.rows_len,Sp.rows_len] at hc
  refine uAd (uAb ?_);refine uAa rfl rfl rfl (uAe rfl gU) ?_;refine uAf ?_;refine uAo ?_
  repeat (first | refine tR ?_ | refine bR ?_)
  refine uAs rfl ?_ trivial
  (rw [uCv,if_pos hc]; rfl)
 ·try simp only [nn,uAh,T.rows_len,Gl.rows_len,Fs.rows_len,Sp.rows_len] at hc
  have c1 : ¬ n.roles.contains g.role=false:=by rw [hc]; simp
  refine uAp ?_;refine uAd ?_;refine uAd (uAb ?_);refine uAa rfl rfl rfl (uAg rfl gU rfl rfl) ?_;refine uAa rfl rfl rfl (uAi rfl gU rfl rfl rfl rfl) ?_;refine uAa rfl rfl rfl (uAk rfl rfl gU gU rfl) ?_;refine uAa rfl rfl rfl (uAc rfl gU) ?_;refine uAa rfl rfl rfl (uAg rfl gU rfl rfl) ?_;refine uAa rfl rfl rfl (uAi rfl (fun hh=>hh) rfl rfl rfl rfl) ?_;refine uAa rfl rfl rfl (uAk rfl rfl (fun hh=>hh) gU rfl) ?_;refine uAa rfl rfl rfl (uAN rfl rfl gU (fun _ hi=>gP rfl hi)) ?_;refine uAf ?_;refine uAl (s:=⟨[(2,_,_),(3,_,_),(22,_,_)],[(.l 2,_),(.l 3,_)],[],[]⟩) (uAj (⟨sx rfl,sx rfl,sx rfl,trivial⟩) (⟨sx rfl,sx rfl,trivial⟩) trivial) ?_;refine uAn rfl (fun hc2=>?_) (fun hc2=>?_)
  ·try simp only [nn,uAh,T.rows_len,Gl.rows_len,Fs.rows_len,Sp.rows_len] at hc2
   have ha : uBm g.kind=true:=sagree_iff.2 hc2
   refine uAd (uAb ?_);refine uAa rfl rfl rfl (uAm rfl gU rfl rfl rfl rfl rfl) ?_;refine uAa rfl rfl rfl (uAg rfl gU rfl rfl) ?_;refine uAa rfl rfl rfl (uAi rfl gU rfl rfl rfl rfl) ?_;refine uAa rfl rfl rfl (uAg rfl gU rfl rfl) ?_;refine uAa rfl rfl rfl (uAi rfl gU rfl rfl rfl rfl) ?_;refine uAx rfl rfl rfl rfl rfl rfl gU gU (Ctr.add (uHn _ _ _ _)) rfl ?_;refine uAa rfl rfl rfl (uAe rfl gU) ?_;refine uAf ?_;refine uAl (s:=⟨[(2,_,_),(3,_,_),(5,_,_)],[(.l 2,_),(.l 3,_)],[],[]⟩) (uAj (⟨sx rfl,sx rfl,sx rfl,trivial⟩) (⟨sx rfl,sx rfl,trivial⟩) trivial) ?_;refine uAd (uAb ?_);refine uAa rfl rfl rfl (uAc rfl gU) ?_;refine uAa rfl rfl rfl (uAk rfl rfl gU gU rfl) ?_;refine uAf ?_;refine uAn rfl (fun hc3=>?_) (fun hc3=>?_)
   ·try simp only [nn,uAh,T.rows_len,Gl.rows_len,Fs.rows_len,Sp.rows_len] at hc3
    refine uAd (uAb ?_);refine uAa rfl rfl rfl (uAc rfl gU) ?_;refine uAa rfl rfl rfl (uAe rfl gU) ?_;refine uAf ?_;refine uAo ?_
    repeat (first | refine tR ?_ | refine bR ?_)
    refine uAs rfl ?_ trivial
    (rw [uCv,if_neg c1,if_pos ⟨ha,hc3⟩]; rfl)
   ·try simp only [nn,uAh,T.rows_len,Gl.rows_len,Fs.rows_len,Sp.rows_len] at hc3
    have hE : uCv n g=errs (uCj n.roles (uBh n)) g.data:=by rw [uCv,if_neg c1,if_neg (fun q=>q.2 hc3)]
    rw [hE]
    refine uAp ?_;refine uAd ?_;refine uAd (uAb ?_);refine uAa rfl rfl rfl (uAg rfl gU rfl rfl) ?_;refine uAa rfl rfl rfl (uAi rfl gU rfl rfl rfl rfl) ?_;refine uAJ rfl rfl rfl rfl rfl gU rfl rfl ?_ (fun hh=>by simp at hh); intro hlen;refine uAa rfl rfl rfl (uAc rfl gU) ?_;refine uAf ?_;refine uAl (s:=⟨[(2,_,_),(33,_,_),(34,_,_),(35,_,_)],[(.l 2,_)],[],[]⟩) (uAj (⟨sx rfl,sx rfl,sx rfl,sx rfl,trivial⟩) (⟨sx rfl,trivial⟩) trivial) ?_;refine uAv ?_;refine uAW (ι:=Nat) { t:=[(2,_,_),(33,_,_),(34,_,_)],bx:=[(.l 2,_)],ow:=[] } (fun k=>[(35,true,xi (k : Int))]) (fun k=>[]) (fun k=>k≤g.data.length ∧ ∀ j,j < k→uCj n.roles (uBh n) (g.data.getD j default)=0) (fun k=>g.data.length - k) (0) (⟨by omega,fun j hj=>by omega⟩) (uAj (⟨sx rfl,sx rfl,sx rfl,sx rfl,trivial⟩) (⟨sx rfl,trivial⟩) trivial) ?_
    intro k hoka
    dsimp only [List.cons_append,List.nil_append]
    obtain ⟨hk,hi⟩:=hoka
    refine uAd (uAb ?_);refine uAa rfl rfl rfl (uAk rfl rfl gU gU rfl) ?_;refine uAf ?_;refine uAd ?_;refine uAn rfl (fun hc4=>?_) (fun hc4=>?_)
    ·try simp only [nn,uAh,T.rows_len,Gl.rows_len,Fs.rows_len,Sp.rows_len] at hc4
     have hlt : k < g.data.length:=by omega
     have hks:=T.getD_size hlt
     have hts:=T.sizes_take_le g.data k
     refine uAp ?_;refine uAd ?_;refine uAv ?_;refine uAd (uAb ?_);refine uAa rfl rfl rfl (uAr rfl rfl gU gU rfl rfl rfl (fun hh=>T.rows_at (by first | omega | (simp at hh ⊢; omega)))) ?_;refine uAa rfl rfl rfl (uAE rfl gU rfl rfl rfl rfl) ?_;refine uAt rfl (uAM rfl rfl rfl) ?_;refine uAt rfl (uAz rfl rfl rfl rfl rfl rfl rfl) ?_;refine uAf ?_;refine uAd (uAb ?_);refine uAa rfl rfl rfl (uAm rfl gU rfl rfl rfl rfl rfl) ?_;refine uAa rfl rfl rfl (uAm rfl gU rfl rfl rfl rfl rfl) ?_;refine uAx rfl rfl rfl rfl rfl rfl gU gU (uEW n.roles (nmsL n) b _ (g.data.getD k default) (Nat.le_refl _) (by omega)) rfl ?_;refine uAa rfl rfl rfl (uAe rfl gU) ?_;refine uAf ?_;refine uAl (s:=⟨[(2,_,_),(8,_,_),(33,_,_),(34,_,_),(35,_,_)],[(.l 2,_)],[],[]⟩) (uAj (⟨sx rfl,sx rfl,sx rfl,sx rfl,sx rfl,trivial⟩) (⟨sx rfl,trivial⟩) trivial) ?_;refine uAd (uAb ?_);refine uAa rfl rfl rfl (uAc rfl gU) ?_;refine uAa rfl rfl rfl (uAk rfl rfl gU gU rfl) ?_;refine uAf ?_;refine uAn rfl (fun hc5=>?_) (fun hc5=>?_)
     ·try simp only [nn,uAh,T.rows_len,Gl.rows_len,Fs.rows_len,Sp.rows_len] at hc5
      refine uAd (uAb ?_);refine uAa rfl rfl rfl (uAc rfl gU) ?_;refine uAa rfl rfl rfl (uAe rfl gU) ?_;refine uAf ?_;refine uAo ?_
      repeat (first | refine tR ?_ | refine bR ?_)
      refine uAs rfl ?_ trivial
      (rw [uDN hlt hi hc5]; rfl)
     ·try simp only [nn,uAh,T.rows_len,Gl.rows_len,Fs.rows_len,Sp.rows_len] at hc5
      refine uAp ?_;refine uAb ?_;refine uAa rfl rfl rfl (uAy rfl rfl gU gU rfl (IntWalk.i64_in _ (by omega))) ?_;refine uAa rfl rfl rfl (uAc rfl gU) ?_;refine uAf ?_;refine ⟨k + 1,?_,?_,uAj (⟨⟨_,rfl,?_⟩,⟨sx rfl,sx rfl,sx rfl,trivial⟩⟩) (⟨sx rfl,trivial⟩) trivial⟩
      all_goals (first | rfl | omega | exact ⟨by omega,uCl hi hc5⟩)
    ·try simp only [nn,uAh,T.rows_len,Gl.rows_len,Fs.rows_len,Sp.rows_len] at hc4
     have hke : k=g.data.length:=by omega
     subst hke
     refine uAO ?_
     repeat (first | refine uAG ?_ | refine uAF ?_ | refine uAC rfl ?_)
     refine uAd (uAb ?_);refine uAa rfl rfl rfl (uAe rfl gU) ?_;refine uAf ?_;refine uAo ?_
     repeat (first | refine tR ?_ | refine bR ?_)
     refine uAs rfl ?_ trivial
     (rw [uDh hi]; rfl)
  ·try simp only [nn,uAh,T.rows_len,Gl.rows_len,Fs.rows_len,Sp.rows_len] at hc2
   have ha : ¬ uBm g.kind=true := fun q=>by have := sagree_iff.1 q; omega
   have hE : uCv n g=errs (uCj n.roles (uBh n)) g.data:=by rw [uCv,if_neg c1,if_neg (fun q=>ha q.1)]
   rw [hE]
   refine uAp ?_;refine uAd ?_;refine uAd (uAb ?_);refine uAa rfl rfl rfl (uAg rfl gU rfl rfl) ?_;refine uAa rfl rfl rfl (uAi rfl gU rfl rfl rfl rfl) ?_;refine uAJ rfl rfl rfl rfl rfl gU rfl rfl ?_ (fun hh=>by simp at hh); intro hlen;refine uAa rfl rfl rfl (uAc rfl gU) ?_;refine uAf ?_;refine uAv ?_;refine uAW (ι:=Nat) { t:=[(2,_,_),(33,_,_),(34,_,_)],bx:=[(.l 2,_)],ow:=[] } (fun k=>[(35,true,xi (k : Int))]) (fun k=>[]) (fun k=>k≤g.data.length ∧ ∀ j,j < k→uCj n.roles (uBh n) (g.data.getD j default)=0) (fun k=>g.data.length - k) (0) (⟨by omega,fun j hj=>by omega⟩) (uAj (⟨sx rfl,sx rfl,sx rfl,sx rfl,trivial⟩) (⟨sx rfl,trivial⟩) trivial) ?_
   intro k hokb
   dsimp only [List.cons_append,List.nil_append]
   obtain ⟨hk,hi⟩:=hokb
   refine uAd (uAb ?_);refine uAa rfl rfl rfl (uAk rfl rfl gU gU rfl) ?_;refine uAf ?_;refine uAd ?_;refine uAn rfl (fun hc4=>?_) (fun hc4=>?_)
   ·try simp only [nn,uAh,T.rows_len,Gl.rows_len,Fs.rows_len,Sp.rows_len] at hc4
    have hlt : k < g.data.length:=by omega
    have hks:=T.getD_size hlt
    have hts:=T.sizes_take_le g.data k
    refine uAp ?_;refine uAd ?_;refine uAv ?_;refine uAd (uAb ?_);refine uAa rfl rfl rfl (uAr rfl rfl gU gU rfl rfl rfl (fun hh=>T.rows_at (by first | omega | (simp at hh ⊢; omega)))) ?_;refine uAa rfl rfl rfl (uAE rfl gU rfl rfl rfl rfl) ?_;refine uAt rfl (uAM rfl rfl rfl) ?_;refine uAt rfl (uAz rfl rfl rfl rfl rfl rfl rfl) ?_;refine uAf ?_;refine uAd (uAb ?_);refine uAa rfl rfl rfl (uAm rfl gU rfl rfl rfl rfl rfl) ?_;refine uAa rfl rfl rfl (uAm rfl gU rfl rfl rfl rfl rfl) ?_;refine uAx rfl rfl rfl rfl rfl rfl gU gU (uEW n.roles (nmsL n) b _ (g.data.getD k default) (Nat.le_refl _) (by omega)) rfl ?_;refine uAa rfl rfl rfl (uAe rfl gU) ?_;refine uAf ?_;refine uAl (s:=⟨[(2,_,_),(8,_,_),(33,_,_),(34,_,_),(35,_,_)],[(.l 2,_)],[],[]⟩) (uAj (⟨sx rfl,sx rfl,sx rfl,sx rfl,sx rfl,trivial⟩) (⟨sx rfl,trivial⟩) trivial) ?_;refine uAd (uAb ?_);refine uAa rfl rfl rfl (uAc rfl gU) ?_;refine uAa rfl rfl rfl (uAk rfl rfl gU gU rfl) ?_;refine uAf ?_;refine uAn rfl (fun hc5=>?_) (fun hc5=>?_)
    ·try simp only [nn,uAh,T.rows_len,Gl.rows_len,Fs.rows_len,Sp.rows_len] at hc5
     refine uAd (uAb ?_);refine uAa rfl rfl rfl (uAc rfl gU) ?_;refine uAa rfl rfl rfl (uAe rfl gU) ?_;refine uAf ?_;refine uAo ?_
     repeat (first | refine tR ?_ | refine bR ?_)
     refine uAs rfl ?_ trivial
     (rw [uDN hlt hi hc5]; rfl)
    ·try simp only [nn,uAh,T.rows_len,Gl.rows_len,Fs.rows_len,Sp.rows_len] at hc5
     refine uAp ?_;refine uAb ?_;refine uAa rfl rfl rfl (uAy rfl rfl gU gU rfl (IntWalk.i64_in _ (by omega))) ?_;refine uAa rfl rfl rfl (uAc rfl gU) ?_;refine uAf ?_;refine ⟨k + 1,?_,?_,uAj (⟨⟨_,rfl,?_⟩,⟨sx rfl,sx rfl,sx rfl,trivial⟩⟩) (⟨sx rfl,trivial⟩) trivial⟩
     all_goals (first | rfl | omega | exact ⟨by omega,uCl hi hc5⟩)
   ·try simp only [nn,uAh,T.rows_len,Gl.rows_len,Fs.rows_len,Sp.rows_len] at hc4
    have hke : k=g.data.length:=by omega
    subst hke
    refine uAO ?_
    repeat (first | refine uAG ?_ | refine uAF ?_ | refine uAC rfl ?_)
    refine uAd (uAb ?_);refine uAa rfl rfl rfl (uAe rfl gU) ?_;refine uAf ?_;refine uAo ?_
    repeat (first | refine tR ?_ | refine bR ?_)
    refine uAs rfl ?_ trivial
    (rw [uDh hi]; rfl)
abbrev xii (r : Int × Int) : X:=.tup [.c (.i .i64 r.1), .c (.i .i64 r.2)]
set_option maxHeartbeats 4000000 in
theorem uCg (n : Nar) (hs : ∀ s ∈ n.steps,s.msg.size≤900000) (hg : ∀ g ∈ n.goals,T.sizes g.data≤900000) : Ctr sys 13 [xn n] [] (xii (chkE uAK n)) none []:=by
 have l5:=Sp.rows_len n.steps
 have l6:=Gl.rows_len n.goals
 refine uAA Tryz.func13 rfl rfl rfl rfl rfl rfl ?_;refine uAd (uAb ?_);refine uAt rfl (uAI rfl rfl rfl rfl) ?_;refine uAa rfl rfl rfl (uAe rfl gU) ?_;refine uAa rfl rfl rfl (uAe rfl gU) ?_;refine uAf ?_;refine uAd ?_;refine uAd (uAb ?_);refine uAa rfl rfl rfl (uAm rfl gU rfl rfl rfl rfl rfl) ?_;refine uAx rfl rfl rfl rfl rfl rfl gU gU (uJ9 _ hs hg) rfl ?_;refine uAa rfl rfl rfl (uAe rfl gU) ?_;refine uAf ?_;refine uAl (s:=⟨[(1,_,_),(4,_,_)],[(.l 1,_)],[],[]⟩) (uAj (⟨sx rfl,sx rfl,trivial⟩) (⟨sx rfl,trivial⟩) trivial) ?_;refine uAd (uAb ?_);refine uAa rfl rfl rfl (uAc rfl gU) ?_;refine uAa rfl rfl rfl (uAk rfl rfl gU gU rfl) ?_;refine uAf ?_;refine uAn rfl (fun hc=>?_) (fun hc=>?_)
 ·try simp only [nn,uAh,T.rows_len,Gl.rows_len,Fs.rows_len,Sp.rows_len] at hc
  refine uAd (uAb ?_);refine uAa rfl rfl rfl (uAc rfl gU) ?_;refine uAa rfl rfl rfl (uAe rfl gU) ?_;refine uAa rfl rfl rfl (uAe rfl gU) ?_;refine uAf ?_;refine uAo ?_
  repeat (first | refine tR ?_ | refine bR ?_)
  refine uAs rfl ?_ trivial
  (rw [chkE,if_pos hc]; rfl)
 ·try simp only [nn,uAh,T.rows_len,Gl.rows_len,Fs.rows_len,Sp.rows_len] at hc
  have hok:=uFI (n:=n) hc
  have e1 : chkE uAK n=if decE n≠0 then (0,decE n) else useE n:=by rw [chkE,if_neg (by simpa using hc)]
  rw [e1]
  refine uAp ?_;refine uAd ?_;refine uAd (uAb ?_);refine uAa rfl rfl rfl (uAm rfl gU rfl rfl rfl rfl rfl) ?_;refine uAx rfl rfl rfl rfl rfl rfl gU gU (uHf n (by have := hok.r2; omega) (by have := hok.f2; omega) (by have := hok.t2; omega)) rfl ?_;refine uAa rfl rfl rfl (uAe rfl gU) ?_;refine uAf ?_;refine uAl (s := ⟨[(1,_,_),(5,_,_)],[(.l 1,_)],[],[]⟩) (uAj (⟨sx rfl,sx rfl,trivial⟩) (⟨sx rfl,trivial⟩) trivial) ?_;refine uAd (uAb ?_);refine uAa rfl rfl rfl (uAc rfl gU) ?_;refine uAa rfl rfl rfl (uAk rfl rfl gU gU rfl) ?_;refine uAf ?_;refine uAn rfl (fun hc2=>?_) (fun hc2=>?_)
  ·try simp only [nn,uAh,T.rows_len,Gl.rows_len,Fs.rows_len,Sp.rows_len] at hc2
   refine uAd (uAb ?_);refine uAa rfl rfl rfl (uAc rfl gU) ?_;refine uAa rfl rfl rfl (uAe rfl gU) ?_;refine uAa rfl rfl rfl (uAe rfl gU) ?_;refine uAf ?_;refine uAo ?_
   repeat (first | refine tR ?_ | refine bR ?_)
   refine uAs rfl ?_ trivial
   (rw [if_pos hc2]; rfl)
  ·try simp only [nn,uAh,T.rows_len,Gl.rows_len,Fs.rows_len,Sp.rows_len] at hc2
   rw [if_neg (by simpa using hc2)]
   refine uAp ?_;refine uAd (uAb ?_);refine uAa rfl rfl rfl (uAm rfl gU rfl rfl rfl rfl rfl) ?_;refine uJj rfl rfl rfl rfl rfl rfl (uF8 n) (fun _=>rfl) (fun bm=>?_);refine uAt rfl (uAM rfl rfl rfl) ?_;refine uAt rfl (uAz rfl rfl rfl rfl rfl rfl rfl) ?_;refine uAf ?_;refine uAl (s:={ t:=[(1,_,_),(6,_,_)],bx:=[(.l 1,_),(.l 6,_)],ow:=[],mp:=_ }) (uAj (⟨sx rfl,sx rfl,trivial⟩) (⟨sx rfl,sx rfl,trivial⟩) trivial (.inr rfl)) ?_;refine uAd ?_;refine uAd (uAb ?_);refine uAa rfl rfl rfl (uAg rfl gU rfl rfl) ?_;refine uAa rfl rfl rfl (uAi rfl gU rfl rfl rfl rfl) ?_;refine uAJ rfl rfl rfl rfl rfl gU rfl rfl ?_ (fun hh=>by simp at hh); intro hlen;refine uAa rfl rfl rfl (uAc rfl gU) ?_;refine uAf ?_;refine uAv ?_;refine uAW (ι:=Nat) { t:=[(1,_,_),(6,_,_),(26,_,_),(27,_,_)],bx:=[(.l 1,_),(.l 6,_)],ow:=[],mp:=_ } (fun k=>[(28,true,xi (k : Int))]) (fun k=>[]) (fun k=>k≤n.steps.length ∧ ∀ j,j < k→uDk n (n.steps.getD j default)=0) (fun k=>n.steps.length - k) (0) (⟨by omega,fun j hj=>by omega⟩) (uAj (⟨sx rfl,sx rfl,sx rfl,sx rfl,sx rfl,trivial⟩) (⟨sx rfl,sx rfl,trivial⟩) trivial (.inr rfl)) ?_
   intro k hoka
   dsimp only [List.cons_append,List.nil_append]
   obtain ⟨hk,hi⟩:=hoka
   refine uAd (uAb ?_);refine uAa rfl rfl rfl (uAk rfl rfl gU gU rfl) ?_;refine uAf ?_;refine uAd ?_;refine uAn rfl (fun hc3=>?_) (fun hc3=>?_)
   ·try simp only [nn,uAh,T.rows_len,Gl.rows_len,Fs.rows_len,Sp.rows_len] at hc3
    have hlt : k < n.steps.length:=by omega
    have hks:=hs _ (uCz (d:=default) hlt)
    have hhit : uDk n (n.steps.getD k default)≠0→useE n=((n.steps.getD k default).line,uDk n (n.steps.getD k default)):=fun q=>by
     have := uGl (ln := Sp.line) hlt hi q
     rw [useE,if_pos (by rw [this]; exact q),this]
    refine uAp ?_;refine uAd ?_;refine uAv ?_;refine uAd (uAb ?_);refine uAa rfl rfl rfl (uAr rfl rfl gU gU rfl rfl rfl (fun hh=>Sp.rows_at (by first | omega | (simp at hh ⊢; omega)))) ?_;refine uAa rfl rfl rfl (uAE rfl gU rfl rfl rfl rfl) ?_;refine uAt rfl (uAM rfl rfl rfl) ?_;refine uAt rfl (uAz rfl rfl rfl rfl rfl rfl rfl) ?_;refine uAf ?_;refine uAd (uAb ?_);refine uAa rfl rfl rfl (uAm rfl gU rfl rfl rfl rfl rfl) ?_;refine uAa rfl rfl rfl (uAg rfl gU rfl rfl) ?_;refine uAa rfl rfl rfl (uAi rfl gU rfl rfl rfl rfl) ?_;refine uAa rfl rfl rfl (uAg rfl gU rfl rfl) ?_;refine uAa rfl rfl rfl (uAi rfl gU rfl rfl rfl rfl) ?_;refine uAx rfl rfl rfl rfl rfl rfl gU gU (uHn _ _ _ _) rfl ?_;refine uAa rfl rfl rfl (uAe rfl gU) ?_;refine uAf ?_;refine uAl (s:={ t:=[(1,_,_),(6,_,_),(8,_,_),(9,_,_),(26,_,_),(27,_,_),(28,_,_)],bx:=[(.l 1,_),(.l 6,_),(.l 8,_)],ow:=[],mp:=_ }) (uAj (⟨sx rfl,sx rfl,sx rfl,sx rfl,sx rfl,sx rfl,sx rfl,trivial⟩) (⟨sx rfl,sx rfl,sx rfl,trivial⟩) trivial (.inr rfl)) ?_;refine uAd ?_;refine uAd (uAb ?_);refine uAa rfl rfl rfl (uAc rfl gU) ?_;refine uAa rfl rfl rfl (uAk rfl rfl gU gU rfl) ?_;refine uAf ?_;refine uAn rfl (fun hc4=>?_) (fun hc4=>?_)
    ·try simp only [nn,uAh,T.rows_len,Gl.rows_len,Fs.rows_len,Sp.rows_len] at hc4
     have hstep : uDk n (n.steps.getD k default)=uCj n.roles (uBh n) (n.steps.getD k default).msg:=by rw [uDk,if_neg (by simpa using hc4)]
     refine uAb ?_;refine uAa rfl rfl rfl (uAm rfl gU rfl rfl rfl rfl rfl) ?_;refine uAa rfl rfl rfl (uAg rfl gU rfl rfl) ?_;refine uAa rfl rfl rfl (uAm rfl gU rfl rfl rfl rfl rfl) ?_;refine uIx 0 rfl rfl rfl rfl rfl rfl rfl gU gU (uEW n.roles (nmsL n) bm _ (n.steps.getD k default).msg (Nat.le_refl _) (by omega)) rfl ?_;refine uAa rfl rfl rfl (uAe rfl gU) ?_;refine uAf ?_;refine uAl (s:={ t:=[(1,_,_),(6,_,_),(8,_,_),(9,_,_),(26,_,_),(27,_,_),(28,_,_)],bx:=[(.l 1,_),(.l 6,_),(.l 8,_)],ow:=[],mp:=_ }) (uAj (⟨sx rfl,sx rfl,sx rfl,sx rfl,sx rfl,sx rfl,sx rfl,trivial⟩) (⟨sx rfl,sx rfl,sx rfl,trivial⟩) trivial (.inr rfl)) ?_;refine uAd (uAb ?_);refine uAa rfl rfl rfl (uAc rfl gU) ?_;refine uAa rfl rfl rfl (uAk rfl rfl gU gU rfl) ?_;refine uAf ?_;refine uAn rfl (fun hc5=>?_) (fun hc5=>?_)
     ·try simp only [nn,uAh,T.rows_len,Gl.rows_len,Fs.rows_len,Sp.rows_len] at hc5
      have hh:=hhit (by rw [hstep]; exact hc5)
      rw [hh,hstep]
      refine uAd (uAb ?_);refine uAa rfl rfl rfl (uAg rfl gU rfl rfl) ?_;refine uAa rfl rfl rfl (uAi rfl gU rfl rfl rfl rfl) ?_;refine uAa rfl rfl rfl (uAc rfl gU) ?_;refine uAa rfl rfl rfl (uAe rfl gU) ?_;refine uAa rfl rfl rfl (uAe rfl gU) ?_;refine uAf ?_;refine uAo ?_
      repeat (first | refine tR ?_ | refine bR ?_)
      refine uAs rfl ?_ trivial
      rfl
     ·try simp only [nn,uAh,T.rows_len,Gl.rows_len,Fs.rows_len,Sp.rows_len] at hc5
      refine uAp ?_;refine uAb ?_;refine uAa rfl rfl rfl (uAy rfl rfl gU gU rfl (IntWalk.i64_in _ (by omega))) ?_;refine uAa rfl rfl rfl (uAc rfl gU) ?_;refine uAf ?_;refine ⟨k + 1,?_,?_,uAj (⟨⟨_,rfl,?_⟩,⟨sx rfl,sx rfl,sx rfl,sx rfl,trivial⟩⟩) (⟨sx rfl,sx rfl,trivial⟩) trivial (.inr rfl)⟩
      all_goals (first | rfl | omega | exact ⟨by omega,uCl hi (by rw [hstep]; exact hc5)⟩)
    ·try simp only [nn,uAh,T.rows_len,Gl.rows_len,Fs.rows_len,Sp.rows_len] at hc4
     have hstep : uDk n (n.steps.getD k default)=twoE n.roles (n.steps.getD k default).frm (n.steps.getD k default).dst:=by rw [uDk,if_pos hc4]
     have hh:=hhit (by rw [hstep]; exact hc4)
     rw [hh,hstep]
     refine uAp ?_;refine uAd (uAb ?_);refine uAa rfl rfl rfl (uAc rfl gU) ?_;refine uAa rfl rfl rfl (uAk rfl rfl gU gU rfl) ?_;refine uAf ?_;refine uAn rfl (fun hc5=>?_) (fun hc5=>?_)
     ·refine uAd (uAb ?_)
      refine uAa rfl rfl rfl (uAg rfl gU rfl rfl) ?_;refine uAa rfl rfl rfl (uAi rfl gU rfl rfl rfl rfl) ?_;refine uAa rfl rfl rfl (uAc rfl gU) ?_;refine uAa rfl rfl rfl (uAe rfl gU) ?_;refine uAa rfl rfl rfl (uAe rfl gU) ?_;refine uAf ?_;refine uAo ?_
      repeat (first | refine tR ?_ | refine bR ?_)
      refine uAs rfl ?_ trivial
      rfl
     ·try simp only [nn,uAh,T.rows_len,Gl.rows_len,Fs.rows_len,Sp.rows_len] at hc5
      exact absurd hc5 hc4
   ·try simp only [nn,uAh,T.rows_len,Gl.rows_len,Fs.rows_len,Sp.rows_len] at hc3
    have hke : k=n.steps.length:=by omega
    subst hke
    have hus : useE n=lnE (uCv n) Gl.line n.goals:=by rw [useE,if_neg (by rw [uFc (ln:=Sp.line) hi]; simp)]
    rw [hus]
    refine uAO ?_
    repeat (first | refine uAG ?_ | refine uAF ?_ | refine uAC rfl ?_)
    refine uAd ?_;refine uAd (uAb ?_);refine uAa rfl rfl rfl (uAg rfl gU rfl rfl) ?_;refine uAa rfl rfl rfl (uAi rfl gU rfl rfl rfl rfl) ?_;refine uAJ rfl rfl rfl rfl rfl gU rfl rfl ?_ (fun hh=>by simp at hh); intro hlen;refine uAa rfl rfl rfl (uAc rfl gU) ?_;refine uAf ?_;refine uAl (s:={ t:=[(6,_,_),(51,_,_),(52,_,_),(53,_,_)],bx:=[(.l 6,_)],ow:=[],mp:=_ }) (uAj (⟨sx rfl,sx rfl,sx rfl,sx rfl,trivial⟩) (⟨sx rfl,trivial⟩) trivial (.inr rfl)) ?_;refine uAv ?_;refine uAW (ι:=Nat) { t:=[(6,_,_),(51,_,_),(52,_,_)],bx:=[(.l 6,_)],ow:=[],mp:=_ } (fun j=>[(53,true,xi (j : Int))]) (fun j=>[]) (fun j=>j≤n.goals.length ∧ ∀ i,i < j→uCv n (n.goals.getD i default)=0) (fun j=>n.goals.length - j) (0) (⟨by omega,fun j hj=>by omega⟩) (uAj (⟨sx rfl,sx rfl,sx rfl,sx rfl,trivial⟩) (⟨sx rfl,trivial⟩) trivial (.inr rfl)) ?_
    intro j hokb
    dsimp only [List.cons_append,List.nil_append]
    obtain ⟨hj,hi2⟩:=hokb
    refine uAd (uAb ?_);refine uAa rfl rfl rfl (uAk rfl rfl gU gU rfl) ?_;refine uAf ?_;refine uAd ?_;refine uAn rfl (fun hc6=>?_) (fun hc6=>?_)
    ·try simp only [nn,uAh,T.rows_len,Gl.rows_len,Fs.rows_len,Sp.rows_len] at hc6
     have hlt : j < n.goals.length:=by omega
     have hks:=hg _ (uCz (d:=default) hlt)
     refine uAp ?_;refine uAd ?_;refine uAv ?_;refine uAd (uAb ?_);refine uAa rfl rfl rfl (uAr rfl rfl gU gU rfl rfl rfl (fun hh=>Gl.rows_at (by first | omega | (simp at hh ⊢; omega)))) ?_;refine uAa rfl rfl rfl (uAE rfl gU rfl rfl rfl rfl) ?_;refine uAt rfl (uAM rfl rfl rfl) ?_;refine uAt rfl (uAz rfl rfl rfl rfl rfl rfl rfl) ?_;refine uAf ?_;refine uAd (uAb ?_);refine uAa rfl rfl rfl (uAm rfl gU rfl rfl rfl rfl rfl) ?_;refine uAa rfl rfl rfl (uAm rfl gU rfl rfl rfl rfl rfl) ?_;refine uIx 0 rfl rfl rfl rfl rfl rfl rfl gU gU (uKl n bm (n.goals.getD j default) hks) rfl ?_;refine uAa rfl rfl rfl (uAe rfl gU) ?_;refine uAf ?_;refine uAl (s:={ t:=[(6,_,_),(11,_,_),(12,_,_),(51,_,_),(52,_,_),(53,_,_)],bx:=[(.l 11,_),(.l 6,_)],ow:=[],mp:=_ }) (uAj (⟨sx rfl,sx rfl,sx rfl,sx rfl,sx rfl,sx rfl,trivial⟩) (⟨sx rfl,sx rfl,trivial⟩) trivial (.inr rfl)) ?_;refine uAd (uAb ?_);refine uAa rfl rfl rfl (uAc rfl gU) ?_;refine uAa rfl rfl rfl (uAk rfl rfl gU gU rfl) ?_;refine uAf ?_;refine uAn rfl (fun hc7=>?_) (fun hc7=>?_)
     ·try simp only [nn,uAh,T.rows_len,Gl.rows_len,Fs.rows_len,Sp.rows_len] at hc7
      rw [uGl (ln:=Gl.line) hlt hi2 hc7]
      refine uAd (uAb ?_);refine uAa rfl rfl rfl (uAg rfl gU rfl rfl) ?_;refine uAa rfl rfl rfl (uAi rfl gU rfl rfl rfl rfl) ?_;refine uAa rfl rfl rfl (uAc rfl gU) ?_;refine uAa rfl rfl rfl (uAe rfl gU) ?_;refine uAa rfl rfl rfl (uAe rfl gU) ?_;refine uAf ?_;refine uAo ?_
      repeat (first | refine tR ?_ | refine bR ?_)
      refine uAs rfl ?_ trivial
      rfl
     ·try simp only [nn,uAh,T.rows_len,Gl.rows_len,Fs.rows_len,Sp.rows_len] at hc7
      refine uAp ?_;refine uAb ?_;refine uAa rfl rfl rfl (uAy rfl rfl gU gU rfl (IntWalk.i64_in _ (by omega))) ?_;refine uAa rfl rfl rfl (uAc rfl gU) ?_;refine uAf ?_;refine ⟨j + 1,?_,?_,uAj (⟨⟨_,rfl,?_⟩,⟨sx rfl,sx rfl,sx rfl,trivial⟩⟩) (⟨sx rfl,trivial⟩) trivial (.inr rfl)⟩
      all_goals (first | rfl | omega | exact ⟨by omega,uCl hi2 hc7⟩)
    ·try simp only [nn,uAh,T.rows_len,Gl.rows_len,Fs.rows_len,Sp.rows_len] at hc6
     have hje : j=n.goals.length:=by omega
     subst hje
     rw [uFc (ln:=Gl.line) hi2]
     refine uAO ?_
     repeat (first | refine uAG ?_ | refine uAF ?_ | refine uAC rfl ?_)
     refine uAd (uAb ?_);refine uAa rfl rfl rfl (uAe rfl gU) ?_;refine uAa rfl rfl rfl (uAe rfl gU) ?_;refine uAf ?_;refine uAo ?_
     repeat (first | refine tR ?_ | refine bR ?_)
     refine uAs rfl ?_ trivial
     rfl
end Go.Proofs.YteidahabkfgfjaaGreat
namespace Go.Proofs.YteidahabkfgfjaaGreat
open Go Go.Abs
def occA (s : List UInt8) : Nat→T→Bool
 | 0,_=>false
 | n + 1,t=>(decide (t.kind=2) && decide (t.name=s)) || t.kids.any (occA s n)
def occT (s : List UInt8) (t : T) : Bool:=occA s t.size t
theorem uHu {α : Type} {l : List α} {p q : α→Bool} (h : ∀ x ∈ l,p x=q x) : l.any p=l.any q:=by
 induction l with
 | nil=>rfl
 | cons x l ih=>rw [List.any_cons,List.any_cons,h x (by simp),ih fun y hy=>h y (by simp [hy])]
theorem uHr (s : List UInt8) : ∀ (n m : Nat) (t : T),t.size≤n→t.size≤m→occA s n t=occA s m t
 | 0,_,t,h,_=>by have := t.size_pos; omega
 | _,0,t,_,h=>by have := t.size_pos; omega
 | n + 1,m + 1,t,hn,hm=>by
  rw [occA,occA]
  congr 1
  exact uHu fun x hx=>by
   have := uCm hx
   exact uHr s n m x (by omega) (by omega)
theorem uNF (s : List UInt8) (t : T) : occT s t=((decide (t.kind=2) && decide (t.name=s)) || t.kids.any (occT s)):=by
 obtain ⟨m,hm⟩ : ∃ m,t.size=m + 1 := ⟨t.size - 1,by have := t.size_pos; omega⟩
 conv=>lhs; unfold occT
 rw [hm,occA]
 congr 1
 exact uHu fun x hx=>by
  have := uCm hx
  exact uHr s m x.size x (by omega) (by omega)
def idxT (p : T→Bool) : List T→Int
 | []=>-1
 | t :: r=>if p t=true then 0 else if idxT p r < 0 then -1 else idxT p r + 1
theorem uJt (p : T→Bool) : ∀ l : List T,decide (0≤idxT p l)=l.any p
 | []=>rfl
 | t :: r=>by
  have ih:=uJt p r
  rw [List.any_cons,idxT]
  by_cases h : p t=true
  ·rw [if_pos h,h]; rfl
  ·rw [if_neg h,← ih]
   rw [Bool.not_eq_true] at h
   rw [h,Bool.false_or]
   split
   ·rename_i q
    rw [Bool.eq_iff_iff,decide_eq_true_iff,decide_eq_true_iff]; omega
   ·rename_i q
    rw [Bool.eq_iff_iff,decide_eq_true_iff,decide_eq_true_iff]; omega
theorem uM5 {p : T→Bool} {l : List T} {k : Nat} (hk : k < l.length) (h : ∀ j,j < k→p (l.getD j default)=false) (hx : p (l.getD k default)=true) : idxT p l=(k : Int):=by
 induction l generalizing k with
 | nil=>simp at hk
 | cons t r ih =>
  cases k with
  | zero=>rw [idxT,if_pos (by simpa using hx)]; rfl
  | succ k =>
   have h0:=h 0 (by omega)
   have := ih (k := k) (by simpa using hk) (fun j hj=>by simpa using h (j + 1) (by omega)) (by simpa using hx)
   rw [idxT,if_neg (by simpa using h0),this,if_neg (by omega)]; push_cast; rfl
theorem uLP {p : T→Bool} {l : List T} (h : ∀ j,j < l.length→p (l.getD j default)=false) : idxT p l = -1:=by
 induction l with
 | nil=>rfl
 | cons t r ih =>
  have h0:=h 0 (by simp)
  rw [idxT,if_neg (by simpa using h0),ih fun j hj=>by simpa using h (j + 1) (by simpa using hj)]
  rfl
theorem uLz (s : List UInt8) (t : T) (h : Ctr sysO 47 [xm t,xs s] [] (xb (occT s t)) none []) : CtrO sysO 88 [xm t, .v (.ptr (.o 0) 0)] [[.s s]] [] (xb (occT s t)) [[.s s]] .box:=by
 refine uB0 Tryz.func88 rfl rfl rfl rfl rfl rfl rfl ?_;refine uAd (uAb ?_);refine uAt rfl (uAI rfl rfl rfl rfl) ?_;refine uAa rfl rfl rfl (uAe rfl gU) ?_;refine uAf ?_;refine uAd (uAb ?_);refine uAa rfl rfl rfl (uAm rfl gU rfl rfl rfl rfl rfl) ?_;refine uAa rfl rfl rfl (uAi rfl gU rfl rfl rfl rfl) ?_;refine uAx rfl rfl rfl rfl rfl rfl gU gU (h) rfl ?_;refine uAa rfl rfl rfl (uAe rfl gU) ?_;refine uAf ?_;refine uAo ?_
 repeat (first | refine tR ?_ | refine bR ?_)
 refine uDx rfl ?_ (⟨⟨_,rfl,?_⟩,trivial⟩) (by kernel_rfl)
 all_goals rfl
theorem uIO (s : List UInt8) (ks : List T) (hl : ks.length≤900000) (h : ∀ t ∈ ks,Ctr sysO 47 [xm t,xs s] [] (xb (occT s t)) none []) : CtrO sysO 64 [xl ks, .fn 88 [.ptr (.o 0) 0]] [[.s s]] [] (xi (idxT (occT s) ks)) [[.s s]] .box:=by
 have hr:=T.rows_len ks
 refine uB0 Tryz.func64 rfl rfl rfl rfl rfl rfl rfl ?_;refine uAd (uAb ?_);refine uAa rfl rfl rfl (uAe rfl gU) ?_;refine uAf ?_;refine uAd ?_;refine uAd (uAb ?_);refine uAa rfl rfl rfl (uAc rfl gU) ?_;refine uAJ rfl rfl rfl rfl rfl gU rfl rfl ?_ (fun hh=>by simp at hh); intro hlen;refine uAa rfl rfl rfl (uAc rfl gU) ?_;refine uAf ?_;refine uAv ?_;refine uAW (ι:=Nat) { t:=[(0,_,_),(1,_,_),(7,_,_)],bx:=[(.o 0,_)],ow:=[] } (fun k=>[(8,true,xi (k : Int))]) (fun k=>[]) (fun k=>k≤ks.length ∧ ∀ j,j < k→occT s (ks.getD j default)=false) (fun k=>ks.length - k) (0) (⟨by omega,fun j hj=>by omega⟩) (uAj (⟨sx rfl,sx rfl,sx rfl,sx rfl,trivial⟩) (⟨sx rfl,trivial⟩) trivial) ?_
 intro k hok
 dsimp only [List.cons_append,List.nil_append]
 obtain ⟨hk,hi⟩:=hok
 refine uAd (uAb ?_);refine uAa rfl rfl rfl (uAk rfl rfl gU gU rfl) ?_;refine uAf ?_;refine uAd ?_;refine uAn rfl (fun hc=>?_) (fun hc=>?_)
 ·try simp only [nn,uAh,T.rows_len,Gl.rows_len,Fs.rows_len,Sp.rows_len] at hc
  have hlt : k < ks.length:=by omega
  refine uAp ?_;refine uAd ?_;refine uAv ?_;refine uAd (uAb ?_);refine uAa rfl rfl rfl (uAc rfl gU) ?_;refine uAa rfl rfl rfl (uAe rfl gU) ?_;refine uAf ?_;refine uAd (uAb ?_);refine uAa rfl rfl rfl (uAc rfl gU) ?_;refine uAa rfl rfl rfl (uAc rfl gU) ?_;refine uAa rfl rfl rfl (uAc rfl gU) ?_;refine uAa rfl rfl rfl (uAr rfl rfl gU gU rfl rfl rfl (fun hh=>T.rows_at (by first | omega | (simp at hh ⊢; omega)))) ?_;refine uAa rfl rfl rfl (uAE rfl gU rfl rfl rfl rfl) ?_;refine uFo [⟨.o 0,0,[.s s],[.s s]⟩] [] rfl rfl rfl rfl rfl rfl (ps1 rfl) rfl rfl (uLz s (ks.getD k default) (h _ (uCz hlt))) rfl rfl rfl ?_;refine uAf ?_;refine uAl (s:=⟨[(0,_,_),(1,_,_),(5,_,_),(7,_,_),(8,_,_),(16,_,_)],[(.o 0,_)],[],[]⟩) (uAj (⟨sx rfl,sx rfl,sx rfl,sx rfl,sx rfl,sx rfl,trivial⟩) (⟨sx rfl,trivial⟩) trivial) ?_;refine uAn rfl (fun hc2=>?_) (fun hc2=>?_)
  ·try simp only [nn,uAh,T.rows_len,Gl.rows_len,Fs.rows_len,Sp.rows_len] at hc2
   rw [uM5 hlt hi hc2]
   refine uAd (uAb ?_);refine uAa rfl rfl rfl (uAc rfl gU) ?_;refine uAa rfl rfl rfl (uAe rfl gU) ?_;refine uAf ?_;refine uAo ?_
   repeat (first | refine tR ?_ | refine bR ?_)
   refine uDx rfl ?_ (⟨⟨_,rfl,?_⟩,trivial⟩) (by kernel_rfl)
   all_goals rfl
  ·try simp only [nn,uAh,T.rows_len,Gl.rows_len,Fs.rows_len,Sp.rows_len] at hc2
   have hi2 : ∀ j,j < k + 1→occT s (ks.getD j default)=false:=fun j q=>by
    by_cases e : j=k
    ·subst e; exact hc2
    ·exact hi j (by omega)
   refine uAp ?_;refine uAb ?_;refine uAa rfl rfl rfl (uAy rfl rfl gU gU rfl (IntWalk.i64_in _ (by omega))) ?_;refine uAa rfl rfl rfl (uAc rfl gU) ?_;refine uAf ?_;refine ⟨k + 1,?_,?_,uAj (⟨⟨_,rfl,?_⟩,⟨sx rfl,sx rfl,sx rfl,trivial⟩⟩) (⟨sx rfl,trivial⟩) trivial⟩
   all_goals (first | rfl | omega | exact ⟨by omega,hi2⟩)
 ·try simp only [nn,uAh,T.rows_len,Gl.rows_len,Fs.rows_len,Sp.rows_len] at hc
  have hke : k=ks.length:=by omega
  subst hke
  rw [uLP hi]
  refine uAO ?_
  repeat (first | refine uAG ?_ | refine uAF ?_ | refine uAC rfl ?_)
  refine uAd (uAb ?_);refine uAa rfl rfl rfl (uAe rfl gU) ?_;refine uAf ?_;refine uAo ?_
  repeat (first | refine tR ?_ | refine bR ?_)
  refine uDx rfl ?_ (⟨⟨_,rfl,?_⟩,trivial⟩) (by kernel_rfl)
  all_goals rfl
theorem uJy (s : List UInt8) (ks : List T) (hl : ks.length≤900000) (h : ∀ t ∈ ks,Ctr sysO 47 [xm t,xs s] [] (xb (occT s t)) none []) : CtrO sysO 30 [xl ks, .fn 88 [.ptr (.o 0) 0]] [[.s s]] [] (xb (ks.any (occT s))) [[.s s]] .box:=by
 have hr:=T.rows_len ks
 refine uB0 Tryz.func30 rfl rfl rfl rfl rfl rfl rfl ?_;refine uAd (uAb ?_);refine uAa rfl rfl rfl (uAe rfl gU) ?_;refine uAf ?_;refine uAd (uAb ?_);refine uAa rfl rfl rfl (uAc rfl gU) ?_;refine uAa rfl rfl rfl (uAc rfl gU) ?_;refine uJx [⟨.o 0,0,[.s s],[.s s]⟩] [] rfl rfl rfl rfl rfl rfl (ps1 rfl) rfl rfl (uIO s ks hl h) rfl rfl rfl ?_
 rw [← uJt]
 refine uAa rfl rfl rfl (uAk rfl rfl gU gU rfl) ?_;refine uAa rfl rfl rfl (uAe rfl gU) ?_;refine uAf ?_;refine uAo ?_
 repeat (first | refine tR ?_ | refine bR ?_)
 refine uDx rfl ?_ (⟨⟨_,rfl,?_⟩,trivial⟩) (by kernel_rfl)
 all_goals rfl
theorem uIe (s : List UInt8) : ∀ (m : Nat) (t : T),t.size≤m→m≤900000→Ctr sysO 47 [xm t,xs s] [] (xb (occT s t)) none []:=by
 intro m
 induction m with
 | zero=>intro t h; have := t.size_pos; omega
 | succ m ih =>
  intro t ht hm
  have hr:=T.rows_len t.kids
  have hls:=T.len_sizes t.kids
  have hse:=t.size_eq
  have hk : ∀ x ∈ t.kids,Ctr sysO 47 [xm x,xs s] [] (xb (occT s x)) none []:=fun x hx=>by
   have := uCm hx
   exact ih x (by omega) (by omega)
  refine uAA Tryz.func47 rfl rfl rfl rfl rfl rfl ?_;refine uAd (uAb ?_);refine uAt rfl (uAI rfl rfl rfl rfl) ?_;refine uAt rfl (uAI rfl rfl rfl rfl) ?_;refine uAa rfl rfl rfl (uAe rfl gU) ?_;refine uAf ?_;refine uAd (uAb ?_);refine uAa rfl rfl rfl (uAg rfl gU rfl rfl) ?_;refine uAa rfl rfl rfl (uAi rfl gU rfl rfl rfl rfl) ?_;refine uAa rfl rfl rfl (uAk rfl rfl gU gU rfl) ?_;refine uAa rfl rfl rfl (uAc rfl gU) ?_;refine uAa rfl rfl rfl (uAg rfl gU rfl rfl) ?_;refine uAa rfl rfl rfl (uAi rfl (fun hh=>hh) rfl rfl rfl rfl) ?_;refine uAa rfl rfl rfl (uAi rfl gU rfl rfl rfl rfl) ?_;refine uAa rfl rfl rfl (uA2 rfl rfl (fun hh=>hh) (fun hh=>hh) rfl) ?_;refine uAa rfl rfl rfl (uAH rfl rfl gU (fun _ hi=>gP rfl hi)) ?_
  have hE:=uNF s t
  generalize hb : (t.kind == 2 && t.name == s)=b
  have hb2 : (decide (t.kind=2) && decide (t.name=s))=b:=by
   rw [← hb,Bool.eq_iff_iff]; simp
  rw [hb2] at hE
  cases b
  ·rw [Bool.false_or] at hE
   refine uA8 (s:=⟨[(2,_,_),(3,_,_),(13,_,_)],[(.l 2,_),(.l 3,_)],[],[]⟩) (uAj (⟨sx rfl,sx rfl,sx rfl,trivial⟩) (⟨sx rfl,sx rfl,trivial⟩) trivial) ?_;refine uAa rfl rfl rfl (uAc rfl gU) ?_;refine uAa rfl rfl rfl (uAg rfl gU rfl rfl) ?_;refine uAa rfl rfl rfl (uAi rfl (fun hh=>hh) rfl rfl rfl rfl) ?_;refine uAa rfl rfl rfl (uEJ (ys:=[.ptr (.l 3) 0]) rfl) ?_;refine uJx [⟨.l 3,0,[.s s],[.s s]⟩] [] rfl rfl rfl rfl rfl rfl (ps1 rfl) rfl rfl (uJy s t.kids (by omega) hk) rfl rfl rfl ?_;refine uAa rfl rfl rfl (uAN rfl rfl gU (fun _ hi=>gP rfl hi)) ?_;refine uAa rfl rfl rfl (uAe rfl gU) ?_;refine uAf ?_;refine uAo ?_
   repeat (first | refine tR ?_ | refine bR ?_)
   refine uAs rfl ?_ trivial
   (rw [hE]; rfl)
  ·skip
   rw [Bool.true_or] at hE
   refine uA8 (s:=⟨[(2,_,_),(3,_,_),(13,_,_)],[(.l 2,_),(.l 3,_)],[],[]⟩) (uAj (⟨sx rfl,sx rfl,sx rfl,trivial⟩) (⟨sx rfl,sx rfl,trivial⟩) trivial) ?_;refine uAa rfl rfl rfl (uAc rfl gU) ?_;refine uAa rfl rfl rfl (uAg rfl gU rfl rfl) ?_;refine uAa rfl rfl rfl (uAi rfl (fun hh=>hh) rfl rfl rfl rfl) ?_;refine uKL (xb false) rfl rfl rfl ?_;refine uKL (xb false) rfl rfl rfl ?_;refine uAa rfl rfl rfl (uAN rfl rfl gU (fun _ hi=>gP rfl hi)) ?_;refine uAa rfl rfl rfl (uAe rfl gU) ?_;refine uAf ?_;refine uAo ?_
   repeat (first | refine tR ?_ | refine bR ?_)
   refine uAs rfl ?_ trivial
   (rw [hE]; rfl)
theorem uIX (s : List UInt8) (t : T) (ht : t.size≤900000) : Ctr sys 47 [xm t,xs s] [] (xb (occT s t)) none []:=(uIe s _ t (Nat.le_refl _) ht).wk rfl fun _ h=>h
def uIS (n : Nar) (s : List UInt8) : Int × Int:=if (chkE uAK n).2≠0 then (0,(chkE uAK n).2) else if (uBh n).contains s=true then (mapI (nmsL n) s,0) else (0,4)
def uD4 (s : List UInt8) : Nat→List Sp→List Int
 | _,[]=>[]
 | k,x :: r=>if occT s x.msg=true then (k : Int) :: uD4 s (k + 1) r else uD4 s (k + 1) r
def uLd (n : Nar) (s : List UInt8) : List Int:=if (chkE uAK n).2≠0 then [] else uD4 s 0 n.steps
theorem uKH (s : List UInt8) (l : List Sp) (x : Sp) : ∀ k,uD4 s k (l++[x])=uD4 s k l++if occT s x.msg=true then [((k + l.length : Nat) : Int)] else []:=by
 induction l with
 | nil=>intro k; simp [uD4]
 | cons y r ih =>
  intro k
  rw [List.cons_append,uD4,uD4,ih (k + 1)]
  have : k + 1 + r.length=k + (y :: r).length:=by simp; omega
  rw [this]
  split <;> simp
theorem uHt (s : List UInt8) : ∀ (l : List Sp) (k : Nat),(uD4 s k l).length≤l.length
 | [],_=>by simp [uD4]
 | y :: r,k=>by
  have := uHt s r (k + 1)
  rw [uD4]
  split
  ·simp only [List.length_cons]; omega
  ·simp only [List.length_cons]; omega
theorem uGS (n : Nar) (s : List UInt8) (hs : ∀ s ∈ n.steps,s.msg.size≤900000) (hg : ∀ g ∈ n.goals,T.sizes g.data≤900000) : Ctr sys 18 [xn n,xs s] [] (xii (uIS n s)) none []:=by
 refine uAA Tryz.func18 rfl rfl rfl rfl rfl rfl ?_;refine uAd (uAb ?_);refine uAt rfl (uAI rfl rfl rfl rfl) ?_;refine uAa rfl rfl rfl (uAe rfl gU) ?_;refine uAa rfl rfl rfl (uAe rfl gU) ?_;refine uAf ?_;refine uAd ?_;refine uAd (uAb ?_);refine uAa rfl rfl rfl (uAm rfl gU rfl rfl rfl rfl rfl) ?_;refine uAx rfl rfl rfl rfl rfl rfl gU gU (uCg n hs hg) rfl ?_;refine uAa rfl rfl rfl (uAc rfl gU) ?_;refine uAa rfl rfl rfl (uAu rfl gU rfl) ?_;refine uAa rfl rfl rfl (uAu rfl gU rfl) ?_;refine uAa rfl rfl rfl (uAe rfl gU) ?_;refine uAa rfl rfl rfl (uAe rfl gU) ?_;refine uAf ?_;refine uAl (s:=⟨[(1,_,_),(2,_,_),(7,_,_)],[(.l 2,_)],[],[]⟩) (uAj (⟨sx rfl,sx rfl,sx rfl,trivial⟩) (⟨sx rfl,trivial⟩) trivial) ?_;refine uAd (uAb ?_);refine uAa rfl rfl rfl (uAc rfl gU) ?_;refine uAa rfl rfl rfl (uAk rfl rfl gU gU rfl) ?_;refine uAf ?_;refine uAn rfl (fun hc=>?_) (fun hc=>?_)
 ·try simp only [nn,uAh,T.rows_len,Gl.rows_len,Fs.rows_len,Sp.rows_len] at hc
  refine uAd (uAb ?_);refine uAa rfl rfl rfl (uAc rfl gU) ?_;refine uAa rfl rfl rfl (uAe rfl gU) ?_;refine uAa rfl rfl rfl (uAe rfl gU) ?_;refine uAf ?_;refine uAo ?_
  repeat (first | refine tR ?_ | refine bR ?_)
  refine uAs rfl ?_ trivial
  (rw [uIS,if_pos hc]; rfl)
 ·try simp only [nn,uAh,T.rows_len,Gl.rows_len,Fs.rows_len,Sp.rows_len] at hc
  rw [uIS,if_neg (by simpa using hc)]
  refine uAp ?_;refine uAd (uAb ?_);refine uAa rfl rfl rfl (uAm rfl gU rfl rfl rfl rfl rfl) ?_;refine uJj rfl rfl rfl rfl rfl rfl (uF8 n) (fun _=>rfl) (fun bm=>?_);refine uAa rfl rfl rfl (uGz rfl gU (Tryz.underlying63) rfl rfl rfl rfl rfl rfl) ?_;refine uAa rfl rfl rfl (uAc rfl gU) ?_;refine uAa rfl rfl rfl (uEH (i:=0) (c:=.i .i64 (mapI (nmsL n) s)) (z:=.int .i64 0) rfl rfl gU gU rfl Tryz.underlying61 Tryz.underlying9 (by kernel_rfl) (fun w S=>uLl (nmsL n) s) rfl) ?_;refine uAa rfl rfl rfl (uAc rfl gU) ?_;refine uAa rfl rfl rfl (uAu rfl gU rfl) ?_;refine uAa rfl rfl rfl (uAu rfl gU rfl) ?_;refine uAa rfl rfl rfl (uAe rfl gU) ?_;refine uAa rfl rfl rfl (uAe rfl gU) ?_;refine uAf ?_;refine uAl (s:={ t:=[(8,_,_),(9,_,_)],bx:=[],ow:=[],mp:=_ }) (uAj (⟨sx rfl,sx rfl,trivial⟩) trivial trivial (.inr rfl)) ?_;refine uAd ?_;refine uAd (uAb ?_);refine uAa rfl rfl rfl (uAc rfl gU) ?_;refine uAa rfl rfl rfl (uAX rfl gU) ?_;refine uAf ?_;refine uAn rfl (fun hc2=>?_) (fun hc2=>?_)
  ·try simp only [nn,uAh,T.rows_len,Gl.rows_len,Fs.rows_len,Sp.rows_len] at hc2
   rw [uEx] at hc2
   have h2 : (uBh n).contains s=false:=hc2
   rw [if_neg (by rw [h2]; simp)]
   refine uAd (uAb ?_);refine uAa rfl rfl rfl (uAe rfl gU) ?_;refine uAa rfl rfl rfl (uAe rfl gU) ?_;refine uAf ?_;refine uAo ?_
   repeat (first | refine tR ?_ | refine bR ?_)
   refine uAs rfl ?_ trivial
   rfl
  ·try simp only [nn,uAh,T.rows_len,Gl.rows_len,Fs.rows_len,Sp.rows_len] at hc2
   rw [uEx] at hc2
   have h2 : (uBh n).contains s=true:=hc2
   rw [if_pos h2]
   refine uAp ?_;refine uAd (uAb ?_);refine uAa rfl rfl rfl (uAc rfl gU) ?_;refine uAa rfl rfl rfl (uAe rfl gU) ?_;refine uAa rfl rfl rfl (uAe rfl gU) ?_;refine uAf ?_;refine uAo ?_
   repeat (first | refine tR ?_ | refine bR ?_)
   refine uAs rfl ?_ trivial
   rfl
theorem uKs (n : Nar) (s : List UInt8) (hs : ∀ s ∈ n.steps,s.msg.size≤900000) (hg : ∀ g ∈ n.goals,T.sizes g.data≤900000) : Ctr sys 16 [xn n,xs s] [] (xis (uLd n s)) none []:=by
 have l5:=Sp.rows_len n.steps
 refine uAA Tryz.func16 rfl rfl rfl rfl rfl rfl ?_;refine uAd (uAb ?_);refine uAt rfl (uAI rfl rfl rfl rfl) ?_;refine uAt rfl (uBl (.inr rfl) rfl rfl) ?_;refine uAf ?_;refine uAd ?_;refine uAd (uAb ?_);refine uAa rfl rfl rfl (uAm rfl gU rfl rfl rfl rfl rfl) ?_;refine uAx rfl rfl rfl rfl rfl rfl gU gU (uCg n hs hg) rfl ?_;refine uAa rfl rfl rfl (uAc rfl gU) ?_;refine uAa rfl rfl rfl (uAu rfl gU rfl) ?_;refine uAa rfl rfl rfl (uAu rfl gU rfl) ?_;refine uAa rfl rfl rfl (uAe rfl gU) ?_;refine uAa rfl rfl rfl (uAe rfl gU) ?_;refine uAf ?_;refine uAl (s:=⟨[(1,_,_),(2,_,_),(6,_,_)],[(.l 2,_)],[],[]⟩) (uAj (⟨sx rfl,sx rfl,sx rfl,trivial⟩) (⟨sx rfl,trivial⟩) trivial) ?_;refine uAd (uAb ?_);refine uAa rfl rfl rfl (uAc rfl gU) ?_;refine uAa rfl rfl rfl (uAk rfl rfl gU gU rfl) ?_;refine uAf ?_;refine uAn rfl (fun hc=>?_) (fun hc=>?_)
 ·try simp only [nn,uAh,uAB,T.rows_len,Gl.rows_len,Fs.rows_len,Sp.rows_len] at hc
  refine uAd (uAb ?_);refine uAt rfl (uBl (.inr rfl) rfl rfl) ?_;refine uAf ?_;refine uAo ?_
  repeat (first | refine tR ?_ | refine bR ?_)
  refine uAs rfl ?_ trivial
  (rw [uLd,if_pos hc]; rfl)
 ·try simp only [nn,uAh,uAB,T.rows_len,Gl.rows_len,Fs.rows_len,Sp.rows_len] at hc
  rw [uLd,if_neg (by simpa using hc)]
  have hok:=uFI (n:=n) (by
   have : (chkE uAK n).2=0:=by simpa using hc
   rw [chkE] at this
   split at this
   ·exact this
   ·rename_i q; simpa using q)
  have hs2:=hok.s2
  refine uAp ?_;refine uAd (uAb ?_);refine uAt rfl (uBl (.inr rfl) rfl rfl) ?_;refine uAf ?_;refine uAd ?_;refine uAd (uAb ?_);refine uAa rfl rfl rfl (uAg rfl gU rfl rfl) ?_;refine uAa rfl rfl rfl (uAi rfl gU rfl rfl rfl rfl) ?_;refine uAJ rfl rfl rfl rfl rfl gU rfl rfl ?_ (fun hh=>by simp at hh); intro hlen;refine uAa rfl rfl rfl (uAc rfl gU) ?_;refine uAf ?_;refine uAl (s:=⟨[(1,_,_),(7,_,_),(18,_,_),(19,_,_),(20,_,_)],[],[(.t 7,_)],[]⟩) (uAj (⟨sx rfl,sx rfl,sx rfl,sx rfl,sx rfl,trivial⟩) trivial (⟨rfl,trivial⟩)) ?_;refine uAv ?_;refine uAW (ι:=Nat) { t:=[(1,_,_),(18,_,_),(19,_,_)],bx:=[],ow:=[(.t 7,_)] } (fun k=>[(20,true,xi (k : Int)),(7,true,xis (uD4 s 0 (n.steps.take k)))]) (fun k=>[]) (fun k=>k≤n.steps.length) (fun k=>n.steps.length - k) (0) (by simp) (uAj (⟨sx rfl,sx rfl,sx rfl,sx rfl,sx rfl,trivial⟩) trivial (⟨rfl,trivial⟩)) ?_
  intro k hok
  dsimp only [List.cons_append,List.nil_append]
  have hul:=uHt s (n.steps.take k) 0
  rw [List.length_take] at hul
  refine uAd (uAb ?_);refine uAa rfl rfl rfl (uAk rfl rfl gU gU rfl) ?_;refine uAf ?_;refine uAd ?_;refine uAn rfl (fun hc2=>?_) (fun hc2=>?_)
  ·try simp only [nn,uAh,uAB,T.rows_len,Gl.rows_len,Fs.rows_len,Sp.rows_len] at hc2
   have hlt : k < n.steps.length:=by omega
   have hks:=hs _ (uCz (d:=default) hlt)
   have hT:=uBx (l:=n.steps) (d:=default) hlt
   have hmin : (n.steps.take k).length=k:=by rw [List.length_take]; omega
   have hS:=uKH s (n.steps.take k) (n.steps.getD k default) 0
   rw [← hT,hmin,Nat.zero_add] at hS
   refine uAp ?_;refine uAd ?_;refine uAv ?_;refine uAd (uAb ?_);refine uAa rfl rfl rfl (uAc rfl gU) ?_;refine uAa rfl rfl rfl (uAr rfl rfl gU gU rfl rfl rfl (fun hh=>Sp.rows_at (by first | omega | (simp at hh ⊢; omega)))) ?_;refine uAa rfl rfl rfl (uAE rfl gU rfl rfl rfl rfl) ?_;refine uAt rfl (uAM rfl rfl rfl) ?_;refine uAa rfl rfl rfl (uAe rfl gU) ?_;refine uAt rfl (uAz rfl rfl rfl rfl rfl rfl rfl) ?_;refine uAf ?_;refine uAl (s:=⟨[(1,_,_),(7,_,_),(8,_,_),(9,_,_),(18,_,_),(19,_,_),(20,_,_)],[(.l 9,_)],[(.t 7,_)],[]⟩) (uAj (⟨sx rfl,sx rfl,sx rfl,sx rfl,sx rfl,sx rfl,sx rfl,trivial⟩) (⟨sx rfl,trivial⟩) (⟨rfl,trivial⟩)) ?_;refine uAd (uAb ?_);refine uAa rfl rfl rfl (uAg rfl gU rfl rfl) ?_;refine uAa rfl rfl rfl (uAm rfl gU rfl rfl rfl rfl rfl) ?_;refine uAa rfl rfl rfl (uAc rfl gU) ?_;refine uAx rfl rfl rfl rfl rfl rfl gU gU (uIX _ _ (by omega)) rfl ?_;refine uAf ?_;refine uAn rfl (fun hc3=>?_) (fun hc3=>?_)
   ·try simp only [nn,uAh,uAB,T.rows_len,Gl.rows_len,Fs.rows_len,Sp.rows_len] at hc3
    rw [if_pos hc3] at hS
    refine uAb ?_;refine uAt rfl (uAT (.inl rfl) rfl rfl rfl) ?_;refine uAa rfl rfl rfl (uAc rfl gU) ?_;refine uAU (xs:=[_]) rfl rfl rfl rfl rfl rfl rfl rfl rfl gU rfl ?_;refine uAt rfl (uA3 rfl rfl rfl rfl rfl rfl rfl (by first | omega | (simp only [List.length_append,List.length_singleton,uAB,List.length_map,List.length_take]; omega)) (by first | omega | (simp only [List.length_append,List.length_singleton,uAB,List.length_map,List.length_take]; omega))) ?_;refine uAt rfl (uAT (.inr rfl) rfl rfl rfl) ?_;refine uAf ?_;refine uAl (s:=⟨[(1,_,_),(7,_,_),(18,_,_),(19,_,_),(20,_,_)],[],[(.t 7,_)],[]⟩) (uAj (⟨sx rfl,sx rfl,sx rfl,sx rfl,sx rfl,trivial⟩) trivial (⟨rfl,trivial⟩)) ?_;refine uAb ?_;refine uAa rfl rfl rfl (uAy rfl rfl gU gU rfl (IntWalk.i64_in _ (by omega))) ?_;refine uAa rfl rfl rfl (uAc rfl gU) ?_;refine uAf ?_;refine ⟨k + 1,?_,?_,uAj (⟨⟨_,rfl,?_⟩,⟨⟨_,rfl,?_⟩,⟨sx rfl,sx rfl,sx rfl,trivial⟩⟩⟩) trivial (⟨rfl,trivial⟩)⟩
    all_goals (first | rfl | omega | exact tx ((uFs _ _).trans (by rw [hS])))
   ·try simp only [nn,uAh,uAB,T.rows_len,Gl.rows_len,Fs.rows_len,Sp.rows_len] at hc3
    rw [if_neg (by rw [hc3]; simp),List.append_nil] at hS
    refine uAp ?_;refine uAb ?_;refine uAa rfl rfl rfl (uAy rfl rfl gU gU rfl (IntWalk.i64_in _ (by omega))) ?_;refine uAa rfl rfl rfl (uAc rfl gU) ?_;refine uAf ?_;refine ⟨k + 1,?_,?_,uAj (⟨⟨_,rfl,?_⟩,⟨⟨_,rfl,?_⟩,⟨sx rfl,sx rfl,sx rfl,trivial⟩⟩⟩) trivial (⟨rfl,trivial⟩)⟩
    all_goals (first | rfl | omega | exact tx (by rw [hS]))
  ·try simp only [nn,uAh,uAB,T.rows_len,Gl.rows_len,Fs.rows_len,Sp.rows_len] at hc2
   have hke : k=n.steps.length:=by omega
   subst hke
   rw [List.take_length]
   refine uAO ?_
   repeat (first | refine uAG ?_ | refine uAF ?_ | refine uAC rfl ?_)
   refine uAd (uAb ?_);refine uAt rfl (uAT (.inl rfl) rfl rfl rfl) ?_;refine uAt rfl (uAT (.inr rfl) rfl rfl rfl) ?_;refine uAf ?_;refine uAo ?_
   repeat (first | refine tR ?_ | refine bR ?_)
   refine uAs rfl ?_ trivial
   rfl
end Go.Proofs.YteidahabkfgfjaaGreat
namespace Go.Proofs.YteidahabkfgfjaaGreat
open Go Go.Abs
theorem uCZ (s : List UInt8) : Ctr sys 82 [xs s] [] (xb (uAK s)) none []:=by rw [← uOM s]; exact uKn s
theorem uLI : ∀ (n : Nat) (t : T),t.size≤n→n≤2000000→Ctr sys 144 [xm t] [] (xi (rawE uAK t)) none []:=by
 intro n
 induction n with
 | zero=>intro t h; have := t.size_pos; omega
 | succ n ih =>
  intro t ht hn
  have hse:=t.size_eq
  have hrl:=T.rows_len t.kids
  have hls:=T.len_sizes t.kids
  have he:=uKW uAK t
  rw [uEP] at he
  refine uAA Tryz.func144 rfl rfl rfl rfl rfl rfl ?_;refine uAd (uAb ?_);refine uAt rfl (uAI rfl rfl rfl rfl) ?_;refine uAa rfl rfl rfl (uAe rfl gU) ?_;refine uAf ?_;refine uAd ?_;refine uAd (uAb ?_);refine uAa rfl rfl rfl (uAg rfl gU rfl rfl) ?_;refine uAa rfl rfl rfl (uAi rfl gU rfl rfl rfl rfl) ?_;refine uAa rfl rfl rfl (uAk rfl rfl gU gU rfl) ?_;refine uAa rfl rfl rfl (uAc rfl gU) ?_;refine uAa rfl rfl rfl (uAg rfl gU rfl rfl) ?_;refine uAa rfl rfl rfl (uAi rfl (fun hh=>hh) rfl rfl rfl rfl) ?_;refine uAa rfl rfl rfl (uAk rfl rfl (fun hh=>hh) gU rfl) ?_;refine uAa rfl rfl rfl (uAN rfl rfl gU (fun _ hi=>gP rfl hi)) ?_;refine uAf ?_;refine uAl (s:=⟨[(1,_,_),(12,_,_)],[(.l 1,_)],[],[]⟩) (uAj (⟨sx rfl,sx rfl,trivial⟩) (⟨sx rfl,trivial⟩) trivial) ?_;refine uAn rfl (fun hc=>?_) (fun hc=>?_)
  ·try simp only [nn,uAh,T.rows_len,Fs.rows_len,Sp.rows_len,Gl.rows_len] at hc
   refine uAd (uAb ?_);refine uAa rfl rfl rfl (uAe rfl gU) ?_;refine uAf ?_;refine uAo ?_
   repeat (first | refine tR ?_ | refine bR ?_)
   refine uAs rfl ?_ trivial
   (rw [he,if_pos (by grind)]; rfl)
  ·try simp only [nn,uAh,T.rows_len,Fs.rows_len,Sp.rows_len,Gl.rows_len] at hc
   rw [if_neg (by grind)] at he
   refine uAp ?_;refine uAd ?_;refine uAd (uAb ?_);refine uAa rfl rfl rfl (uAg rfl gU rfl rfl) ?_;refine uAa rfl rfl rfl (uAi rfl gU rfl rfl rfl rfl) ?_;refine uAx rfl rfl rfl rfl rfl rfl gU gU (uCZ _) rfl ?_;refine uAa rfl rfl rfl (uAX rfl gU) ?_;refine uAf ?_;refine uAn rfl (fun hc2=>?_) (fun hc2=>?_)
   ·try simp only [nn,uAh,T.rows_len,Fs.rows_len,Sp.rows_len,Gl.rows_len] at hc2
    refine uAd (uAb ?_);refine uAa rfl rfl rfl (uAe rfl gU) ?_;refine uAf ?_;refine uAo ?_
    repeat (first | refine tR ?_ | refine bR ?_)
    refine uAs rfl ?_ trivial
    (rw [he,if_pos hc2]; rfl)
   ·try simp only [nn,uAh,T.rows_len,Fs.rows_len,Sp.rows_len,Gl.rows_len] at hc2
    rw [if_neg (by rw [hc2]; simp)] at he
    refine uAp ?_;refine uAd ?_;refine uAd (uAb ?_);refine uAa rfl rfl rfl (uAe rfl gU) ?_;refine uAf ?_;refine uAl (s:=⟨[(1,_,_),(3,_,_)],[(.l 1,_)],[],[]⟩) (uAj (⟨sx rfl,sx rfl,trivial⟩) (⟨sx rfl,trivial⟩) trivial) ?_;refine uAv ?_;refine uAW (ι:=Nat) { t:=[(1,_,_)],bx:=[(.l 1,_)],ow:=[] } (fun k=>[(3,true,xi (k : Int))]) (fun k=>[]) (fun k=>k≤t.kids.length∧errs (rawE uAK) (t.kids.drop k)=rawE uAK t) (fun k=>t.kids.length - k) (0) (⟨by simp,by rw [he]; rfl⟩) (uAj (⟨sx rfl,sx rfl,trivial⟩) (⟨sx rfl,trivial⟩) trivial) ?_
    intro k hok
    dsimp only [List.cons_append,List.nil_append]
    obtain ⟨hk,hi⟩:=hok
    refine uAd ?_;refine uAd (uAb ?_);refine uAa rfl rfl rfl (uAc rfl gU) ?_;refine uAa rfl rfl rfl (uAg rfl gU rfl rfl) ?_;refine uAa rfl rfl rfl (uAi rfl gU rfl rfl rfl rfl) ?_;refine uAJ rfl rfl rfl rfl rfl gU rfl rfl ?_ (fun hh=>by simp at hh); intro hlen;refine uAa rfl rfl rfl (uAk rfl rfl gU gU rfl) ?_;refine uAf ?_;refine uAl (s:=⟨[(1,_,_),(3,_,_),(21,_,_)],[(.l 1,_)],[],[]⟩) (uAj (⟨sx rfl,sx rfl,sx rfl,trivial⟩) (⟨sx rfl,trivial⟩) trivial) ?_;refine uAn rfl (fun hc3=>?_) (fun hc3=>?_)
    ·try simp only [nn,uAh,T.rows_len,Fs.rows_len,Sp.rows_len,Gl.rows_len] at hc3
     have hlt : k < t.kids.length:=by omega
     have h2:=T.getD_size hlt
     have hd:=uCb (d:=default) hlt hi
     refine uAp ?_;refine uAd ?_;refine uAv ?_;refine uAd (uAb ?_);refine uAa rfl rfl rfl (uAg rfl gU rfl rfl) ?_;refine uAa rfl rfl rfl (uAi rfl gU rfl rfl rfl rfl) ?_;refine uAa rfl rfl rfl (uAc rfl gU) ?_;refine uAa rfl rfl rfl (uAr rfl rfl gU gU rfl rfl rfl (fun hh=>T.rows_at (by first | omega | (simp at hh ⊢; omega)))) ?_;refine uAa rfl rfl rfl (uAE rfl gU rfl rfl rfl rfl) ?_;refine uAx rfl rfl rfl rfl rfl rfl gU gU (ih (t.kids.getD k default) (by omega) (by omega)) rfl ?_;refine uAa rfl rfl rfl (uAe rfl gU) ?_;refine uAf ?_;refine uAl (s:=⟨[(1,_,_),(3,_,_),(4,_,_)],[(.l 1,_)],[],[]⟩) (uAj (⟨sx rfl,sx rfl,sx rfl,trivial⟩) (⟨sx rfl,trivial⟩) trivial) ?_;refine uAd (uAb ?_);refine uAa rfl rfl rfl (uAc rfl gU) ?_;refine uAa rfl rfl rfl (uAk rfl rfl gU gU rfl) ?_;refine uAf ?_;refine uAn rfl (fun hc1=>?_) (fun hc1=>?_)
     ·try simp only [nn,uAh,T.rows_len,Fs.rows_len,Sp.rows_len,Gl.rows_len] at hc1
      refine uAd (uAb ?_);refine uAa rfl rfl rfl (uAc rfl gU) ?_;refine uAa rfl rfl rfl (uAe rfl gU) ?_;refine uAf ?_;refine uAo ?_
      repeat (first | refine tR ?_ | refine bR ?_)
      refine uAs rfl ?_ trivial;exact uA7 (hd.1 (by assumption)).symm
     ·try simp only [nn,uAh,T.rows_len,Fs.rows_len,Sp.rows_len,Gl.rows_len] at hc1
      refine uAp ?_;refine uAb ?_;refine uAa rfl rfl rfl (uAc rfl gU) ?_;refine uAa rfl rfl rfl (uAy rfl rfl gU gU rfl (IntWalk.i64_in _ (by omega))) ?_;refine uAa rfl rfl rfl (uAe rfl gU) ?_;refine uAf ?_;refine ⟨k + 1,?_,?_,uAj (⟨⟨_,rfl,?_⟩,⟨sx rfl,trivial⟩⟩) (⟨sx rfl,trivial⟩) trivial⟩
      all_goals (first | rfl | omega | exact ⟨by omega,hd.2 (by assumption)⟩)
    ·try simp only [nn,uAh,T.rows_len,Fs.rows_len,Sp.rows_len,Gl.rows_len] at hc3
     refine uAO ?_
     repeat (first | refine uAG ?_ | refine uAF ?_ | refine uAC rfl ?_)
     refine uAd (uAb ?_);refine uAa rfl rfl rfl (uAe rfl gU) ?_;refine uAf ?_;refine uAo ?_
     repeat (first | refine tR ?_ | refine bR ?_)
     refine uAs rfl ?_ trivial;exact uA7 (uDr (by omega) hi).symm
theorem uMe (t : T) (ht : t.size≤900000) : Ctr sys 117 [xm t] [] (xi (uEp uAK t)) none []:=by
 refine uAA Tryz.func117 rfl rfl rfl rfl rfl rfl ?_;refine uAd (uAb ?_);refine uAt rfl (uAI rfl rfl rfl rfl) ?_;refine uAa rfl rfl rfl (uAe rfl gU) ?_;refine uAf ?_;refine uAd ?_;refine uAd (uAb ?_);refine uAa rfl rfl rfl (uAm rfl gU rfl rfl rfl rfl rfl) ?_;refine uAx rfl rfl rfl rfl rfl rfl gU gU (uKG _ (by omega)) rfl ?_;refine uAa rfl rfl rfl (uAe rfl gU) ?_;refine uAf ?_;refine uAl (s:=⟨[(1,_,_),(3,_,_)],[(.l 1,_)],[],[]⟩) (uAj (⟨sx rfl,sx rfl,trivial⟩) (⟨sx rfl,trivial⟩) trivial) ?_;refine uAd (uAb ?_);refine uAa rfl rfl rfl (uAc rfl gU) ?_;refine uAa rfl rfl rfl (uAk rfl rfl gU gU rfl) ?_;refine uAf ?_;refine uAn rfl (fun hc=>?_) (fun hc=>?_)
 ·try simp only [nn,uAh,T.rows_len,Fs.rows_len,Sp.rows_len,Gl.rows_len] at hc
  refine uAd (uAb ?_);refine uAa rfl rfl rfl (uAc rfl gU) ?_;refine uAa rfl rfl rfl (uAe rfl gU) ?_;refine uAf ?_;refine uAo ?_
  repeat (first | refine tR ?_ | refine bR ?_)
  refine uAs rfl ?_ trivial
  (rw [uEp,if_pos hc]; rfl)
 ·try simp only [nn,uAh,T.rows_len,Fs.rows_len,Sp.rows_len,Gl.rows_len] at hc
  refine uAp ?_;refine uAd (uAb ?_);refine uAa rfl rfl rfl (uAm rfl gU rfl rfl rfl rfl rfl) ?_;refine uAx rfl rfl rfl rfl rfl rfl gU gU (uLI _ _ (Nat.le_refl _) (by omega)) rfl ?_;refine uAa rfl rfl rfl (uAe rfl gU) ?_;refine uAf ?_;refine uAo ?_
  repeat (first | refine tR ?_ | refine bR ?_)
  refine uAs rfl ?_ trivial
  (rw [uEp,if_neg (by simpa using hc)]; rfl)
theorem uEK (t : T) (ht : t.size≤900000) : Ctr sys 85 [xm t] [] (xi (msgE uAK t)) none []:=by
 refine uAA Tryz.func85 rfl rfl rfl rfl rfl rfl ?_;refine uAd (uAb ?_);refine uAt rfl (uAI rfl rfl rfl rfl) ?_;refine uAa rfl rfl rfl (uAe rfl gU) ?_;refine uAf ?_;refine uAd ?_;refine uAd (uAb ?_);refine uAa rfl rfl rfl (uAm rfl gU rfl rfl rfl rfl rfl) ?_;refine uAx rfl rfl rfl rfl rfl rfl gU gU (uMe _ (by omega)) rfl ?_;refine uAa rfl rfl rfl (uAe rfl gU) ?_;refine uAf ?_;refine uAl (s:=⟨[(1,_,_),(3,_,_)],[(.l 1,_)],[],[]⟩) (uAj (⟨sx rfl,sx rfl,trivial⟩) (⟨sx rfl,trivial⟩) trivial) ?_;refine uAd (uAb ?_);refine uAa rfl rfl rfl (uAc rfl gU) ?_;refine uAa rfl rfl rfl (uAk rfl rfl gU gU rfl) ?_;refine uAf ?_;refine uAn rfl (fun hc=>?_) (fun hc=>?_)
 ·try simp only [nn,uAh,T.rows_len,Fs.rows_len,Sp.rows_len,Gl.rows_len] at hc
  refine uAd (uAb ?_);refine uAa rfl rfl rfl (uAc rfl gU) ?_;refine uAa rfl rfl rfl (uAe rfl gU) ?_;refine uAf ?_;refine uAo ?_
  repeat (first | refine tR ?_ | refine bR ?_)
  refine uAs rfl ?_ trivial
  (rw [msgE,if_pos hc]; rfl)
 ·try simp only [nn,uAh,T.rows_len,Fs.rows_len,Sp.rows_len,Gl.rows_len] at hc
  refine uAp ?_;refine uAd ?_;refine uAd (uAb ?_);refine uAa rfl rfl rfl (uAm rfl gU rfl rfl rfl rfl rfl) ?_;refine uAx rfl rfl rfl rfl rfl rfl gU gU (uEB _ _ (Nat.le_refl _) (by omega)) rfl ?_;refine uAa rfl rfl rfl (uAk rfl rfl gU gU rfl) ?_;refine uAf ?_;refine uAl (s:=⟨[(11,_,_)],[],[],[]⟩) (uAj (⟨sx rfl,trivial⟩) trivial trivial) ?_;refine uAn rfl (fun hc2=>?_) (fun hc2=>?_)
  ·try simp only [nn,uAh,T.rows_len,Fs.rows_len,Sp.rows_len,Gl.rows_len] at hc2
   refine uAd (uAb ?_);refine uAa rfl rfl rfl (uAe rfl gU) ?_;refine uAf ?_;refine uAo ?_
   repeat (first | refine tR ?_ | refine bR ?_)
   refine uAs rfl ?_ trivial
   (rw [msgE,if_neg (by simpa using hc),if_pos (by omega)]; rfl)
  ·try simp only [nn,uAh,T.rows_len,Fs.rows_len,Sp.rows_len,Gl.rows_len] at hc2
   refine uAp ?_;refine uAd (uAb ?_);refine uAa rfl rfl rfl (uAe rfl gU) ?_;refine uAf ?_;refine uAo ?_
   repeat (first | refine tR ?_ | refine bR ?_)
   refine uAs rfl ?_ trivial
   (rw [msgE,if_neg (by simpa using hc),if_neg (by omega)]; rfl)
theorem uCo (g : Gl) : Ctr sys 119 [xg g] [] (xb (uBm g.kind)) none []:=by
 refine uAA Tryz.func119 rfl rfl rfl rfl rfl rfl ?_;refine uAd (uAb ?_);refine uAt rfl (uAI rfl rfl rfl rfl) ?_;refine uAa rfl rfl rfl (uAe rfl gU) ?_;refine uAf ?_;refine uAd (uAb ?_);refine uAa rfl rfl rfl (uAg rfl gU rfl rfl) ?_;refine uAa rfl rfl rfl (uAi rfl gU rfl rfl rfl rfl) ?_;refine uAa rfl rfl rfl (uAk rfl rfl gU gU rfl) ?_;refine uAa rfl rfl rfl (uAc rfl gU) ?_;refine uAa rfl rfl rfl (uAg rfl gU rfl rfl) ?_;refine uAa rfl rfl rfl (uAi rfl (fun hh=>hh) rfl rfl rfl rfl) ?_;refine uAa rfl rfl rfl (uAk rfl rfl (fun hh=>hh) gU rfl) ?_;refine uAa rfl rfl rfl (uAN rfl rfl gU (fun _ hi=>gP rfl hi)) ?_;refine uAa rfl rfl rfl (uAe rfl gU) ?_;refine uAf ?_;refine uAo ?_
 repeat (first | refine tR ?_ | refine bR ?_)
 refine uAs rfl ?_ trivial
 rfl
theorem uMv {f : List UInt8→Bool} {l : List (List UInt8)} {k : Nat} {e : Bool} (h : k < l.length) (hi : (l.drop k).all f=e) : (f (l.getD k [])=false→e=false)∧(f (l.getD k [])=true→(l.drop (k + 1)).all f=e):=by
 rw [uHH (d:=[]) h,List.all_cons] at hi
 refine ⟨fun q=>?_,fun q=>?_⟩
 ·rw [q] at hi; exact hi.symm
 ·rw [q] at hi; exact hi
theorem uDy (l : List (List UInt8)) : Ctr sys 84 [xss l] [] (xb (l.all uAK)) none []:=by
 have hrl:=uAh l
 refine uAA Tryz.func84 rfl rfl rfl rfl rfl rfl ?_;refine uAd (uAb ?_);refine uAa rfl rfl rfl (uAe rfl gU) ?_;refine uAf ?_;refine uAd ?_;refine uAd (uAb ?_);refine uAa rfl rfl rfl (uAe rfl gU) ?_;refine uAf ?_;refine uAv ?_;refine uAW (ι:=Nat) { t:=[(0,_,_)],bx:=[],ow:=[] } (fun k=>[(3,true,xi (k : Int))]) (fun k=>[]) (fun k=>k≤l.length∧(l.drop k).all uAK=l.all uAK) (fun k=>l.length - k) (0) (⟨by simp,rfl⟩) (uAj (⟨sx rfl,sx rfl,trivial⟩) trivial trivial) ?_
 intro k hok
 dsimp only [List.cons_append,List.nil_append]
 obtain ⟨hk,hi⟩:=hok
 refine uAd ?_;refine uAd (uAb ?_);refine uAa rfl rfl rfl (uAc rfl gU) ?_;refine uAa rfl rfl rfl (uAc rfl gU) ?_;refine uAJ rfl rfl rfl rfl rfl gU rfl rfl ?_ (fun hh=>by simp at hh); intro hlen;refine uAa rfl rfl rfl (uAk rfl rfl gU gU rfl) ?_;refine uAf ?_;refine uAn rfl (fun hc=>?_) (fun hc=>?_)
 ·try simp only [nn,uAh,T.rows_len,Fs.rows_len,Sp.rows_len,Gl.rows_len] at hc
  have hlt : k < l.length:=by omega
  have hd:=uMv hlt hi
  refine uAp ?_;refine uAd ?_;refine uAv ?_;refine uAd (uAb ?_);refine uAa rfl rfl rfl (uAc rfl gU) ?_;refine uAa rfl rfl rfl (uAc rfl gU) ?_;refine uAa rfl rfl rfl (uAr rfl rfl gU gU rfl rfl rfl (fun hh=>uBI (by first | omega | (simp at hh ⊢; omega)))) ?_;refine uAa rfl rfl rfl (uAQ rfl gU rfl rfl rfl) ?_;refine uAx rfl rfl rfl rfl rfl rfl gU gU (uCZ _) rfl ?_;refine uAa rfl rfl rfl (uAX rfl gU) ?_;refine uAf ?_;refine uAl (s:=⟨[(0,_,_),(3,_,_),(15,_,_)],[],[],[]⟩) (uAj (⟨sx rfl,sx rfl,sx rfl,trivial⟩) trivial trivial) ?_;refine uAn rfl (fun hc1=>?_) (fun hc1=>?_)
  ·try simp only [nn,uAh,T.rows_len,Fs.rows_len,Sp.rows_len,Gl.rows_len] at hc1
   refine uAd (uAb ?_);refine uAa rfl rfl rfl (uAe rfl gU) ?_;refine uAf ?_;refine uAo ?_
   repeat (first | refine tR ?_ | refine bR ?_)
   refine uAs rfl ?_ trivial;exact uBV (hd.1 (by assumption)).symm
  ·try simp only [nn,uAh,T.rows_len,Fs.rows_len,Sp.rows_len,Gl.rows_len] at hc1
   refine uAp ?_;refine uAb ?_;refine uAa rfl rfl rfl (uAc rfl gU) ?_;refine uAa rfl rfl rfl (uAy rfl rfl gU gU rfl (IntWalk.i64_in _ (by omega))) ?_;refine uAa rfl rfl rfl (uAe rfl gU) ?_;refine uAf ?_;refine ⟨k + 1,?_,?_,uAj (⟨⟨_,rfl,?_⟩,⟨sx rfl,trivial⟩⟩) trivial trivial⟩
   all_goals (first | rfl | omega | exact ⟨by omega,hd.2 (by assumption)⟩)
 ·try simp only [nn,uAh,T.rows_len,Fs.rows_len,Sp.rows_len,Gl.rows_len] at hc
  rw [List.drop_of_length_le (by omega)] at hi
  refine uAO ?_
  repeat (first | refine uAG ?_ | refine uAF ?_ | refine uAC rfl ?_)
  refine uAd (uAb ?_);refine uAa rfl rfl rfl (uAe rfl gU) ?_;refine uAf ?_;refine uAo ?_
  repeat (first | refine tR ?_ | refine bR ?_)
  refine uAs rfl ?_ trivial;exact uBV hi
theorem uIk (n : Nar) : Ctr sys 83 [xn n] [] (xi (cntE n)) none []:=by
 have hr1:=uAh n.roles
 have hr2:=Fs.rows_len n.fresh
 have hr3:=uAh n.tags
 have hr4:=Sp.rows_len n.steps
 have hr5:=Gl.rows_len n.goals
 refine uAA Tryz.func83 rfl rfl rfl rfl rfl rfl ?_;refine uAd (uAb ?_);refine uAt rfl (uAI rfl rfl rfl rfl) ?_;refine uAa rfl rfl rfl (uAe rfl gU) ?_;refine uAf ?_;refine uAd ?_;refine uAd (uAb ?_);refine uAa rfl rfl rfl (uAg rfl gU rfl rfl) ?_;refine uAa rfl rfl rfl (uAi rfl gU rfl rfl rfl rfl) ?_;refine uAJ rfl rfl rfl rfl rfl gU rfl rfl ?_ (fun hh=>by simp at hh); intro hlen;refine uAa rfl rfl rfl (uAk rfl rfl gU gU rfl) ?_;refine uAf ?_;refine uAl (s:=⟨[(1,_,_),(6,_,_)],[(.l 1,_)],[],[]⟩) (uAj (⟨sx rfl,sx rfl,trivial⟩) (⟨sx rfl,trivial⟩) trivial) ?_;refine uAn rfl (fun hc1=>?_) (fun hc1=>?_)
 ·try simp only [nn,uAh,T.rows_len,Fs.rows_len,Sp.rows_len,Gl.rows_len] at hc1
  refine uAd (uAb ?_);refine uAa rfl rfl rfl (uAe rfl gU) ?_;refine uAf ?_;refine uAo ?_
  repeat (first | refine tR ?_ | refine bR ?_)
  refine uAs rfl ?_ trivial
  (refine uA7 ?_; unfold cntE; (repeat' split) <;> omega)
 ·try simp only [nn,uAh,T.rows_len,Fs.rows_len,Sp.rows_len,Gl.rows_len] at hc1
  refine uAp ?_;refine uAd ?_;refine uAd (uAb ?_);refine uAa rfl rfl rfl (uAg rfl gU rfl rfl) ?_;refine uAa rfl rfl rfl (uAi rfl gU rfl rfl rfl rfl) ?_;refine uAJ rfl rfl rfl rfl rfl gU rfl rfl ?_ (fun hh=>by simp at hh); intro hlen;refine uAa rfl rfl rfl (uAk rfl rfl gU gU rfl) ?_;refine uAa rfl rfl rfl (uAc rfl gU) ?_;refine uAa rfl rfl rfl (uAg rfl gU rfl rfl) ?_;refine uAa rfl rfl rfl (uAi rfl (fun hh=>hh) rfl rfl rfl rfl) ?_;refine uAa rfl rfl rfl (uA4 rfl (fun hh=>hh) rfl rfl) ?_;refine uAa rfl rfl rfl (uAk rfl rfl (fun hh=>hh) gU rfl) ?_;refine uAa rfl rfl rfl (uAN rfl rfl gU (fun _ hi=>gP rfl hi)) ?_;refine uAa rfl rfl rfl (uAc rfl gU) ?_;refine uAa rfl rfl rfl (uAg rfl gU rfl rfl) ?_;refine uA8 (s:=⟨[(1,_,_),(17,_,_),(18,_,_)],[(.l 1,_)],[],[]⟩) (uAj (⟨sx rfl,sx rfl,sx rfl,trivial⟩) (⟨sx rfl,trivial⟩) trivial) ?_;refine uAa rfl rfl rfl (uAi rfl (fun hh=>hh) rfl rfl rfl rfl) ?_;refine uAa rfl rfl rfl (uA4 rfl (fun hh=>hh) rfl rfl) ?_;refine uAa rfl rfl rfl (uAk rfl rfl (fun hh=>hh) gU rfl) ?_;refine uAa rfl rfl rfl (uAN rfl rfl gU (fun _ hi=>gP rfl hi)) ?_;refine uAf ?_;refine uAn rfl (fun hc2=>?_) (fun hc2=>?_)
  ·try simp only [nn,uAh,T.rows_len,Fs.rows_len,Sp.rows_len,Gl.rows_len] at hc2
   refine uAd (uAb ?_);refine uAa rfl rfl rfl (uAe rfl gU) ?_;refine uAf ?_;refine uAo ?_
   repeat (first | refine tR ?_ | refine bR ?_)
   refine uAs rfl ?_ trivial
   (refine uA7 ?_; unfold cntE; (repeat' split) <;> omega)
  ·try simp only [nn,uAh,T.rows_len,Fs.rows_len,Sp.rows_len,Gl.rows_len] at hc2
   refine uAp ?_;refine uAd ?_;refine uAd (uAb ?_);refine uAa rfl rfl rfl (uAg rfl gU rfl rfl) ?_;refine uAa rfl rfl rfl (uAi rfl gU rfl rfl rfl rfl) ?_;refine uAJ rfl rfl rfl rfl rfl gU rfl rfl ?_ (fun hh=>by simp at hh); intro hlen;refine uAa rfl rfl rfl (uAk rfl rfl gU gU rfl) ?_;refine uAf ?_;refine uAl (s:=⟨[(1,_,_),(26,_,_)],[(.l 1,_)],[],[]⟩) (uAj (⟨sx rfl,sx rfl,trivial⟩) (⟨sx rfl,trivial⟩) trivial) ?_;refine uAn rfl (fun hc3=>?_) (fun hc3=>?_)
   ·try simp only [nn,uAh,T.rows_len,Fs.rows_len,Sp.rows_len,Gl.rows_len] at hc3
    refine uAd (uAb ?_);refine uAa rfl rfl rfl (uAe rfl gU) ?_;refine uAf ?_;refine uAo ?_
    repeat (first | refine tR ?_ | refine bR ?_)
    refine uAs rfl ?_ trivial
    (refine uA7 ?_; unfold cntE; (repeat' split) <;> omega)
   ·try simp only [nn,uAh,T.rows_len,Fs.rows_len,Sp.rows_len,Gl.rows_len] at hc3
    refine uAp ?_;refine uAd ?_;refine uAd (uAb ?_);refine uAa rfl rfl rfl (uAg rfl gU rfl rfl) ?_;refine uAa rfl rfl rfl (uAi rfl gU rfl rfl rfl rfl) ?_;refine uAJ rfl rfl rfl rfl rfl gU rfl rfl ?_ (fun hh=>by simp at hh); intro hlen;refine uAa rfl rfl rfl (uAk rfl rfl gU gU rfl) ?_;refine uAa rfl rfl rfl (uAc rfl gU) ?_;refine uAa rfl rfl rfl (uAg rfl gU rfl rfl) ?_;refine uAa rfl rfl rfl (uAi rfl (fun hh=>hh) rfl rfl rfl rfl) ?_;refine uAa rfl rfl rfl (uA4 rfl (fun hh=>hh) rfl rfl) ?_;refine uAa rfl rfl rfl (uAk rfl rfl (fun hh=>hh) gU rfl) ?_;refine uAa rfl rfl rfl (uAN rfl rfl gU (fun _ hi=>gP rfl hi)) ?_;refine uAf ?_;refine uAl (s:=⟨[(36,_,_)],[],[],[]⟩) (uAj (⟨sx rfl,trivial⟩) trivial trivial) ?_;refine uAn rfl (fun hc4=>?_) (fun hc4=>?_)
    ·try simp only [nn,uAh,T.rows_len,Fs.rows_len,Sp.rows_len,Gl.rows_len] at hc4
     refine uAd (uAb ?_);refine uAa rfl rfl rfl (uAe rfl gU) ?_;refine uAf ?_;refine uAo ?_
     repeat (first | refine tR ?_ | refine bR ?_)
     refine uAs rfl ?_ trivial
     (refine uA7 ?_; unfold cntE; (repeat' split) <;> omega)
    ·try simp only [nn,uAh,T.rows_len,Fs.rows_len,Sp.rows_len,Gl.rows_len] at hc4
     refine uAp ?_;refine uAd (uAb ?_);refine uAa rfl rfl rfl (uAe rfl gU) ?_;refine uAf ?_;refine uAo ?_
     repeat (first | refine tR ?_ | refine bR ?_)
     refine uAs rfl ?_ trivial
     (refine uA7 ?_; unfold cntE; (repeat' split) <;> omega)
theorem uKm (g : Gl) (hg : T.sizes g.data≤900000) : Ctr sys 86 [xg g] [] (xi (uB5 uAK g)) none []:=by
 have hls:=T.len_sizes g.data
 have hrl:=T.rows_len g.data
 refine uAA Tryz.func86 rfl rfl rfl rfl rfl rfl ?_;refine uAd (uAb ?_);refine uAt rfl (uAI rfl rfl rfl rfl) ?_;refine uAa rfl rfl rfl (uAe rfl gU) ?_;refine uAf ?_;refine uAd ?_;refine uAd (uAb ?_);refine uAa rfl rfl rfl (uAg rfl gU rfl rfl) ?_;refine uAa rfl rfl rfl (uAi rfl gU rfl rfl rfl rfl) ?_;refine uAa rfl rfl rfl (uAk rfl rfl gU gU rfl) ?_;refine uAa rfl rfl rfl (uAc rfl gU) ?_;refine uAa rfl rfl rfl (uAg rfl gU rfl rfl) ?_;refine uAa rfl rfl rfl (uAi rfl (fun hh=>hh) rfl rfl rfl rfl) ?_;refine uAa rfl rfl rfl (uAk rfl rfl (fun hh=>hh) gU rfl) ?_;refine uAa rfl rfl rfl (uAN rfl rfl gU (fun _ hi=>gP rfl hi)) ?_;refine uAf ?_;refine uAl (s:=⟨[(1,_,_),(12,_,_)],[(.l 1,_)],[],[]⟩) (uAj (⟨sx rfl,sx rfl,trivial⟩) (⟨sx rfl,trivial⟩) trivial) ?_;refine uAn rfl (fun hc=>?_) (fun hc=>?_)
 ·try simp only [nn,uAh,T.rows_len,Fs.rows_len,Sp.rows_len,Gl.rows_len] at hc
  refine uAd (uAb ?_);refine uAa rfl rfl rfl (uAe rfl gU) ?_;refine uAf ?_;refine uAo ?_
  repeat (first | refine tR ?_ | refine bR ?_)
  refine uAs rfl ?_ trivial
  (rw [uB5,if_pos (by grind)]; rfl)
 ·try simp only [nn,uAh,T.rows_len,Fs.rows_len,Sp.rows_len,Gl.rows_len] at hc
  refine uAp ?_;refine uAd ?_;refine uAd (uAb ?_);refine uAa rfl rfl rfl (uAg rfl gU rfl rfl) ?_;refine uAa rfl rfl rfl (uAi rfl gU rfl rfl rfl rfl) ?_;refine uAx rfl rfl rfl rfl rfl rfl gU gU (uCZ _) rfl ?_;refine uAa rfl rfl rfl (uAX rfl gU) ?_;refine uAa rfl rfl rfl (uAc rfl gU) ?_;refine uAa rfl rfl rfl (uAm rfl gU rfl rfl rfl rfl rfl) ?_;refine uAx rfl rfl rfl rfl rfl rfl gU (fun hh=>gA ((fun hh=>hh) hh) (rfl)) (uCo _) rfl ?_;refine uAa rfl rfl rfl (uAc rfl (fun hh=>hh)) ?_;refine uAa rfl rfl rfl (uAg rfl gU rfl rfl) ?_;refine uAa rfl rfl rfl (uAi rfl (fun hh=>hh) rfl rfl rfl rfl) ?_;refine uAx rfl rfl rfl rfl rfl rfl gU (fun hh=>gA ((fun hh=>hh) hh) (rfl)) (uCZ _) rfl ?_;refine uAa rfl rfl rfl (uAX rfl (fun hh=>hh)) ?_;refine uA8 (s:=⟨[(1,_,_),(17,_,_),(20,_,_),(24,_,_)],[(.l 1,_)],[],[]⟩) (uAj (⟨sx rfl,sx rfl,sx rfl,sx rfl,trivial⟩) (⟨sx rfl,trivial⟩) trivial) ?_;refine uAa rfl rfl rfl (uAH rfl rfl (fun hh=>hh) (fun hh hi=>gP hh hi)) ?_;refine uAa rfl rfl rfl (uAN rfl rfl gU (fun _ hi=>gP rfl hi)) ?_;refine uAf ?_;refine uAn rfl (fun hc2=>?_) (fun hc2=>?_)
  ·try simp only [nn,uAh,T.rows_len,Fs.rows_len,Sp.rows_len,Gl.rows_len] at hc2
   refine uAd (uAb ?_);refine uAa rfl rfl rfl (uAe rfl gU) ?_;refine uAf ?_;refine uAo ?_
   repeat (first | refine tR ?_ | refine bR ?_)
   refine uAs rfl ?_ trivial
   (rw [uB5,if_neg (by omega),if_pos (by grind)]; rfl)
  ·try simp only [nn,uAh,T.rows_len,Fs.rows_len,Sp.rows_len,Gl.rows_len] at hc2
   refine uAp ?_;refine uAd ?_;refine uAd (uAb ?_);refine uAa rfl rfl rfl (uAm rfl gU rfl rfl rfl rfl rfl) ?_;refine uAx rfl rfl rfl rfl rfl rfl gU gU (uCo _) rfl ?_;refine uAa rfl rfl rfl (uAX rfl gU) ?_;refine uAa rfl rfl rfl (uAc rfl gU) ?_;refine uAa rfl rfl rfl (uAg rfl gU rfl rfl) ?_;refine uAa rfl rfl rfl (uAi rfl (fun hh=>hh) rfl rfl rfl rfl) ?_;refine uAa rfl rfl rfl (uA2 rfl rfl (fun hh=>hh) gU rfl) ?_;refine uAa rfl rfl rfl (uAH rfl rfl gU (fun _ hi=>gP rfl hi)) ?_;refine uAf ?_;refine uAl (s:=⟨[(1,_,_),(34,_,_)],[(.l 1,_)],[],[]⟩) (uAj (⟨sx rfl,sx rfl,trivial⟩) (⟨sx rfl,trivial⟩) trivial) ?_;refine uAn rfl (fun hc3=>?_) (fun hc3=>?_)
   ·try simp only [nn,uAh,T.rows_len,Fs.rows_len,Sp.rows_len,Gl.rows_len] at hc3
    refine uAd (uAb ?_);refine uAa rfl rfl rfl (uAe rfl gU) ?_;refine uAf ?_;refine uAo ?_
    repeat (first | refine tR ?_ | refine bR ?_)
    refine uAs rfl ?_ trivial
    (rw [uB5,if_neg (by omega),if_neg (by grind),if_pos (by grind)]; rfl)
   ·try simp only [nn,uAh,T.rows_len,Fs.rows_len,Sp.rows_len,Gl.rows_len] at hc3
    refine uAp ?_;refine uAd ?_;refine uAd (uAb ?_);refine uAa rfl rfl rfl (uAg rfl gU rfl rfl) ?_;refine uAa rfl rfl rfl (uAi rfl gU rfl rfl rfl rfl) ?_;refine uAJ rfl rfl rfl rfl rfl gU rfl rfl ?_ (fun hh=>by simp at hh); intro hlen;refine uAa rfl rfl rfl (uAk rfl rfl gU gU rfl) ?_;refine uAa rfl rfl rfl (uAc rfl gU) ?_;refine uAa rfl rfl rfl (uAg rfl gU rfl rfl) ?_;refine uAa rfl rfl rfl (uAi rfl (fun hh=>hh) rfl rfl rfl rfl) ?_;refine uAa rfl rfl rfl (uA4 rfl (fun hh=>hh) rfl rfl) ?_;refine uAa rfl rfl rfl (uAk rfl rfl (fun hh=>hh) gU rfl) ?_;refine uAa rfl rfl rfl (uAN rfl rfl gU (fun _ hi=>gP rfl hi)) ?_;refine uAa rfl rfl rfl (uAc rfl gU) ?_;refine uAa rfl rfl rfl (uAm rfl gU rfl rfl rfl rfl rfl) ?_;refine uA8 (s:=⟨[(1,_,_),(45,_,_),(46,_,_)],[(.l 1,_)],[],[]⟩) (uAj (⟨sx rfl,sx rfl,sx rfl,trivial⟩) (⟨sx rfl,trivial⟩) trivial) ?_;refine uAx rfl rfl rfl rfl rfl rfl gU (fun hh=>gA ((fun hh=>hh) hh) (rfl)) (uCo _) rfl ?_;refine uAa rfl rfl rfl (uAX rfl (fun hh=>hh)) ?_;refine uAa rfl rfl rfl (uAc rfl (fun hh=>hh)) ?_;refine uAa rfl rfl rfl (uAg rfl gU rfl rfl) ?_;refine uAa rfl rfl rfl (uAi rfl (fun hh=>hh) rfl rfl rfl rfl) ?_;refine uAa rfl rfl rfl (uA4 rfl (fun hh=>hh) rfl rfl) ?_;refine uAa rfl rfl rfl (uAk rfl rfl (fun hh=>hh) gU rfl) ?_
    refine uAa rfl rfl rfl (uAH rfl rfl (fun hh=>hh) (fun hh hi=>gP hh hi)) ?_;refine uAa rfl rfl rfl (uAN rfl rfl gU (fun _ hi=>gP rfl hi)) ?_;refine uAf ?_;refine uAl (s:=⟨[(1,_,_),(55,_,_)],[(.l 1,_)],[],[]⟩) (uAj (⟨sx rfl,sx rfl,trivial⟩) (⟨sx rfl,trivial⟩) trivial) ?_;refine uAn rfl (fun hc4=>?_) (fun hc4=>?_)
    ·try simp only [nn,uAh,T.rows_len,Fs.rows_len,Sp.rows_len,Gl.rows_len] at hc4
     refine uAd (uAb ?_);refine uAa rfl rfl rfl (uAe rfl gU) ?_;refine uAf ?_;refine uAo ?_
     repeat (first | refine tR ?_ | refine bR ?_)
     refine uAs rfl ?_ trivial
     (rw [uB5,if_neg (by omega),if_neg (by grind),if_neg (by grind),if_pos (by cases ha : uBm g.kind <;> simp only [ha,Bool.true_eq_false,Bool.false_eq_true,false_and,true_and,and_true,or_false,false_or,not_true_eq_false,not_false_eq_true,ne_eq,reduceCtorEq,and_false] at hc4 ⊢ <;> omega)]; rfl)
    ·try simp only [nn,uAh,T.rows_len,Fs.rows_len,Sp.rows_len,Gl.rows_len] at hc4
     have he : uB5 uAK g=errs (msgE uAK) g.data:=by
      rw [uB5,if_neg (by omega),if_neg (by grind),if_neg (by grind),if_neg (by cases ha : uBm g.kind <;> simp only [ha,Bool.true_eq_false,Bool.false_eq_true,false_and,true_and,and_true,or_false,false_or,not_true_eq_false,not_false_eq_true,ne_eq,reduceCtorEq,and_false] at hc4 ⊢ <;> omega)]
     refine uAp ?_;refine uAd ?_;refine uAd (uAb ?_);refine uAa rfl rfl rfl (uAe rfl gU) ?_;refine uAf ?_;refine uAv ?_;refine uAW (ι:=Nat) { t:=[(1,_,_)],bx:=[(.l 1,_)],ow:=[] } (fun k=>[(3,true,xi (k : Int))]) (fun k=>[]) (fun k=>k≤g.data.length∧errs (msgE uAK) (g.data.drop k)=uB5 uAK g) (fun k=>g.data.length - k) (0) (⟨by simp,by rw [he]; rfl⟩) (uAj (⟨sx rfl,sx rfl,trivial⟩) (⟨sx rfl,trivial⟩) trivial) ?_
     intro k hok
     dsimp only [List.cons_append,List.nil_append]
     obtain ⟨hk,hi⟩:=hok
     refine uAd ?_;refine uAd (uAb ?_);refine uAa rfl rfl rfl (uAc rfl gU) ?_;refine uAa rfl rfl rfl (uAg rfl gU rfl rfl) ?_;refine uAa rfl rfl rfl (uAi rfl gU rfl rfl rfl rfl) ?_;refine uAJ rfl rfl rfl rfl rfl gU rfl rfl ?_ (fun hh=>by simp at hh); intro hlen;refine uAa rfl rfl rfl (uAk rfl rfl gU gU rfl) ?_;refine uAf ?_;refine uAl (s:=⟨[(1,_,_),(3,_,_),(60,_,_)],[(.l 1,_)],[],[]⟩) (uAj (⟨sx rfl,sx rfl,sx rfl,trivial⟩) (⟨sx rfl,trivial⟩) trivial) ?_;refine uAn rfl (fun hc5=>?_) (fun hc5=>?_)
     ·try simp only [nn,uAh,T.rows_len,Fs.rows_len,Sp.rows_len,Gl.rows_len] at hc5
      have hlt : k < g.data.length:=by omega
      have h2:=T.getD_size hlt
      have hd:=uCb (d:=default) hlt hi
      refine uAp ?_;refine uAd ?_;refine uAv ?_;refine uAd (uAb ?_);refine uAa rfl rfl rfl (uAg rfl gU rfl rfl) ?_;refine uAa rfl rfl rfl (uAi rfl gU rfl rfl rfl rfl) ?_;refine uAa rfl rfl rfl (uAc rfl gU) ?_;refine uAa rfl rfl rfl (uAr rfl rfl gU gU rfl rfl rfl (fun hh=>T.rows_at (by first | omega | (simp at hh ⊢; omega)))) ?_;refine uAa rfl rfl rfl (uAE rfl gU rfl rfl rfl rfl) ?_;refine uAx rfl rfl rfl rfl rfl rfl gU gU (uEK _ (by omega)) rfl ?_;refine uAa rfl rfl rfl (uAe rfl gU) ?_;refine uAf ?_;refine uAl (s:=⟨[(1,_,_),(3,_,_),(4,_,_)],[(.l 1,_)],[],[]⟩) (uAj (⟨sx rfl,sx rfl,sx rfl,trivial⟩) (⟨sx rfl,trivial⟩) trivial) ?_;refine uAd (uAb ?_);refine uAa rfl rfl rfl (uAc rfl gU) ?_;refine uAa rfl rfl rfl (uAk rfl rfl gU gU rfl) ?_;refine uAf ?_;refine uAn rfl (fun hc1=>?_) (fun hc1=>?_)
      ·try simp only [nn,uAh,T.rows_len,Fs.rows_len,Sp.rows_len,Gl.rows_len] at hc1
       refine uAd (uAb ?_);refine uAa rfl rfl rfl (uAc rfl gU) ?_;refine uAa rfl rfl rfl (uAe rfl gU) ?_;refine uAf ?_;refine uAo ?_
       repeat (first | refine tR ?_ | refine bR ?_)
       refine uAs rfl ?_ trivial;exact uA7 (hd.1 (by assumption)).symm
      ·try simp only [nn,uAh,T.rows_len,Fs.rows_len,Sp.rows_len,Gl.rows_len] at hc1
       refine uAp ?_;refine uAb ?_;refine uAa rfl rfl rfl (uAc rfl gU) ?_;refine uAa rfl rfl rfl (uAy rfl rfl gU gU rfl (IntWalk.i64_in _ (by omega))) ?_;refine uAa rfl rfl rfl (uAe rfl gU) ?_;refine uAf ?_;refine ⟨k + 1,?_,?_,uAj (⟨⟨_,rfl,?_⟩,⟨sx rfl,trivial⟩⟩) (⟨sx rfl,trivial⟩) trivial⟩
       all_goals (first | rfl | omega | exact ⟨by omega,hd.2 (by assumption)⟩)
     ·try simp only [nn,uAh,T.rows_len,Fs.rows_len,Sp.rows_len,Gl.rows_len] at hc5
      refine uAO ?_
      repeat (first | refine uAG ?_ | refine uAF ?_ | refine uAC rfl ?_)
      refine uAd (uAb ?_);refine uAa rfl rfl rfl (uAe rfl gU) ?_;refine uAf ?_;refine uAo ?_
      repeat (first | refine tR ?_ | refine bR ?_)
      refine uAs rfl ?_ trivial;exact uA7 (uDr (by omega) hi).symm
theorem uGw {α : Type} {f : α→Int} {l : List α} {k : Nat} (h : l.length≤k) : errs f (l.drop k)=0:=by rw [List.drop_of_length_le h]; rfl
set_option maxHeartbeats 4000000 in
theorem uF4 (n : Nar) (hs : ∀ s ∈ n.steps,s.msg.size≤900000) (hg : ∀ g ∈ n.goals,T.sizes g.data≤900000) : Ctr sys 43 [xn n] [] (xi (narE uAK n)) none []:=by
 have hr1:=uAh n.roles
 have hr2:=Fs.rows_len n.fresh
 have hr3:=uAh n.tags
 have hr4:=Sp.rows_len n.steps
 have hr5:=Gl.rows_len n.goals
 refine uAA Tryz.func43 rfl rfl rfl rfl rfl rfl ?_;refine uAd (uAb ?_);refine uAt rfl (uAI rfl rfl rfl rfl) ?_;refine uAa rfl rfl rfl (uAe rfl gU) ?_;refine uAf ?_;refine uAd ?_;refine uAd (uAb ?_);refine uAa rfl rfl rfl (uAg rfl gU rfl rfl) ?_;refine uAa rfl rfl rfl (uAi rfl gU rfl rfl rfl rfl) ?_;refine uAx rfl rfl rfl rfl rfl rfl gU gU (uCZ _) rfl ?_;refine uAa rfl rfl rfl (uAX rfl gU) ?_;refine uAf ?_;refine uAl (s:=⟨[(1,_,_),(13,_,_)],[(.l 1,_)],[],[]⟩) (uAj (⟨sx rfl,sx rfl,trivial⟩) (⟨sx rfl,trivial⟩) trivial) ?_;refine uAn rfl (fun hc=>?_) (fun hc=>?_)
 ·try simp only [nn,uAh,T.rows_len,Fs.rows_len,Sp.rows_len,Gl.rows_len] at hc
  refine uAd (uAb ?_);refine uAa rfl rfl rfl (uAe rfl gU) ?_;refine uAf ?_;refine uAo ?_
  repeat (first | refine tR ?_ | refine bR ?_)
  refine uAs rfl ?_ trivial
  (rw [narE,if_pos (by rw [uDP,if_pos hc]; simp),uDP,if_pos hc]; rfl)
 ·try simp only [nn,uAh,T.rows_len,Fs.rows_len,Sp.rows_len,Gl.rows_len] at hc
  refine uAp ?_;refine uAd ?_;refine uAd (uAb ?_);refine uAa rfl rfl rfl (uAm rfl gU rfl rfl rfl rfl rfl) ?_;refine uAx rfl rfl rfl rfl rfl rfl gU gU (uIk _) rfl ?_;refine uAa rfl rfl rfl (uAe rfl gU) ?_;refine uAf ?_;refine uAd (uAb ?_);refine uAa rfl rfl rfl (uAc rfl gU) ?_;refine uAa rfl rfl rfl (uAk rfl rfl gU gU rfl) ?_;refine uAf ?_;refine uAl (s:=⟨[(1,_,_),(3,_,_),(17,_,_)],[(.l 1,_)],[],[]⟩) (uAj (⟨sx rfl,sx rfl,sx rfl,trivial⟩) (⟨sx rfl,trivial⟩) trivial) ?_;refine uAn rfl (fun hc2=>?_) (fun hc2=>?_)
  ·try simp only [nn,uAh,T.rows_len,Fs.rows_len,Sp.rows_len,Gl.rows_len] at hc2
   have hh : uDP uAK n=cntE n:=by rw [uDP,if_neg (by rw [hc]; simp),if_pos hc2]
   refine uAd (uAb ?_);refine uAa rfl rfl rfl (uAc rfl gU) ?_;refine uAa rfl rfl rfl (uAe rfl gU) ?_;refine uAf ?_;refine uAo ?_
   repeat (first | refine tR ?_ | refine bR ?_)
   refine uAs rfl ?_ trivial
   (rw [narE,if_pos (by rw [hh]; exact hc2),hh]; rfl)
  ·try simp only [nn,uAh,T.rows_len,Fs.rows_len,Sp.rows_len,Gl.rows_len] at hc2
   have hh : uDP uAK n=(if n.roles.all uAK=false then 2 else if errs (frE uAK) n.fresh≠0 then errs (frE uAK) n.fresh else if n.tags.all uAK=false then 2 else 0):=by rw [uDP,if_neg (by rw [hc]; simp),if_neg (by rw [hc2]; simp)]
   refine uAp ?_;refine uAd ?_;refine uAd (uAb ?_);refine uAa rfl rfl rfl (uAg rfl gU rfl rfl) ?_;refine uAa rfl rfl rfl (uAi rfl gU rfl rfl rfl rfl) ?_;refine uAx rfl rfl rfl rfl rfl rfl gU gU (uDy _) rfl ?_;refine uAa rfl rfl rfl (uAX rfl gU) ?_;refine uAf ?_;refine uAn rfl (fun hc3=>?_) (fun hc3=>?_)
   ·try simp only [nn,uAh,T.rows_len,Fs.rows_len,Sp.rows_len,Gl.rows_len] at hc3
    rw [if_pos hc3] at hh
    refine uAd (uAb ?_);refine uAa rfl rfl rfl (uAe rfl gU) ?_;refine uAf ?_;refine uAo ?_
    repeat (first | refine tR ?_ | refine bR ?_)
    refine uAs rfl ?_ trivial
    (rw [narE,if_pos (by rw [hh]; simp),hh]; rfl)
   ·try simp only [nn,uAh,T.rows_len,Fs.rows_len,Sp.rows_len,Gl.rows_len] at hc3
    rw [if_neg (by rw [hc3]; simp)] at hh
    refine uAp ?_;refine uAd ?_;refine uAd (uAb ?_);refine uAa rfl rfl rfl (uAe rfl gU) ?_;refine uAf ?_;refine uAl (s:=⟨[(1,_,_),(4,_,_)],[(.l 1,_)],[],[]⟩) (uAj (⟨sx rfl,sx rfl,trivial⟩) (⟨sx rfl,trivial⟩) trivial) ?_;refine uAv ?_;refine uAW (ι:=Nat) { t:=[(1,_,_)],bx:=[(.l 1,_)],ow:=[] } (fun k=>[(4,true,xi (k : Int))]) (fun k=>[]) (fun k=>k≤n.fresh.length∧errs (frE uAK) (n.fresh.drop k)=errs (frE uAK) n.fresh) (fun k=>n.fresh.length - k) (0) (⟨by simp,rfl⟩) (uAj (⟨sx rfl,sx rfl,trivial⟩) (⟨sx rfl,trivial⟩) trivial) ?_
    intro k hokk
    dsimp only [List.cons_append,List.nil_append]
    obtain ⟨hk,hi⟩:=hokk
    refine uAd ?_;refine uAd (uAb ?_);refine uAa rfl rfl rfl (uAc rfl gU) ?_;refine uAa rfl rfl rfl (uAg rfl gU rfl rfl) ?_;refine uAa rfl rfl rfl (uAi rfl gU rfl rfl rfl rfl) ?_;refine uAJ rfl rfl rfl rfl rfl gU rfl rfl ?_ (fun hh=>by simp at hh); intro hlen;refine uAa rfl rfl rfl (uAk rfl rfl gU gU rfl) ?_;refine uAf ?_;refine uAl (s:=⟨[(1,_,_),(4,_,_),(27,_,_)],[(.l 1,_)],[],[]⟩) (uAj (⟨sx rfl,sx rfl,sx rfl,trivial⟩) (⟨sx rfl,trivial⟩) trivial) ?_;refine uAn rfl (fun hc4=>?_) (fun hc4=>?_)
    ·try simp only [nn,uAh,T.rows_len,Fs.rows_len,Sp.rows_len,Gl.rows_len] at hc4
     have hlt : k < n.fresh.length:=by omega
     have hd:=uCb (d:=default) hlt hi
     have hn2:=uDy [(n.fresh.getD k default).role,(n.fresh.getD k default).name]
     refine uAp ?_;refine uAd ?_;refine uAv ?_;refine uAd (uAb ?_);refine uAa rfl rfl rfl (uAg rfl gU rfl rfl) ?_;refine uAa rfl rfl rfl (uAi rfl gU rfl rfl rfl rfl) ?_;refine uAa rfl rfl rfl (uAc rfl gU) ?_;refine uAa rfl rfl rfl (uAr rfl rfl gU gU rfl rfl rfl (fun hh=>Fs.rows_at (by first | omega | (simp at hh ⊢; omega)))) ?_;refine uAa rfl rfl rfl (uAE rfl gU rfl rfl rfl rfl) ?_;refine uAt rfl (uAM rfl rfl rfl) ?_;refine uAt rfl (uAz rfl rfl rfl rfl rfl rfl rfl) ?_;refine uAf ?_;refine uAl (s:=⟨[(1,_,_),(4,_,_),(5,_,_)],[(.l 1,_),(.l 5,_)],[],[]⟩) (uAj (⟨sx rfl,sx rfl,sx rfl,trivial⟩) (⟨sx rfl,sx rfl,trivial⟩) trivial) ?_;refine uAd ?_;refine uAd (uAb ?_);refine uAa rfl rfl rfl (uAg rfl gU rfl rfl) ?_;refine uAa rfl rfl rfl (uAi rfl gU rfl rfl rfl rfl) ?_;refine uAa rfl rfl rfl (uAg rfl gU rfl rfl) ?_;refine uAa rfl rfl rfl (uAi rfl gU rfl rfl rfl rfl) ?_;refine uAU (xs:=[_,_]) rfl rfl rfl rfl rfl rfl rfl rfl rfl gU rfl ?_;refine uAx rfl rfl rfl rfl rfl rfl gU gU (hn2) rfl ?_;refine uAa rfl rfl rfl (uAX rfl gU) ?_;refine uAf ?_;refine uAl (s:=⟨[(1,_,_),(4,_,_),(5,_,_),(41,_,_)],[(.l 1,_),(.l 5,_)],[],[]⟩) (uAj (⟨sx rfl,sx rfl,sx rfl,sx rfl,trivial⟩) (⟨sx rfl,sx rfl,trivial⟩) trivial) ?_
     refine uAn rfl (fun hc5=>?_) (fun hc5=>?_)
     ·try simp only [nn,uAh,T.rows_len,Fs.rows_len,Sp.rows_len,Gl.rows_len] at hc5
      have hf : frE uAK (n.fresh.getD k default)=2:=by rw [frE,if_pos (by simpa [Decidable.or_iff_not_imp_left] using hc5)]
      have he:=hd.1 (by rw [hf]; simp)
      rw [he,hf] at hh
      rw [if_pos (by simp)] at hh
      refine uAd (uAb ?_);refine uAa rfl rfl rfl (uAe rfl gU) ?_;refine uAf ?_;refine uAo ?_
      repeat (first | refine tR ?_ | refine bR ?_)
      refine uAs rfl ?_ trivial
      (rw [narE,if_pos (by rw [hh]; simp),hh]; rfl)
     ·try simp only [nn,uAh,T.rows_len,Fs.rows_len,Sp.rows_len,Gl.rows_len] at hc5
      have hnn : ¬(uAK (n.fresh.getD k default).role=false∨uAK (n.fresh.getD k default).name=false):=by
       simp at hc5 ⊢; simp [hc5]
      refine uAp ?_;refine uAd (uAb ?_);refine uAa rfl rfl rfl (uAg rfl gU rfl rfl) ?_;refine uAa rfl rfl rfl (uAi rfl gU rfl rfl rfl rfl) ?_;refine uAa rfl rfl rfl (uAk rfl rfl gU gU rfl) ?_;refine uAa rfl rfl rfl (uAc rfl gU) ?_;refine uAa rfl rfl rfl (uAg rfl gU rfl rfl) ?_;refine uAa rfl rfl rfl (uAi rfl (fun hh=>hh) rfl rfl rfl rfl) ?_;refine uAa rfl rfl rfl (uAk rfl rfl (fun hh=>hh) gU rfl) ?_;refine uAa rfl rfl rfl (uAH rfl rfl gU (fun _ hi=>gP rfl hi)) ?_;refine uAa rfl rfl rfl (uAc rfl gU) ?_;refine uAa rfl rfl rfl (uAg rfl gU rfl rfl) ?_;refine uAa rfl rfl rfl (uAi rfl (fun hh=>hh) rfl rfl rfl rfl) ?_;refine uAa rfl rfl rfl (uAk rfl rfl (fun hh=>hh) gU rfl) ?_;refine uA8 (s:=⟨[(1,_,_),(4,_,_),(50,_,_),(53,_,_)],[(.l 1,_)],[],[]⟩) (uAj (⟨sx rfl,sx rfl,sx rfl,sx rfl,trivial⟩) (⟨sx rfl,trivial⟩) trivial) ?_;refine uAa rfl rfl rfl (uAH rfl rfl gU (fun _ hi=>gP rfl hi)) ?_;refine uAf ?_;refine uAn rfl (fun hc6=>?_) (fun hc6=>?_)
      ·try simp only [nn,uAh,T.rows_len,Fs.rows_len,Sp.rows_len,Gl.rows_len] at hc6
       have hf : frE uAK (n.fresh.getD k default)=10:=by rw [frE,if_neg hnn,if_pos (by omega)]
       have he:=hd.1 (by rw [hf]; simp)
       rw [he,hf] at hh
       rw [if_pos (by simp)] at hh
       refine uAd (uAb ?_);refine uAa rfl rfl rfl (uAe rfl gU) ?_;refine uAf ?_;refine uAo ?_
       repeat (first | refine tR ?_ | refine bR ?_)
       refine uAs rfl ?_ trivial
       (rw [narE,if_pos (by rw [hh]; simp),hh]; rfl)
      ·try simp only [nn,uAh,T.rows_len,Fs.rows_len,Sp.rows_len,Gl.rows_len] at hc6
       have hf : frE uAK (n.fresh.getD k default)=0:=by rw [frE,if_neg hnn,if_neg (by omega)]
       refine uAp ?_;refine uAb ?_;refine uAa rfl rfl rfl (uAc rfl gU) ?_;refine uAa rfl rfl rfl (uAy rfl rfl gU gU rfl (IntWalk.i64_in _ (by omega))) ?_;refine uAa rfl rfl rfl (uAe rfl gU) ?_;refine uAf ?_;refine ⟨k + 1,?_,?_,uAj (⟨⟨_,rfl,?_⟩,⟨sx rfl,trivial⟩⟩) (⟨sx rfl,trivial⟩) trivial⟩
       all_goals first | rfl | omega | exact ⟨by omega,hd.2 hf⟩
    ·try simp only [nn,uAh,T.rows_len,Fs.rows_len,Sp.rows_len,Gl.rows_len] at hc4
     rw [uGw (by omega)] at hi
     rw [← hi,if_neg (by simp)] at hh
     refine uAO ?_
     repeat (first | refine uAG ?_ | refine uAF ?_ | refine uAC rfl ?_)
     refine uAd ?_;refine uAd (uAb ?_);refine uAa rfl rfl rfl (uAg rfl gU rfl rfl) ?_;refine uAa rfl rfl rfl (uAi rfl gU rfl rfl rfl rfl) ?_;refine uAx rfl rfl rfl rfl rfl rfl gU gU (uDy _) rfl ?_;refine uAa rfl rfl rfl (uAX rfl gU) ?_;refine uAf ?_;refine uAn rfl (fun hc5=>?_) (fun hc5=>?_)
     ·try simp only [nn,uAh,T.rows_len,Fs.rows_len,Sp.rows_len,Gl.rows_len] at hc5
      rw [if_pos hc5] at hh
      refine uAd (uAb ?_);refine uAa rfl rfl rfl (uAe rfl gU) ?_;refine uAf ?_;refine uAo ?_
      repeat (first | refine tR ?_ | refine bR ?_)
      refine uAs rfl ?_ trivial
      (rw [narE,if_pos (by rw [hh]; simp),hh]; rfl)
     ·try simp only [nn,uAh,T.rows_len,Fs.rows_len,Sp.rows_len,Gl.rows_len] at hc5
      rw [if_neg (by rw [hc5]; simp)] at hh
      have hN : narE uAK n=(if errs (spE uAK) n.steps≠0 then errs (spE uAK) n.steps else errs (uB5 uAK) n.goals):=by rw [narE,if_neg (by rw [hh]; simp)]
      refine uAp ?_;refine uAd ?_;refine uAd (uAb ?_);refine uAa rfl rfl rfl (uAe rfl gU) ?_;refine uAf ?_;refine uAl (s:=⟨[(1,_,_),(6,_,_)],[(.l 1,_)],[],[]⟩) (uAj (⟨sx rfl,sx rfl,trivial⟩) (⟨sx rfl,trivial⟩) trivial) ?_;refine uAv ?_;refine uAW (ι:=Nat) { t:=[(1,_,_)],bx:=[(.l 1,_)],ow:=[] } (fun j=>[(6,true,xi (j : Int))]) (fun j=>[]) (fun j=>j≤n.steps.length∧errs (spE uAK) (n.steps.drop j)=errs (spE uAK) n.steps) (fun j=>n.steps.length - j) (0) (⟨by simp,rfl⟩) (uAj (⟨sx rfl,sx rfl,trivial⟩) (⟨sx rfl,trivial⟩) trivial) ?_
      intro j hokj
      dsimp only [List.cons_append,List.nil_append]
      obtain ⟨hj,hij⟩:=hokj
      refine uAd ?_;refine uAd (uAb ?_);refine uAa rfl rfl rfl (uAc rfl gU) ?_;refine uAa rfl rfl rfl (uAg rfl gU rfl rfl) ?_;refine uAa rfl rfl rfl (uAi rfl gU rfl rfl rfl rfl) ?_;refine uAJ rfl rfl rfl rfl rfl gU rfl rfl ?_ (fun hh=>by simp at hh); intro hlen;refine uAa rfl rfl rfl (uAk rfl rfl gU gU rfl) ?_;refine uAf ?_;refine uAl (s:=⟨[(1,_,_),(6,_,_),(63,_,_)],[(.l 1,_)],[],[]⟩) (uAj (⟨sx rfl,sx rfl,sx rfl,trivial⟩) (⟨sx rfl,trivial⟩) trivial) ?_;refine uAn rfl (fun hc6=>?_) (fun hc6=>?_)
      ·try simp only [nn,uAh,T.rows_len,Fs.rows_len,Sp.rows_len,Gl.rows_len] at hc6
       have hlt : j < n.steps.length:=by omega
       have hd:=uCb (d:=default) hlt hij
       have hmem:=hs _ (uFe (d:=default) hlt)
       have hn2:=uDy [(n.steps.getD j default).frm,(n.steps.getD j default).dst]
       refine uAp ?_;refine uAd ?_;refine uAv ?_;refine uAd ?_;refine uAd ?_;refine awp_drawn' (by kernel_rfl) ?_;refine uAq rfl rfl rfl rfl (uAg rfl gU rfl rfl) ?_;refine uBa rfl rfl rfl rfl rfl rfl rfl gU rfl rfl rfl rfl ?_;refine uAq rfl rfl rfl rfl (uAc rfl gU) ?_;refine uAq rfl rfl rfl rfl (uAr rfl rfl gU gU rfl rfl rfl (fun hh=>Sp.rows_at (by first | omega | (simp at hh ⊢; omega)))) ?_;refine uAq rfl rfl rfl rfl (uA0 rfl gU rfl rfl) ?_;refine uAq rfl rfl rfl rfl (uAQ rfl gU rfl rfl rfl) ?_;refine uAq rfl rfl rfl rfl (uAg rfl gU rfl rfl) ?_;refine uBa rfl rfl rfl rfl rfl rfl rfl gU rfl rfl rfl rfl ?_;refine uAq rfl rfl rfl rfl (uAc rfl gU) ?_;refine uAq rfl rfl rfl rfl (uAr rfl rfl gU gU rfl rfl rfl (fun hh=>Sp.rows_at (by first | omega | (simp at hh ⊢; omega)))) ?_;refine uAq rfl rfl rfl rfl (uA0 rfl gU rfl rfl) ?_;refine uAq rfl rfl rfl rfl (uAQ rfl gU rfl rfl rfl) ?_;refine uDM (xs:=[_,_]) rfl rfl rfl rfl rfl rfl rfl rfl rfl rfl gU rfl ?_;refine uAR rfl rfl rfl rfl rfl rfl rfl gU gU (hn2) rfl ?_;refine uAq rfl rfl rfl rfl (uAX rfl gU) ?_;refine uA1 (by kernel_rfl) ?_;refine uAl (s:=⟨[(1,_,_),(6,_,_),(80,_,_)],[(.l 1,_)],[],[]⟩) (uAj (⟨sx rfl,sx rfl,sx rfl,trivial⟩) (⟨sx rfl,trivial⟩) trivial) ?_;refine uAn rfl (fun hc7=>?_) (fun hc7=>?_)
       ·try simp only [nn,uAh,T.rows_len,Fs.rows_len,Sp.rows_len,Gl.rows_len] at hc7
        have hf : spE uAK (n.steps.getD j default)=2:=by rw [spE,if_pos (by simpa [Decidable.or_iff_not_imp_left] using hc7)]
        have he:=hd.1 (by rw [hf]; simp)
        rw [he,hf,if_pos (by simp)] at hN
        refine uAd (uAb ?_);refine uAa rfl rfl rfl (uAe rfl gU) ?_;refine uAf ?_;refine uAo ?_
        repeat (first | refine tR ?_ | refine bR ?_)
        refine uAs rfl ?_ trivial
        (rw [hN]; rfl)
       ·try simp only [nn,uAh,T.rows_len,Fs.rows_len,Sp.rows_len,Gl.rows_len] at hc7
        have hnn : ¬(uAK (n.steps.getD j default).frm=false∨uAK (n.steps.getD j default).dst=false):=by
         simp at hc7 ⊢; simp [hc7]
        have hf : spE uAK (n.steps.getD j default)=msgE uAK (n.steps.getD j default).msg:=by rw [spE,if_neg hnn]
        rw [hf] at hd
        refine uAp ?_;refine uAd (uAb ?_);refine uAa rfl rfl rfl (uAg rfl gU rfl rfl) ?_;refine uAa rfl rfl rfl (uAi rfl gU rfl rfl rfl rfl) ?_;refine uAa rfl rfl rfl (uAc rfl gU) ?_;refine uAa rfl rfl rfl (uAr rfl rfl gU gU rfl rfl rfl (fun hh=>Sp.rows_at (by first | omega | (simp at hh ⊢; omega)))) ?_;refine uAa rfl rfl rfl (uA0 rfl gU rfl rfl) ?_;refine uAa rfl rfl rfl (uAE rfl gU rfl rfl rfl rfl) ?_;refine uAx rfl rfl rfl rfl rfl rfl gU gU (uEK _ hmem) rfl ?_;refine uAa rfl rfl rfl (uAe rfl gU) ?_;refine uAf ?_;refine uAl (s:=⟨[(1,_,_),(6,_,_),(7,_,_)],[(.l 1,_)],[],[]⟩) (uAj (⟨sx rfl,sx rfl,sx rfl,trivial⟩) (⟨sx rfl,trivial⟩) trivial) ?_;refine uAd (uAb ?_);refine uAa rfl rfl rfl (uAc rfl gU) ?_;refine uAa rfl rfl rfl (uAk rfl rfl gU gU rfl) ?_;refine uAf ?_;refine uAn rfl (fun hc8=>?_) (fun hc8=>?_)
        ·try simp only [nn,uAh,T.rows_len,Fs.rows_len,Sp.rows_len,Gl.rows_len] at hc8
         have he:=hd.1 hc8
         rw [he,if_pos hc8] at hN
         refine uAd (uAb ?_);refine uAa rfl rfl rfl (uAc rfl gU) ?_;refine uAa rfl rfl rfl (uAe rfl gU) ?_;refine uAf ?_;refine uAo ?_
         repeat (first | refine tR ?_ | refine bR ?_)
         refine uAs rfl ?_ trivial
         (rw [hN]; rfl)
        ·try simp only [nn,uAh,T.rows_len,Fs.rows_len,Sp.rows_len,Gl.rows_len] at hc8
         refine uAp ?_;refine uAb ?_;refine uAa rfl rfl rfl (uAc rfl gU) ?_;refine uAa rfl rfl rfl (uAy rfl rfl gU gU rfl (IntWalk.i64_in _ (by omega))) ?_;refine uAa rfl rfl rfl (uAe rfl gU) ?_;refine uAf ?_;refine ⟨j + 1,?_,?_,uAj (⟨⟨_,rfl,?_⟩,⟨sx rfl,trivial⟩⟩) (⟨sx rfl,trivial⟩) trivial⟩
         all_goals first | rfl | omega | exact ⟨by omega,hd.2 hc8⟩
      ·try simp only [nn,uAh,T.rows_len,Fs.rows_len,Sp.rows_len,Gl.rows_len] at hc6
       rw [uGw (by omega)] at hij
       rw [← hij,if_neg (by simp)] at hN
       refine uAO ?_
       repeat (first | refine uAG ?_ | refine uAF ?_ | refine uAC rfl ?_)
       refine uAd ?_;refine uAd (uAb ?_);refine uAa rfl rfl rfl (uAe rfl gU) ?_;refine uAf ?_;refine uAv ?_;refine uAW (ι:=Nat) { t:=[(1,_,_)],bx:=[(.l 1,_)],ow:=[] } (fun i=>[(8,true,xi (i : Int))]) (fun i=>[]) (fun i=>i≤n.goals.length∧errs (uB5 uAK) (n.goals.drop i)=errs (uB5 uAK) n.goals) (fun i=>n.goals.length - i) (0) (⟨by simp,rfl⟩) (uAj (⟨sx rfl,sx rfl,trivial⟩) (⟨sx rfl,trivial⟩) trivial) ?_
       intro i hoki
       dsimp only [List.cons_append,List.nil_append]
       obtain ⟨hi2,hii⟩:=hoki
       refine uAd ?_;refine uAd (uAb ?_);refine uAa rfl rfl rfl (uAc rfl gU) ?_;refine uAa rfl rfl rfl (uAg rfl gU rfl rfl) ?_;refine uAa rfl rfl rfl (uAi rfl gU rfl rfl rfl rfl) ?_;refine uAJ rfl rfl rfl rfl rfl gU rfl rfl ?_ (fun hh=>by simp at hh); intro hlen;refine uAa rfl rfl rfl (uAk rfl rfl gU gU rfl) ?_;refine uAf ?_;refine uAl (s:=⟨[(1,_,_),(8,_,_),(95,_,_)],[(.l 1,_)],[],[]⟩) (uAj (⟨sx rfl,sx rfl,sx rfl,trivial⟩) (⟨sx rfl,trivial⟩) trivial) ?_;refine uAn rfl (fun hc7=>?_) (fun hc7=>?_)
       ·try simp only [nn,uAh,T.rows_len,Fs.rows_len,Sp.rows_len,Gl.rows_len] at hc7
        have hlt : i < n.goals.length:=by omega
        have hd:=uCb (d:=default) hlt hii
        have hmem:=hg _ (uFe (d:=default) hlt)
        refine uAp ?_;refine uAd ?_;refine uAv ?_;refine uAd (uAb ?_);refine uAa rfl rfl rfl (uAg rfl gU rfl rfl) ?_;refine uAa rfl rfl rfl (uAi rfl gU rfl rfl rfl rfl) ?_;refine uAa rfl rfl rfl (uAc rfl gU) ?_;refine uAa rfl rfl rfl (uAr rfl rfl gU gU rfl rfl rfl (fun hh=>Gl.rows_at (by first | omega | (simp at hh ⊢; omega)))) ?_;refine uAa rfl rfl rfl (uAE rfl gU rfl rfl rfl rfl) ?_;refine uAx rfl rfl rfl rfl rfl rfl gU gU (uKm _ hmem) rfl ?_;refine uAa rfl rfl rfl (uAe rfl gU) ?_;refine uAf ?_;refine uAl (s:=⟨[(1,_,_),(8,_,_),(9,_,_)],[(.l 1,_)],[],[]⟩) (uAj (⟨sx rfl,sx rfl,sx rfl,trivial⟩) (⟨sx rfl,trivial⟩) trivial) ?_;refine uAd (uAb ?_);refine uAa rfl rfl rfl (uAc rfl gU) ?_;refine uAa rfl rfl rfl (uAk rfl rfl gU gU rfl) ?_;refine uAf ?_;refine uAn rfl (fun hc1=>?_) (fun hc1=>?_)
        ·try simp only [nn,uAh,T.rows_len,Fs.rows_len,Sp.rows_len,Gl.rows_len] at hc1
         refine uAd (uAb ?_);refine uAa rfl rfl rfl (uAc rfl gU) ?_;refine uAa rfl rfl rfl (uAe rfl gU) ?_;refine uAf ?_;refine uAo ?_
         repeat (first | refine tR ?_ | refine bR ?_)
         refine uAs rfl ?_ trivial
         (rw [hN,hd.1 (by assumption)]; rfl)
        ·try simp only [nn,uAh,T.rows_len,Fs.rows_len,Sp.rows_len,Gl.rows_len] at hc1
         refine uAp ?_;refine uAb ?_;refine uAa rfl rfl rfl (uAc rfl gU) ?_;refine uAa rfl rfl rfl (uAy rfl rfl gU gU rfl (IntWalk.i64_in _ (by omega))) ?_;refine uAa rfl rfl rfl (uAe rfl gU) ?_;refine uAf ?_;refine ⟨i + 1,?_,?_,uAj (⟨⟨_,rfl,?_⟩,⟨sx rfl,trivial⟩⟩) (⟨sx rfl,trivial⟩) trivial⟩
         all_goals (first | rfl | omega | exact ⟨by omega,hd.2 (by assumption)⟩)
       ·try simp only [nn,uAh,T.rows_len,Fs.rows_len,Sp.rows_len,Gl.rows_len] at hc7
        rw [uGw (by omega)] at hii
        refine uAO ?_
        repeat (first | refine uAG ?_ | refine uAF ?_ | refine uAC rfl ?_)
        refine uAd (uAb ?_);refine uAa rfl rfl rfl (uAe rfl gU) ?_;refine uAf ?_;refine uAo ?_
        repeat (first | refine tR ?_ | refine bR ?_)
        refine uAs rfl ?_ trivial
        (rw [hN,← hii]; rfl)
end Go.Proofs.YteidahabkfgfjaaGreat
namespace Go.Proofs.YteidahabkfgfjaaGreat
open Go Go.Abs
theorem uHR {α : Type} {l : List Tk} {f : PS→α × PS} (hf : Fwd l f) : ∀ (n : Nat) (p : PS) (out : List α),(uBL l f n p out).1.length + p.at'≤out.length + (uBL l f n p out).2.at'
 | 0,p,out=>by simp [uBL]
 | n + 1,p,out=>by
  rw [uBL]
  split
  ·have h1:=(hf p.go).1
   have h2:=uHR hf n (f p.go).2 (out++[(f p.go).1])
   have hg : p.go.at'=p.at' + 1:=rfl
   rw [List.length_append,List.length_singleton] at h2
   omega
  ·simp
theorem uEC {α : Type} {l : List Tk} {f : PS→α × PS} (hf : Fwd l f) (p : PS) : (uA6 l f p).1.length + p.at'≤1 + (uA6 l f p).2.at':=by
 have h1:=(hf p).1
 have h2:=uHR hf (l.length + 1) (f p).2 [(f p).1]
 unfold uA6
 rw [List.length_singleton] at h2
 omega
theorem uGN (l : List Tk) (role : List UInt8) : ∀ (n : Nat) (p : PS) (out : List Fs),(uB1 l role n p out).1.length + p.at'≤out.length + 1 + (uB1 l role n p out).2.at'
 | 0,p,out=>by simp [uB1]
 | n + 1,p,out=>by
  have h1:=(uA5 l [] p).1
  have h2:=(uA5 l sortW (uAw l [] p).2).1
  rw [uB1]
  split
  ·dsimp only; omega
  split
  ·have hg : (uAw l sortW (uAw l [] p).2).2.go.at'=(uAw l sortW (uAw l [] p).2).2.at' + 1:=rfl
   have h4:=uGN l role n (uAw l sortW (uAw l [] p).2).2.go (out++[⟨role,(uAw l [] p).1,2 + uBn sortW (uAw l sortW (uAw l [] p).2).1⟩])
   rw [List.length_append,List.length_singleton] at h4
   omega
  ·simp only [List.length_append,List.length_singleton]; omega
theorem uKd (l : List Tk) (p : PS) (out : List Fs) : (uDV l p out).1.length + p.at'≤out.length + 1 + (uDV l p out).2.at':=by
 have h1:=(uA5 l [] p).1
 have h2:=(uBs l [58] (uAw l [] p).2).1
 have h3:=uGN l (uAw l [] p).1 (l.length + 1) (uAP l [58] (uAw l [] p).2) out
 unfold uDV
 omega
structure Nar.Le (n : Nar) (k : Nat) : Prop where
 roles : n.roles.length≤k
 fresh : n.fresh.length≤k
 tags : n.tags.length≤k
 steps : n.steps.length≤k
 goals : n.goals.length≤k
theorem Nar.Le.mono {n : Nar} {k j : Nat} (h : n.Le k) (hj : k≤j) : n.Le j:=⟨Nat.le_trans h.roles hj,Nat.le_trans h.fresh hj,Nat.le_trans h.tags hj,Nat.le_trans h.steps hj,Nat.le_trans h.goals hj⟩
theorem uMd {l : List Tk} {ws : List (List UInt8)} {p : PS} (h : (uAw l ws p).1≠[]) : (uAw l ws p).2.at'=p.at' + 1:=by
 cases hq : namQ l p ws with
 | true=>rw [uAw,if_pos hq]; rfl
 | false=>rw [uAw,hq] at h; exact absurd rfl h
theorem uMK {l : List Tk} {n : Nar} {line : Int} {w : List UInt8} {q : PS} {k : Nat} (h : n.Le k) (hk : w≠[]→k + 1≤q.at') (hq : k≤q.at') : (uC6 l n line w q).1.Le (uC6 l n line w q).2.at':=by
 have hz:=uGE l n line w q
 unfold uC6 at hz ⊢
 split
 ·rename_i hw
  rw [if_pos hw] at hz
  have h1 : (uBt l q).1.length + q.at'≤1 + (uBt l q).2.at':=uEC (uA5 l []) q
  have h2:=hk (by rw [hw]; decide)
  have h3:=hz.1
  have := h.mono (j := (uBt l q).2.at') (by dsimp only at h3; omega)
  have h4:=h.roles
  exact ⟨by dsimp only; rw [List.length_append]; omega,this.fresh,this.tags,this.steps,this.goals⟩
 rename_i hw1
 rw [if_neg hw1] at hz
 split
 ·rename_i hw
  rw [if_pos hw] at hz
  have h1:=uKd l q n.fresh
  have h2:=hk (by rw [hw]; decide)
  have h3:=hz.1
  have := h.mono (j := (uDV l q n.fresh).2.at') (by dsimp only at h3; omega)
  have h4:=h.fresh
  exact ⟨this.roles,by dsimp only; omega,this.tags,this.steps,this.goals⟩
 rename_i hw2
 rw [if_neg hw2] at hz
 split
 ·rename_i hw
  rw [if_pos hw] at hz
  have h1 : (uBt l q).1.length + q.at'≤1 + (uBt l q).2.at':=uEC (uA5 l []) q
  have h2:=hk (by rw [hw]; decide)
  have h3:=hz.1
  have := h.mono (j := (uBt l q).2.at') (by dsimp only at h3; omega)
  have h4:=h.tags
  exact ⟨this.roles,this.fresh,by dsimp only; rw [List.length_append]; omega,this.steps,this.goals⟩
 rename_i hw3
 rw [if_neg hw3] at hz
 split
 ·rename_i hw
  rw [if_pos hw] at hz
  have h2:=hk (by rw [hw]; decide)
  have h3:=hz.1
  have := h.mono (j := (uGU l line q).2.at') (by dsimp only at h3; omega)
  have h4:=h.steps
  exact ⟨this.roles,this.fresh,this.tags,by dsimp only at h3 ⊢; rw [List.length_append,List.length_singleton]; omega,this.goals⟩
 rename_i hw4
 rw [if_neg hw4] at hz
 split
 ·rename_i hw
  rw [if_pos hw] at hz
  have h2:=hk (by rw [hw]; decide)
  have h3:=hz.1
  have := h.mono (j := (uF3 l line q).2.at') (by dsimp only at h3; omega)
  have h4:=h.goals
  exact ⟨this.roles,this.fresh,this.tags,this.steps,by dsimp only at h3 ⊢; rw [List.length_append,List.length_singleton]; omega⟩
 exact h.mono hq
theorem uMP {l : List Tk} {n : Nar} {p : PS} (h : n.Le p.at') : (uDL l n p).1.Le (uDL l n p).2.at':=by
 have h1:=(uA5 l uBy p).1
 have h2:=uMK (l:=l) (line:=uCk l p) (w:=(uAw l uBy p).1) (q:=(uAw l uBy p).2) h (fun hw=>by rw [uMd hw]; exact Nat.le_refl _) h1
 exact h2.mono (uBs l [59] _).1
theorem uHc (t : T) : ∀ l : List T,T.sizes (l++[t])=T.sizes l + t.size
 | []=>by simp [T.sizes]
 | x :: l=>by rw [List.cons_append,T.sizes,T.sizes,uHc t l]; omega
theorem uHT : ∀ l : List T,l≠[]→(tupT l).size + 1=T.sizes l + l.length
 | [],h=>absurd rfl h
 | [t],_=>by simp [tupT,T.sizes]
 | t :: u :: l,_=>by
  have ih:=uHT (u :: l) (by simp)
  have e : (uOd t (tupT (u :: l))).size=1 + (t.size + (tupT (u :: l)).size):=by rw [T.size_eq]; show 1 + T.sizes [t,tupT (u :: l)]=_; simp [T.sizes]
  rw [tupT,e,T.sizes,List.length_cons (a:=t)]
  omega
def Szd (f : PS→T × PS) : Prop:=∀ p : PS,(f p).1.size + 2 * p.at'≤2 * (f p).2.at' + 1
theorem uGR {l : List Tk} {f : PS→T × PS} (hs : Szd f) : ∀ (n : Nat) (p : PS) (out : List T),T.sizes (uBL l f n p out).1 + (uBL l f n p out).1.length + 2 * p.at'≤T.sizes out + out.length + 2 * (uBL l f n p out).2.at'
 | 0,p,out=>by simp [uBL]
 | n + 1,p,out=>by
  rw [uBL]
  split
  ·have h1:=hs p.go
   have h2:=uGR (l:=l) hs n (f p.go).2 (out++[(f p.go).1])
   have hg : p.go.at'=p.at' + 1:=rfl
   rw [List.length_append,List.length_singleton,uHc] at h2
   omega
  ·simp
theorem uET {l : List Tk} {f : PS→T × PS} (hs : Szd f) (p : PS) : T.sizes (uA6 l f p).1 + (uA6 l f p).1.length + 2 * p.at'≤2 + 2 * (uA6 l f p).2.at':=by
 have h1:=hs p
 have h2:=uGR (l:=l) hs (l.length + 1) (f p).2 [(f p).1]
 unfold uA6
 rw [List.length_singleton,T.sizes,T.sizes] at h2
 omega
theorem uLe {α : Type} {l : List Tk} {f : PS→α × PS} : ∀ (n : Nat) (p : PS) (out : List α),out≠[]→(uBL l f n p out).1≠[]
 | 0,p,out,h=>h
 | n + 1,p,out,h=>by
  rw [uBL]
  split
  ·exact uLe n _ _ (by simp)
  ·exact h
theorem uEV (l : List Tk) : ∀ n : Nat,Szd (uBp l n)
 | 0,p=>by
  have : (default : T).size=1:=by rw [T.size_eq]; rfl
  show (default : T).size + _≤_
  rw [this]; show 1 + 2 * p.at'≤2 * p.at' + 1; omega
 | n + 1,p=>by
  have ih:=uEV l n
  have hf:=uEf l n
  rw [uBp]
  split
  ·have hg : p.go.at'=p.at' + 1:=rfl
   have h1:=ih p.go
   have h2:=(uBs l [44] (uBp l n p.go).2).1
   have h3:=uET (l:=l) ih (uAP l [44] (uBp l n p.go).2)
   have h4:=(uBs l [62] (uA6 l (uBp l n) (uAP l [44] (uBp l n p.go).2)).2).1
   have h5:=uHT ((uBp l n p.go).1 :: (uA6 l (uBp l n) (uAP l [44] (uBp l n p.go).2)).1) (by simp)
   rw [T.sizes,List.length_cons] at h5
   dsimp only
   omega
  ·have h1:=(uA5 l [] p).1
   split
   ·have hg : (uAw l [] p).2.go.at'=(uAw l [] p).2.at' + 1:=rfl
    split
    ·have hg2 : (uAw l [] p).2.go.go.at'=(uAw l [] p).2.at' + 2:=rfl
     have : (⟨3,(uAw l [] p).1,0,[]⟩ : T).size=1:=by rw [T.size_eq]; rfl
     dsimp only; omega
    ·have h3:=uET (l:=l) ih (uAw l [] p).2.go
     have h4:=(uBs l [41] (uA6 l (uBp l n) (uAw l [] p).2.go).2).1
     have h5 : (uA6 l (uBp l n) (uAw l [] p).2.go).1≠[]:=uLe _ _ _ (by simp)
     have h6:=List.length_pos_iff.2 h5
     have : (⟨3,(uAw l [] p).1,0,(uA6 l (uBp l n) (uAw l [] p).2.go).1⟩ : T).size=1 + T.sizes (uA6 l (uBp l n) (uAw l [] p).2.go).1:=by rw [T.size_eq]; rfl
     dsimp only; omega
   ·have : (⟨2,(uAw l [] p).1,0,[]⟩ : T).size=1:=by rw [T.size_eq]; rfl
    dsimp only; omega
structure Nar.Sm (n : Nar) (M : Nat) : Prop where
 steps : ∀ s ∈ n.steps,s.msg.size≤M
 goals : ∀ g ∈ n.goals,T.sizes g.data≤M
theorem uKy {l : List Tk} (line : Int) {p : PS} (hp : p.at'≤l.length) : (uGU l line p).1.msg.size≤2 * l.length + 2:=by
 have h:=(uGL l line p).2 hp
 have := uEV l (l.length + 1) (uAP l [58] (uAw l [] (uAP l [62] (uAP l [45] (uAw l [] p).2))).2)
 have h2 : (uBp l (l.length + 1) (uAP l [58] (uAw l [] (uAP l [62] (uAP l [45] (uAw l [] p).2))).2)).2.at'≤l.length:=h
 show (uBp l (l.length + 1) (uAP l [58] (uAw l [] (uAP l [62] (uAP l [45] (uAw l [] p).2))).2)).1.size≤_
 omega
theorem uKt {l : List Tk} (line : Int) {p : PS} (hp : p.at'≤l.length) : T.sizes (uF3 l line p).1.data≤2 * l.length + 2:=by
 have h:=(uGu l line p).2 hp
 have := uET (l := l) (uEV l (l.length + 1)) (uAP l [58] (if uBm (1 + uBn kindW (uAw l kindW p).1)=true then uAw l [] (uAw l [] (uAw l kindW p).2).2 else ([],(uAw l [] (uAw l kindW p).2).2)).2)
 have h2 : (uA6 l (uBp l (l.length + 1)) (uAP l [58] (if uBm (1 + uBn kindW (uAw l kindW p).1)=true then uAw l [] (uAw l [] (uAw l kindW p).2).2 else ([],(uAw l [] (uAw l kindW p).2).2)).2)).2.at'≤l.length:=h
 show T.sizes (uA6 l (uBp l (l.length + 1)) (uAP l [58] (if uBm (1 + uBn kindW (uAw l kindW p).1)=true then uAw l [] (uAw l [] (uAw l kindW p).2).2 else ([],(uAw l [] (uAw l kindW p).2).2)).2)).1≤_
 omega
theorem uNo {l : List Tk} {n : Nar} {p : PS} (h : n.Sm (2 * l.length + 2)) (hp : p.at'≤l.length) : (uDL l n p).1.Sm (2 * l.length + 2):=by
 have hq:=(uA5 l uBy p).2 hp
 show (uC6 l n (uCk l p) (uAw l uBy p).1 (uAw l uBy p).2).1.Sm _
 unfold uC6
 repeat' split
 ·exact ⟨h.steps,h.goals⟩
 ·exact ⟨h.steps,h.goals⟩
 ·exact ⟨h.steps,h.goals⟩
 ·refine ⟨fun s hs=>?_,h.goals⟩
  rcases List.mem_append.1 hs with q | q
  ·exact h.steps s q
  ·simp at q; subst q; exact uKy _ hq
 ·refine ⟨h.steps,fun g hg=>?_⟩
  rcases List.mem_append.1 hg with q | q
  ·exact h.goals g q
  ·simp at q; subst q; exact uKt _ hq
 ·exact h
end Go.Proofs.YteidahabkfgfjaaGreat
namespace Go.Proofs.YteidahabkfgfjaaGreat
open Go Go.Proofs Go.RowKit Go.Shelf
attribute [local go_sem] Oper.semAt_some
def KeepB (n₀ Bo : Nat) (W W' : World) : Prop:=∀ b,b < n₀→b≠Bo→W'.heap[b]? = W.heap[b]?
theorem KeepB.refl (n₀ Bo : Nat) (W : World) : KeepB n₀ Bo W W:=fun _ _ _=>rfl
theorem KeepB.trans {n₀ Bo : Nat} {A B C : World} (h : KeepB n₀ Bo A B) (k : KeepB n₀ Bo B C) : KeepB n₀ Bo A C:=fun b h1 h2=>(k b h1 h2).trans (h b h1 h2)
theorem KeepB.cell {n₀ Bo : Nat} {A B : World} (h : KeepB n₀ Bo A B) {b : Nat} (o : Nat) (h1 : b < n₀) (h2 : b≠Bo) : B.cell? ⟨b,o,none⟩=A.cell? ⟨b,o,none⟩:=by
 unfold World.cell?; dsimp only; rw [h b h1 h2]
theorem KeepB.alloc {n₀ Bo : Nat} (W : World) (ob : Obj) (h : n₀≤W.heap.size) : KeepB n₀ Bo W (W.alloc ob):=fun b h1 _=>Below.heap_alloc W ob b (by omega)
abbrev tStr (l : List UInt8) : Value:=.string ⟨l.toArray⟩
end Go.Proofs.YteidahabkfgfjaaGreat
namespace Go.Proofs.YteidahabkfgfjaaGreat
open Go Go.Abs
end Go.Proofs.YteidahabkfgfjaaGreat
namespace Go.Proofs.YteidahabkfgfjaaGreat
open Go Go.Abs
end Go.Proofs.YteidahabkfgfjaaGreat
namespace Go.Proofs.YteidahabkfgfjaaGreat
open Go Go.Abs
end Go.Proofs.YteidahabkfgfjaaGreat
namespace Go.Proofs.YteidahabkfgfjaaGreat
open Go Go.Abs
theorem map_take {α β : Type} (f : α→β) {l : List α} {d : α} {k : Nat} (h : k < l.length) : (l.take (k + 1)).map f=(l.take k).map f++[f (l.getD k d)]:=by rw [uBx (d:=d) h,List.map_append]; rfl
end Go.Proofs.YteidahabkfgfjaaGreat
namespace Go.Proofs.YteidahabkfgfjaaGreat
open Go Go.Abs
def Nar.lk (n : Nar) (k : Nat) : List (List UInt8):=[uIM n,(Itm.roles n.roles).text]++(frI n.fresh k).map Itm.text
def Nar.rest (n : Nar) (j k : Nat) : List (List UInt8):=n.lk n.fresh.length++((if n.tags=[] then [] else [(Itm.tags n.tags).text])++((n.steps.take j).map (fun s=>(Itm.step s).text)++(n.goals.take k).map fun g=>(Itm.goal g).text))
end Go.Proofs.YteidahabkfgfjaaGreat
namespace Go.Proofs.YteidahabkfgfjaaGreat
open Go Go.Abs
theorem uIK (t : T) (s : List UInt8) : Ctr sys 163 [xm t,xs s] [] (xb (decide (t.kind=3) && decide (t.name=s))) none []:=by
 refine uAA Tryz.func163 rfl rfl rfl rfl rfl rfl ?_;refine uAd (uAb ?_);refine uAt rfl (uAI rfl rfl rfl rfl) ?_;refine uAa rfl rfl rfl (uAe rfl gU) ?_;refine uAf ?_;refine uAd (uAb ?_);refine uAa rfl rfl rfl (uAg rfl gU rfl rfl) ?_;refine uAa rfl rfl rfl (uAi rfl gU rfl rfl rfl rfl) ?_;refine uAa rfl rfl rfl (uAk rfl rfl gU gU rfl) ?_;refine uAa rfl rfl rfl (uAc rfl gU) ?_;refine uAa rfl rfl rfl (uAg rfl gU rfl rfl) ?_;refine uAa rfl rfl rfl (uAi rfl (fun hh=>hh) rfl rfl rfl rfl) ?_;refine uAa rfl rfl rfl (uAc rfl gU) ?_;refine uAa rfl rfl rfl (uA2 rfl rfl (fun hh=>hh) (fun hh=>hh) rfl) ?_;refine uAa rfl rfl rfl (uAH rfl rfl gU (fun _ hi=>gP rfl hi)) ?_;refine uAa rfl rfl rfl (uAe rfl gU) ?_;refine uAf ?_;refine uAo ?_
 repeat (first | refine tR ?_ | refine bR ?_)
 refine uAs rfl ?_ trivial;refine uBV ?_
 rw [Bool.eq_iff_iff]; simp
theorem uJY : Ctr sys 154 [] [] (xss uBA) none []:=by
 refine uAA Tryz.func154 rfl rfl rfl rfl rfl rfl ?_;refine uAd (uAb ?_);refine uAa rfl rfl rfl (uAe rfl gU) ?_;refine uAf ?_;refine uAd (uAb ?_);refine uAU (xs:=[_,_,_,_,_,_]) rfl rfl rfl rfl rfl rfl rfl rfl rfl gU rfl ?_;refine uAa rfl rfl rfl (uAe rfl gU) ?_;refine uAf ?_;refine uAo ?_
 repeat (first | refine tR ?_ | refine bR ?_)
 refine uAs rfl ?_ trivial
 rfl
theorem uF2 : Ctr sys 152 [] [] (xss uBo) none []:=by
 refine uAA Tryz.func152 rfl rfl rfl rfl rfl rfl ?_;refine uAd (uAb ?_);refine uAa rfl rfl rfl (uAe rfl gU) ?_;refine uAf ?_;refine uAd (uAb ?_);refine uAU (xs:=[_,_,_,_,_]) rfl rfl rfl rfl rfl rfl rfl rfl rfl gU rfl ?_;refine uAa rfl rfl rfl (uAe rfl gU) ?_;refine uAf ?_;refine uAo ?_
 repeat (first | refine tR ?_ | refine bR ?_)
 refine uAs rfl ?_ trivial
 rfl
end Go.Proofs.YteidahabkfgfjaaGreat
namespace Go.Proofs.YteidahabkfgfjaaGreat
open Go Go.Abs
end Go.Proofs.YteidahabkfgfjaaGreat
