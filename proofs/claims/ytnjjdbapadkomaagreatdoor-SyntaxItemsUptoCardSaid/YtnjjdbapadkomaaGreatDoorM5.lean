/- Our abstract program logic and contracts of this seat's functions, part 5: no statement of its own (long names of ours are shortened by a program). -/
import Derived.Test.YtnjjdbapadkomaaGreatDoorM4
import Derived.RangeFuncNested
import Derived.RangeFuncLeaves
import Derived.Shelf.Abstract
import Derived.WalkKit
import Derived.OwnWalkIn
import Derived.TacticsInMore
import Derived.LoopNIn
import Derived.LoopIn
import Derived.KernelRfl
set_option linter.unusedVariables false
set_option linter.unusedSimpArgs false
namespace Go.Proofs.YtnjjdbapadkomaaGreatDoor
open Go Go.Abs
theorem uGu : ∀ (l : List UInt8),Op.bytesLess l l=false
 | []=>rfl
 | x :: xs=>by
  have := uGu xs
  simp [Op.bytesLess,this]
theorem uKW (a : Int) : uBT a a=0:=by simp [uBT]
mutual
theorem T.cmp_self : ∀ a : T,a.cmp a=0
 | .mk k n s ks=>by
  have h0 : T.cmp0 (.mk k n s ks) (.mk k n s ks)=0:=by simp [T.cmp0,uKW,uGu]
  rw [T.cmp,if_neg (by simp [h0])]
  exact T.cmps_self ks
theorem T.cmps_self : ∀ l : List T,T.cmps l l=0
 | []=>rfl
 | x :: xs=>by
  rw [T.cmps,if_neg (by simp [T.cmp_self x])]
  exact T.cmps_self xs
end
theorem uLS {α : Type} {f : α→α} {d : α} {a b : List α} (h : a.map f=b.map f) {k : Nat} (hk : k < a.length) : f (a.getD k d)=f (b.getD k d):=by
 have hl : a.length=b.length:=by simpa using congrArg List.length h
 have := congrArg (fun l=>l[k]?) h
 rw [List.getElem?_map,List.getElem?_map,List.getElem?_eq_getElem hk,List.getElem?_eq_getElem (hl ▸ hk)] at this
 rw [List.getD_eq_getElem?_getD,List.getD_eq_getElem?_getD,List.getElem?_eq_getElem hk,List.getElem?_eq_getElem (hl ▸ hk)]
 simpa using this
theorem uLP (a : List T) : uF9 a a=true:=by simp [uF9,T.cmps_self]
theorem uOm {l : List Gl} (h : ∀ g ∈ l,T.sizes g.data≤900000) {k : Nat} (hk : k < l.length) : T.sizes (l.getD k default).data≤900000:=by
 apply h
 rw [List.getD_eq_getElem?_getD,List.getElem?_eq_getElem hk]; exact List.getElem_mem _
theorem uNJ {l : List Sp} (h : ∀ s ∈ l,s.msg.size≤900000) {k : Nat} (hk : k < l.length) : (l.getD k default).msg.size≤900000:=by
 apply h
 rw [List.getD_eq_getElem?_getD,List.getElem?_eq_getElem hk]; exact List.getElem_mem _
theorem uHO (a b : List Gl) (h : a.map Gl.el=b.map Gl.el) (ha : ∀ g ∈ a,T.sizes g.data≤900000) : Ctr sys 65 [.v (.c (.sl 5 (Gl.rows a))), .v (.c (.sl 5 (Gl.rows b)))] [] (xb true) none []:=by
 have la:=Gl.rows_len a
 have lb:=Gl.rows_len b
 have hl : a.length=b.length:=by simpa using congrArg List.length h
 refine uAy Tryz.func65 rfl rfl rfl rfl rfl rfl ?_;refine uAe (uAb ?_);refine uAa rfl rfl rfl (uAd rfl gU) ?_;refine uAf ?_;refine uAe ?_;refine uAe (uAb ?_);refine uAa rfl rfl rfl (uAc rfl gU) ?_;refine uAL rfl rfl rfl rfl rfl gU rfl rfl ?_ (fun hh=>by simp at hh); intro hlen;refine uAa rfl rfl rfl (uAc rfl gU) ?_;refine uAL rfl rfl rfl rfl rfl gU rfl rfl ?_ (fun hh=>by simp at hh); intro hlen;refine uAa rfl rfl rfl (uAk rfl rfl gU gU rfl) ?_;refine uAf ?_;refine uAn (s:=⟨[(0,_,_),(1,_,_),(10,_,_)],[],[],[]⟩) (uAj (⟨sx rfl,sx rfl,sx rfl,trivial⟩) trivial trivial) ?_;refine uAm rfl (fun hc=>?_) (fun hc=>?_)
 ·try simp only [nn,uAi,T.rows_len,Gl.rows_len,Fs.rows_len,Sp.rows_len] at hc
  exact absurd (by omega) hc
 ·try simp only [nn,uAi,T.rows_len,Gl.rows_len,Fs.rows_len,Sp.rows_len] at hc
  refine uAo ?_;refine uAe ?_;refine uAe (uAb ?_);refine uAa rfl rfl rfl (uAd rfl gU) ?_;refine uAf ?_;refine uAt ?_;refine uAW (ι:=Nat) { t:=[(0,_,_),(1,_,_)],bx:=[],ow:=[] } (fun k=>[(5,true,xi (k : Int))]) (fun k=>[]) (fun k=>k≤a.length) (fun k=>a.length - k) (0) (by simp) (uAj (⟨sx rfl,sx rfl,sx rfl,trivial⟩) trivial trivial) ?_
  intro k hok
  dsimp only [List.cons_append,List.nil_append]
  refine uAe ?_;refine uAe (uAb ?_);refine uAa rfl rfl rfl (uAc rfl gU) ?_;refine uAa rfl rfl rfl (uAc rfl gU) ?_;refine uAL rfl rfl rfl rfl rfl gU rfl rfl ?_ (fun hh=>by simp at hh); intro hlen;refine uAa rfl rfl rfl (uAk rfl rfl gU gU rfl) ?_;refine uAf ?_;refine uAm rfl (fun hc2=>?_) (fun hc2=>?_)
  ·try simp only [nn,uAi,T.rows_len,Gl.rows_len,Fs.rows_len,Sp.rows_len] at hc2
   have hlt : k < a.length:=by omega
   have e:=uLS (d:=default) h hlt
   have e1 : (a.getD k default).kind=(b.getD k default).kind:=(by have q:=congrArg Gl.kind e; exact q)
   have e2 : (a.getD k default).role=(b.getD k default).role:=(by have q:=congrArg Gl.role e; exact q)
   have e3 : (a.getD k default).wth=(b.getD k default).wth:=(by have q:=congrArg Gl.wth e; exact q)
   have e4 : (a.getD k default).data=(b.getD k default).data:=(by have q:=congrArg Gl.data e; exact q)
   have z1:=uOm ha hlt
   have z2 : T.sizes (b.getD k default).data≤900000:=by rw [← e4]; exact z1
   refine uAo ?_;refine uAe ?_;refine uAt ?_;refine uAe ?_;refine awp_drawn' (by kernel_rfl) ?_;refine uAh rfl rfl rfl rfl (uAc rfl gU) ?_;refine uAh rfl rfl rfl rfl (uAc rfl gU) ?_;refine uAh rfl rfl rfl rfl (uAq rfl rfl gU gU rfl rfl rfl (fun hh=>Gl.rows_at (by first | omega | (simp at hh ⊢; omega)))) ?_;refine uAh rfl rfl rfl rfl (uAP rfl gU rfl rfl) ?_;refine uAh rfl rfl rfl rfl (uAI rfl gU rfl rfl rfl) ?_;refine uAh rfl rfl rfl rfl (uAc rfl gU) ?_;refine uAh rfl rfl rfl rfl (uAc rfl gU) ?_;refine uAh rfl rfl rfl rfl (uAq rfl rfl gU gU rfl rfl rfl (fun hh=>Gl.rows_at (by first | omega | (simp at hh ⊢; omega)))) ?_;refine uAh rfl rfl rfl rfl (uAP rfl gU rfl rfl) ?_;refine uAh rfl rfl rfl rfl (uAI rfl gU rfl rfl rfl) ?_;refine uAh rfl rfl rfl rfl (uAk rfl rfl gU gU rfl) ?_;refine uAh rfl rfl rfl rfl (uAc rfl gU) ?_;refine uAh rfl rfl rfl rfl (uAc rfl gU) ?_;refine uAh rfl rfl rfl rfl (uAc rfl gU) ?_;refine uAh rfl rfl rfl rfl (uAq rfl rfl (fun hh=>hh) (fun hh=>hh) rfl rfl rfl (fun hh=>Gl.rows_at (by first | omega | (simp at hh ⊢; omega)))) ?_;refine uAh rfl rfl rfl rfl (uAP rfl (fun hh=>hh) rfl rfl) ?_;refine uAh rfl rfl rfl rfl (uAI rfl (fun hh=>hh) rfl rfl rfl) ?_;refine uAh rfl rfl rfl rfl (uAc rfl gU) ?_;refine uAh rfl rfl rfl rfl (uAc rfl gU) ?_
   refine uAh rfl rfl rfl rfl (uAq rfl rfl (fun hh=>hh) (fun hh=>hh) rfl rfl rfl (fun hh=>Gl.rows_at (by first | omega | (simp at hh ⊢; omega)))) ?_;refine uAh rfl rfl rfl rfl (uAP rfl (fun hh=>hh) rfl rfl) ?_;refine uAh rfl rfl rfl rfl (uAI rfl (fun hh=>hh) rfl rfl rfl) ?_;refine uAh rfl rfl rfl rfl (uAZ rfl rfl (fun hh=>hh) (fun hh=>hh) rfl) ?_;refine uAh rfl rfl rfl rfl (uAK rfl rfl gU (fun _ hi=>gP rfl hi)) ?_;refine uAh rfl rfl rfl rfl (uAc rfl gU) ?_;refine uAh rfl rfl rfl rfl (uAc rfl gU) ?_;refine uAh rfl rfl rfl rfl (uAc rfl gU) ?_;refine uAh rfl rfl rfl rfl (uAq rfl rfl (fun hh=>hh) (fun hh=>hh) rfl rfl rfl (fun hh=>Gl.rows_at (by first | omega | (simp at hh ⊢; omega)))) ?_;refine uAh rfl rfl rfl rfl (uAP rfl (fun hh=>hh) rfl rfl) ?_;refine uAh rfl rfl rfl rfl (uAI rfl (fun hh=>hh) rfl rfl rfl) ?_;refine uAh rfl rfl rfl rfl (uAc rfl gU) ?_;refine uAh rfl rfl rfl rfl (uAc rfl gU) ?_;refine uAh rfl rfl rfl rfl (uAq rfl rfl (fun hh=>hh) (fun hh=>hh) rfl rfl rfl (fun hh=>Gl.rows_at (by first | omega | (simp at hh ⊢; omega)))) ?_;refine uAh rfl rfl rfl rfl (uAP rfl (fun hh=>hh) rfl rfl) ?_;refine uAh rfl rfl rfl rfl (uAI rfl (fun hh=>hh) rfl rfl rfl) ?_;refine uAh rfl rfl rfl rfl (uAZ rfl rfl (fun hh=>hh) (fun hh=>hh) rfl) ?_;refine uAh rfl rfl rfl rfl (uAK rfl rfl gU (fun _ hi=>gP rfl hi)) ?_
   refine uAh rfl rfl rfl rfl (uAc rfl gU) ?_;refine uAh rfl rfl rfl rfl (uAc rfl gU) ?_;refine uAh rfl rfl rfl rfl (uAc rfl gU) ?_;refine uAh rfl rfl rfl rfl (uAq rfl rfl (fun hh=>hh) (fun hh=>hh) rfl rfl rfl (fun hh=>Gl.rows_at (by first | omega | (simp at hh ⊢; omega)))) ?_;refine uAh rfl rfl rfl rfl (uAP rfl (fun hh=>hh) rfl rfl) ?_;refine uAh rfl rfl rfl rfl (uAI rfl (fun hh=>hh) rfl rfl rfl) ?_;refine uAh rfl rfl rfl rfl (uAc rfl gU) ?_;refine uAh rfl rfl rfl rfl (uAc rfl gU) ?_;refine uAh rfl rfl rfl rfl (uAq rfl rfl (fun hh=>hh) (fun hh=>hh) rfl rfl rfl (fun hh=>Gl.rows_at (by first | omega | (simp at hh ⊢; omega)))) ?_;refine uAh rfl rfl rfl rfl (uAP rfl (fun hh=>hh) rfl rfl) ?_;refine uAh rfl rfl rfl rfl (uAI rfl (fun hh=>hh) rfl rfl rfl) ?_;refine uA4 rfl rfl rfl rfl rfl rfl rfl gU (fun hh=>gA ((fun hh=>hh) hh) (gA ((fun hh=>hh) hh) (rfl))) (uLo _ _ (by omega) (by omega)) rfl ?_;refine uAh rfl rfl rfl rfl (uAV rfl (fun hh=>hh)) ?_;refine uAh rfl rfl rfl rfl (uAK rfl rfl gU (fun _ hi=>gP rfl hi)) ?_;refine uA8 (by kernel_rfl) ?_;refine uAn (s:=⟨[(0,_,_),(1,_,_),(5,_,_),(67,_,_)],[],[],[]⟩) (uAj (⟨sx rfl,sx rfl,sx rfl,sx rfl,trivial⟩) trivial trivial) ?_;refine uAm rfl (fun hc3=>?_) (fun hc3=>?_)
   ·exfalso
    simp only [List.getD_eq_getElem?_getD] at e1 e2 e3 e4
    simp [Gl.cells,e1,e2,e3,e4,uLP] at hc3
   ·refine uAo ?_
    refine uAb ?_;refine uAa rfl rfl rfl (uAc rfl gU) ?_;refine uAa rfl rfl rfl (uAr rfl rfl gU gU rfl (IntWalk.i64_in _ (by omega))) ?_;refine uAa rfl rfl rfl (uAd rfl gU) ?_;refine uAf ?_;refine ⟨k + 1,?_,?_,uAj (⟨⟨_,rfl,?_⟩,⟨sx rfl,sx rfl,trivial⟩⟩) trivial trivial⟩
    all_goals (first | rfl | omega)
  ·try simp only [nn,uAi,T.rows_len,Gl.rows_len,Fs.rows_len,Sp.rows_len] at hc2
   refine uAM ?_
   repeat (first | refine uAD ?_ | refine uAE ?_ | refine uAC rfl ?_)
   refine uAe (uAb ?_);refine uAa rfl rfl rfl (uAd rfl gU) ?_;refine uAf ?_;refine uAp ?_
   repeat (first | refine tR ?_ | refine bR ?_)
   refine uAs rfl ?_ trivial
   rfl
set_option maxHeartbeats 4000000 in
theorem uJ5 (n m : Nar) (h : n.el=m.el) (hs : ∀ s ∈ n.steps,s.msg.size≤900000) (hg : ∀ g ∈ n.goals,T.sizes g.data≤900000) : Ctr sys 17 [xn n,xn m] [] (xb true) none []:=by
 obtain ⟨e1,e2,e3,e4,e5,e6⟩:=el_inj.1 h
 have l1:=uAi n.roles
 have l2:=uAi m.roles
 have l3:=Fs.rows_len n.fresh
 have l4:=Fs.rows_len m.fresh
 have l5:=Sp.rows_len n.steps
 have l6:=Sp.rows_len m.steps
 have h5 : n.steps.length=m.steps.length:=by simpa using congrArg List.length e5
 have h3 : n.fresh.length=m.fresh.length:=by rw [e3]
 refine uAy Tryz.func17 rfl rfl rfl rfl rfl rfl ?_;refine uAe (uAb ?_);refine uAw rfl (uAX rfl rfl rfl rfl) ?_;refine uAw rfl (uAX rfl rfl rfl rfl) ?_;refine uAa rfl rfl rfl (uAd rfl gU) ?_;refine uAf ?_;refine uAe ?_;refine uAe (uAb ?_);refine uAa rfl rfl rfl (uAg rfl gU rfl rfl) ?_;refine uAa rfl rfl rfl (uAl rfl gU rfl rfl rfl rfl) ?_;refine uAa rfl rfl rfl (uAg rfl gU rfl rfl) ?_;refine uAa rfl rfl rfl (uAl rfl gU rfl rfl rfl rfl) ?_;refine uAa rfl rfl rfl (uAZ rfl rfl gU gU rfl) ?_;refine uAa rfl rfl rfl (uAc rfl gU) ?_;refine uAa rfl rfl rfl (uAg rfl gU rfl rfl) ?_;refine uAa rfl rfl rfl (uAl rfl (fun hh=>hh) rfl rfl rfl rfl) ?_;refine uAa rfl rfl rfl (uAg rfl gU rfl rfl) ?_;refine uBk (s:=⟨[(2,_,_),(3,_,_),(12,_,_),(14,_,_),(15,_,_)],[(.l 2,_),(.l 3,_)],[],[]⟩) (uAj (⟨sx rfl,sx rfl,sx rfl,sx rfl,sx rfl,trivial⟩) (⟨sx rfl,sx rfl,trivial⟩) trivial) ?_;refine uAa rfl rfl rfl (uAl rfl (fun hh=>hh) rfl rfl rfl rfl) ?_;refine uAx rfl rfl rfl rfl rfl rfl gU (fun hh=>gA ((fun hh=>hh) hh) (gA ((fun hh=>hh) hh) (rfl))) (uFb _ _) rfl ?_;refine uAa rfl rfl rfl (uAV rfl (fun hh=>hh)) ?_;refine uAa rfl rfl rfl (uAK rfl rfl gU (fun _ hi=>gP rfl hi)) ?_;refine uAa rfl rfl rfl (uAc rfl gU) ?_
 refine uAa rfl rfl rfl (uAg rfl gU rfl rfl) ?_;refine uAa rfl rfl rfl (uAl rfl (fun hh=>hh) rfl rfl rfl rfl) ?_;refine uAa rfl rfl rfl (uAg rfl gU rfl rfl) ?_;refine uAa rfl rfl rfl (uAl rfl (fun hh=>hh) rfl rfl rfl rfl) ?_;refine uAx rfl rfl rfl rfl rfl rfl gU (fun hh=>gA ((fun hh=>hh) hh) (gA ((fun hh=>hh) hh) (rfl))) (uFb _ _) rfl ?_;refine uAa rfl rfl rfl (uAV rfl (fun hh=>hh)) ?_;refine uAa rfl rfl rfl (uAK rfl rfl gU (fun _ hi=>gP rfl hi)) ?_;refine uBk (s:=⟨[(2,_,_),(3,_,_),(27,_,_)],[(.l 2,_),(.l 3,_)],[],[]⟩) (uAj (⟨sx rfl,sx rfl,sx rfl,trivial⟩) (⟨sx rfl,sx rfl,trivial⟩) trivial) ?_;refine uAa rfl rfl rfl (uAc rfl gU) ?_;refine uAa rfl rfl rfl (uAg rfl gU rfl rfl) ?_;refine uAa rfl rfl rfl (uAl rfl (fun hh=>hh) rfl rfl rfl rfl) ?_;refine uAa rfl rfl rfl (uAY rfl (fun hh=>hh) rfl rfl) ?_;refine uAa rfl rfl rfl (uAg rfl gU rfl rfl) ?_;refine uAa rfl rfl rfl (uAl rfl (fun hh=>hh) rfl rfl rfl rfl) ?_;refine uAa rfl rfl rfl (uAY rfl (fun hh=>hh) rfl rfl) ?_;refine uAa rfl rfl rfl (uAk rfl rfl (fun hh=>hh) (fun hh=>hh) rfl) ?_;refine uAa rfl rfl rfl (uAK rfl rfl gU (fun _ hi=>gP rfl hi)) ?_;refine uAa rfl rfl rfl (uAc rfl gU) ?_;refine uAa rfl rfl rfl (uAg rfl gU rfl rfl) ?_;refine uAa rfl rfl rfl (uAl rfl (fun hh=>hh) rfl rfl rfl rfl) ?_
 refine uBk (s:=⟨[(2,_,_),(3,_,_),(37,_,_),(39,_,_)],[(.l 2,_),(.l 3,_)],[],[]⟩) (uAj (⟨sx rfl,sx rfl,sx rfl,sx rfl,trivial⟩) (⟨sx rfl,sx rfl,trivial⟩) trivial) ?_;refine uAa rfl rfl rfl (uAY rfl (fun hh=>hh) rfl rfl) ?_;refine uAa rfl rfl rfl (uAg rfl gU rfl rfl) ?_;refine uAa rfl rfl rfl (uAl rfl (fun hh=>hh) rfl rfl rfl rfl) ?_;refine uAa rfl rfl rfl (uAY rfl (fun hh=>hh) rfl rfl) ?_;refine uAa rfl rfl rfl (uAk rfl rfl (fun hh=>hh) (fun hh=>hh) rfl) ?_;refine uAa rfl rfl rfl (uAK rfl rfl gU (fun _ hi=>gP rfl hi)) ?_;refine uAf ?_;refine uAn (s:=⟨[(2,_,_),(3,_,_),(45,_,_)],[(.l 2,_),(.l 3,_)],[],[]⟩) (uAj (⟨sx rfl,sx rfl,sx rfl,trivial⟩) (⟨sx rfl,sx rfl,trivial⟩) trivial) ?_;refine uAm rfl (fun hc=>?_) (fun hc=>?_)
 ·exfalso
  simp [uPo,e1,e2,e4,l3,l4,l5,l6,h5,h3] at hc
 ·refine uAo ?_
  refine uAe ?_;refine uAe (uAb ?_);refine uAa rfl rfl rfl (uAd rfl gU) ?_;refine uAf ?_;refine uAt ?_;refine uAW (ι:=Nat) { t:=[(2,_,_),(3,_,_)],bx:=[(.l 2,_),(.l 3,_)],ow:=[] } (fun k=>[(5,true,xi (k : Int))]) (fun k=>[]) (fun k=>k≤n.fresh.length) (fun k=>n.fresh.length - k) (0) (by simp) (uAj (⟨sx rfl,sx rfl,sx rfl,trivial⟩) (⟨sx rfl,sx rfl,trivial⟩) trivial) ?_
  intro k hoka
  dsimp only [List.cons_append,List.nil_append]
  refine uAe ?_;refine uAe (uAb ?_);refine uAa rfl rfl rfl (uAc rfl gU) ?_;refine uAa rfl rfl rfl (uAg rfl gU rfl rfl) ?_;refine uAa rfl rfl rfl (uAl rfl gU rfl rfl rfl rfl) ?_;refine uAL rfl rfl rfl rfl rfl gU rfl rfl ?_ (fun hh=>by simp at hh); intro hlen;refine uAa rfl rfl rfl (uAk rfl rfl gU gU rfl) ?_;refine uAf ?_;refine uAn (s:=⟨[(2,_,_),(3,_,_),(5,_,_),(50,_,_)],[(.l 2,_),(.l 3,_)],[],[]⟩) (uAj (⟨sx rfl,sx rfl,sx rfl,sx rfl,trivial⟩) (⟨sx rfl,sx rfl,trivial⟩) trivial) ?_;refine uAm rfl (fun hc2=>?_) (fun hc2=>?_)
  ·try simp only [nn,uAi,T.rows_len,Gl.rows_len,Fs.rows_len,Sp.rows_len] at hc2
   refine uAo ?_;refine uAe ?_;refine uAt ?_;refine uAe ?_;refine awp_drawn' (by kernel_rfl) ?_;refine uAh rfl rfl rfl rfl (uAg rfl gU rfl rfl) ?_;refine uAS rfl rfl rfl rfl rfl rfl rfl gU rfl rfl rfl rfl ?_;refine uAh rfl rfl rfl rfl (uAc rfl gU) ?_;refine uAh rfl rfl rfl rfl (uAq rfl rfl gU gU rfl rfl rfl (fun hh=>Fs.rows_at (by first | omega | (simp at hh ⊢; omega)))) ?_;refine uAh rfl rfl rfl rfl (uAF rfl gU rfl rfl rfl rfl) ?_;refine uAh rfl rfl rfl rfl (uAg rfl gU rfl rfl) ?_;refine uAS rfl rfl rfl rfl rfl rfl rfl gU rfl rfl rfl rfl ?_;refine uAh rfl rfl rfl rfl (uAc rfl gU) ?_;refine uAh rfl rfl rfl rfl (uAq rfl rfl gU gU rfl rfl rfl (fun hh=>Fs.rows_at (by first | omega | (simp at hh ⊢; omega)))) ?_;refine uAh rfl rfl rfl rfl (uAF rfl gU rfl rfl rfl rfl) ?_;refine uAh rfl rfl rfl rfl (uIg (ks:=[2,2,1]) (.inr ⟨rfl,rfl⟩) rfl rfl gU gU Tryz.underlying73 (by kernel_rfl) (by kernel_rfl) (by kernel_rfl) rfl) ?_;refine uA8 (by kernel_rfl) ?_;refine uAn (s:=⟨[(2,_,_),(3,_,_),(5,_,_),(63,_,_)],[(.l 2,_),(.l 3,_)],[],[]⟩) (uAj (⟨sx rfl,sx rfl,sx rfl,sx rfl,trivial⟩) (⟨sx rfl,sx rfl,trivial⟩) trivial) ?_;refine uAm rfl (fun hc3=>?_) (fun hc3=>?_)
   ·exfalso
    simp [e3] at hc3
   ·refine uAo ?_
    refine uAb ?_;refine uAa rfl rfl rfl (uAc rfl gU) ?_;refine uAa rfl rfl rfl (uAr rfl rfl gU gU rfl (IntWalk.i64_in _ (by omega))) ?_;refine uAa rfl rfl rfl (uAd rfl gU) ?_;refine uAf ?_;refine ⟨k + 1,?_,?_,uAj (⟨⟨_,rfl,?_⟩,⟨sx rfl,sx rfl,trivial⟩⟩) (⟨sx rfl,sx rfl,trivial⟩) trivial⟩
    all_goals (first | rfl | omega)
  ·try simp only [nn,uAi,T.rows_len,Gl.rows_len,Fs.rows_len,Sp.rows_len] at hc2
   refine uAM ?_
   repeat (first | refine uAD ?_ | refine uAE ?_ | refine uAC rfl ?_)
   refine uAe ?_;refine uAe (uAb ?_);refine uAa rfl rfl rfl (uAd rfl gU) ?_;refine uAf ?_;refine uAt ?_;refine uAW (ι:=Nat) { t:=[(2,_,_),(3,_,_)],bx:=[(.l 2,_),(.l 3,_)],ow:=[] } (fun k=>[(6,true,xi (k : Int))]) (fun k=>[]) (fun k=>k≤n.steps.length) (fun k=>n.steps.length - k) (0) (by simp) (uAj (⟨sx rfl,sx rfl,sx rfl,trivial⟩) (⟨sx rfl,sx rfl,trivial⟩) trivial) ?_
   intro k hokb
   dsimp only [List.cons_append,List.nil_append]
   refine uAe ?_;refine uAe (uAb ?_);refine uAa rfl rfl rfl (uAc rfl gU) ?_;refine uAa rfl rfl rfl (uAg rfl gU rfl rfl) ?_;refine uAa rfl rfl rfl (uAl rfl gU rfl rfl rfl rfl) ?_;refine uAL rfl rfl rfl rfl rfl gU rfl rfl ?_ (fun hh=>by simp at hh); intro hlen;refine uAa rfl rfl rfl (uAk rfl rfl gU gU rfl) ?_;refine uAf ?_;refine uAn (s:=⟨[(2,_,_),(3,_,_),(6,_,_),(68,_,_)],[(.l 2,_),(.l 3,_)],[],[]⟩) (uAj (⟨sx rfl,sx rfl,sx rfl,sx rfl,trivial⟩) (⟨sx rfl,sx rfl,trivial⟩) trivial) ?_;refine uAm rfl (fun hc4=>?_) (fun hc4=>?_)
   ·try simp only [nn,uAi,T.rows_len,Gl.rows_len,Fs.rows_len,Sp.rows_len] at hc4
    have hlt : k < n.steps.length:=by omega
    have e:=uLS (d:=default) e5 hlt
    have f1 : (n.steps.getD k default).frm=(m.steps.getD k default).frm:=(by have q:=congrArg Sp.frm e; exact q)
    have f2 : (n.steps.getD k default).dst=(m.steps.getD k default).dst:=(by have q:=congrArg Sp.dst e; exact q)
    have f3 : (n.steps.getD k default).msg=(m.steps.getD k default).msg:=(by have q:=congrArg Sp.msg e; exact q)
    have z1:=uNJ hs hlt
    have z2 : (m.steps.getD k default).msg.size≤900000:=by rw [← f3]; exact z1
    refine uAo ?_;refine uAe ?_;refine uAt ?_;refine uAe ?_;refine awp_drawn' (by kernel_rfl) ?_;refine uAh rfl rfl rfl rfl (uAg rfl gU rfl rfl) ?_;refine uAS rfl rfl rfl rfl rfl rfl rfl gU rfl rfl rfl rfl ?_;refine uAh rfl rfl rfl rfl (uAc rfl gU) ?_;refine uAh rfl rfl rfl rfl (uAq rfl rfl gU gU rfl rfl rfl (fun hh=>Sp.rows_at (by first | omega | (simp at hh ⊢; omega)))) ?_;refine uAh rfl rfl rfl rfl (uAP rfl gU rfl rfl) ?_;refine uAh rfl rfl rfl rfl (uAI rfl gU rfl rfl rfl) ?_;refine uAh rfl rfl rfl rfl (uAg rfl gU rfl rfl) ?_;refine uAS rfl rfl rfl rfl rfl rfl rfl gU rfl rfl rfl rfl ?_;refine uAh rfl rfl rfl rfl (uAc rfl gU) ?_;refine uAh rfl rfl rfl rfl (uAq rfl rfl gU gU rfl rfl rfl (fun hh=>Sp.rows_at (by first | omega | (simp at hh ⊢; omega)))) ?_;refine uAh rfl rfl rfl rfl (uAP rfl gU rfl rfl) ?_;refine uAh rfl rfl rfl rfl (uAI rfl gU rfl rfl rfl) ?_;refine uAh rfl rfl rfl rfl (uAZ rfl rfl gU gU rfl) ?_;refine uAh rfl rfl rfl rfl (uAc rfl gU) ?_;refine uAh rfl rfl rfl rfl (uAg rfl gU rfl rfl) ?_;refine uAS rfl rfl rfl rfl rfl rfl rfl (fun hh=>hh) rfl rfl rfl rfl ?_;refine uAh rfl rfl rfl rfl (uAc rfl gU) ?_;refine uAh rfl rfl rfl rfl (uAq rfl rfl (fun hh=>hh) (fun hh=>hh) rfl rfl rfl (fun hh=>Sp.rows_at (by first | omega | (simp at hh ⊢; omega)))) ?_
    refine uAh rfl rfl rfl rfl (uAP rfl (fun hh=>hh) rfl rfl) ?_;refine uAh rfl rfl rfl rfl (uAI rfl (fun hh=>hh) rfl rfl rfl) ?_;refine uAh rfl rfl rfl rfl (uAg rfl gU rfl rfl) ?_;refine uAS rfl rfl rfl rfl rfl rfl rfl (fun hh=>hh) rfl rfl rfl rfl ?_;refine uAh rfl rfl rfl rfl (uAc rfl gU) ?_;refine uAh rfl rfl rfl rfl (uAq rfl rfl (fun hh=>hh) (fun hh=>hh) rfl rfl rfl (fun hh=>Sp.rows_at (by first | omega | (simp at hh ⊢; omega)))) ?_;refine uAh rfl rfl rfl rfl (uAP rfl (fun hh=>hh) rfl rfl) ?_;refine uAh rfl rfl rfl rfl (uAI rfl (fun hh=>hh) rfl rfl rfl) ?_;refine uAh rfl rfl rfl rfl (uAZ rfl rfl (fun hh=>hh) (fun hh=>hh) rfl) ?_;refine uAh rfl rfl rfl rfl (uAK rfl rfl gU (fun _ hi=>gP rfl hi)) ?_;refine uAh rfl rfl rfl rfl (uAc rfl gU) ?_;refine uAh rfl rfl rfl rfl (uAg rfl gU rfl rfl) ?_;refine uAS rfl rfl rfl rfl rfl rfl rfl (fun hh=>hh) rfl rfl rfl rfl ?_;refine uAh rfl rfl rfl rfl (uAc rfl gU) ?_;refine uAh rfl rfl rfl rfl (uAq rfl rfl (fun hh=>hh) (fun hh=>hh) rfl rfl rfl (fun hh=>Sp.rows_at (by first | omega | (simp at hh ⊢; omega)))) ?_;refine uAh rfl rfl rfl rfl (uAP rfl (fun hh=>hh) rfl rfl) ?_;refine uAh rfl rfl rfl rfl (uAF rfl (fun hh=>hh) rfl rfl rfl rfl) ?_;refine uAh rfl rfl rfl rfl (uAg rfl gU rfl rfl) ?_;refine uAS rfl rfl rfl rfl rfl rfl rfl (fun hh=>hh) rfl rfl rfl rfl ?_
    refine uAh rfl rfl rfl rfl (uAc rfl gU) ?_;refine uAh rfl rfl rfl rfl (uAq rfl rfl (fun hh=>hh) (fun hh=>hh) rfl rfl rfl (fun hh=>Sp.rows_at (by first | omega | (simp at hh ⊢; omega)))) ?_;refine uAh rfl rfl rfl rfl (uAP rfl (fun hh=>hh) rfl rfl) ?_;refine uAh rfl rfl rfl rfl (uAF rfl (fun hh=>hh) rfl rfl rfl rfl) ?_;refine uA4 rfl rfl rfl rfl rfl rfl rfl gU (fun hh=>gA ((fun hh=>hh) hh) (gA ((fun hh=>hh) hh) (rfl))) (uF6 _ _ (by omega) (by omega)) rfl ?_;refine uAh rfl rfl rfl rfl (uAV rfl (fun hh=>hh)) ?_;refine uAh rfl rfl rfl rfl (uAK rfl rfl gU (fun _ hi=>gP rfl hi)) ?_;refine uA8 (by kernel_rfl) ?_;refine uAn (s:=⟨[(2,_,_),(3,_,_),(6,_,_),(114,_,_)],[(.l 2,_),(.l 3,_)],[],[]⟩) (uAj (⟨sx rfl,sx rfl,sx rfl,sx rfl,trivial⟩) (⟨sx rfl,sx rfl,trivial⟩) trivial) ?_;refine uAm rfl (fun hc5=>?_) (fun hc5=>?_)
    ·exfalso
     simp only [List.getD_eq_getElem?_getD] at f1 f2 f3
     simp [Sp.cells,f1,f2,f3,T.cmp_self] at hc5
    ·refine uAo ?_
     refine uAb ?_;refine uAa rfl rfl rfl (uAc rfl gU) ?_;refine uAa rfl rfl rfl (uAr rfl rfl gU gU rfl (IntWalk.i64_in _ (by omega))) ?_;refine uAa rfl rfl rfl (uAd rfl gU) ?_;refine uAf ?_;refine ⟨k + 1,?_,?_,uAj (⟨⟨_,rfl,?_⟩,⟨sx rfl,sx rfl,trivial⟩⟩) (⟨sx rfl,sx rfl,trivial⟩) trivial⟩
     all_goals (first | rfl | omega)
   ·try simp only [nn,uAi,T.rows_len,Gl.rows_len,Fs.rows_len,Sp.rows_len] at hc4
    refine uAM ?_
    repeat (first | refine uAD ?_ | refine uAE ?_ | refine uAC rfl ?_)
    refine uAe (uAb ?_);refine uAa rfl rfl rfl (uAg rfl gU rfl rfl) ?_;refine uAa rfl rfl rfl (uAl rfl gU rfl rfl rfl rfl) ?_;refine uAa rfl rfl rfl (uAg rfl gU rfl rfl) ?_;refine uAa rfl rfl rfl (uAl rfl gU rfl rfl rfl rfl) ?_;refine uAx rfl rfl rfl rfl rfl rfl gU gU (uHO _ _ e6 hg) rfl ?_;refine uAa rfl rfl rfl (uAd rfl gU) ?_;refine uAf ?_;refine uAp ?_
    repeat (first | refine tR ?_ | refine bR ?_)
    refine uAs rfl ?_ trivial
    rfl
end Go.Proofs.YtnjjdbapadkomaaGreatDoor
namespace Go.Proofs.YtnjjdbapadkomaaGreatDoor
open Go Go.Abs
theorem uIo {α : Type} {l : List Tk} {f : PS→α × PS} (hf : Fwd l f) : ∀ (n : Nat) (p : PS) (out : List α),(uBQ l f n p out).1.length + p.at'≤out.length + (uBQ l f n p out).2.at'
 | 0,p,out=>by simp [uBQ]
 | n + 1,p,out=>by
  rw [uBQ]
  split
  ·have h1:=(hf p.go).1
   have h2:=uIo hf n (f p.go).2 (out++[(f p.go).1])
   have hg : p.go.at'=p.at' + 1:=rfl
   rw [List.length_append,List.length_singleton] at h2
   omega
  ·simp
theorem uF1 {α : Type} {l : List Tk} {f : PS→α × PS} (hf : Fwd l f) (p : PS) : (uBi l f p).1.length + p.at'≤1 + (uBi l f p).2.at':=by
 have h1:=(hf p).1
 have h2:=uIo hf (l.length + 1) (f p).2 [(f p).1]
 unfold uBi
 rw [List.length_singleton] at h2
 omega
theorem uHt (l : List Tk) (role : List UInt8) : ∀ (n : Nat) (p : PS) (out : List Fs),(uBE l role n p out).1.length + p.at'≤out.length + 1 + (uBE l role n p out).2.at'
 | 0,p,out=>by simp [uBE]
 | n + 1,p,out=>by
  have h1:=(uA6 l [] p).1
  have h2:=(uA6 l sortW (uAz l [] p).2).1
  rw [uBE]
  split
  ·dsimp only; omega
  split
  ·have hg : (uAz l sortW (uAz l [] p).2).2.go.at'=(uAz l sortW (uAz l [] p).2).2.at' + 1:=rfl
   have h4:=uHt l role n (uAz l sortW (uAz l [] p).2).2.go (out++[⟨role,(uAz l [] p).1,2 + uBw sortW (uAz l sortW (uAz l [] p).2).1⟩])
   rw [List.length_append,List.length_singleton] at h4
   omega
  ·simp only [List.length_append,List.length_singleton]; omega
theorem uLC (l : List Tk) (p : PS) (out : List Fs) : (uBK l p out).1.length + p.at'≤out.length + 1 + (uBK l p out).2.at':=by
 have h1:=(uA6 l [] p).1
 have h2:=(uBs l [58] (uAz l [] p).2).1
 have h3:=uHt l (uAz l [] p).1 (l.length + 1) (uA7 l [58] (uAz l [] p).2) out
 unfold uBK
 omega
structure Nar.Le (n : Nar) (k : Nat) : Prop where
 roles : n.roles.length≤k
 fresh : n.fresh.length≤k
 tags : n.tags.length≤k
 steps : n.steps.length≤k
 goals : n.goals.length≤k
theorem Nar.Le.mono {n : Nar} {k j : Nat} (h : n.Le k) (hj : k≤j) : n.Le j:=⟨Nat.le_trans h.roles hj,Nat.le_trans h.fresh hj,Nat.le_trans h.tags hj,Nat.le_trans h.steps hj,Nat.le_trans h.goals hj⟩
theorem uNk {l : List Tk} {ws : List (List UInt8)} {p : PS} (h : (uAz l ws p).1≠[]) : (uAz l ws p).2.at'=p.at' + 1:=by
 cases hq : namQ l p ws with
 | true=>rw [uAz,if_pos hq]; rfl
 | false=>rw [uAz,hq] at h; exact absurd rfl h
theorem uOa {l : List Tk} {n : Nar} {line : Int} {w : List UInt8} {q : PS} {k : Nat} (h : n.Le k) (hk : w≠[]→k + 1≤q.at') (hq : k≤q.at') : (uBB l n line w q).1.Le (uBB l n line w q).2.at':=by
 have hz:=uHD l n line w q
 unfold uBB at hz ⊢
 split
 ·rename_i hw
  rw [if_pos hw] at hz
  have h1 : (uBH l q).1.length + q.at'≤1 + (uBH l q).2.at':=uF1 (uA6 l []) q
  have h2:=hk (by rw [hw]; decide)
  have h3:=hz.1
  have := h.mono (j := (uBH l q).2.at') (by dsimp only at h3; omega)
  have h4:=h.roles
  exact ⟨by dsimp only; rw [List.length_append]; omega,this.fresh,this.tags,this.steps,this.goals⟩
 rename_i hw1
 rw [if_neg hw1] at hz
 split
 ·rename_i hw
  rw [if_pos hw] at hz
  have h1:=uLC l q n.fresh
  have h2:=hk (by rw [hw]; decide)
  have h3:=hz.1
  have := h.mono (j := (uBK l q n.fresh).2.at') (by dsimp only at h3; omega)
  have h4:=h.fresh
  exact ⟨this.roles,by dsimp only; omega,this.tags,this.steps,this.goals⟩
 rename_i hw2
 rw [if_neg hw2] at hz
 split
 ·rename_i hw
  rw [if_pos hw] at hz
  have h1 : (uBH l q).1.length + q.at'≤1 + (uBH l q).2.at':=uF1 (uA6 l []) q
  have h2:=hk (by rw [hw]; decide)
  have h3:=hz.1
  have := h.mono (j := (uBH l q).2.at') (by dsimp only at h3; omega)
  have h4:=h.tags
  exact ⟨this.roles,this.fresh,by dsimp only; rw [List.length_append]; omega,this.steps,this.goals⟩
 rename_i hw3
 rw [if_neg hw3] at hz
 split
 ·rename_i hw
  rw [if_pos hw] at hz
  have h2:=hk (by rw [hw]; decide)
  have h3:=hz.1
  have := h.mono (j := (uCs l line q).2.at') (by dsimp only at h3; omega)
  have h4:=h.steps
  exact ⟨this.roles,this.fresh,this.tags,by dsimp only at h3 ⊢; rw [List.length_append,List.length_singleton]; omega,this.goals⟩
 rename_i hw4
 rw [if_neg hw4] at hz
 split
 ·rename_i hw
  rw [if_pos hw] at hz
  have h2:=hk (by rw [hw]; decide)
  have h3:=hz.1
  have := h.mono (j := (uB6 l line q).2.at') (by dsimp only at h3; omega)
  have h4:=h.goals
  exact ⟨this.roles,this.fresh,this.tags,this.steps,by dsimp only at h3 ⊢; rw [List.length_append,List.length_singleton]; omega⟩
 exact h.mono hq
theorem uOG {l : List Tk} {n : Nar} {p : PS} (h : n.Le p.at') : (uBX l n p).1.Le (uBX l n p).2.at':=by
 have h1:=(uA6 l uBM p).1
 have h2:=uOa (l:=l) (line:=uCz l p) (w:=(uAz l uBM p).1) (q:=(uAz l uBM p).2) h (fun hw=>by rw [uNk hw]; exact Nat.le_refl _) h1
 exact h2.mono (uBs l [59] _).1
theorem uHy (t : T) : ∀ l : List T,T.sizes (l++[t])=T.sizes l + t.size
 | []=>by simp [T.sizes]
 | x :: l=>by rw [List.cons_append,T.sizes,T.sizes,uHy t l]; omega
theorem uIN : ∀ l : List T,l≠[]→(tupT l).size + 1=T.sizes l + l.length
 | [],h=>absurd rfl h
 | [t],_=>by simp [tupT,T.sizes]
 | t :: u :: l,_=>by
  have ih:=uIN (u :: l) (by simp)
  have e : (uIL t (tupT (u :: l))).size=1 + (t.size + (tupT (u :: l)).size):=by rw [T.size_eq]; show 1 + T.sizes [t,tupT (u :: l)]=_; simp [T.sizes]
  rw [tupT,e,T.sizes,List.length_cons (a:=t)]
  omega
def Szd (f : PS→T × PS) : Prop:=∀ p : PS,(f p).1.size + 2 * p.at'≤2 * (f p).2.at' + 1
theorem uHE {l : List Tk} {f : PS→T × PS} (hs : Szd f) : ∀ (n : Nat) (p : PS) (out : List T),T.sizes (uBQ l f n p out).1 + (uBQ l f n p out).1.length + 2 * p.at'≤T.sizes out + out.length + 2 * (uBQ l f n p out).2.at'
 | 0,p,out=>by simp [uBQ]
 | n + 1,p,out=>by
  rw [uBQ]
  split
  ·have h1:=hs p.go
   have h2:=uHE (l:=l) hs n (f p.go).2 (out++[(f p.go).1])
   have hg : p.go.at'=p.at' + 1:=rfl
   rw [List.length_append,List.length_singleton,uHy] at h2
   omega
  ·simp
theorem uFh {l : List Tk} {f : PS→T × PS} (hs : Szd f) (p : PS) : T.sizes (uBi l f p).1 + (uBi l f p).1.length + 2 * p.at'≤2 + 2 * (uBi l f p).2.at':=by
 have h1:=hs p
 have h2:=uHE (l:=l) hs (l.length + 1) (f p).2 [(f p).1]
 unfold uBi
 rw [List.length_singleton,T.sizes,T.sizes] at h2
 omega
theorem uMa {α : Type} {l : List Tk} {f : PS→α × PS} : ∀ (n : Nat) (p : PS) (out : List α),out≠[]→(uBQ l f n p out).1≠[]
 | 0,p,out,h=>h
 | n + 1,p,out,h=>by
  rw [uBQ]
  split
  ·exact uMa n _ _ (by simp)
  ·exact h
theorem uD6 (l : List Tk) : ∀ n : Nat,Szd (uAU l n)
 | 0,p=>by
  have : (default : T).size=1:=by rw [T.size_eq]; rfl
  show (default : T).size + _≤_
  rw [this]; show 1 + 2 * p.at'≤2 * p.at' + 1; omega
 | n + 1,p=>by
  have ih:=uD6 l n
  have hf:=uCG l n
  rw [uAU]
  split
  ·have hg : p.go.at'=p.at' + 1:=rfl
   have h1:=ih p.go
   have h2:=(uBs l [44] (uAU l n p.go).2).1
   have h3:=uFh (l:=l) ih (uA7 l [44] (uAU l n p.go).2)
   have h4:=(uBs l [62] (uBi l (uAU l n) (uA7 l [44] (uAU l n p.go).2)).2).1
   have h5:=uIN ((uAU l n p.go).1 :: (uBi l (uAU l n) (uA7 l [44] (uAU l n p.go).2)).1) (by simp)
   rw [T.sizes,List.length_cons] at h5
   dsimp only
   omega
  ·have h1:=(uA6 l [] p).1
   split
   ·have hg : (uAz l [] p).2.go.at'=(uAz l [] p).2.at' + 1:=rfl
    split
    ·have hg2 : (uAz l [] p).2.go.go.at'=(uAz l [] p).2.at' + 2:=rfl
     have : (⟨3,(uAz l [] p).1,0,[]⟩ : T).size=1:=by rw [T.size_eq]; rfl
     dsimp only; omega
    ·have h3:=uFh (l:=l) ih (uAz l [] p).2.go
     have h4:=(uBs l [41] (uBi l (uAU l n) (uAz l [] p).2.go).2).1
     have h5 : (uBi l (uAU l n) (uAz l [] p).2.go).1≠[]:=uMa _ _ _ (by simp)
     have h6:=List.length_pos_iff.2 h5
     have : (⟨3,(uAz l [] p).1,0,(uBi l (uAU l n) (uAz l [] p).2.go).1⟩ : T).size=1 + T.sizes (uBi l (uAU l n) (uAz l [] p).2.go).1:=by rw [T.size_eq]; rfl
     dsimp only; omega
   ·have : (⟨2,(uAz l [] p).1,0,[]⟩ : T).size=1:=by rw [T.size_eq]; rfl
    dsimp only; omega
structure Nar.Sm (n : Nar) (M : Nat) : Prop where
 steps : ∀ s ∈ n.steps,s.msg.size≤M
 goals : ∀ g ∈ n.goals,T.sizes g.data≤M
theorem uLd {l : List Tk} (line : Int) {p : PS} (hp : p.at'≤l.length) : (uCs l line p).1.msg.size≤2 * l.length + 2:=by
 have h:=(uH9 l line p).2 hp
 have := uD6 l (l.length + 1) (uA7 l [58] (uAz l [] (uA7 l [62] (uA7 l [45] (uAz l [] p).2))).2)
 have h2 : (uAU l (l.length + 1) (uA7 l [58] (uAz l [] (uA7 l [62] (uA7 l [45] (uAz l [] p).2))).2)).2.at'≤l.length:=h
 show (uAU l (l.length + 1) (uA7 l [58] (uAz l [] (uA7 l [62] (uA7 l [45] (uAz l [] p).2))).2)).1.size≤_
 omega
theorem uLL {l : List Tk} (line : Int) {p : PS} (hp : p.at'≤l.length) : T.sizes (uB6 l line p).1.data≤2 * l.length + 2:=by
 have h:=(uHl l line p).2 hp
 have := uFh (l := l) (uD6 l (l.length + 1)) (uA7 l [58] (if uBo (1 + uBw kindW (uAz l kindW p).1)=true then uAz l [] (uAz l [] (uAz l kindW p).2).2 else ([],(uAz l [] (uAz l kindW p).2).2)).2)
 have h2 : (uBi l (uAU l (l.length + 1)) (uA7 l [58] (if uBo (1 + uBw kindW (uAz l kindW p).1)=true then uAz l [] (uAz l [] (uAz l kindW p).2).2 else ([],(uAz l [] (uAz l kindW p).2).2)).2)).2.at'≤l.length:=h
 show T.sizes (uBi l (uAU l (l.length + 1)) (uA7 l [58] (if uBo (1 + uBw kindW (uAz l kindW p).1)=true then uAz l [] (uAz l [] (uAz l kindW p).2).2 else ([],(uAz l [] (uAz l kindW p).2).2)).2)).1≤_
 omega
theorem uNW {l : List Tk} {n : Nar} {p : PS} (h : n.Sm (2 * l.length + 2)) (hp : p.at'≤l.length) : (uBX l n p).1.Sm (2 * l.length + 2):=by
 have hq:=(uA6 l uBM p).2 hp
 show (uBB l n (uCz l p) (uAz l uBM p).1 (uAz l uBM p).2).1.Sm _
 unfold uBB
 repeat' split
 ·exact ⟨h.steps,h.goals⟩
 ·exact ⟨h.steps,h.goals⟩
 ·exact ⟨h.steps,h.goals⟩
 ·refine ⟨fun s hs=>?_,h.goals⟩
  rcases List.mem_append.1 hs with q | q
  ·exact h.steps s q
  ·simp at q; subst q; exact uLd _ hq
 ·refine ⟨h.steps,fun g hg=>?_⟩
  rcases List.mem_append.1 hg with q | q
  ·exact h.goals g q
  ·simp at q; subst q; exact uLL _ hq
 ·exact h
end Go.Proofs.YtnjjdbapadkomaaGreatDoor
namespace Go.Abs
variable {Z : Pg}
theorem uOF {N : Nat} {ops : Array Oper} {st : St} {o : Oper} {d : Nat} {x : X} (hg : uBc ops st o=some false) (hd : o.dst=some d) (hN : Nat.ble (d + 1) N=true) : Op1 Z N ops o st (st.put d (false,x)):=by
 intro E G a w hr hE K Q hK
 have hdN : d < E.nt:=by rw [hE.nt]; exact Nat.le_of_ble_eq_true hN
 rw [uBO hr hg,hd]
 rw [hd] at hK
 simp only [Bool.false_eq_true,if_false]
 exact hK G undef w (hr.put hdN (fun hf=>by simp at hf) (fun _=>rfl))
theorem uL7 {N : Nat} {ops : Array Oper} {rest : List Oper} {K : St→Prop} {st : St} {o : Oper} {d : Nat} (x : X) (hg : uBc ops st o=some false) (hd : o.dst=some d) (hN : Nat.ble (d + 1) N=true)
  (h : AL Z N ops rest K (st.put d (false,x))) : AL Z N ops (o :: rest) K st:=uDK (uOF hg hd hN) h
end Go.Abs
namespace Go.Proofs.YtnjjdbapadkomaaGreatDoor
open Go Go.Abs
theorem uO0 (l : List Tk) (hl : l.length≤2000000) (htup : ∀ ts : List T,0 < ts.length→ts.length≤3000000→Ctr sys 115 [xl ts] [] (xm (tupT ts)) none []) :
  ∀ (n : Nat) (p : PS),p.at'≤l.length→l.length - p.at' < n→Ctr sys 66 [xpp] [pbx l p] (xm (uAU l n p).1) none [pbx l (uAU l n p).2]:=by
 have htup2 : ∀ (ts : List T) (rs : List (List C)),rs=T.rows ts→0 < ts.length→ts.length≤3000000→Ctr sys 115 [.v (.c (.sl 4 rs))] [] (xm (tupT ts)) none []:=by
  intro ts rs h; subst h; exact htup ts
 intro n
 induction n with
 | zero=>intro p _ h; omega
 | succ n ih =>
  intro p hp hn
  have hrl:=Tk.rows_len l
  have hg : ∀ q : PS,q.go.at'=q.at' + 1:=fun _=>rfl
  refine uAy Tryz.func66 rfl rfl rfl rfl rfl rfl ?_;refine uAe (uAb ?_);refine uAw rfl (uAT rfl rfl rfl) ?_;refine uAf ?_;refine uAe ?_;refine uAe (uAb ?_);refine uAa rfl rfl rfl (uAc rfl gU) ?_;refine uAO (.o 0) rfl rfl rfl rfl rfl rfl (uB0 _ _ _ (by omega) (by first | omega | (dsimp only; omega) | (simp only [PS.go]; omega))) rfl (by rfl) (by rfl) rfl rfl rfl ?_;refine uAf ?_;refine uAm rfl (fun hc=>?_) (fun hc=>?_)
  ·try simp only [nn,uAi,T.rows_len,Tk.rows_len] at hc
   have hlt:=(uCC hc).1
   have hs : symP l p [60]=p.go:=by rw [symP,if_pos hc]
   have he : uAU l (n + 1) p=(tupT ((uAU l n p.go).1 :: (uBi l (uAU l n) (uA7 l [44] (uAU l n p.go).2)).1),uA7 l [62] (uBi l (uAU l n) (uA7 l [44] (uAU l n p.go).2)).2):=by rw [uAU,if_pos hc]
   have hgp:=hg p
   have a1:=uCG l n p.go
   have a2:=uBs l [44] (uAU l n p.go).2
   generalize hq1 : (uA7 l [44] (uAU l n p.go).2)=q1 at *
   rw [hs]
   refine uAe (uAb ?_);refine uAa rfl rfl rfl (uAc rfl gU) ?_;refine uAO (.o 0) rfl rfl rfl rfl rfl rfl (ih p.go (by omega) (by omega)) rfl (by rfl) (by rfl) rfl rfl rfl ?_;refine uAQ (xs:=[_]) rfl rfl rfl rfl rfl rfl rfl rfl rfl gU rfl ?_;refine uAw rfl (uAN (.inr rfl) rfl rfl rfl) ?_;refine uAf ?_;refine uAn (s:=⟨[(0,_,_),(2,_,_),(3,_,_)],[(.l 2,_),(.o 0,_)],[(.t 3,_)],[]⟩) (uAj (⟨sx rfl,sx rfl,sx rfl,trivial⟩) (⟨sx rfl,sx rfl,trivial⟩) (⟨rfl,trivial⟩)) ?_;refine uAe (uAb ?_);refine uAa rfl rfl rfl (uAc rfl gU) ?_;refine uAO (.o 0) rfl rfl rfl rfl rfl rfl (uBe _ _ _ (by omega) (by first | omega | (dsimp only; omega) | (simp only [PS.go]; omega))) rfl (by rfl) (by rfl) rfl rfl rfl ?_;refine uAf ?_;refine uAe ?_;refine uAt ?_
   rw [hq1]
   refine uAW (ι:=PS × List T) { t:=[(0,_,_),(2,_,_)],bx:=[(.l 2,_)],ow:=[(.t 3,_)] } (fun q=>[(3,true,xl q.2)]) (fun q=>[((.o 0),pbx l q.1)]) (fun q=>q1.at'≤q.1.at'∧q.1.at'≤l.length∧q.2.length≤q.1.at'∧1≤q.2.length ∧ ∃ k,l.length + 1≤k + q.1.at'∧(∃ o2,q.2=(uAU l n p.go).1 :: o2∧uBQ l (uAU l n) k (uAU l n q.1).2 (o2++[(uAU l n q.1).1])=uBi l (uAU l n) q1)) (fun q=>l.length - q.1.at') ((q1,[(uAU l n p.go).1])) (⟨by simp,by dsimp only; omega,by dsimp only [List.length_singleton]; omega,by simp,_,by dsimp only; omega,[],rfl,rfl⟩) (uAj (⟨⟨_,rfl,by simp [T.rows_eq]⟩,⟨sx rfl,sx rfl,trivial⟩⟩) (⟨sx rfl,sx rfl,trivial⟩) (⟨rfl,trivial⟩)) ?_
   intro q hok
   dsimp only [List.cons_append,List.nil_append] at *
   obtain ⟨q,out⟩:=q
   dsimp only at hok ⊢
   obtain ⟨hq0,hq,ho,ho1,k,hk,o2,rfl,hi⟩:=hok
   have hqb : l.length - q.at' < n:=by omega
   have b1:=uCG l n q
   have hih:=ih q hq hqb
   have hro:=T.rows_len ((uAU l n p.go).1 :: o2)
   obtain ⟨r,hr⟩ : ∃ r,uAU l n q=r:=⟨_,rfl⟩
   obtain ⟨t2,at2,bad2⟩:=r
   rw [hr] at hih b1 hi
   dsimp only at hih b1 hi
   have b2:=b1.2 hq
   have hne : o2++[t2]≠[]:=by simp
   cases bad2
   ·refine uAt ?_
    refine uAe (uAb ?_);refine uAw rfl (uAN (.inl rfl) rfl rfl rfl) ?_;refine uAa rfl rfl rfl (uAc rfl gU) ?_;refine uAO (.o 0) rfl rfl rfl rfl rfl rfl (hih) rfl (by rfl) (by rfl) rfl rfl rfl ?_;refine uAQ (xs:=[_]) rfl rfl rfl rfl rfl rfl rfl rfl rfl gU rfl ?_;refine uAw rfl (uA2 rfl rfl rfl rfl rfl rfl rfl (by first | omega | (simp only [List.length_append,List.length_singleton,T.rows_len]; omega)) (by first | omega | (simp only [List.length_append,List.length_singleton,T.rows_len]; omega))) ?_;refine uAw rfl (uAN (.inr rfl) rfl rfl rfl) ?_;refine uAf ?_;refine uAn (s:=⟨[(0,_,_),(2,_,_),(3,_,_)],[(.l 2,_),(.o 0,_)],[(.t 3,_)],[]⟩) (uAj (⟨sx rfl,sx rfl,sx rfl,trivial⟩) (⟨sx rfl,sx rfl,trivial⟩) (⟨rfl,trivial⟩)) ?_;refine uAe (uAb ?_);refine uAa rfl rfl rfl (uAc rfl gU) ?_;refine uAa rfl rfl rfl (uAA rfl gU) ?_;refine uAa rfl rfl rfl (uAg rfl gU rfl rfl) ?_;refine uAa rfl rfl rfl (uAl rfl gU rfl rfl rfl rfl) ?_;refine uAa rfl rfl rfl (uAc rfl gU) ?_;refine uAa rfl rfl rfl (uAc rfl gU) ?_;refine uAO (.o 0) rfl rfl rfl rfl rfl rfl (uB0 _ _ _ (by omega) (by first | omega | (dsimp only; omega) | (simp only [PS.go]; omega))) rfl (by rfl) (by rfl) rfl rfl rfl ?_;refine uAa rfl rfl rfl (uAV rfl (fun hh=>hh)) ?_;refine uAa rfl rfl rfl (uAK rfl rfl gU (fun _ hi=>gP rfl hi)) ?_
    refine uAf ?_;refine uAn (s:=⟨[(0,_,_),(2,_,_),(3,_,_),(25,_,_)],[(.l 2,_),(.o 0,_)],[(.t 3,_)],[]⟩) (uAj (⟨sx rfl,sx rfl,sx rfl,sx rfl,trivial⟩) (⟨sx rfl,sx rfl,trivial⟩) (⟨rfl,trivial⟩)) ?_;refine uAm rfl (fun hc2=>?_) (fun hc2=>?_)
    ·try simp only [nn,uAi,T.rows_len,Tk.rows_len] at hc2
     have hz : symQ l ⟨at2,false⟩ [44]=false:=by simpa using hc2
     have hs2 : symP l ⟨at2,false⟩ [44]=⟨at2,false⟩:=by rw [symP,hz]; rfl
     rw [uCZ hz] at hi
     rw [hs2]
     refine uAM ?_
     repeat (first | refine uAD ?_ | refine uAE ?_ | refine uAC rfl ?_)
     refine uAe (uAb ?_);refine uAa rfl rfl rfl (uAc rfl gU) ?_;refine uAO (.o 0) rfl rfl rfl rfl rfl rfl (uBe _ _ _ (by omega) (by first | omega | (dsimp only; omega) | (simp only [PS.go]; omega))) rfl (by rfl) (by rfl) rfl rfl rfl ?_;refine uAf ?_;refine uAe (uAb ?_);refine uAa rfl rfl rfl (uAc rfl gU) ?_;refine uAx rfl rfl rfl rfl rfl rfl gU gU (htup2 ((uAU l n p.go).1 :: (o2++[t2])) _ (by simp [T.rows_eq]) (by simp) (by simp only [List.length_cons,List.length_append,List.length_nil] at ho ⊢; omega)) rfl ?_;refine uAw rfl (uAB rfl rfl rfl rfl rfl rfl rfl) ?_;refine uAf ?_;refine uAp ?_
     repeat (first | refine tR ?_ | refine bR ?_)
     refine uAs rfl ?_ (⟨⟨_,rfl,?_⟩,trivial⟩)
     (all_goals first | (rw [he,← hi]; done) | (rw [he,← hi]; rfl))
    ·try simp only [nn,uAi,T.rows_len,Tk.rows_len] at hc2
     have hz : symQ l ⟨at2,false⟩ [44]=true:=by simpa using hc2
     have hlt2:=(uCC hz).1
     have hs2 : symP l ⟨at2,false⟩ [44]=⟨at2 + 1,false⟩:=by rw [symP,if_pos hz]; rfl
     obtain ⟨k,rfl⟩ : ∃ j,k=j + 1:=⟨k - 1,by dsimp only at hlt2; omega⟩
     rw [uFA hz] at hi
     rw [hs2]
     dsimp only at hlt2
     refine uAo ?_;refine ⟨(⟨at2 + 1,false⟩,(uAU l n p.go).1 :: (o2++[t2])),?_,?_,uAj (⟨⟨_,rfl,?_⟩,⟨sx rfl,sx rfl,trivial⟩⟩) (⟨⟨_,rfl,?_⟩,⟨sx rfl,trivial⟩⟩) (⟨rfl,trivial⟩)⟩
     ·refine ⟨by dsimp only; omega,by dsimp only; omega,?_,by simp,k,by dsimp only; omega,o2++[t2],rfl,hi⟩
      simp only [List.length_cons,List.length_append,List.length_nil] at ho ⊢; omega
     ·dsimp only; omega
     ·exact tx (uFw _ _)
     ·rfl
   ·skip
    refine uAt ?_;refine uAe (uAb ?_);refine uAw rfl (uAN (.inl rfl) rfl rfl rfl) ?_;refine uAa rfl rfl rfl (uAc rfl gU) ?_;refine uAO (.o 0) rfl rfl rfl rfl rfl rfl (hih) rfl (by rfl) (by rfl) rfl rfl rfl ?_;refine uAQ (xs:=[_]) rfl rfl rfl rfl rfl rfl rfl rfl rfl gU rfl ?_;refine uAw rfl (uA2 rfl rfl rfl rfl rfl rfl rfl (by first | omega | (simp only [List.length_append,List.length_singleton,T.rows_len]; omega)) (by first | omega | (simp only [List.length_append,List.length_singleton,T.rows_len]; omega))) ?_;refine uAw rfl (uAN (.inr rfl) rfl rfl rfl) ?_;refine uAf ?_;refine uAn (s:=⟨[(0,_,_),(2,_,_),(3,_,_)],[(.l 2,_),(.o 0,_)],[(.t 3,_)],[]⟩) (uAj (⟨sx rfl,sx rfl,sx rfl,trivial⟩) (⟨sx rfl,sx rfl,trivial⟩) (⟨rfl,trivial⟩)) ?_;refine uAe (uAb ?_);refine uAa rfl rfl rfl (uAc rfl gU) ?_;refine uAa rfl rfl rfl (uAA rfl gU) ?_;refine uAa rfl rfl rfl (uAg rfl gU rfl rfl) ?_;refine uAa rfl rfl rfl (uAl rfl gU rfl rfl rfl rfl) ?_;refine uAa rfl rfl rfl (uAc rfl gU) ?_;refine uAa rfl rfl rfl (uAc rfl gU) ?_;refine uL7 (xb false) rfl rfl rfl ?_;refine uAa rfl rfl rfl (uAV rfl (fun hh=>hh)) ?_;refine uAa rfl rfl rfl (uAK rfl rfl gU (fun _ hi=>gP rfl hi)) ?_;refine uAf ?_;refine uAn (s:=⟨[(0,_,_),(2,_,_),(3,_,_),(25,_,_)],[(.l 2,_),(.o 0,_)],[(.t 3,_)],[]⟩) (uAj (⟨sx rfl,sx rfl,sx rfl,sx rfl,trivial⟩) (⟨sx rfl,sx rfl,trivial⟩) (⟨rfl,trivial⟩)) ?_
    refine uAm rfl (fun hc2=>?_) (fun hc2=>?_)
    ·try simp only [nn,uAi,T.rows_len,Tk.rows_len] at hc2
     have hz : symQ l ⟨at2,true⟩ [44]=false:=rfl
     rw [uCZ hz] at hi
     refine uAM ?_
     repeat (first | refine uAD ?_ | refine uAE ?_ | refine uAC rfl ?_)
     refine uAe (uAb ?_);refine uAa rfl rfl rfl (uAc rfl gU) ?_;refine uAO (.o 0) rfl rfl rfl rfl rfl rfl (uBe _ _ _ (by omega) (by first | omega | (dsimp only; omega) | (simp only [PS.go]; omega))) rfl (by rfl) (by rfl) rfl rfl rfl ?_;refine uAf ?_;refine uAe (uAb ?_);refine uAa rfl rfl rfl (uAc rfl gU) ?_;refine uAx rfl rfl rfl rfl rfl rfl gU gU (htup2 ((uAU l n p.go).1 :: (o2++[t2])) _ (by simp [T.rows_eq]) (by simp) (by simp only [List.length_cons,List.length_append,List.length_nil] at ho ⊢; omega)) rfl ?_;refine uAw rfl (uAB rfl rfl rfl rfl rfl rfl rfl) ?_;refine uAf ?_;refine uAp ?_
     repeat (first | refine tR ?_ | refine bR ?_)
     refine uAs rfl ?_ (⟨⟨_,rfl,?_⟩,trivial⟩)
     (all_goals first | (rw [he,← hi]; done) | (rw [he,← hi]; rfl))
    ·exfalso
     simp at hc2
  ·try simp only [nn,uAi,T.rows_len,Tk.rows_len] at hc
   have hs : symP l p [60]=p:=by rw [symP,hc]; rfl
   have he : uAU l (n + 1) p=if symQ l (uAz l [] p).2 [40]=true then
     (if symQ l (uAz l [] p).2.go [41]=true then (⟨3,(uAz l [] p).1,0,[]⟩,(uAz l [] p).2.go.go)
     else (⟨3,(uAz l [] p).1,0,(uBi l (uAU l n) (uAz l [] p).2.go).1⟩,uA7 l [41] (uBi l (uAU l n) (uAz l [] p).2.go).2))
    else (⟨2,(uAz l [] p).1,0,[]⟩,(uAz l [] p).2):=by rw [uAU,if_neg (by rw [hc]; simp)]
   have b1:=uA6 l [] p
   rw [hs]
   refine uAo ?_;refine uAe (uAb ?_);refine uAa rfl rfl rfl (uAc rfl gU) ?_;refine uAO (.o 0) rfl rfl rfl rfl rfl rfl (uBF l p [] (by omega) (by omega)) rfl (by rfl) (by rfl) rfl rfl rfl ?_;refine uAa rfl rfl rfl (uA1 rfl Tryz.underlying39 rfl gU) ?_;refine uAw rfl (uAT rfl rfl rfl) ?_;refine uAw rfl (uAB rfl rfl rfl rfl rfl rfl rfl) ?_;refine uAf ?_;refine uAn (s:=⟨[(0,_,_),(2,_,_),(4,_,_)],[(.l 2,_),(.l 4,_),(.o 0,_)],[],[]⟩) (uAj (⟨sx rfl,sx rfl,sx rfl,trivial⟩) (⟨sx rfl,sx rfl,sx rfl,trivial⟩) trivial) ?_;refine uAe ?_;refine uAe (uAb ?_);refine uAa rfl rfl rfl (uAc rfl gU) ?_;refine uAO (.o 0) rfl rfl rfl rfl rfl rfl (uB0 _ _ _ (by omega) (by first | omega | (dsimp only; omega) | (simp only [PS.go]; omega))) rfl (by rfl) (by rfl) rfl rfl rfl ?_;refine uAa rfl rfl rfl (uAV rfl gU) ?_;refine uAf ?_;refine uAm rfl (fun hc2=>?_) (fun hc2=>?_)
   ·try simp only [nn,uAi,T.rows_len,Tk.rows_len] at hc2
    rw [if_neg (by rw [hc2]; simp)] at he
    have hs2 : symP l (uAz l [] p).2 [40]=(uAz l [] p).2:=by rw [symP,hc2]; rfl
    rw [hs2]
    refine uAe (uAb ?_);refine uAa rfl rfl rfl (uAv rfl gU rfl rfl rfl rfl rfl) ?_;refine uAw rfl (uAB rfl rfl rfl rfl rfl rfl rfl) ?_;refine uAf ?_;refine uAp ?_
    repeat (first | refine tR ?_ | refine bR ?_)
    refine uAs rfl ?_ (⟨⟨_,rfl,?_⟩,trivial⟩)
    (all_goals first | (rw [he]; done) | (rw [he]; rfl))
   ·try simp only [nn,uAi,T.rows_len,Tk.rows_len] at hc2
    rw [if_pos hc2] at he
    have hlt:=(uCC hc2).1
    have hg2:=hg (uAz l [] p).2
    have hs2 : symP l (uAz l [] p).2 [40]=(uAz l [] p).2.go:=by rw [symP,if_pos hc2]
    rw [hs2]
    refine uAo ?_;refine uAe (uAb ?_);refine uAa rfl rfl rfl (uAg rfl gU rfl rfl) ?_;refine uAw rfl (uAB rfl rfl rfl rfl rfl rfl rfl) ?_;refine uAf ?_;refine uAe ?_;refine uAe (uAb ?_);refine uAa rfl rfl rfl (uAc rfl gU) ?_;refine uAO (.o 0) rfl rfl rfl rfl rfl rfl (uB0 _ _ _ (by omega) (by first | omega | (dsimp only; omega) | (simp only [PS.go]; omega))) rfl (by rfl) (by rfl) rfl rfl rfl ?_;refine uAa rfl rfl rfl (uAV rfl gU) ?_;refine uAf ?_;refine uAn (s:=⟨[(0,_,_),(2,_,_),(4,_,_),(40,_,_)],[(.l 2,_),(.l 4,_),(.o 0,_)],[],[]⟩) (uAj (⟨sx rfl,sx rfl,sx rfl,sx rfl,trivial⟩) (⟨sx rfl,sx rfl,sx rfl,trivial⟩) trivial) ?_;refine uAm rfl (fun hc3=>?_) (fun hc3=>?_)
    ·try simp only [nn,uAi,T.rows_len,Tk.rows_len] at hc3
     rw [if_neg (by rw [hc3]; simp)] at he
     have hs3 : symP l (uAz l [] p).2.go [41]=(uAz l [] p).2.go:=by rw [symP,hc3]; rfl
     have a3:=uDa (uCG l n) (uAz l [] p).2.go
     rw [hs3]
     refine uAe (uAb ?_);refine uAa rfl rfl rfl (uAc rfl gU) ?_;refine uAO (.o 0) rfl rfl rfl rfl rfl rfl (uJ9 l n hl ih (uAz l [] p).2.go (by omega) (by omega)) rfl (by rfl) (by rfl) rfl rfl rfl ?_;refine uAa rfl rfl rfl (uAg rfl gU rfl rfl) ?_;refine uAw rfl (uAB rfl rfl rfl rfl rfl rfl rfl) ?_;refine uAf ?_;refine uAb ?_;refine uAa rfl rfl rfl (uAc rfl gU) ?_;refine uAO (.o 0) rfl rfl rfl rfl rfl rfl (uBe _ _ _ (by omega) (by first | omega | (dsimp only; omega) | (simp only [PS.go]; omega))) rfl (by rfl) (by rfl) rfl rfl rfl ?_;refine uAf ?_;refine uAn (s:=⟨[(2,_,_),(4,_,_)],[(.l 2,_),(.l 4,_),(.o 0,_)],[],[]⟩) (uAj (⟨sx rfl,sx rfl,trivial⟩) (⟨sx rfl,sx rfl,sx rfl,trivial⟩) trivial) ?_;refine uAe (uAb ?_);refine uAa rfl rfl rfl (uAv rfl gU rfl rfl rfl rfl rfl) ?_;refine uAw rfl (uAB rfl rfl rfl rfl rfl rfl rfl) ?_;refine uAf ?_;refine uAp ?_
     repeat (first | refine tR ?_ | refine bR ?_)
     refine uAs rfl ?_ (⟨⟨_,rfl,?_⟩,trivial⟩)
     (all_goals first | (rw [he]; done) | (rw [he]; rfl))
    ·try simp only [nn,uAi,T.rows_len,Tk.rows_len] at hc3
     rw [if_pos hc3] at he
     have hs3 : symP l (uAz l [] p).2.go [41]=(uAz l [] p).2.go.go:=by rw [symP,if_pos hc3]
     rw [hs3]
     refine uAo ?_;refine uAe (uAb ?_);refine uAa rfl rfl rfl (uAv rfl gU rfl rfl rfl rfl rfl) ?_;refine uAw rfl (uAB rfl rfl rfl rfl rfl rfl rfl) ?_;refine uAf ?_;refine uAp ?_
     repeat (first | refine tR ?_ | refine bR ?_)
     refine uAs rfl ?_ (⟨⟨_,rfl,?_⟩,trivial⟩)
     (all_goals first | (rw [he]; done) | (rw [he]; rfl))
end Go.Proofs.YtnjjdbapadkomaaGreatDoor
namespace Go.Proofs.YtnjjdbapadkomaaGreatDoor
open Go Go.Proofs Go.RowKit Go.Shelf
attribute [local go_sem] Oper.semAt_some
set_option maxHeartbeats 2000000 in
theorem uPl (F : Fence) (n : Nat) (hf : F.fn 152) (hro : F.round=none) (a : Option Addr) (len cap : Nat) (w : World) :
  CallsIn F n Tryz.prog 152 #[.slice a len cap] w fun e w'=>e = .returned (.func (.func 168) #[] #[.pointer (some ⟨w.heap.size,0,none⟩)])∧w'=w.alloc (.cells #[.slice a len cap] 37):=by
 refine callsIn_of_wp Tryz.func152 rfl hf ?_ hro
 simp only [Tryz.ntmps152,List.size_toArray,List.length_cons,List.length_nil,Nat.reduceAdd,Nat.reduceSub,Array.replicate_succ,Array.replicate_zero,List.push_toArray,List.append_toArray,List.nil_append,List.cons_append]
 gi_wp2
 go_ret
 exact ⟨rfl,rfl⟩
def uDH {α : Type} (el : Nat→α) (len k : Nat) : List α:=(List.range (len - k)).map fun j=>el (len - 1 - j)
theorem uHe {α : Type} (el : Nat→α) {len k : Nat} (h : k < len) : uDH el len k=uDH el len (k + 1)++[el k]:=by
 unfold uDH
 rw [show len - k=(len - (k + 1)) + 1 by omega,List.range_succ,List.map_append]
 simp only [List.map_cons,List.map_nil]
 rw [show len - 1 - (len - (k + 1))=k by omega]
theorem uNw {α : Type} (el : Nat→α) (len k : Nat) : (uDH el len k).length=len - k:=by simp [uDH]
theorem uIr {α : Type} (el : Nat→α) (len : Nat) : uDH el len len=[]:=by simp [uDH]
def KeepB (n₀ Bo : Nat) (W W' : World) : Prop:=∀ b,b < n₀→b≠Bo→W'.heap[b]? = W.heap[b]?
theorem KeepB.refl (n₀ Bo : Nat) (W : World) : KeepB n₀ Bo W W:=fun _ _ _=>rfl
theorem KeepB.trans {n₀ Bo : Nat} {A B C : World} (h : KeepB n₀ Bo A B) (k : KeepB n₀ Bo B C) : KeepB n₀ Bo A C:=fun b h1 h2=>(k b h1 h2).trans (h b h1 h2)
theorem KeepB.cell {n₀ Bo : Nat} {A B : World} (h : KeepB n₀ Bo A B) {b : Nat} (o : Nat) (h1 : b < n₀) (h2 : b≠Bo) : B.cell? ⟨b,o,none⟩=A.cell? ⟨b,o,none⟩:=by
 unfold World.cell?; dsimp only; rw [h b h1 h2]
theorem KeepB.alloc {n₀ Bo : Nat} (W : World) (ob : Obj) (h : n₀≤W.heap.size) : KeepB n₀ Bo W (W.alloc ob):=fun b h1 _=>Below.heap_alloc W ob b (by omega)
theorem KeepB.putObj {n₀ Bo : Nat} (W : World) (l : Nat) (o' : Obj) (h : n₀≤l) : KeepB n₀ Bo W (W.putObj l o'):=fun b h1 _=>World.putObj_heap_other (by omega)
set_option maxRecDepth 100000 in
set_option maxHeartbeats 2000000 in
theorem uOx (F : Fence) (n : Nat) (hf : F.fn 168) (hro : F.round=none) (hn : 1≤n) (l Bs n₀ Bo b off len cap : Nat) (hlen : len≤3000000) (hb : b < n₀) (hbo : b≠Bo) (hBo : Bs≠Bo) {α : Type} (ix : α→Nat) (v0 v1 v2 v3 : α→Value) (el : Nat→α) (hix : ∀ k,ix (el k)=k)
  (J Jx : List α→World→Prop)
  (hY : ∀ pre x W,J pre W→pre.length < len→YieldAt F (n - 1) Tryz.prog l #[.int .i64 (ix x : Int), .agg #[v0 x,v1 x,v2 x,v3 x]] W fun e W' =>
   (e = .returned (.bool true)∧J (pre++[x]) W'∧KeepB n₀ Bo W W')∨(e = .returned (.bool false)∧Jx (pre++[x]) W'))
  (W : World) (hBs : W.cell? ⟨Bs,0,none⟩=some (.slice (some ⟨b,off,none⟩) len cap))
  (hc : ∀ j,j < len→W.cell? ⟨b,off + j * 4,none⟩=some (v0 (el j))∧W.cell? ⟨b,off + j * 4 + 1,none⟩=some (v1 (el j))∧W.cell? ⟨b,off + j * 4 + 2,none⟩=some (v2 (el j))∧W.cell? ⟨b,off + j * 4 + 3,none⟩=some (v3 (el j)))
  (hBn : Bs < n₀) (h0 : J [] W) :
  CallsIn F n Tryz.prog 168 #[.func (.yield l) #[] #[], .pointer (some ⟨Bs,0,none⟩)] W fun e W'=>(∃ v,e = .returned v) ∧
   ((∃ ys,ys=uDH el len 0∧J ys W')∨(∃ pre,True∧Jx pre W')):=by
 refine callsIn_of_wp Tryz.func168 rfl hf ?_ hro
 simp only [Tryz.ntmps168,List.size_toArray,List.length_cons,List.length_nil,Nat.reduceAdd,Nat.reduceSub,Array.replicate_succ,Array.replicate_zero,List.push_toArray,List.append_toArray,List.nil_append,List.cons_append]
 gi_wp2
 gi_loopw [3] (fun i wr=>∃ k : Nat,k≤len∧i = .int .i64 ((k : Int) - 1)∧J (uDH el len k) wr∧KeepB n₀ Bo W wr)
  (fun i _=>(intOf i + 1).toNat)
 case atStart=>exact ⟨len,Nat.le_refl _,by simp,by rw [uIr]; exact h0,KeepB.refl _ _ _⟩
 case round =>
  obtain ⟨k,hk,rfl,hJs,hnx⟩:=hrel
  cases k with
  | zero =>
   gi_wp2
   go_end0
   exact ⟨⟨_,rfl⟩, .inl ⟨_,rfl,hJs⟩⟩
  | succ k =>
   have hlt : k < len:=by omega
   obtain ⟨c0,c1,c2,c3⟩:=hc k hlt
   replace c0:=(hnx.cell (off + k * 4) hb hbo).trans c0
   replace c1:=(hnx.cell (off + k * 4 + 1) hb hbo).trans c1
   replace c2:=(hnx.cell (off + k * 4 + 2) hb hbo).trans c2
   replace c3:=(hnx.cell (off + k * 4 + 3) hb hbo).trans c3
   have cB:=(hnx.cell 0 hBn hBo).trans hBs
   obtain ⟨fn,tmps,assign,body,hy,hR⟩:=hY _ (el k) wr hJs (by rw [uNw]; omega)
   rw [hix] at hy
   have ek : ((k + 1 : Nat) : Int) - 1=(k : Int):=by omega
   rw [ek]
   gi_wp2
   refine hR.mono ?_
   rintro e W3 (⟨rfl,hJ3,hk3⟩ | ⟨rfl,hJx3⟩)
   ·gi_wp2
    go_roundw
    case rel=>exact ⟨k,by omega,by simp,by rw [uHe el hlt]; exact hJ3,hnx.trans hk3⟩
    case measure=>simp [intOf]
   ·gi_wp2
    refine bodyPost_ret (results_none rfl _ _ _) rfl ?_;exact ⟨⟨_,rfl⟩, .inr ⟨_,trivial,hJx3⟩⟩
theorem uLb (F : Fence) (n : Nat) (hf : F.fn 168) (hro : F.round=none) (hn : 1≤n) (Bs Bo b off len cap : Nat) (hlen : len≤3000000) {α : Type} (ix : α→Nat) (v0 v1 v2 v3 : α→Value) (el : Nat→α) (hix : ∀ k,ix (el k)=k) (w : World)
  (hb : b < w.heap.size) (hbo : b≠Bo) (hBo : Bs≠Bo) (hBn : Bs < w.heap.size) (hBs : w.cell? ⟨Bs,0,none⟩=some (.slice (some ⟨b,off,none⟩) len cap))
  (hc : ∀ j,j < len→w.cell? ⟨b,off + j * 4,none⟩=some (v0 (el j))∧w.cell? ⟨b,off + j * 4 + 1,none⟩=some (v1 (el j))∧w.cell? ⟨b,off + j * 4 + 2,none⟩=some (v2 (el j))∧w.cell? ⟨b,off + j * 4 + 3,none⟩=some (v3 (el j))) :
  SeqStopsK F n Tryz.prog 168 #[.pointer (some ⟨Bs,0,none⟩)] (fun x=>#[.int .i64 (ix x : Int), .agg #[v0 x,v1 x,v2 x,v3 x]]) (KeepB w.heap.size Bo) (fun ys=>ys=uDH el len 0) (fun _=>True) len w:=fun l J Jx W hW _ _ hY h0=>by
 have kc : ∀ {b' : Nat} (o : Nat),b' < w.heap.size→W.cell? ⟨b',o,none⟩=w.cell? ⟨b',o,none⟩:=fun o h=>hW.cell (p:=⟨_,o,none⟩) h
 exact uOx F n hf hro hn l Bs w.heap.size Bo b off len cap hlen hb hbo hBo ix v0 v1 v2 v3 el hix J Jx hY W ((kc 0 hBn).trans hBs) (fun j hj=>by
  obtain ⟨c0,c1,c2,c3⟩:=hc j hj
  exact ⟨(kc _ hb).trans c0,(kc _ hb).trans c1,(kc _ hb).trans c2,(kc _ hb).trans c3⟩) hBn h0
abbrev tInt (n : Int) : Value:=.int .i64 n
abbrev tStr (l : List UInt8) : Value:=.string ⟨l.toArray⟩
abbrev Elm (w : World) (S : Nat→Nat→Prop):={ x : Nat × T × Option Addr × Nat × Nat // Abs.CRep w S (.sl 4 (T.rows x.2.1.kids)) (.slice x.2.2.1 x.2.2.2.1 x.2.2.2.2)∧x.2.1.name.length≤9223372036854775807 }
def uB1 (t : T) {w : World} {S : Nat→Nat→Prop} (l : List (Elm w S)) : T:=l.foldl (fun out x=>uIL x.1.2.1 out) t
theorem uD3 (t : T) {w : World} {S : Nat→Nat→Prop} (l : List (Elm w S)) (x : Elm w S) : uB1 t (l++[x])=uIL x.1.2.1 (uB1 t l):=by simp [uB1]
theorem uMV {w : World} {S : Nat→Nat→Prop} {t : T} {a b c d : Value} (h0 : Abs.CRep w S (.i .i64 t.kind) a) (h1 : Abs.CRep w S (.s t.name) b) (h2 : Abs.CRep w S (.i .i64 t.sort) c) (h3 : Abs.CRep w S (.sl 4 (T.rows t.kids)) d) :
  a=tInt t.kind∧b=tStr t.name∧c=tInt t.sort∧(∃ p l k,d = .slice p l k)∧t.name.length≤9223372036854775807:=by
 cases h0; cases h2
 cases h1 with
 | s _ hm =>
 refine ⟨rfl,rfl,rfl,?_,hm⟩
 generalize T.rows t.kids=es at h3
 cases h3 <;> exact ⟨_,_,_,rfl⟩
theorem uGJ {W : World} {B : Nat} {t : TypeId} {a b c d : Value} (h : W.heap[B]? = some (.cells #[a,b,c,d] t (0,0))) (a' b' c' d' : Value) :
  ((((W.setCell ⟨B,0,none⟩ a').setCell ⟨B,1,none⟩ b').setCell ⟨B,2,none⟩ c').setCell ⟨B,3,none⟩ d').heap[B]? = some (.cells #[a',b',c',d'] t (0,0)):=by
 have h1:=heap_setCell_same W B 0 _ t a' h
 have h2:=heap_setCell_same _ B 1 _ t b' h1
 have h3:=heap_setCell_same _ B 2 _ t c' h2
 exact heap_setCell_same _ B 3 _ t d' h3
theorem heap_cells4' (W : World) {B k : Nat} (hk : k≠B) (a' b' c' d' : Value) :
  ((((W.setCell ⟨B,0,none⟩ a').setCell ⟨B,1,none⟩ b').setCell ⟨B,2,none⟩ c').setCell ⟨B,3,none⟩ d').heap[k]? = W.heap[k]? := by
 rw [Below.heap_setCell _ _ _ _ hk,Below.heap_setCell _ _ _ _ hk,Below.heap_setCell _ _ _ _ hk,Below.heap_setCell _ _ _ _ hk]
theorem uDZ {W W' : World} {b : Nat} (h : W'.heap[b]? = W.heap[b]?) (o : Nat) : W'.cell? ⟨b,o,none⟩=W.cell? ⟨b,o,none⟩:=by
 unfold World.cell?; dsimp only; rw [h]
def TupI (w : World) (S : Nat→Nat→Prop) (z : Array Value) (last : T) (pre : List (Elm w S)) (W : World) : Prop :=
 (∃ (S' : Nat→Nat→Prop) (p : Option Addr) (l k : Nat),W.heap[w.heap.size + 1]? = some (.cells #[tInt (uB1 last pre).kind,tStr (uB1 last pre).name,tInt (uB1 last pre).sort, .slice p l k] 39 (0,0))∧W.heap[w.heap.size]? = some (.cells z 39 (0,0)) ∧
  Abs.CRep W S' (.sl 4 (T.rows (uB1 last pre).kids)) (.slice p l k)∧(uB1 last pre).name.length≤9223372036854775807∧(∀ b o,S b o→S' b o) ∧ ∀ b o,S' b o→S b o∨(w.heap.size + 2≤b ∧ ∃ v,W.cell? ⟨b,o,none⟩=some v))∧Below w.heap.size w W∧w.heap.size + 3≤W.heap.size
theorem uKw (w : World) (S : Nat→Nat→Prop) (hS : ∀ b o,S b o→b < w.heap.size) (z : Array Value) (last : T) (B : Nat) (hB : w.heap.size≤B) : OwnFrom B (TupI w S z last):=by
 rintro pre X Y row ⟨⟨S',p,l,k,h1,h2,h3,hn,h4,h5⟩,h6,h7⟩ hg hr
 have hkeep : ∀ (k : Nat) (o : Obj),X.heap[k]? = some o→o.isCells=true→Y.heap[k]? = some o:=by
  intro k o hk ho
  refine (hg.block k (Array.getElem?_eq_some_iff.1 hk).1 fun e=>?_).trans hk
  obtain ⟨_,o',h7,h8⟩:=hr k e.symm
  rw [hk] at h7; cases h7; rw [ho] at h8; cases h8
 have hcell : ∀ (b o : Nat) (v : Value),X.cell? ⟨b,o,none⟩=some v→Y.cell? ⟨b,o,none⟩=some v:=by
  intro b o v hv
  obtain ⟨x,hx,hxc⟩:=cells_of_cell hv
  unfold World.cell? at hv ⊢
  dsimp only at hv hx ⊢
  rw [hkeep b x hx hxc]; rw [hx] at hv; exact hv
 have hbl : Below w.heap.size w Y:=h6.grown hg h6.size (fun k e=>Nat.le_trans hB (hr k e).1)
 refine ⟨⟨S',p,l,k,hkeep _ _ h1 rfl,hkeep _ _ h2 rfl,Abs.CRep.mono (fun _ _ h=>h) (fun b o hs=>?_) h3,hn,h4,fun b o hs=>?_⟩,hbl,Nat.le_trans h7 hg.size⟩
 ·rcases h5 b o hs with q | ⟨_,v,q⟩
  ·rw [hbl.cell (p:=⟨b,o,none⟩) (hS b o q),h6.cell (p:=⟨b,o,none⟩) (hS b o q)]
  ·rw [q,hcell b o v q]
 ·rcases h5 b o hs with q | ⟨q1,v,q⟩
  ·exact .inl q
  ·exact .inr ⟨q1,v,hcell b o v q⟩
theorem tupT_cons' (t : T) (ts : List T) (h : ts≠[]) : tupT (t :: ts)=uIL t (tupT ts):=by
 cases ts with
 | nil=>exact absurd rfl h
 | cons u l=>rfl
theorem uGK {w : World} {S : Nat→Nat→Prop} (el : Nat→Elm w S) (ts : List T) (m : Nat) (hm : ts.length=m + 1) (he : ∀ k,k < m→(el k).1.2.1=ts.getD k default) : ∀ d j,j + d=m→uB1 (ts.getD m default) (uDH el m j)=tupT (ts.drop j)
 | 0,j,h=>by
  have : j=m:=by omega
  subst this
  rw [uIr,List.drop_eq_getElem_cons (by omega),List.drop_of_length_le (by omega)]
  show ts.getD j default=ts[j]
  rw [List.getD_eq_getElem?_getD,List.getElem?_eq_getElem (by omega)]; rfl
 | d + 1,j,h=>by
  rw [uHe el (by omega),uD3,uGK el ts m hm he d (j + 1) (by omega),he j (by omega),List.drop_eq_getElem_cons (i := j) (by omega),tupT_cons' _ _ (by intro q; have := congrArg List.length q; simp at this; omega),List.getD_eq_getElem?_getD,List.getElem?_eq_getElem (by omega)]
  rfl
abbrev elV0 {w : World} {S : Nat→Nat→Prop} (x : Elm w S) : Value:=tInt x.1.2.1.kind
abbrev elV1 {w : World} {S : Nat→Nat→Prop} (x : Elm w S) : Value:=tStr x.1.2.1.name
abbrev elV2 {w : World} {S : Nat→Nat→Prop} (x : Elm w S) : Value:=tInt x.1.2.1.sort
abbrev elV3 {w : World} {S : Nat→Nat→Prop} (x : Elm w S) : Value:=.slice x.1.2.2.1 x.1.2.2.2.1 x.1.2.2.2.2
set_option maxRecDepth 100000 in
set_option maxHeartbeats 4000000 in
theorem uPF (F : Fence) (n : Nat) (h1f : F.fn 115) (h2f : F.fn 152) (h3f : F.fn 168) (hro : F.round=none) (hn : 3≤n)
  (w : World) (S : Nat→Nat→Prop) (hS : ∀ b o,S b o→b < w.heap.size) (ts : List T) (hts : 0 < ts.length) (hmax : ts.length≤3000000) (v : Value) (hv : Abs.CRep w S (.sl 4 (T.rows ts)) v) :
  CallsIn F n Tryz.prog 115 #[v] w fun e W'=>∃ (vs : List Value) (S' : Nat→Nat→Prop),e = .returned (.agg vs.toArray)∧Abs.All2 (Abs.CRep W' S') (tupT ts).cells vs∧Below w.heap.size w W'∧(∀ b o,S b o→S' b o) ∧ ∀ b o,S' b o→S b o∨(w.heap.size≤b∧b < W'.heap.size):=by
 have h1 : 1≤n:=by omega
 have hrl:=T.rows_len ts
 generalize hes : T.rows ts=es at hv hrl
 cases hv with
 | emp=>simp at hrl; omega
 | sl _ _ b off len cap vals hl hc hm hsz hcell hrep =>
 have hlen : len=ts.length:=by omega
 subst hlen
 have hrow : ∀ i,i < ts.length→es[i]? = some (ts.getD i default).cells:=fun i hi=>by rw [← hes]; exact T.rows_at hi
 have hb : b < w.heap.size:=hS _ _ (hcell 0 0 hts (by omega)).1
 have hel : ∀ i,i < ts.length → ∃ p l k,Abs.CRep w S (.sl 4 (T.rows (ts.getD i default).kids)) (.slice p l k)∧(ts.getD i default).name.length≤9223372036854775807 ∧
   w.cell? ⟨b,off + i * 4,none⟩=some (tInt (ts.getD i default).kind)∧w.cell? ⟨b,off + i * 4 + 1,none⟩=some (tStr (ts.getD i default).name)∧w.cell? ⟨b,off + i * 4 + 2,none⟩=some (tInt (ts.getD i default).sort)∧w.cell? ⟨b,off + i * 4 + 3,none⟩=some (.slice p l k):=by
  intro i hi
  have hr:=hrow i hi
  have r0:=hrep _ _ 0 _ hr rfl
  have r1:=hrep _ _ 1 _ hr rfl
  have r2:=hrep _ _ 2 _ hr rfl
  have r3:=hrep _ _ 3 _ hr rfl
  obtain ⟨q0,q1,q2,⟨p,l,k,q3⟩,q4⟩:=uMV r0 r1 r2 r3
  have c0:=(hcell i 0 hi (by omega)).2
  have c1:=(hcell i 1 hi (by omega)).2
  have c2:=(hcell i 2 hi (by omega)).2
  have c3:=(hcell i 3 hi (by omega)).2
  rw [q0] at c0; rw [q1] at c1; rw [q2] at c2; rw [q3] at c3 r3
  exact ⟨p,l,k,r3,q4,c0,c1,c2,c3⟩
 obtain ⟨m,hm1⟩ : ∃ m,ts.length=m + 1:=⟨ts.length - 1,by omega⟩
 have hex : ∀ i,∃ x : Elm w S,x.1.1=i∧(i < m→x.1.2.1=ts.getD i default∧w.cell? ⟨b,off + i * 4,none⟩=some (elV0 x)∧w.cell? ⟨b,off + i * 4 + 1,none⟩=some (elV1 x)∧w.cell? ⟨b,off + i * 4 + 2,none⟩=some (elV2 x)∧w.cell? ⟨b,off + i * 4 + 3,none⟩=some (elV3 x)):=by
  intro i
  by_cases hi : i < m
  ·obtain ⟨p,l,k,r,hnl,q0,q1,q2,q3⟩:=hel i (by omega)
   exact ⟨⟨(i,ts.getD i default,p,l,k),r,hnl⟩,rfl,fun _=>⟨rfl,q0,q1,q2,q3⟩⟩
  ·obtain ⟨p,l,k,r,hnl,q0,q1,q2,q3⟩:=hel m (by omega)
   exact ⟨⟨(i,ts.getD m default,p,l,k),r,hnl⟩,rfl,fun q=>absurd q hi⟩
 obtain ⟨el,hel1⟩ : ∃ el : Nat→Elm w S,∀ i,(el i).1.1=i∧(i < m→(el i).1.2.1=ts.getD i default∧w.cell? ⟨b,off + i * 4,none⟩=some (elV0 (el i))∧w.cell? ⟨b,off + i * 4 + 1,none⟩=some (elV1 (el i))∧w.cell? ⟨b,off + i * 4 + 2,none⟩=some (elV2 (el i))∧w.cell? ⟨b,off + i * 4 + 3,none⟩=some (elV3 (el i))) :=
  ⟨fun i=>Classical.choose (hex i),fun i=>Classical.choose_spec (hex i)⟩
 obtain ⟨lp,ll,lk,lr,ln,c0,c1,c2,c3⟩:=hel m (by omega)
 have hfold:=uGK el ts m hm1 (fun k hk=>((hel1 k).2 hk).1) m 0 (by omega)
 clear hel hex hcell hrep hsz hrow
 rw [List.drop_zero] at hfold
 generalize hlast : ts.getD m default=last at *
 have e1 : ((m + 1 : Nat) : Int) - 1=(m : Int):=by omega
 rw [hm1]
 rw [hm1] at hc hm
 refine callsIn_of_wp_marks Tryz.func115 rfl h1f ?_ hro
 simp only [Tryz.ntmps115,List.size_toArray,List.length_cons,List.length_nil,Nat.reduceAdd,Nat.reduceSub,Array.replicate_succ,Array.replicate_zero,List.push_toArray,List.append_toArray,List.nil_append,List.cons_append]
 gi_wp2_with (gi_at_call 152; refine (uPl F (n - 1) h2f hro _ _ _ _).mono ?_; rintro e w' ⟨rfl,rfl⟩)
 have hB0 : Below w.heap.size w (((w.alloc (.cells #[tInt 0, .string ⟨#[]⟩,tInt 0, .slice none 0 0] 39)).alloc (.cells #[tInt last.kind,tStr last.name,tInt last.sort, .slice lp ll lk] 39)).alloc (.cells #[.slice (some ⟨b,off,none⟩) m cap] 37)):=(((Below.refl _ w).alloc (Nat.le_refl _) _).alloc (by simp) _).alloc (by simp; omega) _
 obtain ⟨W0,hW0⟩ : ∃ W0,(((w.alloc (.cells #[tInt 0, .string ⟨#[]⟩,tInt 0, .slice none 0 0] 39)).alloc (.cells #[tInt last.kind,tStr last.name,tInt last.sort, .slice lp ll lk] 39)).alloc (.cells #[.slice (some ⟨b,off,none⟩) m cap] 37))=W0:=⟨_,rfl⟩
 have hsz : W0.heap.size=w.heap.size + 3:=by rw [← hW0]; simp
 have hR : W0.heap[w.heap.size]? = some (.cells #[tInt 0, .string ⟨#[]⟩,tInt 0, .slice none 0 0] 39 (0,0)):=by
  rw [← hW0]; exact ((Below.heap_alloc _ _ _ (by simp; omega)).trans (Below.heap_alloc _ _ _ (by simp))).trans (World.alloc_heap_new w _)
 have hO : W0.heap[w.heap.size + 1]? = some (.cells #[tInt last.kind,tStr last.name,tInt last.sort, .slice lp ll lk] 39 (0,0)):=by
  rw [← hW0]; refine (Below.heap_alloc _ _ _ (by simp)).trans ?_
  have := World.alloc_heap_new (w.alloc (.cells #[tInt 0, .string ⟨#[]⟩,tInt 0, .slice none 0 0] 39)) (.cells #[tInt last.kind,tStr last.name,tInt last.sort, .slice lp ll lk] 39); rwa [World.size_alloc] at this
 have hN : W0.heap[w.heap.size + 1 + 1]? = some (.cells #[.slice (some ⟨b,off,none⟩) m cap] 37 (0,0)):=by
  rw [← hW0]; have := World.alloc_heap_new ((w.alloc (.cells #[tInt 0, .string ⟨#[]⟩,tInt 0, .slice none 0 0] 39)).alloc (.cells #[tInt last.kind,tStr last.name,tInt last.sort, .slice lp ll lk] 39)) (.cells #[.slice (some ⟨b,off,none⟩) m cap] 37); rwa [World.size_alloc,World.size_alloc] at this
 rw [hW0] at hB0
 have hW0' : (((w.alloc (.cells #[.int .i64 0, .string ⟨#[]⟩, .int .i64 0, .slice none 0 0] 39)).alloc (.cells #[.int .i64 last.kind, .string ⟨last.name.toArray⟩, .int .i64 last.sort, .slice lp ll lk] 39)).alloc (.cells #[.slice (some ⟨b,off,none⟩) m cap] 37))=W0:=hW0
 simp only [hW0']
 clear hW0 hW0'
 refine wpIn_rangeFunc_ownH hro h1 (gf:=168) (lb:=#[.pointer (some ⟨w.heap.size + 1 + 1,0,none⟩)]) rfl h3f (enters_of Tryz.func168 (by kernel_rfl) rfl)
  (uLb F (n - 1) h3f hro (by omega) (w.heap.size + 1 + 1) (w.heap.size + 1) b off m cap (by omega) (fun x : Elm w S=>x.1.1) elV0 elV1 elV2 elV3 el (fun k=>(hel1 k).1) W0 (by omega) (by omega) (by omega) (by omega)
   (by unfold World.cell?; rw [hN]; rfl)
   (fun j hj=>by
    obtain ⟨_,q⟩:=hel1 j
    obtain ⟨_,q0,q1,q2,q3⟩:=q hj
    exact ⟨(hB0.cell (p:=⟨b,_,none⟩) hb).trans q0,(hB0.cell (p:=⟨b,_,none⟩) hb).trans q1,(hB0.cell (p:=⟨b,_,none⟩) hb).trans q2,(hB0.cell (p:=⟨b,_,none⟩) hb).trans q3⟩))
  KeepB.trans (fun W l o o' hl _ _ _=>KeepB.putObj W l o' hl) (Below.refl _ _) (fun _=>rfl)
  (TupI w S #[tInt 0, .string ⟨#[]⟩,tInt 0, .slice none 0 0] last) (fun _ _ _=>False) (uKw w S hS _ last _ (by omega)) (fun _ _ _ _ _ hs _ _=>hs)
  ?start
  (fun x a' W=>∃ Bx,w.heap.size + 2 < Bx∧W.heap[Bx]? = some (.cells #[elV0 x,elV1 x,elV2 x,elV3 x] 39 (0,0))∧a' = { tmps:=#[Value.slice (some { block:=b,off:=off }) (m + 1) cap,undef,Value.pointer (some { block:=w.heap.size,off:=0 }),Value.pointer (some { block:=w.heap.size + 1,off:=0 }),undef,Value.pointer (some { block:=Bx,off:=0 }),Value.slice (some { block:=b,off:=off }) (m + 1) cap,Value.slice (some { block:=b,off:=off }) (m + 1) cap,Value.int IntKind.i64 ((m : Int) + 1),Value.int IntKind.i64 ↑m,Value.pointer (some { block:=b,off:=off + m * 4 }),Value.agg #[tInt last.kind,tStr last.name,tInt last.sort,Value.slice lp ll lk],Value.slice (some { block:=b,off:=off }) (m + 1) cap,Value.slice (some { block:=b,off:=off }) (m + 1) cap,Value.int IntKind.i64 ((m : Int) + 1),Value.int IntKind.i64 ↑m,Value.slice (some { block:=b,off:=off }) m cap,Value.func (Fn.func 168) #[] #[Value.pointer (some { block:=w.heap.size + 1 + 1,off:=0 })], .int .i64 x.1.1, .agg #[elV0 x,elV1 x,elV2 x,elV3 x],undef,undef,undef,undef,undef],defers:=[] })
  ?axOwn ?assign ?body ?done ?stop
 case start=>exact ⟨⟨S,lp,ll,lk,hO,hR,Abs.CRep.mono (fun _ _ h=>h) (fun b o hs=>hB0.cell (p:=⟨b,o,none⟩) (hS b o hs)) lr,ln,fun _ _ h=>h,fun _ _ h=>.inl h⟩,hB0,by omega⟩
 case axOwn =>
  rintro x a' _ X Y row ⟨Bx,q1,q2,q3⟩ hg hr
  refine ⟨Bx,q1,(hg.block Bx (Array.getElem?_eq_some_iff.1 q2).1 fun e=>?_).trans q2,q3⟩
  obtain ⟨_,o',h7,h8⟩:=hr Bx e.symm
  rw [q2] at h7; cases h7; cases h8
 case assign =>
  rintro l pre x W K hI hK
  have hsW:=hI.2.2
  gi_wp2
  exact hK _ _ ((KeepsOthers.alloc _ _).from _) (KeepB.alloc W _ (by omega)) ((uKw w S hS _ last w.heap.size (Nat.le_refl _)).alloc _ hI) ⟨W.heap.size,by omega,World.alloc_heap_new W _,rfl⟩
 case body =>
  rintro l pre x a' W hl hrr ⟨⟨S',p,l',k,h1,h2,h3,hn',h4,h5⟩,h6,h7⟩ ⟨Bx,hBx,bX,rfl⟩ hlt
  have cO0 : W.cell? ⟨w.heap.size + 1,0,none⟩=some (tInt (uB1 last pre).kind):=by unfold World.cell?; rw [h1]; rfl
  have cO1 : W.cell? ⟨w.heap.size + 1,1,none⟩=some (tStr (uB1 last pre).name):=by unfold World.cell?; rw [h1]; rfl
  have cO2 : W.cell? ⟨w.heap.size + 1,2,none⟩=some (tInt (uB1 last pre).sort):=by unfold World.cell?; rw [h1]; rfl
  have cO3 : W.cell? ⟨w.heap.size + 1,3,none⟩=some (.slice p l' k):=by unfold World.cell?; rw [h1]; rfl
  have cX0 : W.cell? ⟨Bx,0,none⟩=some (elV0 x):=by unfold World.cell?; rw [bX]; rfl
  have cX1 : W.cell? ⟨Bx,1,none⟩=some (elV1 x):=by unfold World.cell?; rw [bX]; rfl
  have cX2 : W.cell? ⟨Bx,2,none⟩=some (elV2 x):=by unfold World.cell?; rw [bX]; rfl
  have cX3 : W.cell? ⟨Bx,3,none⟩=some (elV3 x):=by unfold World.cell?; rw [bX]; rfl
  have f0 : W.frozen? ⟨w.heap.size + 1,0,none⟩=false:=by unfold World.frozen?; rw [h1]; rfl
  have f1 : W.frozen? ⟨w.heap.size + 1,1,none⟩=false:=by unfold World.frozen?; rw [h1]; rfl
  have f2 : W.frozen? ⟨w.heap.size + 1,2,none⟩=false:=by unfold World.frozen?; rw [h1]; rfl
  have f3 : W.frozen? ⟨w.heap.size + 1,3,none⟩=false:=by unfold World.frozen?; rw [h1]; rfl
  have hltW : w.heap.size + 1 < W.heap.size:=(Array.getElem?_eq_some_iff.1 h1).1
  have hA : ∀ (ob : Obj),(W.alloc ob).heap[w.heap.size + 1]? = some (.cells #[tInt (uB1 last pre).kind,tStr (uB1 last pre).name,tInt (uB1 last pre).sort, .slice p l' k] 39 (0,0)):=fun ob=>(Below.heap_alloc W ob _ hltW).trans h1
  have gO0 : ∀ ob : Obj,(W.alloc ob).cell? ⟨w.heap.size + 1,0,none⟩=some (tInt (uB1 last pre).kind):=fun ob=>by unfold World.cell?; rw [hA]; rfl
  have gO1 : ∀ ob : Obj,(W.alloc ob).cell? ⟨w.heap.size + 1,1,none⟩=some (tStr (uB1 last pre).name):=fun ob=>by unfold World.cell?; rw [hA]; rfl
  have gO2 : ∀ ob : Obj,(W.alloc ob).cell? ⟨w.heap.size + 1,2,none⟩=some (tInt (uB1 last pre).sort):=fun ob=>by unfold World.cell?; rw [hA]; rfl
  have gO3 : ∀ ob : Obj,(W.alloc ob).cell? ⟨w.heap.size + 1,3,none⟩=some (.slice p l' k):=fun ob=>by unfold World.cell?; rw [hA]; rfl
  have e0 : ∀ ob : Obj,(W.alloc ob).frozen? ⟨w.heap.size + 1,0,none⟩=false:=fun ob=>by unfold World.frozen?; rw [hA]; rfl
  have e1 : ∀ ob : Obj,(W.alloc ob).frozen? ⟨w.heap.size + 1,1,none⟩=false:=fun ob=>by unfold World.frozen?; rw [hA]; rfl
  have e2 : ∀ ob : Obj,(W.alloc ob).frozen? ⟨w.heap.size + 1,2,none⟩=false:=fun ob=>by unfold World.frozen?; rw [hA]; rfl
  have e3 : ∀ ob : Obj,(W.alloc ob).frozen? ⟨w.heap.size + 1,3,none⟩=false:=fun ob=>by unfold World.frozen?; rw [hA]; rfl
  clear hA
  gi_wp2
  clear gO0 gO1 gO2 gO3 e0 e1 e2 e3 cO0 cO1 cO2 cO3 cX0 cX1 cX2 cX3 f0 f1 f2 f3
  obtain ⟨W1,hW1⟩ : ∃ W1,((((W.setCell ⟨w.heap.size + 1,0,none⟩ (.int .i64 3)).setCell ⟨w.heap.size + 1,1,none⟩ (.string ⟨#[112,97,105,114]⟩)).setCell ⟨w.heap.size + 1,2,none⟩ (.int .i64 0)).setCell ⟨w.heap.size + 1,3,none⟩ (.slice (some ⟨W.heap.size,0,none⟩) 2 2))=W1:=⟨_,rfl⟩
  have hs1 : W1.heap.size=W.heap.size:=by rw [← hW1]; simp [World.setCell]
  have k1 : W1.heap[w.heap.size + 1]? = some (.cells #[tInt 3, .string ⟨#[112,97,105,114]⟩,tInt 0, .slice (some ⟨W.heap.size,0,none⟩) 2 2] 39 (0,0)):=by rw [← hW1]; exact uGJ h1 _ _ _ _
  have k2 : ∀ j,j≠w.heap.size + 1→W1.heap[j]? = W.heap[j]? := fun j hj=>by rw [← hW1]; exact heap_cells4' W hj _ _ _ _
  have ko : KeepsOthers W W1:=by rw [← hW1]; exact (((KeepsOthers.setCell _ _ _).trans (KeepsOthers.setCell _ _ _)).trans (KeepsOthers.setCell _ _ _)).trans (KeepsOthers.setCell _ _ _)
  have kb : Below w.heap.size W W1:=by rw [← hW1]; exact ((((Below.refl _ W).setCell (p:=⟨w.heap.size + 1,0,none⟩) (by simp) _).setCell (p:=⟨w.heap.size + 1,1,none⟩) (by simp) _).setCell (p:=⟨w.heap.size + 1,2,none⟩) (by simp) _).setCell (p:=⟨w.heap.size + 1,3,none⟩) (by simp) _
  rw [hW1]
  clear hW1
  obtain ⟨ob,hob⟩ : ∃ ob : Obj,Obj.cells #[elV0 x,elV1 x,elV2 x,elV3 x,tInt (uB1 last pre).kind,tStr (uB1 last pre).name,tInt (uB1 last pre).sort,Value.slice p l' k] 39 (0,0)=ob:=⟨_,rfl⟩
  have knew:=World.alloc_heap_new W1 ob
  rw [hs1] at knew
  have kold : ∀ j,j < W.heap.size→j≠w.heap.size + 1→(W1.alloc ob).heap[j]? = W.heap[j]? := fun j hj hne=>(Below.heap_alloc W1 ob j (by omega)).trans (k2 j hne)
  have hb1 : Below w.heap.size W (W1.alloc ob):=kb.alloc (by omega) ob
  rw [hob]
  refine ⟨(ko.trans (KeepsOthers.alloc W1 ob)).from _,fun j hj hne=>kold j (by omega) hne,⟨fun b o=>S' b o∨(b=W.heap.size∧o < 8),some ⟨W.heap.size,0,none⟩,2,2,?_,?_,?_,?_,fun b o hs=>.inl (h4 b o hs),?_⟩,h6.trans hb1,by rw [World.size_alloc]; omega⟩
  ·rw [uD3]
   exact (Below.heap_alloc W1 ob _ (by omega)).trans k1
  ·exact (kold _ (by omega) (by omega)).trans h2
  ·have hS' : ∀ b o,S' b o→(W1.alloc ob).cell? ⟨b,o,none⟩=W.cell? ⟨b,o,none⟩:=fun b o hs=>by
    rcases h5 b o hs with q | ⟨q1,v,q⟩
    ·exact hb1.cell (p:=⟨b,o,none⟩) (hS b o q)
    ·exact uDZ (kold b (World.block_lt_of_cell? (a:=⟨b,o,none⟩) W q) (by omega)) o
   have hSS : ∀ b o,S b o→(W1.alloc ob).cell? ⟨b,o,none⟩=w.cell? ⟨b,o,none⟩:=fun b o hs=>(h6.trans hb1).cell (p:=⟨b,o,none⟩) (hS b o hs)
   have r1:=Abs.CRep.mono (S':=fun b o=>S' b o∨(b=W.heap.size∧o < 8)) (fun b o hs=>.inl (h4 b o hs)) hSS x.2.1
   have r2:=Abs.CRep.mono (S':=fun b o=>S' b o∨(b=W.heap.size∧o < 8)) (fun b o hs=>.inl hs) hS' h3
   rw [uD3]
   have hc8 : ∀ o,(W1.alloc ob).cell? ⟨W.heap.size,o,none⟩ = #[elV0 x,elV1 x,elV2 x,elV3 x,tInt (uB1 last pre).kind,tStr (uB1 last pre).name,tInt (uB1 last pre).sort,Value.slice p l' k][o]? := fun o=>by
    unfold World.cell?; dsimp only; rw [knew,← hob]; rfl
   refine Abs.CRep.mk_sl (by rw [T.rows_len]; rfl) (Nat.le_refl _) (by omega) fun i row hi=>?_
   have hrr : T.rows (uIL x.1.2.1 (uB1 last pre)).kids=[x.1.2.1.cells,(uB1 last pre).cells]:=by rw [T.rows_eq]; rfl
   rw [hrr] at hi
   match i,hi with
   | 0,hi =>
    simp only [List.getElem?_cons_zero,Option.some.injEq] at hi
    subst hi
    refine ⟨rfl,fun j c hj=>?_⟩
    match j,hj with
    | 0,hj=>simp [T.cells] at hj; subst hj; exact ⟨.inr ⟨rfl,by omega⟩,_,(hc8 _).trans rfl, .i _ _⟩
    | 1,hj=>simp [T.cells] at hj; subst hj; exact ⟨.inr ⟨rfl,by omega⟩,_,(hc8 _).trans rfl, .s _ x.2.2⟩
    | 2,hj=>simp [T.cells] at hj; subst hj; exact ⟨.inr ⟨rfl,by omega⟩,_,(hc8 _).trans rfl, .i _ _⟩
    | 3,hj=>simp [T.cells] at hj; subst hj; exact ⟨.inr ⟨rfl,by omega⟩,_,(hc8 _).trans rfl,r1⟩
    | j + 4,hj=>simp [T.cells] at hj
   | 1,hi =>
    simp only [List.getElem?_cons_succ,List.getElem?_cons_zero,Option.some.injEq] at hi
    subst hi
    refine ⟨rfl,fun j c hj=>?_⟩
    match j,hj with
    | 0,hj=>simp [T.cells] at hj; subst hj; exact ⟨.inr ⟨rfl,by omega⟩,_,(hc8 _).trans rfl, .i _ _⟩
    | 1,hj=>simp [T.cells] at hj; subst hj; exact ⟨.inr ⟨rfl,by omega⟩,_,(hc8 _).trans rfl, .s _ hn'⟩
    | 2,hj=>simp [T.cells] at hj; subst hj; exact ⟨.inr ⟨rfl,by omega⟩,_,(hc8 _).trans rfl, .i _ _⟩
    | 3,hj=>simp [T.cells] at hj; subst hj; exact ⟨.inr ⟨rfl,by omega⟩,_,(hc8 _).trans rfl,r2⟩
    | j + 4,hj=>simp [T.cells] at hj
   | i + 2,hi=>simp at hi
  ·rw [uD3]; show wPair.length≤_; decide
  ·rintro b o (hs | ⟨rfl,ho⟩)
   ·rcases h5 b o hs with q | ⟨q1,v,q⟩
    ·exact .inl q
    ·exact .inr ⟨q1,v,(uDZ (kold b (World.block_lt_of_cell? (a:=⟨b,o,none⟩) W q) (by omega)) o).trans q⟩
   ·refine .inr ⟨by omega,?_⟩
    unfold World.cell?
    dsimp only
    rw [knew,← hob]
    exact ⟨_,Array.getElem?_eq_getElem (by simpa using ho)⟩
 case done =>
  rintro D ys W hD rfl ⟨⟨S',p,l',k,h1,h2,h3,hn',h4,h5⟩,h6,h7⟩ hK
  have cO0 : W.cell? ⟨w.heap.size + 1,0,none⟩=some (tInt (uB1 last (uDH el m 0)).kind):=by unfold World.cell?; rw [h1]; rfl
  have cO1 : W.cell? ⟨w.heap.size + 1,1,none⟩=some (tStr (uB1 last (uDH el m 0)).name):=by unfold World.cell?; rw [h1]; rfl
  have cO2 : W.cell? ⟨w.heap.size + 1,2,none⟩=some (tInt (uB1 last (uDH el m 0)).sort):=by unfold World.cell?; rw [h1]; rfl
  have cO3 : W.cell? ⟨w.heap.size + 1,3,none⟩=some (.slice p l' k):=by unfold World.cell?; rw [h1]; rfl
  have cR0 : W.cell? ⟨w.heap.size,0,none⟩=some (tInt 0):=by unfold World.cell?; rw [h2]; rfl
  have cR1 : W.cell? ⟨w.heap.size,1,none⟩=some (.string ⟨#[]⟩):=by unfold World.cell?; rw [h2]; rfl
  have cR2 : W.cell? ⟨w.heap.size,2,none⟩=some (tInt 0):=by unfold World.cell?; rw [h2]; rfl
  have cR3 : W.cell? ⟨w.heap.size,3,none⟩=some (.slice none 0 0):=by unfold World.cell?; rw [h2]; rfl
  have f0 : W.frozen? ⟨w.heap.size,0,none⟩=false:=by unfold World.frozen?; rw [h2]; rfl
  have f1 : W.frozen? ⟨w.heap.size,1,none⟩=false:=by unfold World.frozen?; rw [h2]; rfl
  have f2 : W.frozen? ⟨w.heap.size,2,none⟩=false:=by unfold World.frozen?; rw [h2]; rfl
  have f3 : W.frozen? ⟨w.heap.size,3,none⟩=false:=by unfold World.frozen?; rw [h2]; rfl
  gi_wp2
  clear cO0 cO1 cO2 cO3 cR0 cR1 cR2 cR3 f0 f1 f2 f3
  rw [hfold] at h1 h3 hn'
  obtain ⟨W1,hW1⟩ : ∃ W1,((((W.setCell ⟨w.heap.size,0,none⟩ (.int .i64 (tupT ts).kind)).setCell ⟨w.heap.size,1,none⟩ (.string ⟨(tupT ts).name.toArray⟩)).setCell ⟨w.heap.size,2,none⟩ (.int .i64 (tupT ts).sort)).setCell ⟨w.heap.size,3,none⟩ (.slice p l' k))=W1:=⟨_,rfl⟩
  have hs1 : W1.heap.size=W.heap.size:=by rw [← hW1]; simp [World.setCell]
  have k1 : W1.heap[w.heap.size]? = some (.cells #[tInt (tupT ts).kind,tStr (tupT ts).name,tInt (tupT ts).sort, .slice p l' k] 39 (0,0)):=by rw [← hW1]; exact uGJ h2 _ _ _ _
  have k2 : ∀ j,j≠w.heap.size→W1.heap[j]? = W.heap[j]? := fun j hj=>by rw [← hW1]; exact heap_cells4' W hj _ _ _ _
  have kb : Below w.heap.size W W1:=by rw [← hW1]; exact ((((Below.refl _ W).setCell (p:=⟨w.heap.size,0,none⟩) (by simp) _).setCell (p:=⟨w.heap.size,1,none⟩) (by simp) _).setCell (p:=⟨w.heap.size,2,none⟩) (by simp) _).setCell (p:=⟨w.heap.size,3,none⟩) (by simp) _
  rw [hW1]
  clear hW1
  have hDne : D≠w.heap.size:=by omega
  have hK' : W1.heap[D]? = some (.deferred (some [])):=(k2 D hDne).trans hK
  refine ⟨by simp, .inl ⟨_,_,rfl,run_takeDeferred hK',?_⟩⟩
  have k3 : (W1.putObj D (.deferred none)).heap[w.heap.size]? = some (.cells #[tInt (tupT ts).kind,tStr (tupT ts).name,tInt (tupT ts).sort, .slice p l' k] 39 (0,0)):=(World.putObj_heap_other hDne.symm).trans k1
  have hb1 : Below w.heap.size W (W1.putObj D (.deferred none)):=kb.trans (belowK_b (w:=w) (Nat.le_refl _) W1 D _ _ (by omega) hK' rfl rfl)
  have hold : ∀ b o,S' b o→(W1.putObj D (.deferred none)).cell? ⟨b,o,none⟩=W.cell? ⟨b,o,none⟩:=fun b o hs=>by
   rcases h5 b o hs with q | ⟨q1,v,q⟩
   ·exact hb1.cell (p:=⟨b,o,none⟩) (hS b o q)
   ·have hbD : b≠D:=by
     rintro rfl
     obtain ⟨y,hy,hyc⟩:=cells_of_cell q
     rw [show W.heap[b]? = _ from hK] at hy
     cases hy; cases hyc
    exact uDZ ((World.putObj_heap_other hbD).trans (k2 b (by omega))) o
  have z0 : (W1.putObj D (.deferred none)).cell? ⟨w.heap.size,0,none⟩=some (tInt (tupT ts).kind):=by unfold World.cell?; rw [k3]; rfl
  have z1 : (W1.putObj D (.deferred none)).cell? ⟨w.heap.size,1,none⟩=some (tStr (tupT ts).name):=by unfold World.cell?; rw [k3]; rfl
  have z2 : (W1.putObj D (.deferred none)).cell? ⟨w.heap.size,2,none⟩=some (tInt (tupT ts).sort):=by unfold World.cell?; rw [k3]; rfl
  have z3 : (W1.putObj D (.deferred none)).cell? ⟨w.heap.size,3,none⟩=some (.slice p l' k):=by unfold World.cell?; rw [k3]; rfl
  refine ⟨.agg #[tInt (tupT ts).kind,tStr (tupT ts).name,tInt (tupT ts).sort, .slice p l' k],?_,[tInt (tupT ts).kind,tStr (tupT ts).name,tInt (tupT ts).sort, .slice p l' k],S',rfl,⟨.i _ _, .s _ hn', .i _ _,Abs.CRep.mono (fun _ _ h=>h) hold h3,trivial⟩,h6.trans hb1,h4,fun b o hs=>?_⟩
  ·simp [results,Tryz.f115,go_sem,z0,z1,z2,z3]
  ·rcases h5 b o hs with q | ⟨q1,v,q⟩
   ·exact .inl q
   ·have := World.block_lt_of_cell? (a := ⟨b,o,none⟩) W q
    have hsz5:=hb1.size
    exact .inr ⟨by omega,Nat.lt_of_lt_of_le this hsz5⟩
 case stop=>rintro D c pre W _ _ h _; exact h.elim
theorem uLN (ts : List T) (hts : 0 < ts.length) (hmax : ts.length≤3000000) : Abs.Ctr sys 115 [xl ts] [] (xm (tupT ts)) none []:=by
 refine ⟨⟨_,Tryz.func115,by kernel_rfl,by kernel_rfl⟩,fun w G vs hvs hwf hbx hbox hown _=>?_⟩
 match vs,hvs with
 | [v],⟨hv,_⟩ =>
  have hv : Abs.CRep w G.S (.sl 4 (T.rows ts)) v:=hv
  have hS : ∀ b o,G.S b o→b < w.heap.size:=fun b o hs=>hwf b o (by rw [show G.W b o = .imm from hs]; simp)
  refine (callsIn_wide.1 (uPF Fence.wide 3 trivial trivial trivial rfl (Nat.le_refl _) w G.S hS ts hts hmax v hv)).mono ?_
  rintro e W' ⟨us,S',rfl,h1,h2,h3,h4⟩
  open Classical in
  let G' : Abs.Gh:={ G with W:=fun b o=>if S' b o then .imm else G.W b o }
  have hI : ∀ b o,G'.W b o = .imm→S' b o:=fun b o h=>by
   by_cases hs : S' b o
   ·exact hs
   ·have h : (if S' b o then Abs.Who.imm else G.W b o) = .imm:=h
    rw [if_neg hs] at h
    exact h3 b o h
  have hO : ∀ b o p,G'.W b o ≠ .own p:=fun b o p h=>by
   have h : (if S' b o then Abs.Who.imm else G.W b o) = .own p:=h
   split at h
   ·cases h
   ·exact hown b o p h
  refine ⟨_,G',rfl,Abs.Fr.ofBelow h2,fun b o h=>if_pos (h3 b o h),fun b o hb h=>?_,fun b o h=>?_,⟨us,rfl,h1.mono fun c v hc=>hc.mono (fun b o hs=>if_pos hs) (fun _ _ _=>rfl)⟩,fun _=>rfl,fun j cs h=>by simp at h,fun sz h=>by simp at h,fun b o h=>absurd h (hO b o _)⟩
  ·rcases h4 b o (hI b o h) with q | ⟨q,_⟩
   ·exact q
   ·omega
  ·by_cases hs : S' b o
   ·rcases h4 b o hs with q | ⟨_,q⟩
    ·exact Nat.lt_of_lt_of_le (hS b o q) h2.size
    ·exact q
   ·have h : (if S' b o then Abs.Who.imm else G.W b o) ≠ .none:=h
    rw [if_neg hs] at h
    exact Nat.lt_of_lt_of_le (hwf b o h) h2.size
theorem uGc (l : List Tk) (hl : l.length≤2000000) (n : Nat) (p : PS) (hp : p.at'≤l.length) (hn : l.length - p.at' < n) : Abs.Ctr sys 66 [xpp] [pbx l p] (xm (uAU l n p).1) none [pbx l (uAU l n p).2] :=
 uO0 l hl (fun ts h1 h2=>uLN ts h1 h2) n p hp hn
end Go.Proofs.YtnjjdbapadkomaaGreatDoor
namespace Go.Abs
def uP9 (s : St) (os : OS) : Bool:=os.all fun e=>match s.own (.b (.o e.1) e.2.1) with
 | some z=>Nat.beq z e.2.2
 | none=>false
theorem uBJ {T : List (Option TyI)} {rs : List ResultVar} {res x : X} {bs' : List (List C)} {os : OS} {s : St} (h : resX T s rs=some x) (hx : x=res) (hb : subB s (uDu 0 bs')) (ho : uP9 s os=true) : retO T rs res bs' os .box .normal s:=by
 have h1 : retS T rs res none bs' .ret s:=uAs h hx hb
 refine ⟨h1.1,h1.2.2,fun e he=>?_⟩
 have := List.all_eq_true.1 ho e he
 split at this
 ·rename_i z hz; rw [hz,Nat.eq_of_beq_eq_true this]
 ·simp at this
end Go.Abs
namespace Go.Proofs.YtnjjdbapadkomaaGreatDoor
open Go Go.Abs
noncomputable def sysO : Pg:={ P:=Tryz.prog,T:=tab,ok:=uOt,mix:=uOb,gv:=[(0,intAt)],old:=true }
theorem up {f : FuncId} {args : List X} {bs bs' : List (List C)} {res : X} {ro : Option Nat} (h : Ctr sys f args bs res ro bs') : Ctr sysO f args bs res ro bs':=h.wk rfl fun _ hg=>hg
def osN : OS:=[(1,1,1),(1,2,3),(1,3,1),(1,4,7),(1,5,5)]
abbrev xnn : X:=.v (.ptr (.o 1) 0)
theorem uBt {l : List Tk} {c : List UInt8} {p : PS} (h : p.at'≤l.length) : (uA7 l c p).at'≤l.length:=(uBs l c p).2 h
theorem uBp {l : List Tk} {ws : List (List UInt8)} {p : PS} (h : p.at'≤l.length) : (uAz l ws p).2.at'≤l.length:=(uA6 l ws p).2 h
theorem le3 {l : List Tk} {x : Nat} (hl : l.length≤2000000) (h : x≤l.length) : x≤3000000:=by omega
theorem uO7 (l : List Tk) (p : PS) (n : Nar) (line : Int) (hl : l.length≤2000000) (hp : p.at'≤l.length) (hn : n.steps.length≤3000000)
  (hterm : ∀ p : PS,p.at'≤l.length→Ctr sys 66 [xpp] [pbx l p] (xm (uAU l (l.length + 1) p).1) none [pbx l (uAU l (l.length + 1) p).2]) :
  CtrO sysO 111 [xpp,xnn,xi line] [pbx l p,n.cells] osN (.tup []) [pbx l (uCs l line p).2,({ n with steps:=n.steps++[(uCs l line p).1] } : Nar).cells] .box:=by
 have hrs:=Sp.rows_len n.steps
 have hrl:=Tk.rows_len l
 refine uDD Tryz.func111 rfl rfl rfl rfl rfl rfl rfl ?_;refine uAe (uAb ?_);refine uAa rfl rfl rfl (uAc rfl gU) ?_;refine uAO (.o 0) rfl rfl rfl rfl rfl rfl (up (uBF l _ [] (by omega) (le3 hl (by repeat (first | exact hp | refine uBt ?_ | refine uBp ?_))))) rfl (by rfl) (by rfl) rfl rfl rfl ?_;refine uAa rfl rfl rfl (uAc rfl gU) ?_;refine uAa rfl rfl rfl (uA1 rfl Tryz.underlying67 rfl gU) ?_;refine uAw rfl (uAT rfl rfl rfl) ?_;refine uAw rfl (uAB rfl rfl rfl rfl rfl rfl rfl) ?_;refine uAf ?_;refine uAn (s:=⟨[(0,_,_),(1,_,_),(6,_,_)],[(.l 6,_),(.o 0,_),(.o 1,_)],[(.b (.o 1) 1,_),(.b (.o 1) 2,_),(.b (.o 1) 3,_),(.b (.o 1) 4,_),(.b (.o 1) 5,_)],[]⟩) (uAj (⟨sx rfl,sx rfl,sx rfl,trivial⟩) (⟨sx rfl,sx rfl,sx rfl,trivial⟩) (⟨rfl,rfl,rfl,rfl,rfl,trivial⟩)) ?_;refine uAe (uAb ?_);refine uAa rfl rfl rfl (uAc rfl gU) ?_;refine uAO (.o 0) rfl rfl rfl rfl rfl rfl (up (uBe l _ _ (by omega) (le3 hl (by repeat (first | exact hp | refine uBt ?_ | refine uBp ?_))))) rfl (by rfl) (by rfl) rfl rfl rfl ?_;refine uAf ?_;refine uAe (uAb ?_);refine uAa rfl rfl rfl (uAc rfl gU) ?_;refine uAO (.o 0) rfl rfl rfl rfl rfl rfl (up (uBe l _ _ (by omega) (le3 hl (by repeat (first | exact hp | refine uBt ?_ | refine uBp ?_))))) rfl (by rfl) (by rfl) rfl rfl rfl ?_
 refine uAf ?_;refine uAe (uAb ?_);refine uAa rfl rfl rfl (uAc rfl gU) ?_;refine uAO (.o 0) rfl rfl rfl rfl rfl rfl (up (uBF l _ [] (by omega) (le3 hl (by repeat (first | exact hp | refine uBt ?_ | refine uBp ?_))))) rfl (by rfl) (by rfl) rfl rfl rfl ?_;refine uAa rfl rfl rfl (uAg rfl gU rfl rfl) ?_;refine uAw rfl (uAB rfl rfl rfl rfl rfl rfl rfl) ?_;refine uAf ?_;refine uAn (s:=⟨[(0,_,_),(1,_,_),(6,_,_)],[(.l 6,_),(.o 0,_),(.o 1,_)],[(.b (.o 1) 1,_),(.b (.o 1) 2,_),(.b (.o 1) 3,_),(.b (.o 1) 4,_),(.b (.o 1) 5,_)],[]⟩) (uAj (⟨sx rfl,sx rfl,sx rfl,trivial⟩) (⟨sx rfl,sx rfl,sx rfl,trivial⟩) (⟨rfl,rfl,rfl,rfl,rfl,trivial⟩)) ?_;refine uAe (uAb ?_);refine uAa rfl rfl rfl (uAc rfl gU) ?_;refine uAO (.o 0) rfl rfl rfl rfl rfl rfl (up (uBe l _ _ (by omega) (le3 hl (by repeat (first | exact hp | refine uBt ?_ | refine uBp ?_))))) rfl (by rfl) (by rfl) rfl rfl rfl ?_;refine uAf ?_;refine uAe (uAb ?_);refine uAa rfl rfl rfl (uAc rfl gU) ?_;refine uAO (.o 0) rfl rfl rfl rfl rfl rfl (up (hterm _ (by repeat (first | exact hp | refine uBt ?_ | refine uBp ?_)))) rfl (by rfl) (by rfl) rfl rfl rfl ?_;refine uAa rfl rfl rfl (uAg rfl gU rfl rfl) ?_;refine uAw rfl (uAB rfl rfl rfl rfl rfl rfl rfl) ?_;refine uAf ?_;refine uAn (s:=⟨[(1,_,_),(6,_,_)],[(.l 6,_),(.o 0,_),(.o 1,_)],[(.b (.o 1) 1,_),(.b (.o 1) 2,_),(.b (.o 1) 3,_),(.b (.o 1) 4,_),(.b (.o 1) 5,_)],[]⟩) (uAj (⟨sx rfl,sx rfl,trivial⟩) (⟨sx rfl,sx rfl,sx rfl,trivial⟩) (⟨rfl,rfl,rfl,rfl,rfl,trivial⟩)) ?_
 refine awp_drawn' (by kernel_rfl) ?_;refine uAh rfl rfl rfl rfl (uAc rfl gU) ?_;refine uAh rfl rfl rfl rfl (uAc rfl gU) ?_;refine uAh rfl rfl rfl rfl (uAA rfl gU) ?_;refine uAh rfl rfl rfl rfl (uAg rfl gU rfl rfl) ?_;refine uCg rfl rfl rfl rfl rfl rfl rfl rfl rfl rfl rfl rfl ?_;refine uB3 rfl rfl rfl rfl rfl rfl rfl gU rfl rfl rfl rfl rfl ?_;refine uCt (xs:=[_]) rfl rfl rfl rfl rfl rfl rfl rfl rfl rfl gU rfl ?_;refine uCd rfl rfl rfl rfl rfl rfl rfl rfl rfl rfl rfl (by first | omega | (simp only [List.length_append,List.length_singleton,Sp.rows_len]; omega)) (by first | omega | (simp only [List.length_append,List.length_singleton,Sp.rows_len]; omega)) ?_;refine uAh rfl rfl rfl rfl (uAA rfl gU) ?_;refine uAh rfl rfl rfl rfl (uAg rfl gU rfl rfl) ?_;refine uCe rfl rfl rfl rfl rfl rfl rfl rfl rfl rfl rfl rfl ?_;refine uA8 (by kernel_rfl) ?_;refine uBJ rfl ?_ (⟨⟨_,rfl,?_⟩,⟨⟨_,rfl,?_⟩,trivial⟩⟩) (by kernel_rfl)
 all_goals first | rfl | (simp only [Nar.cells,Sp.rows_app]; rfl)
end Go.Proofs.YtnjjdbapadkomaaGreatDoor
namespace Go.Proofs.YtnjjdbapadkomaaGreatDoor
open Go Go.Abs
theorem uHv (s : List UInt8) : ∀ l : List (List UInt8),uBw l s=idxF (fun x=>decide (s=x)) l
 | []=>rfl
 | x :: l=>by
  rw [uBw,idxF,uHv s l]
  by_cases h : x=s
  ·rw [if_pos h,if_pos (by simp [h])]
  ·have h' : ¬decide (s=x)=true:=by rw [decide_eq_true_eq]; exact fun e=>h (Eq.symm e)
   rw [if_neg h,if_neg h']
theorem uFe (s : List UInt8) : ∀ l : List (List UInt8),-1≤uBw l s∧uBw l s < l.length
 | []=>by simp [uBw]
 | x :: l=>by
  have := uFe s l
  rw [uBw]
  simp only [List.length_cons]
  split
  ·omega
  ·split <;> omega
theorem uFt : Ctr sys 95 [] [] (xss kindW) none []:=by
 refine uAy Tryz.func95 rfl rfl rfl rfl rfl rfl ?_;refine uAe (uAb ?_);refine uAa rfl rfl rfl (uAd rfl gU) ?_;refine uAf ?_;refine uAe (uAb ?_);refine uAQ (xs:=[_,_,_,_,_]) rfl rfl rfl rfl rfl rfl rfl rfl rfl gU rfl ?_;refine uAa rfl rfl rfl (uAd rfl gU) ?_;refine uAf ?_;refine uAp ?_
 repeat (first | refine tR ?_ | refine bR ?_)
 refine uAs rfl ?_ trivial
 rfl
theorem uFs : Ctr sys 41 [] [] (xss sortW) none []:=by
 refine uAy Tryz.func41 rfl rfl rfl rfl rfl rfl ?_;refine uAe (uAb ?_);refine uAa rfl rfl rfl (uAd rfl gU) ?_;refine uAf ?_;refine uAe (uAb ?_);refine uAQ (xs:=[_,_,_]) rfl rfl rfl rfl rfl rfl rfl rfl rfl gU rfl ?_;refine uAa rfl rfl rfl (uAd rfl gU) ?_;refine uAf ?_;refine uAp ?_
 repeat (first | refine tR ?_ | refine bR ?_)
 refine uAs rfl ?_ trivial
 rfl
set_option maxHeartbeats 2000000 in
theorem uOr (l : List Tk) (p : PS) (n : Nar) (line : Int) (hl : l.length≤2000000) (hp : p.at'≤l.length) (hn : n.goals.length≤3000000)
  (hterms : ∀ p : PS,p.at'≤l.length→Ctr sys 116 [xpp] [pbx l p] (xl (uBi l (uAU l (l.length + 1)) p).1) none [pbx l (uBi l (uAU l (l.length + 1)) p).2]) :
  CtrO sysO 112 [xpp,xnn,xi line] [pbx l p,n.cells] osN (.tup []) [pbx l (uB6 l line p).2,({ n with goals:=n.goals++[(uB6 l line p).1] } : Nar).cells] .box:=by
 have hrs:=Gl.rows_len n.goals
 have hrl:=Tk.rows_len l
 have hix:=uFe (uAz l kindW p).1 kindW
 have hkl : (kindW.length : Int)=5:=rfl
 have hixs:=uFo kindW (uAz l kindW p).1
 rw [← uHv] at hixs
 refine uDD Tryz.func112 rfl rfl rfl rfl rfl rfl rfl ?_;refine uAe (uAb ?_);refine uAa rfl rfl rfl (uAc rfl gU) ?_;refine uAa rfl rfl rfl (uA1 rfl Tryz.underlying70 rfl gU) ?_;refine uAw rfl (uAT rfl rfl rfl) ?_;refine uAw rfl (uAB rfl rfl rfl rfl rfl rfl rfl) ?_;refine uAf ?_;refine uAe (uAb ?_);refine uAx rfl rfl rfl rfl rfl rfl gU gU (up uFt) rfl ?_;refine uAa rfl rfl rfl (uAc rfl gU) ?_;refine uAx rfl rfl rfl rfl rfl rfl gU gU (up uFt) rfl ?_;refine uAO (.o 0) rfl rfl rfl rfl rfl rfl (up (uBF l _ kindW (by omega) (le3 hl (by repeat (first | exact hp | refine uBt ?_ | refine uBp ?_))))) rfl (by rfl) (by rfl) rfl rfl rfl ?_;refine uAx rfl rfl rfl rfl rfl rfl gU gU (up hixs) rfl ?_;refine uAa rfl rfl rfl (uAr rfl rfl gU gU rfl (IntWalk.i64_in _ (by omega))) ?_;refine uAa rfl rfl rfl (uAg rfl gU rfl rfl) ?_;refine uAw rfl (uAB rfl rfl rfl rfl rfl rfl rfl) ?_;refine uAf ?_;refine uAn (s:=⟨[(0,_,_),(1,_,_),(6,_,_)],[(.l 6,_),(.o 0,_),(.o 1,_)],[(.b (.o 1) 1,_),(.b (.o 1) 2,_),(.b (.o 1) 3,_),(.b (.o 1) 4,_),(.b (.o 1) 5,_)],[]⟩) (uAj (⟨sx rfl,sx rfl,sx rfl,trivial⟩) (⟨sx rfl,sx rfl,sx rfl,trivial⟩) (⟨rfl,rfl,rfl,rfl,rfl,trivial⟩)) ?_;refine uAe (uAb ?_);refine uAa rfl rfl rfl (uAc rfl gU) ?_;refine uAO (.o 0) rfl rfl rfl rfl rfl rfl (up (uBF l _ [] (by omega) (le3 hl (by repeat (first | exact hp | refine uBt ?_ | refine uBp ?_))))) rfl (by rfl) (by rfl) rfl rfl rfl ?_
 refine uAa rfl rfl rfl (uAg rfl gU rfl rfl) ?_;refine uAw rfl (uAB rfl rfl rfl rfl rfl rfl rfl) ?_;refine uAf ?_;refine uAe ?_;refine uAe (uAb ?_);refine uAa rfl rfl rfl (uAv rfl gU rfl rfl rfl rfl rfl) ?_;refine uAx rfl rfl rfl rfl rfl rfl gU gU (up (uB9 ⟨1 + uBw kindW (uAz l kindW p).1,(uAz l [] (uAz l kindW p).2).1,[],[],line⟩)) rfl ?_;refine uAf ?_;refine uAn (s:=⟨[(0,_,_),(1,_,_),(6,_,_),(20,_,_)],[(.l 6,_),(.o 0,_),(.o 1,_)],[(.b (.o 1) 1,_),(.b (.o 1) 2,_),(.b (.o 1) 3,_),(.b (.o 1) 4,_),(.b (.o 1) 5,_)],[]⟩) (uAj (⟨sx rfl,sx rfl,sx rfl,sx rfl,trivial⟩) (⟨sx rfl,sx rfl,sx rfl,trivial⟩) (⟨rfl,rfl,rfl,rfl,rfl,trivial⟩)) ?_;refine uAm rfl (fun hc=>?_) (fun hc=>?_)
 ·have h : uBo (1 + uBw kindW (uAz l kindW p).1)=true:=hc
  refine uAb ?_;refine uAa rfl rfl rfl (uAc rfl gU) ?_;refine uAO (.o 0) rfl rfl rfl rfl rfl rfl (up (uBF l _ [] (by omega) (le3 hl (by repeat (first | exact hp | refine uBt ?_ | refine uBp ?_))))) rfl (by rfl) (by rfl) rfl rfl rfl ?_;refine uAa rfl rfl rfl (uAg rfl gU rfl rfl) ?_;refine uAw rfl (uAB rfl rfl rfl rfl rfl rfl rfl) ?_;refine uAf ?_;refine uAe (uAb ?_);refine uAa rfl rfl rfl (uAc rfl gU) ?_;refine uAO (.o 0) rfl rfl rfl rfl rfl rfl (up (uBe l _ _ (by omega) (le3 hl (by repeat (first | exact hp | refine uBt ?_ | refine uBp ?_))))) rfl (by rfl) (by rfl) rfl rfl rfl ?_;refine uAf ?_;refine uAn (s:=⟨[(0,_,_),(1,_,_),(6,_,_)],[(.l 6,_),(.o 0,_),(.o 1,_)],[(.b (.o 1) 1,_),(.b (.o 1) 2,_),(.b (.o 1) 3,_),(.b (.o 1) 4,_),(.b (.o 1) 5,_)],[]⟩) (uAj (⟨sx rfl,sx rfl,sx rfl,trivial⟩) (⟨sx rfl,sx rfl,sx rfl,trivial⟩) (⟨rfl,rfl,rfl,rfl,rfl,trivial⟩)) ?_;refine uAe (uAb ?_);refine uAa rfl rfl rfl (uAc rfl gU) ?_;refine uAO (.o 0) rfl rfl rfl rfl rfl rfl (up (hterms _ (by repeat (first | exact hp | refine uBt ?_ | refine uBp ?_)))) rfl (by rfl) (by rfl) rfl rfl rfl ?_;refine uAa rfl rfl rfl (uAg rfl gU rfl rfl) ?_;refine uAw rfl (uAB rfl rfl rfl rfl rfl rfl rfl) ?_;refine uAf ?_;refine awp_drawn' (by kernel_rfl) ?_;refine uAh rfl rfl rfl rfl (uAc rfl gU) ?_
  refine uAh rfl rfl rfl rfl (uAc rfl gU) ?_;refine uAh rfl rfl rfl rfl (uAA rfl gU) ?_;refine uAh rfl rfl rfl rfl (uAg rfl gU rfl rfl) ?_;refine uCg rfl rfl rfl rfl rfl rfl rfl rfl rfl rfl rfl rfl ?_;refine uB3 rfl rfl rfl rfl rfl rfl rfl gU rfl rfl rfl rfl rfl ?_;refine uCt (xs:=[_]) rfl rfl rfl rfl rfl rfl rfl rfl rfl rfl gU rfl ?_;refine uCd rfl rfl rfl rfl rfl rfl rfl rfl rfl rfl rfl (by first | omega | (simp only [List.length_append,List.length_singleton,Gl.rows_len]; omega)) (by first | omega | (simp only [List.length_append,List.length_singleton,Gl.rows_len]; omega)) ?_;refine uAh rfl rfl rfl rfl (uAA rfl gU) ?_;refine uAh rfl rfl rfl rfl (uAg rfl gU rfl rfl) ?_;refine uCe rfl rfl rfl rfl rfl rfl rfl rfl rfl rfl rfl rfl ?_;refine uA8 (by kernel_rfl) ?_;refine uBJ rfl ?_ (⟨⟨_,rfl,?_⟩,⟨⟨_,rfl,?_⟩,trivial⟩⟩) (by kernel_rfl)
  all_goals first | rfl | (simp only [Nar.cells,Gl.rows_app,uB6,h,if_true]; done) | (simp only [Nar.cells,Gl.rows_app,uB6,h,if_true]; rfl)
 ·have h : uBo (1 + uBw kindW (uAz l kindW p).1)=false:=hc
  refine uAo ?_;refine uAe (uAb ?_);refine uAa rfl rfl rfl (uAc rfl gU) ?_;refine uAO (.o 0) rfl rfl rfl rfl rfl rfl (up (uBe l _ _ (by omega) (le3 hl (by repeat (first | exact hp | refine uBt ?_ | refine uBp ?_))))) rfl (by rfl) (by rfl) rfl rfl rfl ?_;refine uAf ?_;refine uAe (uAb ?_);refine uAa rfl rfl rfl (uAc rfl gU) ?_;refine uAO (.o 0) rfl rfl rfl rfl rfl rfl (up (hterms _ (by repeat (first | exact hp | refine uBt ?_ | refine uBp ?_)))) rfl (by rfl) (by rfl) rfl rfl rfl ?_;refine uAa rfl rfl rfl (uAg rfl gU rfl rfl) ?_;refine uAw rfl (uAB rfl rfl rfl rfl rfl rfl rfl) ?_;refine uAf ?_;refine uAn (s:=⟨[(1,_,_),(6,_,_)],[(.l 6,_),(.o 0,_),(.o 1,_)],[(.b (.o 1) 1,_),(.b (.o 1) 2,_),(.b (.o 1) 3,_),(.b (.o 1) 4,_),(.b (.o 1) 5,_)],[]⟩) (uAj (⟨sx rfl,sx rfl,trivial⟩) (⟨sx rfl,sx rfl,sx rfl,trivial⟩) (⟨rfl,rfl,rfl,rfl,rfl,trivial⟩)) ?_;refine awp_drawn' (by kernel_rfl) ?_;refine uAh rfl rfl rfl rfl (uAc rfl gU) ?_;refine uAh rfl rfl rfl rfl (uAc rfl gU) ?_;refine uAh rfl rfl rfl rfl (uAA rfl gU) ?_;refine uAh rfl rfl rfl rfl (uAg rfl gU rfl rfl) ?_;refine uCg rfl rfl rfl rfl rfl rfl rfl rfl rfl rfl rfl rfl ?_;refine uB3 rfl rfl rfl rfl rfl rfl rfl gU rfl rfl rfl rfl rfl ?_;refine uCt (xs:=[_]) rfl rfl rfl rfl rfl rfl rfl rfl rfl rfl gU rfl ?_
  refine uCd rfl rfl rfl rfl rfl rfl rfl rfl rfl rfl rfl (by first | omega | (simp only [List.length_append,List.length_singleton,Gl.rows_len]; omega)) (by first | omega | (simp only [List.length_append,List.length_singleton,Gl.rows_len]; omega)) ?_;refine uAh rfl rfl rfl rfl (uAA rfl gU) ?_;refine uAh rfl rfl rfl rfl (uAg rfl gU rfl rfl) ?_;refine uCe rfl rfl rfl rfl rfl rfl rfl rfl rfl rfl rfl rfl ?_;refine uA8 (by kernel_rfl) ?_;refine uBJ rfl ?_ (⟨⟨_,rfl,?_⟩,⟨⟨_,rfl,?_⟩,trivial⟩⟩) (by kernel_rfl)
  all_goals first | rfl | (simp only [Nar.cells,Gl.rows_app,uB6,h,Bool.false_eq_true,if_false]; done) | (simp only [Nar.cells,Gl.rows_app,uB6,h,Bool.false_eq_true,if_false]; rfl)
end Go.Proofs.YtnjjdbapadkomaaGreatDoor
namespace Go.Proofs.YtnjjdbapadkomaaGreatDoor
open Go Go.Abs
set_option maxHeartbeats 2000000 in
theorem uGw (l : List Tk) (p : PS) (n : Nar) (hl : l.length≤2000000) (hp : p.at'≤l.length) (hn : n.fresh.length≤3000000) :
  CtrO sysO 110 [xpp,xnn] [pbx l p,n.cells] osN (.tup []) [pbx l (uBK l p n.fresh).2,({ n with fresh:=(uBK l p n.fresh).1 } : Nar).cells] .box:=by
 have hrl:=Tk.rows_len l
 have a1:=uA6 l [] p
 have a2:=uBs l [58] (uAz l [] p).2
 have a3 : (uA7 l [58] (uAz l [] p).2).at'≤l.length:=uBt (uBp hp)
 have hrole : ∃ r,(uAz l [] p).1=r:=⟨_,rfl⟩
 obtain ⟨role,hrole⟩:=hrole
 refine uDD Tryz.func110 rfl rfl rfl rfl rfl rfl rfl ?_;refine uAe (uAb ?_);refine uAa rfl rfl rfl (uAc rfl gU) ?_;refine uAO (.o 0) rfl rfl rfl rfl rfl rfl (up (uBF l _ [] (by omega) (le3 hl (by repeat (first | assumption | refine uBt ?_ | refine uBp ?_))))) rfl (by rfl) (by rfl) rfl rfl rfl ?_;refine uAa rfl rfl rfl (uAd rfl gU) ?_;refine uAf ?_;refine uAe (uAb ?_);refine uAa rfl rfl rfl (uAc rfl gU) ?_;refine uAO (.o 0) rfl rfl rfl rfl rfl rfl (up (uBe l _ _ (by omega) (le3 hl (by repeat (first | assumption | refine uBt ?_ | refine uBp ?_))))) rfl (by rfl) (by rfl) rfl rfl rfl ?_;refine uAf ?_;refine uAn (s:=⟨[(0,_,_),(1,_,_),(4,_,_)],[(.o 0,_),(.o 1,_)],[(.b (.o 1) 1,_),(.b (.o 1) 2,_),(.b (.o 1) 3,_),(.b (.o 1) 4,_),(.b (.o 1) 5,_)],[]⟩) (uAj (⟨sx rfl,sx rfl,sx rfl,trivial⟩) (⟨sx rfl,sx rfl,trivial⟩) (⟨rfl,rfl,rfl,rfl,rfl,trivial⟩)) ?_;refine uAe (uAb ?_);refine uAa rfl rfl rfl (uAd rfl gU) ?_;refine uAf ?_;refine uAt ?_
 rw [hrole]
 refine uAW (ι:=PS × Bool × List Fs) { t:=[(0,_,_),(1,_,_),(4,_,_)],bx:=[],ow:=[(.b (.o 1) 1,_),(.b (.o 1) 2,_),(.b (.o 1) 3,_),(.b (.o 1) 4,_),(.b (.o 1) 5,_)] } (fun q=>[(5,true,xb q.2.1)]) (fun q=>[((.o 0),pbx l q.1),((.o 1),({ n with fresh:=q.2.2 } : Nar).cells)]) (fun q=>q.1.at'≤l.length∧q.2.2.length≤n.fresh.length + q.1.at' + (if q.2.1=true then 0 else 1) ∧ ∃ k,l.length + 1≤k + q.1.at'∧(if q.2.1=true then uBE l role k q.1 q.2.2 else (q.2.2,q.1))=uBK l p n.fresh) (fun q=>(if q.2.1=true∧q.1.bad=false then 1 else 0) + (l.length - q.1.at')) ((uA7 l [58] (uAz l [] p).2,true,n.fresh)) (⟨a3,by simp,l.length + 1,by dsimp only; omega,by dsimp only; rw [← hrole]; rfl⟩) (uAj (⟨sx rfl,sx rfl,sx rfl,sx rfl,trivial⟩) (⟨sx rfl,sx rfl,trivial⟩) (⟨rfl,rfl,rfl,rfl,rfl,trivial⟩)) ?_
 intro q hok
 dsimp only [List.cons_append,List.nil_append] at *
 obtain ⟨q,more,out⟩:=q
 dsimp only at hok ⊢
 obtain ⟨hq,ho,k,hk,hi⟩:=hok
 have hro:=Fs.rows_len out
 refine uAe ?_;refine uAe (uAb ?_);refine uAa rfl rfl rfl (uAc rfl gU) ?_;refine uAa rfl rfl rfl (uAc rfl gU) ?_;refine uAa rfl rfl rfl (uAc rfl gU) ?_;refine uAa rfl rfl rfl (uAA rfl (fun hh=>hh)) ?_;refine uAa rfl rfl rfl (uAg rfl (fun hh=>hh) rfl rfl) ?_;refine uAa rfl rfl rfl (uAl rfl (fun hh=>hh) rfl rfl rfl rfl) ?_;refine uAa rfl rfl rfl (uAV rfl (fun hh=>hh)) ?_;refine uAa rfl rfl rfl (uAR rfl rfl gU (fun _ hi=>gP rfl hi)) ?_;refine uAf ?_;refine uAn (s:=⟨[(0,_,_),(1,_,_),(4,_,_),(19,_,_)],[(.o 0,_),(.o 1,_)],[(.b (.o 1) 1,_),(.b (.o 1) 2,_),(.b (.o 1) 3,_),(.b (.o 1) 4,_),(.b (.o 1) 5,_)],[]⟩) (uAj (⟨sx rfl,sx rfl,sx rfl,sx rfl,trivial⟩) (⟨sx rfl,sx rfl,trivial⟩) (⟨rfl,rfl,rfl,rfl,rfl,trivial⟩)) ?_;refine uAm rfl (fun hc=>?_) (fun hc=>?_)
 ·try simp only [nn,uAi,T.rows_len,Tk.rows_len] at hc
  obtain ⟨hm,hb⟩:=hc
  rw [if_pos hm] at hi ho
  obtain ⟨k,rfl⟩ : ∃ j,k=j + 1:=⟨k - 1,by omega⟩
  rw [uBE,if_neg (by rw [hb]; simp)] at hi
  have b1:=uA6 l [] q
  have b2:=uA6 l sortW (uAz l [] q).2
  have hix:=uFe (uAz l sortW (uAz l [] q).2).1 sortW
  have hsl : (sortW.length : Int)=3:=rfl
  have hixs:=uFo sortW (uAz l sortW (uAz l [] q).2).1
  rw [← uHv] at hixs
  refine uAo ?_;refine uAe ?_;refine uAt ?_;refine uAe (uAb ?_);refine uAa rfl rfl rfl (uAc rfl gU) ?_;refine uAO (.o 0) rfl rfl rfl rfl rfl rfl (up (uBF l _ [] (by omega) (le3 hl (by repeat (first | assumption | refine uBt ?_ | refine uBp ?_))))) rfl (by rfl) (by rfl) rfl rfl rfl ?_;refine uAa rfl rfl rfl (uAd rfl gU) ?_;refine uAf ?_;refine uAe (uAb ?_);refine uAx rfl rfl rfl rfl rfl rfl gU gU (up uFs) rfl ?_;refine uAa rfl rfl rfl (uAc rfl gU) ?_;refine uAx rfl rfl rfl rfl rfl rfl gU gU (up uFs) rfl ?_;refine uAO (.o 0) rfl rfl rfl rfl rfl rfl (up (uBF l _ sortW (by omega) (le3 hl (by repeat (first | assumption | refine uBt ?_ | refine uBp ?_))))) rfl (by rfl) (by rfl) rfl rfl rfl ?_;refine uAx rfl rfl rfl rfl rfl rfl gU gU (up hixs) rfl ?_;refine uAa rfl rfl rfl (uAr rfl rfl gU gU rfl (IntWalk.i64_in _ (by omega))) ?_;refine uAa rfl rfl rfl (uAd rfl gU) ?_;refine uAf ?_;refine uAn (s:=⟨[(0,_,_),(1,_,_),(4,_,_),(6,_,_),(7,_,_)],[(.o 0,_),(.o 1,_)],[(.b (.o 1) 1,_),(.b (.o 1) 2,_),(.b (.o 1) 3,_),(.b (.o 1) 4,_),(.b (.o 1) 5,_)],[]⟩) (uAj (⟨sx rfl,sx rfl,sx rfl,sx rfl,sx rfl,trivial⟩) (⟨sx rfl,sx rfl,trivial⟩) (⟨rfl,rfl,rfl,rfl,rfl,trivial⟩)) ?_;refine uAb ?_;refine uAa rfl rfl rfl (uAc rfl gU) ?_;refine uAa rfl rfl rfl (uAc rfl gU) ?_
  refine uAa rfl rfl rfl (uAA rfl gU) ?_;refine uAa rfl rfl rfl (uAg rfl gU rfl rfl) ?_;refine uAw rfl (uFa rfl rfl rfl rfl rfl rfl rfl) ?_;refine uAa rfl rfl rfl (uAc rfl gU) ?_;refine uAa rfl rfl rfl (uAc rfl gU) ?_;refine uAa rfl rfl rfl (uAc rfl gU) ?_;refine uAa rfl rfl rfl (uA1 rfl Tryz.underlying73 rfl gU) ?_;refine uAQ (xs:=[_]) rfl rfl rfl rfl rfl rfl rfl rfl rfl gU rfl ?_;refine uAw rfl (uA2 rfl rfl rfl rfl rfl rfl rfl (by first | omega | (simp only [List.length_append,List.length_singleton,Fs.rows_len]; omega)) (by first | omega | (simp only [List.length_append,List.length_singleton,Fs.rows_len]; omega))) ?_;refine uAa rfl rfl rfl (uAA rfl gU) ?_;refine uBk (s:=⟨[(0,_,_),(1,_,_),(4,_,_),(40,_,_),(41,_,_)],[(.o 0,_),(.o 1,_)],[(.b (.o 1) 1,_),(.b (.o 1) 3,_),(.b (.o 1) 4,_),(.b (.o 1) 5,_),(.t 40,_)],[]⟩) (uAj (⟨sx rfl,sx rfl,sx rfl,sx rfl,sx rfl,trivial⟩) (⟨sx rfl,sx rfl,trivial⟩) (⟨rfl,rfl,rfl,rfl,rfl,trivial⟩)) ?_;refine uAa rfl rfl rfl (uAg rfl gU rfl rfl) ?_;refine uAw rfl (uFc rfl rfl rfl rfl rfl rfl rfl) ?_;refine uAf ?_;refine uAb ?_;refine uAa rfl rfl rfl (uAc rfl gU) ?_;refine uAO (.o 0) rfl rfl rfl rfl rfl rfl (up (uB0 l _ _ (by omega) (le3 hl (by repeat (first | assumption | refine uBt ?_ | refine uBp ?_))))) rfl (by rfl) (by rfl) rfl rfl rfl ?_
  refine uAa rfl rfl rfl (uAd rfl gU) ?_;refine uAf ?_
  generalize hq2 : (uAz l sortW (uAz l [] q).2).2=q2 at *
  refine ⟨(symP l q2 [44],symQ l q2 [44],out++[⟨role,(uAz l [] q).1,2 + uBw sortW (uAz l sortW (uAz l [] q).2).1⟩]),?_,?_,uAj (⟨⟨_,rfl,?_⟩,⟨sx rfl,sx rfl,sx rfl,trivial⟩⟩) (⟨⟨_,rfl,?_⟩,⟨⟨_,rfl,?_⟩,trivial⟩⟩) (⟨rfl,rfl,rfl,rfl,rfl,trivial⟩)⟩
  ·by_cases hz : symQ l q2 [44]=true
   ·have hlt:=(uCC hz).1
    have hs : symP l q2 [44]=q2.go:=by rw [symP,if_pos hz]
    have hg : q2.go.at'=q2.at' + 1:=rfl
    rw [if_pos hz] at hi
    dsimp only
    rw [hs,hz,if_pos rfl]
    refine ⟨by omega,by simp only [List.length_append,List.length_singleton]; omega,k,by omega,by rw [if_pos rfl]; exact hi⟩
   ·have hz' : symQ l q2 [44]=false:=by simpa using hz
    have hs : symP l q2 [44]=q2:=by rw [symP,hz']; rfl
    rw [if_neg hz] at hi
    dsimp only
    rw [hs,hz',if_neg (by simp)]
    refine ⟨by omega,by simp only [List.length_append,List.length_singleton]; omega,k + 1,by omega,by rw [if_neg (by simp)]; exact hi⟩
  ·dsimp only
   rw [if_pos (c:=more=true∧q.bad=false) ⟨hm,hb⟩]
   by_cases hz : symQ l q2 [44]=true
   ·have hlt:=(uCC hz).1
    have hs : symP l q2 [44]=q2.go:=by rw [symP,if_pos hz]
    have hg : q2.go.at'=q2.at' + 1:=rfl
    rw [hs]
    split <;> omega
   ·rw [if_neg (fun q=>hz q.1)]
    have hs : symP l q2 [44]=q2:=by rw [symP,if_neg hz]
    rw [hs]; omega
  ·rfl
  ·rfl
  ·simp only [Nar.cells,Fs.rows_app]; rfl
 ·try simp only [nn,uAi,T.rows_len,Tk.rows_len] at hc
  have hfin : (out,q)=uBK l p n.fresh:=by
   cases more with
   | false=>simpa using hi
   | true =>
    obtain ⟨k,rfl⟩ : ∃ j,k=j + 1:=⟨k - 1,by omega⟩
    rw [if_pos rfl,uBE,if_pos (by simpa using hc)] at hi
    exact hi
  rw [← hfin]
  refine uAM ?_
  repeat (first | refine uAD ?_ | refine uAE ?_ | refine uAC rfl ?_)
  refine uBJ rfl ?_ (⟨⟨_,rfl,?_⟩,⟨⟨_,rfl,?_⟩,trivial⟩⟩) (by kernel_rfl)
  all_goals rfl
end Go.Proofs.YtnjjdbapadkomaaGreatDoor
namespace Go.Proofs.YtnjjdbapadkomaaGreatDoor
open Go Go.Abs
theorem ps2 {st : St} {a b : Pass} (ha : st.box a.n=some a.cs) (hb : st.box b.n=some b.cs) : ∀ p ∈ [a,b],st.box p.n=some p.cs:=by
 intro p hp
 rcases List.mem_cons.1 hp with q | q
 ·subst q; exact ha
 ·simp at q; subst q; exact hb
theorem uLB (l : List Tk) (hl : l.length≤2000000) (p : PS) (hp : p.at'≤l.length) : Ctr sys 116 [xpp] [pbx l p] (xl (uBi l (uAU l (l.length + 1)) p).1) none [pbx l (uBi l (uAU l (l.length + 1)) p).2] :=
 uJ9 l (l.length + 1) hl (fun q h1 h2=>uGc l hl _ q h1 h2) p hp (by omega)
theorem uIQ (l : List Tk) (p : PS) (n : Nar) (line : Int) (hl : l.length≤2000000) (hp : p.at'≤l.length) (hn : n.steps.length≤3000000) :
  CtrO sysO 111 [xpp,xnn,xi line] [pbx l p,n.cells] osN (.tup []) [pbx l (uCs l line p).2,({ n with steps:=n.steps++[(uCs l line p).1] } : Nar).cells] .box :=
 uO7 l p n line hl hp hn fun q hq=>uGc l hl _ q hq (by omega)
theorem uHr (l : List Tk) (p : PS) (n : Nar) (line : Int) (hl : l.length≤2000000) (hp : p.at'≤l.length) (hn : n.goals.length≤3000000) :
  CtrO sysO 112 [xpp,xnn,xi line] [pbx l p,n.cells] osN (.tup []) [pbx l (uB6 l line p).2,({ n with goals:=n.goals++[(uB6 l line p).1] } : Nar).cells] .box :=
 uOr l p n line hl hp hn fun q hq=>uLB l hl q hq
theorem uA5 {l : List Tk} {n n' : Nar} {p q : PS} {line : Int} {w : List UInt8} (hw : uAz l uBM p=(w,q)) (hl : uCz l p=line) {r : PS} (h : uBB l n line w q=(n',r)) : uBX l n p=(n',uA7 l [59] r):=by
 unfold uBX; rw [hl,hw]; dsimp only; rw [h]
theorem uEJ (l : List Tk) (n : Nar) (line : Int) (q : PS) : uBB l n line uED q=({ n with roles:=n.roles++(uBH l q).1 },(uBH l q).2):=by rw [uBB,if_pos rfl]
theorem uEV (l : List Tk) (n : Nar) (line : Int) (q : PS) : uBB l n line uDr q=({ n with fresh:=(uBK l q n.fresh).1 },(uBK l q n.fresh).2):=by rw [uBB,if_neg (by decide),if_pos rfl]
theorem uEG (l : List Tk) (n : Nar) (line : Int) (q : PS) : uBB l n line uEw q=({ n with tags:=n.tags++(uBH l q).1 },(uBH l q).2):=by rw [uBB,if_neg (by decide),if_neg (by decide),if_pos rfl]
theorem uES (l : List Tk) (n : Nar) (line : Int) (q : PS) : uBB l n line wMsg q=({ n with steps:=n.steps++[(uCs l line q).1] },(uCs l line q).2):=by rw [uBB,if_neg (by decide),if_neg (by decide),if_neg (by decide),if_pos rfl]
theorem uEN (l : List Tk) (n : Nar) (line : Int) (q : PS) : uBB l n line uEm q=({ n with goals:=n.goals++[(uB6 l line q).1] },(uB6 l line q).2):=by rw [uBB,if_neg (by decide),if_neg (by decide),if_neg (by decide),if_neg (by decide),if_pos rfl]
theorem uGR (l : List Tk) (n : Nar) (line : Int) (q : PS) {w : List UInt8} (h1 : w≠uED) (h2 : w≠uDr) (h3 : w≠uEw) (h4 : w≠wMsg) (h5 : w≠uEm) : uBB l n line w q=(n,q):=by rw [uBB,if_neg h1,if_neg h2,if_neg h3,if_neg h4,if_neg h5]
set_option maxHeartbeats 4000000 in
theorem uMN (l : List Tk) (p : PS) (n : Nar) (hl : l.length≤2000000) (hp : p.at'≤l.length) (hn : n.Le 2000000) :
  CtrO sysO 62 [xpp,xnn] [pbx l p,n.cells] osN (.tup []) [pbx l (uBX l n p).2,(uBX l n p).1.cells] .box:=by
 have hrl:=Tk.rows_len l
 have hr1:=uAi n.roles
 have hr2:=uAi n.tags
 have hq1:=uBp (ws:=uBM) hp
 obtain ⟨b1,b2,b3,b4,b5⟩:=hn
 obtain ⟨w,q,hw⟩ : ∃ w q,uAz l uBM p=(w,q):=⟨_,_,rfl⟩
 have hns:=uBF l p uBM (by omega) (by omega)
 rw [hw] at hns hq1
 dsimp only at hns hq1
 have hnl : (uBH l q).1.length≤2000001:=by
  have h1:=uF1 (uA6 l []) q
  have h2:=(uDa (uA6 l []) q).2 hq1
  unfold uBH; omega
 have hnr:=uAi (uBH l q).1
 have hq2 : (uBH l q).2.at'≤l.length:=(uDa (uA6 l []) q).2 hq1
 have hq3 : (uBK l q n.fresh).2.at'≤l.length:=(uIR l n.fresh q).2 hq1
 have hq4 : ∀ line,(uCs l line q).2.at'≤l.length:=fun line=>(uH9 l line q).2 hq1
 have hq5 : ∀ line,(uB6 l line q).2.at'≤l.length:=fun line=>(uHl l line q).2 hq1
 refine uDD Tryz.func62 rfl rfl rfl rfl rfl rfl rfl ?_;refine uAe (uAb ?_);refine uAa rfl rfl rfl (uAd rfl gU) ?_;refine uAf ?_;refine uAe ?_;refine uAe ?_;refine awp_drawn' (by kernel_rfl) ?_;refine uAh rfl rfl rfl rfl (uAc rfl gU) ?_;refine uAh rfl rfl rfl rfl (uAA rfl gU) ?_;refine uAh rfl rfl rfl rfl (uAg rfl gU rfl rfl) ?_;refine uAS rfl rfl rfl rfl rfl rfl rfl gU rfl rfl rfl rfl ?_;refine uAh rfl rfl rfl rfl (uAc rfl gU) ?_;refine uAh rfl rfl rfl rfl (uAA rfl gU) ?_;refine uAh rfl rfl rfl rfl (uAg rfl gU rfl rfl) ?_;refine uAS rfl rfl rfl rfl rfl rfl rfl gU rfl rfl rfl rfl ?_;refine uAh rfl rfl rfl rfl (uAY rfl gU rfl rfl) ?_;refine uAh rfl rfl rfl rfl (uAk rfl rfl gU gU rfl) ?_;refine uA8 (by kernel_rfl) ?_;refine uAn (s:=⟨[(0,_,_),(1,_,_),(4,_,_),(14,_,_)],[(.o 0,_),(.o 1,_)],[(.b (.o 1) 1,_),(.b (.o 1) 2,_),(.b (.o 1) 3,_),(.b (.o 1) 4,_),(.b (.o 1) 5,_)],[]⟩) (uAj (⟨sx rfl,sx rfl,sx rfl,sx rfl,trivial⟩) (⟨sx rfl,sx rfl,trivial⟩) (⟨(ak rfl (ak rfl (ak rfl (ak rfl (ak rfl (ak rfl (ak rfl (ak rfl (ak rfl (ak rfl (rfl))))))))))),(ak rfl (ak rfl (ak rfl (ak rfl (ak rfl (ak rfl (ak rfl (ak rfl (ak rfl (ak rfl (rfl))))))))))),(ak rfl (ak rfl (ak rfl (ak rfl (ak rfl (ak rfl (ak rfl (ak rfl (ak rfl (ak rfl (rfl))))))))))),(ak rfl (ak rfl (ak rfl (ak rfl (ak rfl (ak rfl (ak rfl (ak rfl (ak rfl (ak rfl (rfl))))))))))),(ak rfl (ak rfl (ak rfl (ak rfl (ak rfl (ak rfl (ak rfl (ak rfl (ak rfl (ak rfl (rfl))))))))))),trivial⟩)) ?_
 refine uAm rfl (fun hcx=>?_) (fun hcx=>?_)
 ·try simp only [nn,uAi,T.rows_len,Tk.rows_len] at hcx
  have hline : uCz l p=(l.getD p.at' tk0).line:=by rw [uCz,if_pos (by omega)]
  refine awp_drawn' (by kernel_rfl) ?_;refine uAh rfl rfl rfl rfl (uAc rfl gU) ?_;refine uAh rfl rfl rfl rfl (uAA rfl gU) ?_;refine uAh rfl rfl rfl rfl (uAg rfl gU rfl rfl) ?_;refine uAS rfl rfl rfl rfl rfl rfl rfl gU rfl rfl rfl rfl ?_;refine uAh rfl rfl rfl rfl (uAc rfl gU) ?_;refine uAh rfl rfl rfl rfl (uAA rfl gU) ?_;refine uAh rfl rfl rfl rfl (uAg rfl gU rfl rfl) ?_;refine uAS rfl rfl rfl rfl rfl rfl rfl gU rfl rfl rfl rfl ?_;refine uAh rfl rfl rfl rfl (uAq (j:=p.at') rfl rfl gU gU rfl rfl (by first | omega | (simp at hh ⊢; omega)) (fun hh=>Tk.rows_at (by first | omega | (simp at hh ⊢; omega)))) ?_;refine uAh rfl rfl rfl rfl (uAP rfl gU rfl rfl) ?_;refine uAh rfl rfl rfl rfl (uAI rfl gU rfl rfl rfl) ?_;refine uAh rfl rfl rfl rfl (uAd rfl gU) ?_;refine uA8 (by kernel_rfl) ?_;refine uAn (s:=⟨[(0,_,_),(1,_,_),(4,_,_)],[(.o 0,_),(.o 1,_)],[(.b (.o 1) 1,_),(.b (.o 1) 2,_),(.b (.o 1) 3,_),(.b (.o 1) 4,_),(.b (.o 1) 5,_)],[]⟩) (uAj (⟨sx rfl,sx rfl,sx rfl,trivial⟩) (⟨sx rfl,sx rfl,trivial⟩) (⟨(ak rfl (ak rfl (ak rfl (ak rfl (ak rfl (ak rfl (ak rfl (ak rfl (ak rfl (ak rfl (ak rfl (ak rfl (rfl))))))))))))),(ak rfl (ak rfl (ak rfl (ak rfl (ak rfl (ak rfl (ak rfl (ak rfl (ak rfl (ak rfl (ak rfl (ak rfl (rfl))))))))))))),(ak rfl (ak rfl (ak rfl (ak rfl (ak rfl (ak rfl (ak rfl (ak rfl (ak rfl (ak rfl (ak rfl (ak rfl (rfl))))))))))))),(ak rfl (ak rfl (ak rfl (ak rfl (ak rfl (ak rfl (ak rfl (ak rfl (ak rfl (ak rfl (ak rfl (ak rfl (rfl))))))))))))),(ak rfl (ak rfl (ak rfl (ak rfl (ak rfl (ak rfl (ak rfl (ak rfl (ak rfl (ak rfl (ak rfl (ak rfl (rfl))))))))))))),trivial⟩)) ?_
  refine uAe ?_;refine uAe (uAb ?_);refine uAa rfl rfl rfl (uAc rfl gU) ?_;refine uAQ (xs:=[_,_,_,_,_]) rfl rfl rfl rfl rfl rfl rfl rfl rfl gU rfl ?_;refine uAO (.o 0) rfl rfl rfl rfl rfl rfl (up hns) rfl (by rfl) (by rfl) rfl rfl rfl ?_;refine uAf ?_;refine uAt ?_;refine uAe (uAb ?_);refine uAa rfl rfl rfl (uAZ rfl rfl gU gU rfl) ?_;refine uAa rfl rfl rfl (uAd rfl gU) ?_;refine uAf ?_;refine uAn (s:=⟨[(0,_,_),(1,_,_),(4,_,_),(28,_,_),(29,_,_)],[(.o 0,_),(.o 1,_)],[(.b (.o 1) 1,_),(.b (.o 1) 2,_),(.b (.o 1) 3,_),(.b (.o 1) 4,_),(.b (.o 1) 5,_)],[]⟩) (uAj (⟨sx rfl,sx rfl,sx rfl,sx rfl,sx rfl,trivial⟩) (⟨sx rfl,sx rfl,trivial⟩) (⟨rfl,rfl,rfl,rfl,rfl,trivial⟩)) ?_;refine uAm rfl (fun hcu0=>?_) (fun hcu0=>?_)
  ·try simp only [nn,uAi,T.rows_len,Tk.rows_len] at hcu0
   have hwe : w=uED:=hcu0
   subst hwe
   refine awp_drawn' (by kernel_rfl) ?_;refine uAh rfl rfl rfl rfl (uAc rfl gU) ?_;refine uAh rfl rfl rfl rfl (uAc rfl gU) ?_;refine uAh rfl rfl rfl rfl (uAA rfl gU) ?_;refine uAh rfl rfl rfl rfl (uAg rfl gU rfl rfl) ?_;refine uCg rfl rfl rfl rfl rfl rfl rfl rfl rfl rfl rfl rfl ?_;refine uAh rfl rfl rfl rfl (uAc rfl gU) ?_;refine uE1 (.o 0) rfl rfl rfl rfl rfl rfl rfl (up (uDT l q (by omega) hq1)) rfl (by rfl) (by rfl) rfl rfl rfl ?_;refine uCd rfl rfl rfl rfl rfl rfl rfl rfl rfl rfl rfl (by first | omega | (simp only [List.length_append,List.length_singleton,uAi]; omega)) (by first | omega | (simp only [List.length_append,List.length_singleton,uAi]; omega)) ?_;refine uAh rfl rfl rfl rfl (uAA rfl gU) ?_;refine uAh rfl rfl rfl rfl (uAg rfl gU rfl rfl) ?_;refine uCe rfl rfl rfl rfl rfl rfl rfl rfl rfl rfl rfl rfl ?_;refine uA8 (by kernel_rfl) ?_;refine uAn (s:=⟨[(0,_,_)],[(.o 0,_),(.o 1,_)],[(.b (.o 1) 1,_),(.b (.o 1) 2,_),(.b (.o 1) 3,_),(.b (.o 1) 4,_),(.b (.o 1) 5,_)],[]⟩) (uAj (⟨sx rfl,trivial⟩) (⟨sx rfl,sx rfl,trivial⟩) (⟨rfl,(ak2 rfl (ak rfl (ak rfl (ak2 rfl (ak rfl (ak rfl (ak2 rfl (ak rfl (ak rfl (ak rfl (ak rfl (rfl)))))))))))),(ak2 rfl (ak rfl (ak rfl (ak2 rfl (ak rfl (ak rfl (ak2 rfl (ak rfl (ak rfl (ak rfl (ak rfl (rfl)))))))))))),(ak2 rfl (ak rfl (ak rfl (ak2 rfl (ak rfl (ak rfl (ak2 rfl (ak rfl (ak rfl (ak rfl (ak rfl (rfl)))))))))))),(ak2 rfl (ak rfl (ak rfl (ak2 rfl (ak rfl (ak rfl (ak2 rfl (ak rfl (ak rfl (ak rfl (ak rfl (rfl)))))))))))),trivial⟩)) ?_
   refine uAb ?_;refine uAa rfl rfl rfl (uAc rfl gU) ?_;refine uAO (.o 0) rfl rfl rfl rfl rfl rfl (up (uBe l _ _ (by omega) (le3 hl (by first | assumption | exact hq4 _ | exact hq5 _)))) rfl (by rfl) (by rfl) rfl rfl rfl ?_;refine uAf ?_;refine uBJ rfl ?_ (⟨⟨_,rfl,?_⟩,⟨⟨_,rfl,?_⟩,trivial⟩⟩) (by kernel_rfl)
   all_goals first | exact (rfl : uCB []=X.tup []) | (rw [uA5 hw hline (uEJ l n (l.getD p.at' tk0).line q)]; done) | (rw [uA5 hw hline (uEJ l n (l.getD p.at' tk0).line q)]; rfl) | (rw [uA5 hw hline (uEJ l n (l.getD p.at' tk0).line q)]; simp only [Nar.cells,strR,List.map_append]; rfl)
  ·try simp only [nn,uAi,T.rows_len,Tk.rows_len] at hcu0
   have hn0 : w≠uED:=hcu0
   refine uAe (uAb ?_);refine uAa rfl rfl rfl (uAZ rfl rfl gU gU rfl) ?_;refine uAa rfl rfl rfl (uAd rfl gU) ?_;refine uAf ?_;refine uAm rfl (fun hcu1=>?_) (fun hcu1=>?_)
   ·try simp only [nn,uAi,T.rows_len,Tk.rows_len] at hcu1
    have hwe : w=uDr:=hcu1
    subst hwe
    refine uAb ?_;refine uAa rfl rfl rfl (uAc rfl gU) ?_;refine uAa rfl rfl rfl (uAc rfl gU) ?_;refine uDw [⟨.o 0,0,pbx l q,pbx l (uBK l q n.fresh).2⟩,⟨.o 1,0,n.cells,({ n with fresh:=(uBK l q n.fresh).1 } : Nar).cells⟩] osN rfl rfl rfl rfl rfl rfl (ps2 rfl rfl) rfl rfl (uGw l q n hl hq1 (by omega)) rfl rfl rfl ?_;refine uAf ?_;refine uAn (s:=⟨[(0,_,_)],[(.o 0,_),(.o 1,_)],[(.b (.o 1) 1,_),(.b (.o 1) 2,_),(.b (.o 1) 3,_),(.b (.o 1) 4,_),(.b (.o 1) 5,_)],[]⟩) (uAj (⟨sx rfl,trivial⟩) (⟨sx rfl,sx rfl,trivial⟩) (⟨rfl,rfl,rfl,rfl,rfl,trivial⟩)) ?_;refine uAb ?_;refine uAa rfl rfl rfl (uAc rfl gU) ?_;refine uAO (.o 0) rfl rfl rfl rfl rfl rfl (up (uBe l _ _ (by omega) (le3 hl (by first | assumption | exact hq4 _ | exact hq5 _)))) rfl (by rfl) (by rfl) rfl rfl rfl ?_;refine uAf ?_;refine uBJ rfl ?_ (⟨⟨_,rfl,?_⟩,⟨⟨_,rfl,?_⟩,trivial⟩⟩) (by kernel_rfl)
    all_goals first | exact (rfl : uCB []=X.tup []) | (rw [uA5 hw hline (uEV l n (l.getD p.at' tk0).line q)]; done) | (rw [uA5 hw hline (uEV l n (l.getD p.at' tk0).line q)]; rfl) | (rw [uA5 hw hline (uEV l n (l.getD p.at' tk0).line q)]; simp only [Nar.cells,strR,List.map_append]; rfl)
   ·try simp only [nn,uAi,T.rows_len,Tk.rows_len] at hcu1
    have hn1 : w≠uDr:=hcu1
    refine uAe (uAb ?_);refine uAa rfl rfl rfl (uAZ rfl rfl gU gU rfl) ?_;refine uAa rfl rfl rfl (uAd rfl gU) ?_;refine uAf ?_;refine uAm rfl (fun hcu2=>?_) (fun hcu2=>?_)
    ·try simp only [nn,uAi,T.rows_len,Tk.rows_len] at hcu2
     have hwe : w=uEw:=hcu2
     subst hwe
     refine awp_drawn' (by kernel_rfl) ?_;refine uAh rfl rfl rfl rfl (uAc rfl gU) ?_;refine uAh rfl rfl rfl rfl (uAc rfl gU) ?_;refine uAh rfl rfl rfl rfl (uAA rfl gU) ?_;refine uAh rfl rfl rfl rfl (uAg rfl gU rfl rfl) ?_;refine uCg rfl rfl rfl rfl rfl rfl rfl rfl rfl rfl rfl rfl ?_;refine uAh rfl rfl rfl rfl (uAc rfl gU) ?_;refine uE1 (.o 0) rfl rfl rfl rfl rfl rfl rfl (up (uDT l q (by omega) hq1)) rfl (by rfl) (by rfl) rfl rfl rfl ?_;refine uCd rfl rfl rfl rfl rfl rfl rfl rfl rfl rfl rfl (by first | omega | (simp only [List.length_append,List.length_singleton,uAi]; omega)) (by first | omega | (simp only [List.length_append,List.length_singleton,uAi]; omega)) ?_;refine uAh rfl rfl rfl rfl (uAA rfl gU) ?_;refine uAh rfl rfl rfl rfl (uAg rfl gU rfl rfl) ?_;refine uCe rfl rfl rfl rfl rfl rfl rfl rfl rfl rfl rfl rfl ?_;refine uA8 (by kernel_rfl) ?_;refine uAn (s:=⟨[(0,_,_)],[(.o 0,_),(.o 1,_)],[(.b (.o 1) 1,_),(.b (.o 1) 2,_),(.b (.o 1) 3,_),(.b (.o 1) 4,_),(.b (.o 1) 5,_)],[]⟩) (uAj (⟨sx rfl,trivial⟩) (⟨sx rfl,sx rfl,trivial⟩) (⟨(ak2 rfl (ak rfl (ak rfl (ak2 rfl (ak rfl (ak rfl (ak2 rfl (ak rfl (ak rfl (ak rfl (ak rfl (rfl)))))))))))),(ak2 rfl (ak rfl (ak rfl (ak2 rfl (ak rfl (ak rfl (ak2 rfl (ak rfl (ak rfl (ak rfl (ak rfl (rfl)))))))))))),rfl,(ak2 rfl (ak rfl (ak rfl (ak2 rfl (ak rfl (ak rfl (ak2 rfl (ak rfl (ak rfl (ak rfl (ak rfl (rfl)))))))))))),(ak2 rfl (ak rfl (ak rfl (ak2 rfl (ak rfl (ak rfl (ak2 rfl (ak rfl (ak rfl (ak rfl (ak rfl (rfl)))))))))))),trivial⟩)) ?_
     refine uAb ?_;refine uAa rfl rfl rfl (uAc rfl gU) ?_;refine uAO (.o 0) rfl rfl rfl rfl rfl rfl (up (uBe l _ _ (by omega) (le3 hl (by first | assumption | exact hq4 _ | exact hq5 _)))) rfl (by rfl) (by rfl) rfl rfl rfl ?_;refine uAf ?_;refine uBJ rfl ?_ (⟨⟨_,rfl,?_⟩,⟨⟨_,rfl,?_⟩,trivial⟩⟩) (by kernel_rfl)
     all_goals first | exact (rfl : uCB []=X.tup []) | (rw [uA5 hw hline (uEG l n (l.getD p.at' tk0).line q)]; done) | (rw [uA5 hw hline (uEG l n (l.getD p.at' tk0).line q)]; rfl) | (rw [uA5 hw hline (uEG l n (l.getD p.at' tk0).line q)]; simp only [Nar.cells,strR,List.map_append]; rfl)
    ·try simp only [nn,uAi,T.rows_len,Tk.rows_len] at hcu2
     have hn2 : w≠uEw:=hcu2
     refine uAe (uAb ?_);refine uAa rfl rfl rfl (uAZ rfl rfl gU gU rfl) ?_;refine uAa rfl rfl rfl (uAd rfl gU) ?_;refine uAf ?_;refine uAn (s:=⟨[(0,_,_),(1,_,_),(4,_,_),(28,_,_),(58,_,_)],[(.o 0,_),(.o 1,_)],[(.b (.o 1) 1,_),(.b (.o 1) 2,_),(.b (.o 1) 3,_),(.b (.o 1) 4,_),(.b (.o 1) 5,_)],[]⟩) (uAj (⟨sx rfl,sx rfl,sx rfl,sx rfl,sx rfl,trivial⟩) (⟨sx rfl,sx rfl,trivial⟩) (⟨rfl,rfl,rfl,rfl,rfl,trivial⟩)) ?_;refine uAm rfl (fun hcu3=>?_) (fun hcu3=>?_)
     ·try simp only [nn,uAi,T.rows_len,Tk.rows_len] at hcu3
      have hwe : w=wMsg:=hcu3
      subst hwe
      refine uAb ?_;refine uAa rfl rfl rfl (uAc rfl gU) ?_;refine uAa rfl rfl rfl (uAc rfl gU) ?_;refine uAa rfl rfl rfl (uAc rfl gU) ?_;refine uDw [⟨.o 0,0,pbx l q,pbx l (uCs l ((l.getD p.at' tk0).line) q).2⟩,⟨.o 1,0,n.cells,({ n with steps:=n.steps++[(uCs l ((l.getD p.at' tk0).line) q).1] } : Nar).cells⟩] osN rfl rfl rfl rfl rfl rfl (ps2 rfl rfl) rfl rfl (uIQ l q n ((l.getD p.at' tk0).line) hl hq1 (by omega)) rfl rfl rfl ?_;refine uAf ?_;refine uAb ?_;refine uAa rfl rfl rfl (uAc rfl gU) ?_;refine uAO (.o 0) rfl rfl rfl rfl rfl rfl (up (uBe l _ _ (by omega) (le3 hl (by first | assumption | exact hq4 _ | exact hq5 _)))) rfl (by rfl) (by rfl) rfl rfl rfl ?_;refine uAf ?_;refine uBJ rfl ?_ (⟨⟨_,rfl,?_⟩,⟨⟨_,rfl,?_⟩,trivial⟩⟩) (by kernel_rfl)
      all_goals first | exact (rfl : uCB []=X.tup []) | (rw [uA5 hw hline (uES l n (l.getD p.at' tk0).line q)]; done) | (rw [uA5 hw hline (uES l n (l.getD p.at' tk0).line q)]; rfl) | (rw [uA5 hw hline (uES l n (l.getD p.at' tk0).line q)]; simp only [Nar.cells,strR,List.map_append]; rfl)
     ·try simp only [nn,uAi,T.rows_len,Tk.rows_len] at hcu3
      have hn3 : w≠wMsg:=hcu3
      refine uAe (uAb ?_);refine uAa rfl rfl rfl (uAZ rfl rfl gU gU rfl) ?_;refine uAa rfl rfl rfl (uAd rfl gU) ?_;refine uAf ?_;refine uAm rfl (fun hcu4=>?_) (fun hcu4=>?_)
      ·try simp only [nn,uAi,T.rows_len,Tk.rows_len] at hcu4
       have hwe : w=uEm:=hcu4
       subst hwe
       refine uAb ?_;refine uAa rfl rfl rfl (uAc rfl gU) ?_;refine uAa rfl rfl rfl (uAc rfl gU) ?_;refine uAa rfl rfl rfl (uAc rfl gU) ?_;refine uDw [⟨.o 0,0,pbx l q,pbx l (uB6 l ((l.getD p.at' tk0).line) q).2⟩,⟨.o 1,0,n.cells,({ n with goals:=n.goals++[(uB6 l ((l.getD p.at' tk0).line) q).1] } : Nar).cells⟩] osN rfl rfl rfl rfl rfl rfl (ps2 rfl rfl) rfl rfl (uHr l q n ((l.getD p.at' tk0).line) hl hq1 (by omega)) rfl rfl rfl ?_;refine uAf ?_;refine uAn (s:=⟨[(0,_,_)],[(.o 0,_),(.o 1,_)],[(.b (.o 1) 1,_),(.b (.o 1) 2,_),(.b (.o 1) 3,_),(.b (.o 1) 4,_),(.b (.o 1) 5,_)],[]⟩) (uAj (⟨sx rfl,trivial⟩) (⟨sx rfl,sx rfl,trivial⟩) (⟨rfl,rfl,rfl,rfl,rfl,trivial⟩)) ?_;refine uAb ?_;refine uAa rfl rfl rfl (uAc rfl gU) ?_;refine uAO (.o 0) rfl rfl rfl rfl rfl rfl (up (uBe l _ _ (by omega) (le3 hl (by first | assumption | exact hq4 _ | exact hq5 _)))) rfl (by rfl) (by rfl) rfl rfl rfl ?_;refine uAf ?_;refine uBJ rfl ?_ (⟨⟨_,rfl,?_⟩,⟨⟨_,rfl,?_⟩,trivial⟩⟩) (by kernel_rfl)
       all_goals first | exact (rfl : uCB []=X.tup []) | (rw [uA5 hw hline (uEN l n (l.getD p.at' tk0).line q)]; done) | (rw [uA5 hw hline (uEN l n (l.getD p.at' tk0).line q)]; rfl) | (rw [uA5 hw hline (uEN l n (l.getD p.at' tk0).line q)]; simp only [Nar.cells,strR,List.map_append]; rfl)
      ·try simp only [nn,uAi,T.rows_len,Tk.rows_len] at hcu4
       have hn4 : w≠uEm:=hcu4
       refine uAo ?_;refine uAb ?_;refine uAa rfl rfl rfl (uAc rfl gU) ?_;refine uAO (.o 0) rfl rfl rfl rfl rfl rfl (up (uBe l _ _ (by omega) (le3 hl (by first | assumption | exact hq4 _ | exact hq5 _)))) rfl (by rfl) (by rfl) rfl rfl rfl ?_;refine uAf ?_;refine uBJ rfl ?_ (⟨⟨_,rfl,?_⟩,⟨⟨_,rfl,?_⟩,trivial⟩⟩) (by kernel_rfl)
       all_goals first | exact (rfl : uCB []=X.tup []) | (rw [uA5 hw hline (uGR l n (l.getD p.at' tk0).line q hn0 hn1 hn2 hn3 hn4)]; done) | (rw [uA5 hw hline (uGR l n (l.getD p.at' tk0).line q hn0 hn1 hn2 hn3 hn4)]; rfl)
 ·try simp only [nn,uAi,T.rows_len,Tk.rows_len] at hcx
  have hline : uCz l p=0:=by rw [uCz,if_neg (by omega)]
  refine uAo ?_;refine uAe ?_;refine uAe (uAb ?_);refine uAa rfl rfl rfl (uAc rfl gU) ?_;refine uAQ (xs:=[_,_,_,_,_]) rfl rfl rfl rfl rfl rfl rfl rfl rfl gU rfl ?_;refine uAO (.o 0) rfl rfl rfl rfl rfl rfl (up hns) rfl (by rfl) (by rfl) rfl rfl rfl ?_;refine uAf ?_;refine uAt ?_;refine uAe (uAb ?_);refine uAa rfl rfl rfl (uAZ rfl rfl gU gU rfl) ?_;refine uAa rfl rfl rfl (uAd rfl gU) ?_;refine uAf ?_;refine uAn (s:=⟨[(0,_,_),(1,_,_),(4,_,_),(28,_,_),(29,_,_)],[(.o 0,_),(.o 1,_)],[(.b (.o 1) 1,_),(.b (.o 1) 2,_),(.b (.o 1) 3,_),(.b (.o 1) 4,_),(.b (.o 1) 5,_)],[]⟩) (uAj (⟨sx rfl,sx rfl,sx rfl,sx rfl,sx rfl,trivial⟩) (⟨sx rfl,sx rfl,trivial⟩) (⟨rfl,rfl,rfl,rfl,rfl,trivial⟩)) ?_;refine uAm rfl (fun hcv0=>?_) (fun hcv0=>?_)
  ·try simp only [nn,uAi,T.rows_len,Tk.rows_len] at hcv0
   have hwe : w=uED:=hcv0
   subst hwe
   refine awp_drawn' (by kernel_rfl) ?_;refine uAh rfl rfl rfl rfl (uAc rfl gU) ?_;refine uAh rfl rfl rfl rfl (uAc rfl gU) ?_;refine uAh rfl rfl rfl rfl (uAA rfl gU) ?_;refine uAh rfl rfl rfl rfl (uAg rfl gU rfl rfl) ?_;refine uCg rfl rfl rfl rfl rfl rfl rfl rfl rfl rfl rfl rfl ?_;refine uAh rfl rfl rfl rfl (uAc rfl gU) ?_;refine uE1 (.o 0) rfl rfl rfl rfl rfl rfl rfl (up (uDT l q (by omega) hq1)) rfl (by rfl) (by rfl) rfl rfl rfl ?_;refine uCd rfl rfl rfl rfl rfl rfl rfl rfl rfl rfl rfl (by first | omega | (simp only [List.length_append,List.length_singleton,uAi]; omega)) (by first | omega | (simp only [List.length_append,List.length_singleton,uAi]; omega)) ?_;refine uAh rfl rfl rfl rfl (uAA rfl gU) ?_;refine uAh rfl rfl rfl rfl (uAg rfl gU rfl rfl) ?_;refine uCe rfl rfl rfl rfl rfl rfl rfl rfl rfl rfl rfl rfl ?_;refine uA8 (by kernel_rfl) ?_;refine uAn (s:=⟨[(0,_,_)],[(.o 0,_),(.o 1,_)],[(.b (.o 1) 1,_),(.b (.o 1) 2,_),(.b (.o 1) 3,_),(.b (.o 1) 4,_),(.b (.o 1) 5,_)],[]⟩) (uAj (⟨sx rfl,trivial⟩) (⟨sx rfl,sx rfl,trivial⟩) (⟨rfl,(ak2 rfl (ak rfl (ak rfl (ak2 rfl (ak rfl (ak rfl (ak2 rfl (ak rfl (ak rfl (ak rfl (ak rfl (rfl)))))))))))),(ak2 rfl (ak rfl (ak rfl (ak2 rfl (ak rfl (ak rfl (ak2 rfl (ak rfl (ak rfl (ak rfl (ak rfl (rfl)))))))))))),(ak2 rfl (ak rfl (ak rfl (ak2 rfl (ak rfl (ak rfl (ak2 rfl (ak rfl (ak rfl (ak rfl (ak rfl (rfl)))))))))))),(ak2 rfl (ak rfl (ak rfl (ak2 rfl (ak rfl (ak rfl (ak2 rfl (ak rfl (ak rfl (ak rfl (ak rfl (rfl)))))))))))),trivial⟩)) ?_
   refine uAb ?_;refine uAa rfl rfl rfl (uAc rfl gU) ?_;refine uAO (.o 0) rfl rfl rfl rfl rfl rfl (up (uBe l _ _ (by omega) (le3 hl (by first | assumption | exact hq4 _ | exact hq5 _)))) rfl (by rfl) (by rfl) rfl rfl rfl ?_;refine uAf ?_;refine uBJ rfl ?_ (⟨⟨_,rfl,?_⟩,⟨⟨_,rfl,?_⟩,trivial⟩⟩) (by kernel_rfl)
   all_goals first | exact (rfl : uCB []=X.tup []) | (rw [uA5 hw hline (uEJ l n 0 q)]; done) | (rw [uA5 hw hline (uEJ l n 0 q)]; rfl) | (rw [uA5 hw hline (uEJ l n 0 q)]; simp only [Nar.cells,strR,List.map_append]; rfl)
  ·try simp only [nn,uAi,T.rows_len,Tk.rows_len] at hcv0
   have hn0 : w≠uED:=hcv0
   refine uAe (uAb ?_);refine uAa rfl rfl rfl (uAZ rfl rfl gU gU rfl) ?_;refine uAa rfl rfl rfl (uAd rfl gU) ?_;refine uAf ?_;refine uAm rfl (fun hcv1=>?_) (fun hcv1=>?_)
   ·try simp only [nn,uAi,T.rows_len,Tk.rows_len] at hcv1
    have hwe : w=uDr:=hcv1
    subst hwe
    refine uAb ?_;refine uAa rfl rfl rfl (uAc rfl gU) ?_;refine uAa rfl rfl rfl (uAc rfl gU) ?_;refine uDw [⟨.o 0,0,pbx l q,pbx l (uBK l q n.fresh).2⟩,⟨.o 1,0,n.cells,({ n with fresh:=(uBK l q n.fresh).1 } : Nar).cells⟩] osN rfl rfl rfl rfl rfl rfl (ps2 rfl rfl) rfl rfl (uGw l q n hl hq1 (by omega)) rfl rfl rfl ?_;refine uAf ?_;refine uAn (s:=⟨[(0,_,_)],[(.o 0,_),(.o 1,_)],[(.b (.o 1) 1,_),(.b (.o 1) 2,_),(.b (.o 1) 3,_),(.b (.o 1) 4,_),(.b (.o 1) 5,_)],[]⟩) (uAj (⟨sx rfl,trivial⟩) (⟨sx rfl,sx rfl,trivial⟩) (⟨rfl,rfl,rfl,rfl,rfl,trivial⟩)) ?_;refine uAb ?_;refine uAa rfl rfl rfl (uAc rfl gU) ?_;refine uAO (.o 0) rfl rfl rfl rfl rfl rfl (up (uBe l _ _ (by omega) (le3 hl (by first | assumption | exact hq4 _ | exact hq5 _)))) rfl (by rfl) (by rfl) rfl rfl rfl ?_;refine uAf ?_;refine uBJ rfl ?_ (⟨⟨_,rfl,?_⟩,⟨⟨_,rfl,?_⟩,trivial⟩⟩) (by kernel_rfl)
    all_goals first | exact (rfl : uCB []=X.tup []) | (rw [uA5 hw hline (uEV l n 0 q)]; done) | (rw [uA5 hw hline (uEV l n 0 q)]; rfl) | (rw [uA5 hw hline (uEV l n 0 q)]; simp only [Nar.cells,strR,List.map_append]; rfl)
   ·try simp only [nn,uAi,T.rows_len,Tk.rows_len] at hcv1
    have hn1 : w≠uDr:=hcv1
    refine uAe (uAb ?_);refine uAa rfl rfl rfl (uAZ rfl rfl gU gU rfl) ?_;refine uAa rfl rfl rfl (uAd rfl gU) ?_;refine uAf ?_;refine uAm rfl (fun hcv2=>?_) (fun hcv2=>?_)
    ·try simp only [nn,uAi,T.rows_len,Tk.rows_len] at hcv2
     have hwe : w=uEw:=hcv2
     subst hwe
     refine awp_drawn' (by kernel_rfl) ?_;refine uAh rfl rfl rfl rfl (uAc rfl gU) ?_;refine uAh rfl rfl rfl rfl (uAc rfl gU) ?_;refine uAh rfl rfl rfl rfl (uAA rfl gU) ?_;refine uAh rfl rfl rfl rfl (uAg rfl gU rfl rfl) ?_;refine uCg rfl rfl rfl rfl rfl rfl rfl rfl rfl rfl rfl rfl ?_;refine uAh rfl rfl rfl rfl (uAc rfl gU) ?_;refine uE1 (.o 0) rfl rfl rfl rfl rfl rfl rfl (up (uDT l q (by omega) hq1)) rfl (by rfl) (by rfl) rfl rfl rfl ?_;refine uCd rfl rfl rfl rfl rfl rfl rfl rfl rfl rfl rfl (by first | omega | (simp only [List.length_append,List.length_singleton,uAi]; omega)) (by first | omega | (simp only [List.length_append,List.length_singleton,uAi]; omega)) ?_;refine uAh rfl rfl rfl rfl (uAA rfl gU) ?_;refine uAh rfl rfl rfl rfl (uAg rfl gU rfl rfl) ?_;refine uCe rfl rfl rfl rfl rfl rfl rfl rfl rfl rfl rfl rfl ?_;refine uA8 (by kernel_rfl) ?_;refine uAn (s:=⟨[(0,_,_)],[(.o 0,_),(.o 1,_)],[(.b (.o 1) 1,_),(.b (.o 1) 2,_),(.b (.o 1) 3,_),(.b (.o 1) 4,_),(.b (.o 1) 5,_)],[]⟩) (uAj (⟨sx rfl,trivial⟩) (⟨sx rfl,sx rfl,trivial⟩) (⟨(ak2 rfl (ak rfl (ak rfl (ak2 rfl (ak rfl (ak rfl (ak2 rfl (ak rfl (ak rfl (ak rfl (ak rfl (rfl)))))))))))),(ak2 rfl (ak rfl (ak rfl (ak2 rfl (ak rfl (ak rfl (ak2 rfl (ak rfl (ak rfl (ak rfl (ak rfl (rfl)))))))))))),rfl,(ak2 rfl (ak rfl (ak rfl (ak2 rfl (ak rfl (ak rfl (ak2 rfl (ak rfl (ak rfl (ak rfl (ak rfl (rfl)))))))))))),(ak2 rfl (ak rfl (ak rfl (ak2 rfl (ak rfl (ak rfl (ak2 rfl (ak rfl (ak rfl (ak rfl (ak rfl (rfl)))))))))))),trivial⟩)) ?_
     refine uAb ?_;refine uAa rfl rfl rfl (uAc rfl gU) ?_;refine uAO (.o 0) rfl rfl rfl rfl rfl rfl (up (uBe l _ _ (by omega) (le3 hl (by first | assumption | exact hq4 _ | exact hq5 _)))) rfl (by rfl) (by rfl) rfl rfl rfl ?_;refine uAf ?_;refine uBJ rfl ?_ (⟨⟨_,rfl,?_⟩,⟨⟨_,rfl,?_⟩,trivial⟩⟩) (by kernel_rfl)
     all_goals first | exact (rfl : uCB []=X.tup []) | (rw [uA5 hw hline (uEG l n 0 q)]; done) | (rw [uA5 hw hline (uEG l n 0 q)]; rfl) | (rw [uA5 hw hline (uEG l n 0 q)]; simp only [Nar.cells,strR,List.map_append]; rfl)
    ·try simp only [nn,uAi,T.rows_len,Tk.rows_len] at hcv2
     have hn2 : w≠uEw:=hcv2
     refine uAe (uAb ?_);refine uAa rfl rfl rfl (uAZ rfl rfl gU gU rfl) ?_;refine uAa rfl rfl rfl (uAd rfl gU) ?_;refine uAf ?_;refine uAn (s:=⟨[(0,_,_),(1,_,_),(4,_,_),(28,_,_),(58,_,_)],[(.o 0,_),(.o 1,_)],[(.b (.o 1) 1,_),(.b (.o 1) 2,_),(.b (.o 1) 3,_),(.b (.o 1) 4,_),(.b (.o 1) 5,_)],[]⟩) (uAj (⟨sx rfl,sx rfl,sx rfl,sx rfl,sx rfl,trivial⟩) (⟨sx rfl,sx rfl,trivial⟩) (⟨rfl,rfl,rfl,rfl,rfl,trivial⟩)) ?_;refine uAm rfl (fun hcv3=>?_) (fun hcv3=>?_)
     ·try simp only [nn,uAi,T.rows_len,Tk.rows_len] at hcv3
      have hwe : w=wMsg:=hcv3
      subst hwe
      refine uAb ?_;refine uAa rfl rfl rfl (uAc rfl gU) ?_;refine uAa rfl rfl rfl (uAc rfl gU) ?_;refine uAa rfl rfl rfl (uAc rfl gU) ?_;refine uDw [⟨.o 0,0,pbx l q,pbx l (uCs l (0) q).2⟩,⟨.o 1,0,n.cells,({ n with steps:=n.steps++[(uCs l (0) q).1] } : Nar).cells⟩] osN rfl rfl rfl rfl rfl rfl (ps2 rfl rfl) rfl rfl (uIQ l q n (0) hl hq1 (by omega)) rfl rfl rfl ?_;refine uAf ?_;refine uAb ?_;refine uAa rfl rfl rfl (uAc rfl gU) ?_;refine uAO (.o 0) rfl rfl rfl rfl rfl rfl (up (uBe l _ _ (by omega) (le3 hl (by first | assumption | exact hq4 _ | exact hq5 _)))) rfl (by rfl) (by rfl) rfl rfl rfl ?_;refine uAf ?_;refine uBJ rfl ?_ (⟨⟨_,rfl,?_⟩,⟨⟨_,rfl,?_⟩,trivial⟩⟩) (by kernel_rfl)
      all_goals first | exact (rfl : uCB []=X.tup []) | (rw [uA5 hw hline (uES l n 0 q)]; done) | (rw [uA5 hw hline (uES l n 0 q)]; rfl) | (rw [uA5 hw hline (uES l n 0 q)]; simp only [Nar.cells,strR,List.map_append]; rfl)
     ·try simp only [nn,uAi,T.rows_len,Tk.rows_len] at hcv3
      have hn3 : w≠wMsg:=hcv3
      refine uAe (uAb ?_);refine uAa rfl rfl rfl (uAZ rfl rfl gU gU rfl) ?_;refine uAa rfl rfl rfl (uAd rfl gU) ?_;refine uAf ?_;refine uAm rfl (fun hcv4=>?_) (fun hcv4=>?_)
      ·try simp only [nn,uAi,T.rows_len,Tk.rows_len] at hcv4
       have hwe : w=uEm:=hcv4
       subst hwe
       refine uAb ?_;refine uAa rfl rfl rfl (uAc rfl gU) ?_;refine uAa rfl rfl rfl (uAc rfl gU) ?_;refine uAa rfl rfl rfl (uAc rfl gU) ?_;refine uDw [⟨.o 0,0,pbx l q,pbx l (uB6 l (0) q).2⟩,⟨.o 1,0,n.cells,({ n with goals:=n.goals++[(uB6 l (0) q).1] } : Nar).cells⟩] osN rfl rfl rfl rfl rfl rfl (ps2 rfl rfl) rfl rfl (uHr l q n (0) hl hq1 (by omega)) rfl rfl rfl ?_;refine uAf ?_;refine uAn (s:=⟨[(0,_,_)],[(.o 0,_),(.o 1,_)],[(.b (.o 1) 1,_),(.b (.o 1) 2,_),(.b (.o 1) 3,_),(.b (.o 1) 4,_),(.b (.o 1) 5,_)],[]⟩) (uAj (⟨sx rfl,trivial⟩) (⟨sx rfl,sx rfl,trivial⟩) (⟨rfl,rfl,rfl,rfl,rfl,trivial⟩)) ?_;refine uAb ?_;refine uAa rfl rfl rfl (uAc rfl gU) ?_;refine uAO (.o 0) rfl rfl rfl rfl rfl rfl (up (uBe l _ _ (by omega) (le3 hl (by first | assumption | exact hq4 _ | exact hq5 _)))) rfl (by rfl) (by rfl) rfl rfl rfl ?_;refine uAf ?_;refine uBJ rfl ?_ (⟨⟨_,rfl,?_⟩,⟨⟨_,rfl,?_⟩,trivial⟩⟩) (by kernel_rfl)
       all_goals first | exact (rfl : uCB []=X.tup []) | (rw [uA5 hw hline (uEN l n 0 q)]; done) | (rw [uA5 hw hline (uEN l n 0 q)]; rfl) | (rw [uA5 hw hline (uEN l n 0 q)]; simp only [Nar.cells,strR,List.map_append]; rfl)
      ·try simp only [nn,uAi,T.rows_len,Tk.rows_len] at hcv4
       have hn4 : w≠uEm:=hcv4
       refine uAo ?_;refine uAb ?_;refine uAa rfl rfl rfl (uAc rfl gU) ?_;refine uAO (.o 0) rfl rfl rfl rfl rfl rfl (up (uBe l _ _ (by omega) (le3 hl (by first | assumption | exact hq4 _ | exact hq5 _)))) rfl (by rfl) (by rfl) rfl rfl rfl ?_;refine uAf ?_;refine uBJ rfl ?_ (⟨⟨_,rfl,?_⟩,⟨⟨_,rfl,?_⟩,trivial⟩⟩) (by kernel_rfl)
       all_goals first | exact (rfl : uCB []=X.tup []) | (rw [uA5 hw hline (uGR l n 0 q hn0 hn1 hn2 hn3 hn4)]; done) | (rw [uA5 hw hline (uGR l n 0 q hn0 hn1 hn2 hn3 hn4)]; rfl)
end Go.Proofs.YtnjjdbapadkomaaGreatDoor
namespace Go.Proofs.YtnjjdbapadkomaaGreatDoor
open Go Go.Abs
def t0T : T:=⟨0,[],0,[]⟩
abbrev xtie (r : T × Int × Int) : X:=.tup [.agg r.1.cells, .c (.i .i64 r.2.1), .c (.i .i64 r.2.2)]
def uIO (s : List UInt8) : T × Int × Int :=
 if (tokP s).2.2≠0 then (t0T,(tokP s).2.1,(tokP s).2.2)
 else if (endE (tokP s).1 (uAU (tokP s).1 ((tokP s).1.length + 1) ⟨0,false⟩).2).2≠0 then (t0T,(endE (tokP s).1 (uAU (tokP s).1 ((tokP s).1.length + 1) ⟨0,false⟩).2).1,(endE (tokP s).1 (uAU (tokP s).1 ((tokP s).1.length + 1) ⟨0,false⟩).2).2)
 else if uDd uAH (uAU (tokP s).1 ((tokP s).1.length + 1) ⟨0,false⟩).1≠0 then (t0T,0,uDd uAH (uAU (tokP s).1 ((tokP s).1.length + 1) ⟨0,false⟩).1)
 else ((uAU (tokP s).1 ((tokP s).1.length + 1) ⟨0,false⟩).1,0,0)
theorem uMM (s : List UInt8) (hs : s.length≤100000) : Ctr sys 18 [xs s] [] (xtie (uIO s)) none []:=by
 have hcnt:=uHs s
 have htl:=Tk.rows_len (tokP s).1
 have hsz:=uD6 (tokP s).1 ((tokP s).1.length + 1) ⟨0,false⟩
 have hat:=(uCG (tokP s).1 ((tokP s).1.length + 1) ⟨0,false⟩).2 (Nat.zero_le _)
 dsimp only at hsz
 refine uAy Tryz.func18 rfl rfl rfl rfl rfl rfl ?_;refine uAe (uAb ?_);refine uAw rfl (uAT rfl rfl rfl) ?_;refine uAa rfl rfl rfl (uAd rfl gU) ?_;refine uAa rfl rfl rfl (uAd rfl gU) ?_;refine uAf ?_;refine uAe (uAb ?_);refine uAa rfl rfl rfl (uAc rfl gU) ?_;refine uAx rfl rfl rfl rfl rfl rfl gU gU (uGx _ (by omega)) rfl ?_;refine uAa rfl rfl rfl (uAc rfl gU) ?_;refine uAa rfl rfl rfl (uAJ rfl gU rfl) ?_;refine uAa rfl rfl rfl (uAJ rfl gU rfl) ?_;refine uAa rfl rfl rfl (uAJ rfl gU rfl) ?_;refine uAa rfl rfl rfl (uAd rfl gU) ?_;refine uAa rfl rfl rfl (uAd rfl gU) ?_;refine uAa rfl rfl rfl (uAd rfl gU) ?_;refine uAf ?_;refine uAn (s:=⟨[(2,_,_),(5,_,_),(6,_,_),(7,_,_)],[(.l 2,_)],[],[]⟩) (uAj (⟨sx rfl,sx rfl,sx rfl,sx rfl,trivial⟩) (⟨sx rfl,trivial⟩) trivial) ?_;refine uAe ?_;refine uAe (uAb ?_);refine uAa rfl rfl rfl (uAc rfl gU) ?_;refine uAa rfl rfl rfl (uAk rfl rfl gU gU rfl) ?_;refine uAf ?_;refine uAm rfl (fun hc=>?_) (fun hc=>?_)
 ·try simp only [nn,uAi,T.rows_len,Tk.rows_len] at hc
  refine uAe (uAb ?_);refine uAa rfl rfl rfl (uA1 rfl Tryz.underlying39 rfl gU) ?_;refine uAa rfl rfl rfl (uAc rfl gU) ?_;refine uAa rfl rfl rfl (uAc rfl gU) ?_;refine uAw rfl (uAB rfl rfl rfl rfl rfl rfl rfl) ?_;refine uAa rfl rfl rfl (uAd rfl gU) ?_;refine uAa rfl rfl rfl (uAd rfl gU) ?_;refine uAf ?_;refine uAp ?_
  repeat (first | refine tR ?_ | refine bR ?_)
  refine uAs rfl ?_ trivial
  (rw [uIO,if_pos hc]; rfl)
 ·try simp only [nn,uAi,T.rows_len,Tk.rows_len] at hc
  refine uAo ?_;refine uAe (uAb ?_);refine uAa rfl rfl rfl (uAc rfl gU) ?_;refine uAa rfl rfl rfl (uA1 rfl Tryz.underlying86 rfl gU) ?_;refine uAw rfl (uAX rfl rfl rfl rfl) ?_;refine uAa rfl rfl rfl (uAd rfl gU) ?_;refine uAf ?_;refine uAn (s:=⟨[(2,_,_),(8,_,_)],[(.l 2,_),(.l 26,_)],[],[]⟩) (uAj (⟨sx rfl,sx rfl,trivial⟩) (⟨sx rfl,sx rfl,trivial⟩) trivial) ?_;refine uAe (uAb ?_);refine uAa rfl rfl rfl (uAc rfl gU) ?_;refine uAO (.l 26) rfl rfl rfl rfl rfl rfl (uGc (tokP s).1 (by omega) ((tokP s).1.length + 1) ⟨0,false⟩ (Nat.zero_le _) (by dsimp only; omega)) rfl (by rfl) (by rfl) rfl rfl rfl ?_;refine uAw rfl (uAT rfl rfl rfl) ?_;refine uAw rfl (uAB rfl rfl rfl rfl rfl rfl rfl) ?_;refine uAf ?_;refine uAe ?_;refine uAe (uAb ?_);refine uAa rfl rfl rfl (uAc rfl gU) ?_;refine uAO (.l 26) rfl rfl rfl rfl rfl rfl (uGk _ _ (by omega)) rfl (by rfl) (by rfl) rfl rfl rfl ?_;refine uAa rfl rfl rfl (uAc rfl gU) ?_;refine uAa rfl rfl rfl (uAJ rfl gU rfl) ?_;refine uAa rfl rfl rfl (uAJ rfl gU rfl) ?_;refine uAa rfl rfl rfl (uAd rfl gU) ?_;refine uAa rfl rfl rfl (uAd rfl gU) ?_;refine uAf ?_;refine uAn (s:=⟨[(2,_,_),(9,_,_),(10,_,_),(11,_,_)],[(.l 2,_),(.l 9,_)],[],[]⟩) (uAj (⟨sx rfl,sx rfl,sx rfl,sx rfl,trivial⟩) (⟨sx rfl,sx rfl,trivial⟩) trivial) ?_
  refine uAe (uAb ?_);refine uAa rfl rfl rfl (uAc rfl gU) ?_;refine uAa rfl rfl rfl (uAk rfl rfl gU gU rfl) ?_;refine uAf ?_;refine uAm rfl (fun hc2=>?_) (fun hc2=>?_)
  ·try simp only [nn,uAi,T.rows_len,Tk.rows_len] at hc2
   refine uAe (uAb ?_);refine uAa rfl rfl rfl (uA1 rfl Tryz.underlying39 rfl gU) ?_;refine uAa rfl rfl rfl (uAc rfl gU) ?_;refine uAa rfl rfl rfl (uAc rfl gU) ?_;refine uAw rfl (uAB rfl rfl rfl rfl rfl rfl rfl) ?_;refine uAa rfl rfl rfl (uAd rfl gU) ?_;refine uAa rfl rfl rfl (uAd rfl gU) ?_;refine uAf ?_;refine uAp ?_
   repeat (first | refine tR ?_ | refine bR ?_)
   refine uAs rfl ?_ trivial
   (rw [uIO,if_neg (by simpa using hc),if_pos hc2]; rfl)
  ·try simp only [nn,uAi,T.rows_len,Tk.rows_len] at hc2
   refine uAo ?_;refine uAe ?_;refine uAe (uAb ?_);refine uAa rfl rfl rfl (uAv rfl gU rfl rfl rfl rfl rfl) ?_;refine uAx rfl rfl rfl rfl rfl rfl gU gU (uD9 _ (by omega)) rfl ?_;refine uAa rfl rfl rfl (uAd rfl gU) ?_;refine uAf ?_;refine uAn (s:=⟨[(2,_,_),(9,_,_),(12,_,_)],[(.l 2,_),(.l 9,_)],[],[]⟩) (uAj (⟨sx rfl,sx rfl,sx rfl,trivial⟩) (⟨sx rfl,sx rfl,trivial⟩) trivial) ?_;refine uAe (uAb ?_);refine uAa rfl rfl rfl (uAc rfl gU) ?_;refine uAa rfl rfl rfl (uAk rfl rfl gU gU rfl) ?_;refine uAf ?_;refine uAm rfl (fun hc3=>?_) (fun hc3=>?_)
   ·try simp only [nn,uAi,T.rows_len,Tk.rows_len] at hc3
    refine uAe (uAb ?_);refine uAa rfl rfl rfl (uA1 rfl Tryz.underlying39 rfl gU) ?_;refine uAa rfl rfl rfl (uAc rfl gU) ?_;refine uAw rfl (uAB rfl rfl rfl rfl rfl rfl rfl) ?_;refine uAa rfl rfl rfl (uAd rfl gU) ?_;refine uAa rfl rfl rfl (uAd rfl gU) ?_;refine uAf ?_;refine uAp ?_
    repeat (first | refine tR ?_ | refine bR ?_)
    refine uAs rfl ?_ trivial
    (rw [uIO,if_neg (by simpa using hc),if_neg (by simpa using hc2),if_pos hc3]; rfl)
   ·try simp only [nn,uAi,T.rows_len,Tk.rows_len] at hc3
    refine uAo ?_;refine uAe (uAb ?_);refine uAa rfl rfl rfl (uAv rfl gU rfl rfl rfl rfl rfl) ?_;refine uAw rfl (uAB rfl rfl rfl rfl rfl rfl rfl) ?_;refine uAa rfl rfl rfl (uAd rfl gU) ?_;refine uAa rfl rfl rfl (uAd rfl gU) ?_;refine uAf ?_;refine uAp ?_
    repeat (first | refine tR ?_ | refine bR ?_)
    refine uAs rfl ?_ trivial
    (rw [uIO,if_neg (by simpa using hc),if_neg (by simpa using hc2),if_neg (by simpa using hc3)]; rfl)
abbrev xnie (r : Nar × Int × Int) : X:=.tup [.agg r.1.cells, .c (.i .i64 r.2.1), .c (.i .i64 r.2.2)]
def uDp (l : List Tk) : Nar × Int × Int :=
 if (endE l (uBL l).2).2≠0 then (nar0,(endE l (uBL l).2).1,(endE l (uBL l).2).2)
 else if narE uAH (uBL l).1≠0 then (nar0,0,narE uAH (uBL l).1)
 else ((uBL l).1,0,0)
def uCi (s : List UInt8) : Nar × Int × Int:=if (tokP s).2.2≠0 then (nar0,(tokP s).2.1,(tokP s).2.2) else uDp (tokP s).1
theorem uLj {l : List Tk} {m : Nat} {n : Nar} {p : PS} (h : p.bad=true) : uB8 l m n p=(n,p):=by
 cases m with
 | zero=>rfl
 | succ m=>rw [uB8,if_pos h]
theorem uJC {l : List Tk} {m : Nat} {n : Nar} {p : PS} (h : p.bad=false) (hq : symQ l p [125]=true) : uB8 l (m + 1) n p=(n,p.go):=by
 rw [uB8,if_neg (by rw [h]; simp),if_pos hq]
theorem uMP {l : List Tk} {m : Nat} {n : Nar} {p : PS} (h : p.bad=false) (hq : symQ l p [125]=false) : uB8 l (m + 1) n p=uB8 l m (uBX l n p).1 (uBX l n p).2:=by
 rw [uB8,if_neg (by rw [h]; simp),if_neg (by rw [hq]; simp)]
theorem uMs (l : List Tk) (n : Nar) (p : PS) : p.at'≤(uBX l n p).2.at':=Nat.le_trans (uA6 l uBM p).1 (Nat.le_trans (uHD l n (uCz l p) (uAz l uBM p).1 (uAz l uBM p).2).1 (uBs l [59] _).1)
theorem uMh {l : List Tk} {n : Nar} {p : PS} (h : (n,p)=uBL l) (he : (endE l p).2≠0) : uDp l=(nar0,(endE l p).1,(endE l p).2):=by
 unfold uDp; rw [← h,if_pos he]
theorem uLU {l : List Tk} {n : Nar} {p : PS} (h : (n,p)=uBL l) (he : (endE l p).2=0) (hv : narE uAH n≠0) : uDp l=(nar0,0,narE uAH n):=by
 unfold uDp; rw [← h,if_neg (by simpa using he),if_pos hv]
theorem uMq {l : List Tk} {n : Nar} {p : PS} (h : (n,p)=uBL l) (he : (endE l p).2=0) (hv : narE uAH n=0) : uDp l=(n,0,0):=by
 unfold uDp; rw [← h,if_neg (by simpa using he),if_neg (by simpa using hv)]
set_option maxHeartbeats 4000000 in
theorem uJI (s : List UInt8) (hs : s.length≤100000) : Ctr sysO 16 [xs s] [] (xnie (uCi s)) none []:=by
 have hcnt:=uHs s
 have htl:=Tk.rows_len (tokP s).1
 obtain ⟨l,hl⟩ : ∃ l,(tokP s).1=l:=⟨_,rfl⟩
 have hll : l.length≤100000:=by rw [← hl]; omega
 have a1:=(uA6 l [uC4] ⟨0,false⟩).2 (Nat.zero_le _)
 have a2:=(uA6 l [] (uAz l [uC4] ⟨0,false⟩).2).2 a1
 have a3:=(uBs l [123] (uAz l [] (uAz l [uC4] ⟨0,false⟩).2).2).2 a2
 have hn1:=uBF l ⟨0,false⟩ [uC4] (by omega) (by dsimp only; omega)
 have hn2:=uBF l (uAz l [uC4] ⟨0,false⟩).2 [] (by omega) (by omega)
 refine uAy Tryz.func16 rfl rfl rfl rfl rfl rfl ?_;refine uAe (uAb ?_);refine uAw rfl (uAT rfl rfl rfl) ?_;refine uAa rfl rfl rfl (uAd rfl gU) ?_;refine uAa rfl rfl rfl (uAd rfl gU) ?_;refine uAf ?_;refine uAe (uAb ?_);refine uAa rfl rfl rfl (uAc rfl gU) ?_;refine uAx rfl rfl rfl rfl rfl rfl gU gU (up (uGx _ (by omega))) rfl ?_;refine uAa rfl rfl rfl (uAc rfl gU) ?_;refine uAa rfl rfl rfl (uAJ rfl gU rfl) ?_;refine uAa rfl rfl rfl (uAJ rfl gU rfl) ?_;refine uAa rfl rfl rfl (uAJ rfl gU rfl) ?_;refine uAa rfl rfl rfl (uAd rfl gU) ?_;refine uAa rfl rfl rfl (uAd rfl gU) ?_;refine uAa rfl rfl rfl (uAd rfl gU) ?_;refine uAf ?_;refine uAn (s:=⟨[(2,_,_),(5,_,_),(6,_,_),(7,_,_)],[(.l 2,_)],[],[]⟩) (uAj (⟨sx rfl,sx rfl,sx rfl,sx rfl,trivial⟩) (⟨sx rfl,trivial⟩) trivial) ?_;refine uAe ?_;refine uAe (uAb ?_);refine uAa rfl rfl rfl (uAc rfl gU) ?_;refine uAa rfl rfl rfl (uAk rfl rfl gU gU rfl) ?_;refine uAf ?_;refine uAm rfl (fun hc=>?_) (fun hc=>?_)
 ·try simp only [nn,uAi,T.rows_len,Tk.rows_len] at hc
  refine uAe (uAb ?_);refine uAa rfl rfl rfl (uA1 rfl Tryz.underlying27 rfl gU) ?_;refine uAa rfl rfl rfl (uAc rfl gU) ?_;refine uAa rfl rfl rfl (uAc rfl gU) ?_;refine uAw rfl (uAB rfl rfl rfl rfl rfl rfl rfl) ?_;refine uAa rfl rfl rfl (uAd rfl gU) ?_;refine uAa rfl rfl rfl (uAd rfl gU) ?_;refine uAf ?_;refine uAp ?_
  repeat (first | refine tR ?_ | refine bR ?_)
  refine uAs rfl ?_ trivial
  (rw [uCi,if_pos hc]; rfl)
 ·try simp only [nn,uAi,T.rows_len,Tk.rows_len] at hc
  have hpe : uCi s=uDp l:=by rw [uCi,if_neg (by simpa using hc),hl]
  rw [hpe]
  rw [hl]
  refine uAo ?_;refine uAe (uAb ?_);refine uAa rfl rfl rfl (uAc rfl gU) ?_;refine uAa rfl rfl rfl (uA1 rfl Tryz.underlying86 rfl gU) ?_;refine uAw rfl (uAX rfl rfl rfl rfl) ?_;refine uAa rfl rfl rfl (uAd rfl gU) ?_;refine uAf ?_;refine uAn (s:=⟨[(2,_,_),(8,_,_)],[(.l 2,_),(.l 26,_)],[],[]⟩) (uAj (⟨sx rfl,sx rfl,trivial⟩) (⟨sx rfl,sx rfl,trivial⟩) trivial) ?_;refine uAe (uAb ?_);refine uAw rfl (uJZ rfl rfl rfl rfl) ?_;refine uAf ?_;refine uAe (uAb ?_);refine uAa rfl rfl rfl (uAc rfl gU) ?_;refine uAQ (xs:=[_]) rfl rfl rfl rfl rfl rfl rfl rfl rfl gU rfl ?_;refine uAO (.l 26) rfl rfl rfl rfl rfl rfl (up hn1) rfl (by rfl) (by rfl) rfl rfl rfl ?_;refine uAf ?_;refine uAe (uAb ?_);refine uAa rfl rfl rfl (uAc rfl gU) ?_;refine uAO (.l 26) rfl rfl rfl rfl rfl rfl (up hn2) rfl (by rfl) (by rfl) rfl rfl rfl ?_;refine uAa rfl rfl rfl (uAg rfl gU rfl rfl) ?_;refine uAw rfl (uAB rfl rfl rfl rfl rfl rfl rfl) ?_;refine uAf ?_;refine uAn (s:=⟨[(2,_,_),(8,_,_),(9,_,_)],[(.l 2,_),(.l 26,_),(.l 9,_)],[],[]⟩) (uAj (⟨sx rfl,sx rfl,sx rfl,trivial⟩) (⟨sx rfl,sx rfl,sx rfl,trivial⟩) trivial) ?_;refine uAe (uAb ?_);refine uAa rfl rfl rfl (uAc rfl gU) ?_;refine uAO (.l 26) rfl rfl rfl rfl rfl rfl (up (uBe l _ _ (by omega) (by omega))) rfl (by rfl) (by rfl) rfl rfl rfl ?_
  refine uAf ?_;refine uAe ?_;refine uAt ?_;refine uFV (.l 9) 1 1 rfl rfl rfl ?_;refine uFV (.l 9) 2 3 rfl rfl rfl ?_;refine uFV (.l 9) 3 1 rfl rfl rfl ?_;refine uFV (.l 9) 4 7 rfl rfl rfl ?_;refine uFV (.l 9) 5 5 rfl rfl rfl ?_;refine uAW (ι:=PS × Nar) { t:=[(2,_,_),(8,_,_),(9,_,_)],bx:=[(.l 2,_)],ow:=[(.b (.l 9) 1,_),(.b (.l 9) 2,_),(.b (.l 9) 3,_),(.b (.l 9) 4,_),(.b (.l 9) 5,_)] } (fun q=>[]) (fun q=>[((.l 26),pbx l q.1),((.l 9),q.2.cells)]) (fun q=>q.1.at'≤l.length∧q.2.Le q.1.at'∧q.2.Sm (2 * l.length + 2) ∧ ∃ m,(q.1.bad=true∨l.length < m + q.1.at')∧uB8 l m q.2 q.1=uBL l) (fun q=>(l.length - q.1.at') + (if q.1.bad=true then 0 else 1)) ((uA7 l [123] (uAz l [] (uAz l [uC4] ⟨0,false⟩).2).2,{ nar0 with name:=(uAz l [] (uAz l [uC4] ⟨0,false⟩).2).1 })) (⟨a3,⟨Nat.zero_le _,Nat.zero_le _,Nat.zero_le _,Nat.zero_le _,Nat.zero_le _⟩,⟨fun s hs=>by simp [nar0] at hs,fun s hs=>by simp [nar0] at hs⟩,l.length + 2, .inr (by omega),rfl⟩) (uAj (⟨sx rfl,sx rfl,sx rfl,trivial⟩) (⟨sx rfl,sx rfl,sx rfl,trivial⟩) (⟨rfl,rfl,rfl,rfl,rfl,trivial⟩)) ?_
  intro q hok
  dsimp only [List.cons_append,List.nil_append] at *
  obtain ⟨⟨at1,bad1⟩,n⟩:=q
  dsimp only at hok ⊢
  obtain ⟨hq,hle,hsm,m,hm,hi⟩:=hok
  have hle2:=hle.mono (j:=2000000) (by omega)
  cases bad1
  ·skip
   refine uAe ?_;refine uAe (uAb ?_);refine uAa rfl rfl rfl (uAc rfl gU) ?_;refine uAa rfl rfl rfl (uAA rfl gU) ?_;refine uAa rfl rfl rfl (uAg rfl gU rfl rfl) ?_;refine uAa rfl rfl rfl (uAl rfl gU rfl rfl rfl rfl) ?_;refine uAa rfl rfl rfl (uAV rfl gU) ?_;refine uAa rfl rfl rfl (uAc rfl gU) ?_;refine uAa rfl rfl rfl (uAc rfl gU) ?_;refine uAO (.l 26) rfl rfl rfl rfl rfl rfl (up (uB0 l ⟨at1,false⟩ _ (by omega) (by dsimp only; omega))) rfl (by rfl) (by rfl) rfl rfl rfl ?_;refine uAa rfl rfl rfl (uAV rfl (fun hh=>hh)) ?_;refine uAa rfl rfl rfl (uAR rfl rfl gU (fun _ hi=>gP rfl hi)) ?_;refine uAf ?_;refine uAn (s:=⟨[(2,_,_),(8,_,_),(9,_,_),(44,_,_)],[(.l 2,_),(.l 26,_),(.l 9,_)],[(.b (.l 9) 1,_),(.b (.l 9) 2,_),(.b (.l 9) 3,_),(.b (.l 9) 4,_),(.b (.l 9) 5,_)],[]⟩) (uAj (⟨sx rfl,sx rfl,sx rfl,sx rfl,trivial⟩) (⟨sx rfl,sx rfl,sx rfl,trivial⟩) (⟨rfl,rfl,rfl,rfl,rfl,trivial⟩)) ?_;refine uAm rfl (fun hc2=>?_) (fun hc2=>?_)
   ·try simp only [nn,uAi,T.rows_len,Tk.rows_len] at hc2
    have hz : symQ l ⟨at1,false⟩ [125]=false:=by simpa using hc2
    have hs2 : symP l ⟨at1,false⟩ [125]=⟨at1,false⟩:=by rw [symP,hz]; rfl
    have hm : l.length < m + at1:=hm.resolve_left (by simp)
    obtain ⟨m,rfl⟩ : ∃ j,m=j + 1:=⟨m - 1,by omega⟩
    rw [uMP rfl hz] at hi
    rw [hs2]
    obtain ⟨i1,i2⟩:=uNS l n ⟨at1,false⟩ hq
    have i5:=uMs l n ⟨at1,false⟩
    dsimp only at i5
    have i3:=uOG (l:=l) (p:=⟨at1,false⟩) hle
    have i4:=uNW (l:=l) (p:=⟨at1,false⟩) hsm hq
    refine uAo ?_;refine uAt ?_;refine uAb ?_;refine uAa rfl rfl rfl (uAc rfl gU) ?_;refine uDw [⟨.l 26,0,pbx l ⟨at1,false⟩,pbx l (uBX l n ⟨at1,false⟩).2⟩,⟨.l 9,0,n.cells,(uBX l n ⟨at1,false⟩).1.cells⟩] osN rfl rfl rfl rfl rfl rfl (ps2 rfl rfl) rfl rfl (uMN l ⟨at1,false⟩ n (by omega) hq hle2) rfl rfl rfl ?_;refine uAf ?_;refine ⟨((uBX l n ⟨at1,false⟩).2,(uBX l n ⟨at1,false⟩).1),?_,?_,uAj (⟨sx rfl,sx rfl,sx rfl,trivial⟩) (⟨⟨_,rfl,?_⟩,⟨⟨_,rfl,?_⟩,⟨sx rfl,trivial⟩⟩⟩) (⟨rfl,rfl,rfl,rfl,rfl,trivial⟩)⟩
    ·refine ⟨i1,i3,i4,m,?_,hi⟩
     cases hz2 : (uBX l n ⟨at1,false⟩).2.bad with
     | true=>exact .inl rfl
     | false=>exact .inr (by have := i2 hz2; dsimp only at this ⊢; omega)
    ·dsimp only
     cases hz2 : (uBX l n ⟨at1,false⟩).2.bad with
     | true=>simp; omega
     | false=>have := i2 hz2; dsimp only at this; simp; omega
    all_goals rfl
   ·try simp only [nn,uAi,T.rows_len,Tk.rows_len] at hc2
    have hz : symQ l ⟨at1,false⟩ [125]=true:=by simpa using hc2
    have hs2 : symP l ⟨at1,false⟩ [125]=⟨at1 + 1,false⟩:=by rw [symP,if_pos hz]; rfl
    have hm : l.length < m + at1:=hm.resolve_left (by simp)
    obtain ⟨m,rfl⟩ : ∃ j,m=j + 1:=⟨m - 1,by omega⟩
    rw [uJC rfl hz] at hi
    have hi : (n,(⟨at1 + 1,false⟩ : PS))=uBL l:=hi
    rw [hs2]
    refine uAM ?_
    repeat (first | refine uAD ?_ | refine uAE ?_ | refine uAC rfl ?_)
    refine uAe ?_;refine uAe (uAb ?_);refine uAa rfl rfl rfl (uAc rfl gU) ?_;refine uAO (.l 26) rfl rfl rfl rfl rfl rfl (up (uGk _ _ (by omega))) rfl (by rfl) (by rfl) rfl rfl rfl ?_;refine uAa rfl rfl rfl (uAc rfl gU) ?_;refine uAa rfl rfl rfl (uAJ rfl gU rfl) ?_;refine uAa rfl rfl rfl (uAJ rfl gU rfl) ?_;refine uAa rfl rfl rfl (uAd rfl gU) ?_;refine uAa rfl rfl rfl (uAd rfl gU) ?_;refine uAf ?_;refine uAn (s:=⟨[(2,_,_),(9,_,_),(10,_,_),(11,_,_)],[(.l 2,_),(.l 9,_)],[(.b (.l 9) 1,_),(.b (.l 9) 2,_),(.b (.l 9) 3,_),(.b (.l 9) 4,_),(.b (.l 9) 5,_)],[]⟩) (uAj (⟨sx rfl,sx rfl,sx rfl,sx rfl,trivial⟩) (⟨sx rfl,sx rfl,trivial⟩) (⟨rfl,rfl,rfl,rfl,rfl,trivial⟩)) ?_;refine uAe (uAb ?_);refine uAa rfl rfl rfl (uAc rfl gU) ?_;refine uAa rfl rfl rfl (uAk rfl rfl gU gU rfl) ?_;refine uAf ?_;refine uAm rfl (fun hc3=>?_) (fun hc3=>?_)
    ·try simp only [nn,uAi,T.rows_len,Tk.rows_len] at hc3
     refine uAe (uAb ?_);refine uAa rfl rfl rfl (uA1 rfl Tryz.underlying27 rfl gU) ?_;refine uAa rfl rfl rfl (uAc rfl gU) ?_;refine uAa rfl rfl rfl (uAc rfl gU) ?_;refine uAw rfl (uAB rfl rfl rfl rfl rfl rfl rfl) ?_;refine uAa rfl rfl rfl (uAd rfl gU) ?_;refine uAa rfl rfl rfl (uAd rfl gU) ?_;refine uAf ?_;refine uAp ?_
     repeat (first | refine tR ?_ | refine bR ?_)
     refine uAs rfl ?_ trivial
     (rw [uMh hi hc3]; rfl)
    ·try simp only [nn,uAi,T.rows_len,Tk.rows_len] at hc3
     refine uAo ?_;refine uAe ?_;refine uAe (uAb ?_);refine uAa rfl rfl rfl (uAv rfl gU rfl rfl rfl rfl rfl) ?_;refine uAx rfl rfl rfl rfl rfl rfl gU gU (up (uFd n (fun s hs=>Nat.le_trans (hsm.steps s hs) (by omega)) (fun g hg=>Nat.le_trans (hsm.goals g hg) (by omega)))) rfl ?_;refine uAa rfl rfl rfl (uAd rfl gU) ?_;refine uAf ?_;refine uAn (s:=⟨[(2,_,_),(9,_,_),(12,_,_)],[(.l 2,_),(.l 9,_)],[(.b (.l 9) 1,_),(.b (.l 9) 2,_),(.b (.l 9) 3,_),(.b (.l 9) 4,_),(.b (.l 9) 5,_)],[]⟩) (uAj (⟨sx rfl,sx rfl,sx rfl,trivial⟩) (⟨sx rfl,sx rfl,trivial⟩) (⟨rfl,rfl,rfl,rfl,rfl,trivial⟩)) ?_;refine uAe (uAb ?_);refine uAa rfl rfl rfl (uAc rfl gU) ?_;refine uAa rfl rfl rfl (uAk rfl rfl gU gU rfl) ?_;refine uAf ?_;refine uAm rfl (fun hc4=>?_) (fun hc4=>?_)
     ·try simp only [nn,uAi,T.rows_len,Tk.rows_len] at hc4
      refine uAe (uAb ?_);refine uAa rfl rfl rfl (uA1 rfl Tryz.underlying27 rfl gU) ?_;refine uAa rfl rfl rfl (uAc rfl gU) ?_;refine uAw rfl (uAB rfl rfl rfl rfl rfl rfl rfl) ?_;refine uAa rfl rfl rfl (uAd rfl gU) ?_;refine uAa rfl rfl rfl (uAd rfl gU) ?_;refine uAf ?_;refine uAp ?_
      repeat (first | refine tR ?_ | refine bR ?_)
      refine uAs rfl ?_ trivial
      (rw [uLU hi (by simpa using hc3) hc4]; rfl)
     ·try simp only [nn,uAi,T.rows_len,Tk.rows_len] at hc4
      refine uAo ?_;refine uAe (uAb ?_);refine uAa rfl rfl rfl (uAv rfl gU rfl rfl rfl rfl rfl) ?_;refine uAw rfl (uAB rfl rfl rfl rfl rfl rfl rfl) ?_;refine uAa rfl rfl rfl (uAd rfl gU) ?_;refine uAa rfl rfl rfl (uAd rfl gU) ?_;refine uAf ?_;refine uAp ?_
      repeat (first | refine tR ?_ | refine bR ?_)
      refine uAs rfl ?_ trivial
      (rw [uMq hi (by simpa using hc3) (by simpa using hc4)]; rfl)
  ·skip
   refine uAe ?_;refine uAe (uAb ?_);refine uAa rfl rfl rfl (uAc rfl gU) ?_;refine uAa rfl rfl rfl (uAA rfl gU) ?_;refine uAa rfl rfl rfl (uAg rfl gU rfl rfl) ?_;refine uAa rfl rfl rfl (uAl rfl gU rfl rfl rfl rfl) ?_;refine uAa rfl rfl rfl (uAV rfl gU) ?_;refine uAa rfl rfl rfl (uAc rfl gU) ?_;refine uAa rfl rfl rfl (uAc rfl gU) ?_;refine uL7 (xb false) rfl rfl rfl ?_;refine uAa rfl rfl rfl (uAV rfl (fun hh=>hh)) ?_;refine uAa rfl rfl rfl (uAR rfl rfl gU (fun _ hi=>gP rfl hi)) ?_;refine uAf ?_;refine uAn (s:=⟨[(2,_,_),(8,_,_),(9,_,_),(44,_,_)],[(.l 2,_),(.l 26,_),(.l 9,_)],[(.b (.l 9) 1,_),(.b (.l 9) 2,_),(.b (.l 9) 3,_),(.b (.l 9) 4,_),(.b (.l 9) 5,_)],[]⟩) (uAj (⟨sx rfl,sx rfl,sx rfl,sx rfl,trivial⟩) (⟨sx rfl,sx rfl,sx rfl,trivial⟩) (⟨rfl,rfl,rfl,rfl,rfl,trivial⟩)) ?_;refine uAm rfl (fun hc2=>?_) (fun hc2=>?_)
   ·exfalso
    simp at hc2
   ·rw [uLj rfl] at hi
    refine uAM ?_
    repeat (first | refine uAD ?_ | refine uAE ?_ | refine uAC rfl ?_)
    refine uAe ?_;refine uAe (uAb ?_);refine uAa rfl rfl rfl (uAc rfl gU) ?_;refine uAO (.l 26) rfl rfl rfl rfl rfl rfl (up (uGk _ _ (by omega))) rfl (by rfl) (by rfl) rfl rfl rfl ?_;refine uAa rfl rfl rfl (uAc rfl gU) ?_;refine uAa rfl rfl rfl (uAJ rfl gU rfl) ?_;refine uAa rfl rfl rfl (uAJ rfl gU rfl) ?_;refine uAa rfl rfl rfl (uAd rfl gU) ?_;refine uAa rfl rfl rfl (uAd rfl gU) ?_;refine uAf ?_;refine uAn (s:=⟨[(2,_,_),(9,_,_),(10,_,_),(11,_,_)],[(.l 2,_),(.l 9,_)],[(.b (.l 9) 1,_),(.b (.l 9) 2,_),(.b (.l 9) 3,_),(.b (.l 9) 4,_),(.b (.l 9) 5,_)],[]⟩) (uAj (⟨sx rfl,sx rfl,sx rfl,sx rfl,trivial⟩) (⟨sx rfl,sx rfl,trivial⟩) (⟨rfl,rfl,rfl,rfl,rfl,trivial⟩)) ?_;refine uAe (uAb ?_);refine uAa rfl rfl rfl (uAc rfl gU) ?_;refine uAa rfl rfl rfl (uAk rfl rfl gU gU rfl) ?_;refine uAf ?_;refine uAm rfl (fun hc3=>?_) (fun hc3=>?_)
    ·try simp only [nn,uAi,T.rows_len,Tk.rows_len] at hc3
     refine uAe (uAb ?_);refine uAa rfl rfl rfl (uA1 rfl Tryz.underlying27 rfl gU) ?_;refine uAa rfl rfl rfl (uAc rfl gU) ?_;refine uAa rfl rfl rfl (uAc rfl gU) ?_;refine uAw rfl (uAB rfl rfl rfl rfl rfl rfl rfl) ?_;refine uAa rfl rfl rfl (uAd rfl gU) ?_;refine uAa rfl rfl rfl (uAd rfl gU) ?_;refine uAf ?_;refine uAp ?_
     repeat (first | refine tR ?_ | refine bR ?_)
     refine uAs rfl ?_ trivial
     (rw [uMh hi hc3]; rfl)
    ·try simp only [nn,uAi,T.rows_len,Tk.rows_len] at hc3
     refine uAo ?_;refine uAe ?_;refine uAe (uAb ?_);refine uAa rfl rfl rfl (uAv rfl gU rfl rfl rfl rfl rfl) ?_;refine uAx rfl rfl rfl rfl rfl rfl gU gU (up (uFd n (fun s hs=>Nat.le_trans (hsm.steps s hs) (by omega)) (fun g hg=>Nat.le_trans (hsm.goals g hg) (by omega)))) rfl ?_;refine uAa rfl rfl rfl (uAd rfl gU) ?_;refine uAf ?_;refine uAn (s:=⟨[(2,_,_),(9,_,_),(12,_,_)],[(.l 2,_),(.l 9,_)],[(.b (.l 9) 1,_),(.b (.l 9) 2,_),(.b (.l 9) 3,_),(.b (.l 9) 4,_),(.b (.l 9) 5,_)],[]⟩) (uAj (⟨sx rfl,sx rfl,sx rfl,trivial⟩) (⟨sx rfl,sx rfl,trivial⟩) (⟨rfl,rfl,rfl,rfl,rfl,trivial⟩)) ?_;refine uAe (uAb ?_);refine uAa rfl rfl rfl (uAc rfl gU) ?_;refine uAa rfl rfl rfl (uAk rfl rfl gU gU rfl) ?_;refine uAf ?_;refine uAm rfl (fun hc4=>?_) (fun hc4=>?_)
     ·try simp only [nn,uAi,T.rows_len,Tk.rows_len] at hc4
      refine uAe (uAb ?_);refine uAa rfl rfl rfl (uA1 rfl Tryz.underlying27 rfl gU) ?_;refine uAa rfl rfl rfl (uAc rfl gU) ?_;refine uAw rfl (uAB rfl rfl rfl rfl rfl rfl rfl) ?_;refine uAa rfl rfl rfl (uAd rfl gU) ?_;refine uAa rfl rfl rfl (uAd rfl gU) ?_;refine uAf ?_;refine uAp ?_
      repeat (first | refine tR ?_ | refine bR ?_)
      refine uAs rfl ?_ trivial
      (rw [uLU hi (by simpa using hc3) hc4]; rfl)
     ·try simp only [nn,uAi,T.rows_len,Tk.rows_len] at hc4
      refine uAo ?_;refine uAe (uAb ?_);refine uAa rfl rfl rfl (uAv rfl gU rfl rfl rfl rfl rfl) ?_;refine uAw rfl (uAB rfl rfl rfl rfl rfl rfl rfl) ?_;refine uAa rfl rfl rfl (uAd rfl gU) ?_;refine uAa rfl rfl rfl (uAd rfl gU) ?_;refine uAf ?_;refine uAp ?_
      repeat (first | refine tR ?_ | refine bR ?_)
      refine uAs rfl ?_ trivial
      (rw [uMq hi (by simpa using hc3) (by simpa using hc4)]; rfl)
theorem uHY (s : List UInt8) (hs : s.length≤100000) : Ctr sys 16 [xs s] [] (xnie (uCi s)) none []:=(uJI s hs).wk rfl fun _ h=>h
end Go.Proofs.YtnjjdbapadkomaaGreatDoor
namespace Go.Proofs.YtnjjdbapadkomaaGreatDoor
open Go Go.Abs
theorem uKV (k : Int) : (uDP k).length≤7:=by
 unfold uDP
 have : ∀ j : Nat,(kindW.getD j []).length≤7:=by
  intro j
  match j with
  | 0=>decide
  | 1=>decide
  | 2=>decide
  | 3=>decide
  | 4=>decide
  | j + 5=>simp [kindW,List.getD_eq_getElem?_getD]
 exact this _
theorem uKe (k : Int) : (uCq k).length≤5:=by
 unfold uCq
 have : ∀ j : Nat,(sortW.getD j []).length≤5:=by
  intro j
  match j with
  | 0=>decide
  | 1=>decide
  | 2=>decide
  | j + 3=>simp [sortW,List.getD_eq_getElem?_getD]
 exact this _
theorem uE3 (g : Gl) (hg : GlOk g) : Ctr sys 44 [xg g] [] (xs (uEi g)) none []:=by
 have h1:=hg.k1
 have h2:=hg.k2
 have h3:=uBz hg.role
 have h4:=hg.wth
 have h5:=hg.len
 have h6:=uKV g.kind
 have hkl : kindW.length=5:=rfl
 have hkb : kindW.getD (g.kind - 1).toNat []=uDP g.kind:=rfl
 refine uAy Tryz.func44 rfl rfl rfl rfl rfl rfl ?_;refine uAe (uAb ?_);refine uAw rfl (uAX rfl rfl rfl rfl) ?_;refine uAa rfl rfl rfl (uAd rfl gU) ?_;refine uAf ?_;refine uAe ?_;refine awp_drawn' (by kernel_rfl) ?_;refine uA4 rfl rfl rfl rfl rfl rfl rfl gU gU (uFt) rfl ?_;refine uAh rfl rfl rfl rfl (uAg rfl gU rfl rfl) ?_;refine uAS rfl rfl rfl rfl rfl rfl rfl gU rfl rfl rfl rfl ?_;refine uAh rfl rfl rfl rfl (uAr rfl rfl gU gU rfl (IntWalk.i64_in _ (by omega))) ?_;refine uAh rfl rfl rfl rfl (uAq (j:=(g.kind - 1).toNat) rfl rfl gU gU rfl rfl (by first | omega | (simp at hh ⊢; omega)) (fun hh=>uBW (by first | omega | (simp at hh ⊢; omega)))) ?_;refine uAh rfl rfl rfl rfl (uAI rfl gU rfl rfl rfl) ?_
 rw [hkb]
 refine uAh rfl rfl rfl rfl (uAu rfl rfl gU gU (by first | omega | (simp only [List.length_append,List.length_cons,List.length_nil]; omega))) ?_;refine uAh rfl rfl rfl rfl (uAg rfl gU rfl rfl) ?_;refine uAS rfl rfl rfl rfl rfl rfl rfl gU rfl rfl rfl rfl ?_;refine uAh rfl rfl rfl rfl (uAu rfl rfl gU gU (by first | omega | (simp only [List.length_append,List.length_cons,List.length_nil]; omega))) ?_;refine uAh rfl rfl rfl rfl (uAd rfl gU) ?_;refine uA8 (by kernel_rfl) ?_;refine uAn (s:=⟨[(1,_,_),(3,_,_)],[(.l 1,_)],[],[]⟩) (uAj (⟨sx rfl,sx rfl,trivial⟩) (⟨sx rfl,trivial⟩) trivial) ?_;refine uAe ?_;refine uAe (uAb ?_);refine uAa rfl rfl rfl (uAv rfl gU rfl rfl rfl rfl rfl) ?_;refine uAx rfl rfl rfl rfl rfl rfl gU gU (uB9 g) rfl ?_;refine uAf ?_;refine uAm rfl (fun hc=>?_) (fun hc=>?_)
 ·try simp only [nn,uAi,T.rows_len,Gl.rows_len,Fs.rows_len,Sp.rows_len] at hc
  refine uAb ?_;refine uAa rfl rfl rfl (uAc rfl gU) ?_;refine uAa rfl rfl rfl (uAg rfl gU rfl rfl) ?_;refine uAa rfl rfl rfl (uAl rfl gU rfl rfl rfl rfl) ?_;refine uAa rfl rfl rfl (uAu rfl rfl gU gU (by first | omega | (simp only [List.length_append,List.length_cons,List.length_nil]; omega))) ?_;refine uAa rfl rfl rfl (uAu rfl rfl gU gU (by first | omega | (simp only [List.length_append,List.length_cons,List.length_nil]; omega))) ?_;refine uAa rfl rfl rfl (uAd rfl gU) ?_;refine uAf ?_;refine uAn (s := ⟨[(1,_,_),(3,_,_)],[(.l 1,_)],[],[]⟩) (uAj (⟨sx rfl,sx rfl,trivial⟩) (⟨sx rfl,trivial⟩) trivial) ?_;refine uAe (uAb ?_);refine uAa rfl rfl rfl (uAc rfl gU) ?_;refine uAa rfl rfl rfl (uAu rfl rfl gU gU (by first | omega | (simp only [List.length_append,List.length_cons,List.length_nil]; omega))) ?_;refine uAa rfl rfl rfl (uAg rfl gU rfl rfl) ?_;refine uAa rfl rfl rfl (uAl rfl gU rfl rfl rfl rfl) ?_;refine uAx rfl rfl rfl rfl rfl rfl gU gU (uHn g.data (by have := hg.sizes; omega) hg.oks) rfl ?_;refine uAa rfl rfl rfl (uAu rfl rfl gU gU (by first | omega | (simp only [List.length_append,List.length_cons,List.length_nil]; omega))) ?_;refine uAa rfl rfl rfl (uAd rfl gU) ?_;refine uAf ?_;refine uAp ?_
  repeat (first | refine tR ?_ | refine bR ?_)
  refine uAs rfl ?_ trivial
  (rw [uEi,if_pos hc,hkb]; simp only [List.append_assoc]; rfl)
 ·try simp only [nn,uAi,T.rows_len,Gl.rows_len,Fs.rows_len,Sp.rows_len] at hc
  refine uAo ?_;refine uAe (uAb ?_);refine uAa rfl rfl rfl (uAc rfl gU) ?_;refine uAa rfl rfl rfl (uAu rfl rfl gU gU (by first | omega | (simp only [List.length_append,List.length_cons,List.length_nil]; omega))) ?_;refine uAa rfl rfl rfl (uAg rfl gU rfl rfl) ?_;refine uAa rfl rfl rfl (uAl rfl gU rfl rfl rfl rfl) ?_;refine uAx rfl rfl rfl rfl rfl rfl gU gU (uHn g.data (by have := hg.sizes; omega) hg.oks) rfl ?_;refine uAa rfl rfl rfl (uAu rfl rfl gU gU (by first | omega | (simp only [List.length_append,List.length_cons,List.length_nil]; omega))) ?_;refine uAa rfl rfl rfl (uAd rfl gU) ?_;refine uAf ?_;refine uAp ?_
  repeat (first | refine tR ?_ | refine bR ?_)
  refine uAs rfl ?_ trivial
  (rw [uEi,if_neg (by rw [hc]; simp),hkb]; simp only [List.append_assoc,List.nil_append]; rfl)
theorem map_take {α β : Type} (f : α→β) {l : List α} {d : α} {k : Nat} (h : k < l.length) : (l.take (k + 1)).map f=(l.take k).map f++[f (l.getD k d)]:=by rw [uDm (d:=d) h,List.map_append]; rfl
theorem uKm (x : List UInt8) (c : UInt8) (hx : x.length≤2000000) : Ctr sys 136 [xs (x++[c]),xs [c]] [] (xb true) none []:=by
 have hl : (x++[c]).length=x.length + 1:=by simp
 refine uAy Tryz.func136 rfl rfl rfl rfl rfl rfl ?_;refine uAe (uAb ?_);refine uAa rfl rfl rfl (uAd rfl gU) ?_;refine uAf ?_;refine uAe (uAb ?_);refine uAa rfl rfl rfl (uAc rfl gU) ?_;refine uBm rfl rfl rfl rfl rfl gU (Tryz.underlying9) ?_ (fun hh=>by simp at hh); intro hlen;refine uAa rfl rfl rfl (uAc rfl gU) ?_;refine uBm rfl rfl rfl rfl rfl gU (Tryz.underlying9) ?_ (fun hh=>by simp at hh); intro hlen;refine uAa rfl rfl rfl (uAk rfl rfl gU gU rfl) ?_;refine uAa rfl rfl rfl (uAc rfl gU) ?_;refine uAa rfl rfl rfl (uAc rfl gU) ?_;refine uAa rfl rfl rfl (uAc rfl gU) ?_;refine uAa rfl rfl rfl (uBY rfl (fun hh=>hh) (Tryz.underlying9)) ?_;refine uAa rfl rfl rfl (uAc rfl gU) ?_;refine uAa rfl rfl rfl (uBY rfl (fun hh=>hh) (Tryz.underlying9)) ?_;refine uBk (s:=⟨[(1,_,_),(10,_,_),(11,_,_),(13,_,_),(15,_,_)],[],[],[]⟩) (uAj (⟨sx rfl,sx rfl,sx rfl,sx rfl,sx rfl,trivial⟩) trivial trivial) ?_;refine uAa rfl rfl rfl (uAr rfl rfl (fun hh=>hh) (fun hh=>hh) rfl (IntWalk.i64_in _ (by omega))) ?_;refine uAa rfl rfl rfl (uBh (l:=x.length) rfl (fun hh=>hh) Tryz.underlying9 (fun _=>⟨_,_,_,rfl,(fun hh=>hh),by first | omega | (simp only [hl,List.length_cons,List.length_nil]; omega) | (simp only [hl,List.length_cons,List.length_nil] at *; omega)⟩) (fun _=>rfl) (fun hh=>by first | omega | (simp only [hl,List.length_cons,List.length_nil]; omega) | (simp only [hl,List.length_cons,List.length_nil] at *; omega)) (fun hh=>by first | omega | (simp only [hl,List.length_cons,List.length_nil]; omega) | (simp only [hl,List.length_cons,List.length_nil] at *; omega))) ?_
 refine uAa rfl rfl rfl (uAc rfl gU) ?_;refine uAa rfl rfl rfl (uAZ rfl rfl (fun hh=>hh) (fun hh=>hh) rfl) ?_;refine uAa rfl rfl rfl (uAR rfl rfl gU (fun _ hi=>gP rfl hi)) ?_;refine uAa rfl rfl rfl (uAd rfl gU) ?_;refine uAf ?_;refine uAp ?_
 repeat (first | refine tR ?_ | refine bR ?_)
 refine uAs rfl ?_ trivial;refine uCa ?_
 simp [List.take_of_length_le]
 omega
theorem uIc (x : List UInt8) (c : UInt8) (hx : x.length≤2000000) : Ctr sys 92 [xs (x++[c]),xs [c]] [] (xs x) none []:=by
 have hl : (x++[c]).length=x.length + 1:=by simp
 refine uAy Tryz.func92 rfl rfl rfl rfl rfl rfl ?_;refine uAe (uAb ?_);refine uAa rfl rfl rfl (uAd rfl gU) ?_;refine uAf ?_;refine uAe ?_;refine uAe (uAb ?_);refine uAa rfl rfl rfl (uAc rfl gU) ?_;refine uAa rfl rfl rfl (uAc rfl gU) ?_;refine uAx rfl rfl rfl rfl rfl rfl gU gU (uKm _ _ (by omega)) rfl ?_;refine uAf ?_;refine uAm rfl (fun hc=>?_) (fun hc=>?_)
 ·refine uAe (uAb ?_)
  refine uAa rfl rfl rfl (uAc rfl gU) ?_;refine uAa rfl rfl rfl (uAc rfl gU) ?_;refine uBm rfl rfl rfl rfl rfl gU (Tryz.underlying9) ?_ (fun hh=>by simp at hh); intro hlen;refine uAa rfl rfl rfl (uAc rfl gU) ?_;refine uBm rfl rfl rfl rfl rfl gU (Tryz.underlying9) ?_ (fun hh=>by simp at hh); intro hlen;refine uAa rfl rfl rfl (uAr rfl rfl gU gU rfl (IntWalk.i64_in _ (by omega))) ?_;refine uAa rfl rfl rfl (uBh (h':=x.length) rfl gU Tryz.underlying9 (fun _=>rfl) (fun _=>⟨_,_,_,rfl,gU,by first | omega | (simp only [hl,List.length_cons,List.length_nil]; omega) | (simp only [hl,List.length_cons,List.length_nil] at *; omega)⟩) (fun hh=>by first | omega | (simp only [hl,List.length_cons,List.length_nil]; omega) | (simp only [hl,List.length_cons,List.length_nil] at *; omega)) (fun hh=>by first | omega | (simp only [hl,List.length_cons,List.length_nil]; omega) | (simp only [hl,List.length_cons,List.length_nil] at *; omega))) ?_;refine uAa rfl rfl rfl (uAd rfl gU) ?_;refine uAf ?_;refine uAp ?_
  repeat (first | refine tR ?_ | refine bR ?_)
  refine uAs rfl ?_ trivial;exact congrArg xs (by simp)
 ·exfalso
  simp at hc
theorem uJd (x : List UInt8) (c : UInt8) (hx : x.length≤2000000) : Ctr sys 42 [xs (x++[c]),xs [c]] [] (xs x) none []:=by
 refine uAy Tryz.func42 rfl rfl rfl rfl rfl rfl ?_;refine uAe (uAb ?_);refine uAa rfl rfl rfl (uAd rfl gU) ?_;refine uAf ?_;refine uAe (uAb ?_);refine uAa rfl rfl rfl (uAc rfl gU) ?_;refine uAa rfl rfl rfl (uAc rfl gU) ?_;refine uAx rfl rfl rfl rfl rfl rfl gU gU (uIc _ _ (by omega)) rfl ?_;refine uAa rfl rfl rfl (uAd rfl gU) ?_;refine uAf ?_;refine uAp ?_
 repeat (first | refine tR ?_ | refine bR ?_)
 refine uAs rfl ?_ trivial
 rfl
end Go.Proofs.YtnjjdbapadkomaaGreatDoor
namespace Go.Abs
variable {Z : Pg}
theorem Rel.rowBox {E : Env} {G : Gh} {st : St} {a : Act} {w : World} (h : Rel E G st a w) {j' : Nat} (hfr : FreshG st (.l j',true)) {cells : Array Value} {e : TypeId} {cs : List C}
  (hrep : ∀ (j : Nat) (c : C),cs[j]? = some c → ∃ v,cells[j]? = some v∧CRep w G.S c v) :
  ∃ G1,Rel E G1 (st.addBox (.l j') cs) a (w.alloc (.cells cells e))∧G1.A (.l j')=(w.heap.size,0):=by
 let f : Nat→Who:=fun o=>if o < cs.length then .box (.l j') else .none
 have hfr' : Fr (fun _ _=>False) w.heap.size w (w.alloc (.cells cells e)):=uC6 w (.cells cells e)
 refine ⟨(G.push w.heap.size f).name (.l j') (w.heap.size,0),?_,by simp [Gh.name]⟩;refine Rel.addBox ?_ ?_ rfl
 ·refine (h.sub (St.drop_sub _ (.l j'))).grow hfr' ?_ (St.drop_same (st:=st) rfl (fun k g x hk=>hfr.1 rfl k g x hk) _ _) ?_
  ·intro b o hb
   have : ¬ b=w.heap.size:=by omega
   simp [Gh.name,Gh.push,this]
  ·intro b o hne
   simp only [Gh.name,Gh.push] at hne
   split at hne
   ·rename_i hb; subst hb; simp
   ·have := h.wf b o hne; simp; omega
 ·intro j c hj
  have hjl : j < cs.length:=(List.getElem?_eq_some_iff.1 hj).1
  obtain ⟨v,hv',hr⟩:=hrep j c hj
  refine ⟨by simp [Gh.name,Gh.push,f,hjl],by simp only [Gh.name,if_true]; exact World.frozen?_alloc_new w cells e _,v,?_,?_⟩
  ·simp only [Gh.name,if_true]
   rw [Nat.zero_add]
   exact (World.cell?_alloc_new w cells e j).trans hv'
  ·refine hr.mono ?_ ?_
   ·intro b o hs
    have hb:=h.wf b o (by unfold Gh.S at hs; rw [hs]; simp)
    have : ¬ b=w.heap.size:=by omega
    simpa [Gh.S,Gh.name,Gh.push,this] using hs
   ·intro b o hs
    have hb:=h.wf b o (by unfold Gh.S at hs; rw [hs]; simp)
    exact hfr'.cell b o hb (fun x=>x)
abbrev Eff.bms (d j' sz L : Nat) (cs : List C) : Eff:={ d:=some (d,true, .v (.ms (.l j') sz 0 L)),b:=some (.l j',cs),drop:=[.t d],gain:=some (.t d,sz) }
theorem uKS (j' : Nat) {N : Nat} {st : St} {ops : Array Oper} {o : Oper} {g : Bool} {d : Nat} {t : TypeId} {len : Nat} {parts : Array (Nat × Operand)} {xs : List Operand} {ti : TyI} {e sz by' : Nat} {rs : List (List C)}
  (ho : o.op = .buildSlice t len parts) (hg : uBc ops st o=some true) (hd : o.dst=some d) (hN : Nat.ble (d + 1) N=true) (ht : tyAt Z.T t=some ti) (hel : ti.el=some (e,sz,by')) (hp : parts.toList=uEz 0 xs) (hx : Nat.beq xs.length len=true)
  (hrs : uCW Z.T st e sz xs=some (g,rs)) (hga : g=true) (hbig : Nat.ble (len * sz) 10000=true) (hfr : FreshG st (.l j',true)) : Op1 Z N ops o st (ap (.bms d j' sz len rs.flatten) st):=by
 intro E G a w hr hE K' Q' hK
 have hdN : d < E.nt:=by rw [hE.nt]; exact Nat.le_of_ble_eq_true hN
 rw [uBO hr hg,hd]
 rw [hd] at hK
 simp only [if_true]
 have hxl : xs.length=len:=Nat.eq_of_beq_eq_true hx
 have hbig' : len * sz≤10000:=Nat.le_of_ble_eq_true hbig
 have hrep:=uFl hr hrs hga
 have hrl : rs.length=xs.length:=hrep.len
 obtain ⟨hu,jf,ze,hinfo,hsz,_,hsz0,hze,hzec⟩:=(Z.tyOk ht).sl e sz by' hel
 have hsz' : ∀ x ∈ xs,(a.eval x).cells.size=sz:=by
  intro x hx
  obtain ⟨j,hj⟩:=List.getElem?_of_mem hx
  have hjl : j < rs.length:=by rw [hrl]; exact (List.getElem?_eq_some_iff.1 hj).1
  obtain ⟨x',hx',h1,h2⟩:=hrep.get j _ (List.getElem?_eq_getElem hjl)
  rw [hj] at hx'; simp at hx'; subst hx'
  rw [← Array.length_toList,← h2.len,h1]
 let zc : Array Value:=if len * sz=0 then #[] else ze.cells
 let cells0 : Array Value:=(Array.range (len * sz)).map (zc[· % zc.size]!)
 obtain ⟨cells,hf1,hf2,_,hf4⟩:=uH6 sz a.eval xs 0 cells0 hsz' (by simp [cells0,hxl])
 have hfsz : cells.size=len * sz:=by rw [hf2]; simp [cells0]
 have hrun : (execOp a.eval o).run Z.P w = .ok (.value (.slice (some ⟨w.heap.size,0,none⟩) len len)) (w.alloc (.cells cells e)):=by
  have hmap : (parts.map fun (i,x)=>(i,a.eval x)).toList=(uEz 0 xs).map fun (i,x)=>(i,a.eval x):=by
   rw [Array.toList_map,hp]
  have hnb : ¬ (len * sz > 2 ^ 24):=by omega
  simp only [execOp,ho,Instr.buildSlice,underlying,Sem.run_bind,run_program,Result.andThen_ok,hu,Sem.run_pure,sizeOf,typeInfo,hinfo,hsz,Sem.run_ite,if_neg hnb]
  by_cases hz : len * sz=0
  ·simp only [hz,if_true]
   have hc0 : (Array.range 0).map ((#[] : Array Value)[· % (#[] : Array Value).size]!)=cells0:=by simp [cells0,hz]
   rw [hmap,hc0,hf1]
   simp [newRow]
  ·simp only [if_neg hz,zeroValue,typeInfo,Sem.run_bind,run_program,Result.andThen_ok,hinfo,Sem.run_pure,hze]
   have hc0 : (Array.range (len * sz)).map (ze.cells[· % ze.cells.size]!)=cells0:=by simp only [cells0,zc,if_neg hz]
   rw [hmap,hc0,hf1]
   simp [newRow]
 unfold Oper.wp
 rw [hrun,Oper.upon_value,hd]
 have hrow : ∀ (i : Nat) (row : List C),rs[i]? = some row→row.length=sz:=fun i row hi=>by
  obtain ⟨x,hx1,hx2,hx3⟩:=hrep.get i row hi
  exact hx2
 obtain ⟨G1,hG,hA⟩:=hr.rowBox (j':=j') hfr (cells:=cells) (e:=e) (cs:=rs.flatten) (fun m c hm=>by
  obtain ⟨i,j,row,hmi,_,hi,hj⟩:=uHf hrow hm
  subst hmi
  obtain ⟨x,hx1,hx2,hx3⟩:=hrep.get i row hi
  obtain ⟨v,hv,hcr⟩:=hx3.get j c hj
  have hjl : j < sz:=by rw [← hx2]; exact (List.getElem?_eq_some_iff.1 hj).1
  have := hf4 i x j hx1 hjl
  rw [Nat.zero_add] at this
  exact ⟨v,by rw [this]; simpa using hv,hcr⟩)
 have hput:=hG.put hdN (g:=true) (x:=.v (.ms (.l j') sz 0 len)) (v:=.slice (some ⟨w.heap.size,0,none⟩) len len) (fun _=>.inr ⟨len,Nat.le_refl _,by rw [hA]⟩) (fun hf=>by simp at hf)
 have hown:=hput.addOwn (p:=.t d) (sz:=sz) (v:=.slice (some ⟨w.heap.size,0,none⟩) len len) (by
  show (a.put (some d) _).tmps[d]? = _
  rw [uBC (by rw [hr.nt]; exact hdN)]; simp) (by
  refine .inr ⟨w.heap.size,len,len,e,rfl,⟨Nat.le_refl _,Nat.le_trans E.C_le (Nat.le_trans hr.hB hr.fr.size),fun _ _ _ hh=>by simp at hh⟩,⟨?_,uEX w cells e _⟩,fun o' h1 h2=>by omega⟩
  unfold World.shape?
  rw [show (w.alloc (.cells cells e)).heap[w.heap.size]? = some (.cells cells e) from Array.getElem?_push_size]
  simp [hfsz])
 have hsub : Sub (ap (.bms d j' sz len rs.flatten) st) (((st.addBox (.l j') rs.flatten).put d (true, .v (.ms (.l j') sz 0 len))).addOwn (.t d) sz):=by
  refine ⟨fun k x hk=>?_,fun n cs hn=>?_,fun p s hp=>?_, .inr rfl⟩
  ·rw [uCD] at hk
   show ((st.addBox (.l j') rs.flatten).put d (true, .v (.ms (.l j') sz 0 len))).get k=_
   rw [St.put_get]
   simp only [Eff.gt] at hk
   by_cases h : d=k
   ·subst h; simpa using hk
   ·have h' : ¬ k=d:=fun e=>h e.symm
    rw [if_neg h']
    have hk' : st.get k=some x:=by simpa [h] using hk
    exact hk'
  ·rw [uCK] at hn
   show getB ((.l j',rs.flatten) :: (st.drop (.l j')).bx) n=_
   rw [uA3]
   simp only [Eff.gb] at hn
   split
   ·rename_i he; rw [if_pos he] at hn; exact hn
   ·rename_i he
    rw [if_neg he] at hn
    show (st.drop (.l j')).box n=_
    rw [St.drop_box,if_neg (fun q=>he q.symm)]
    exact hn
  ·rw [uCo] at hp
   rw [St.addOwn_own]
   simp only [Eff.go,List.mem_singleton] at hp
   split
   ·rename_i he; rw [if_pos he] at hp; exact hp
   ·rename_i he
    rw [if_neg he] at hp
    rw [St.put_own]
    split
    ·rename_i h2; rw [if_pos h2] at hp; exact hp
    ·rename_i h2
     rw [if_neg h2] at hp
     show (st.drop (.l j')).own p=_
     rw [St.drop_own]
     have hp : st.own p=some s:=hp
     rw [hfr.2 p s hp]
     simpa using hp
 exact hK G1 _ _ (hown.sub hsub)
section
variable {N : Nat} {st s0 : St} {ops : Array Oper} {B : List Nat} {q : Nat} {rest : List Oper} {acc : List Lnk} {o : Oper} {Q : St→Prop} {d : Nat}
theorem uLK (j' : Nat) {g : Bool} {t : TypeId} {len : Nat} {parts : Array (Nat × Operand)} {xs : List Operand} {ti : TyI} {e sz by' : Nat} {rws : List (List C)} (hk : ops[q]? = some o)
  (ho : o.op = .buildSlice t len parts) (hg : uBc ops (rs (foot ops o [] []) st) o=some true) (hd : o.dst=some d) (hN : Nat.ble (d + 1) N=true) (ht : tyAt Z.T t=some ti) (hel : ti.el=some (e,sz,by')) (hp : parts.toList=uEz 0 xs) (hx : Nat.beq xs.length len=true)
  (hrs : uCW Z.T (rs (foot ops o [] []) st) e sz xs=some (g,rws)) (hga : g=true) (hbig : Nat.ble (len * sz) 10000=true) (hf1 : s0.freshO (.l j',true)=true)
  (hr : Draw Z N s0 ops B (q + 1) rest (acc++[(q, .bms d j' sz len rws.flatten,{ foot ops o [] [] with rn:=[(.l j',true)] })]) (ap (.bms d j' sz len rws.flatten) st) Q) : Draw Z N s0 ops B q (o :: rest) acc st Q:=by
 refine uCV hk (R:={ foot ops o [] [] with rn:=[(.l j',true)] }) ?_ hr (by
  intro m hm
  simp only [List.mem_cons,List.not_mem_nil,or_false] at hm
  subst hm
  exact hf1)
 intro s2 hag hfr
 have hsub : Sub (rs (foot ops o [] []) st) s2:=hag.sub
 exact uKS j' ho (uCh hsub hg) hd hN ht hel hp hx (uFk hsub hrs) hga hbig (hfr _ (by simp))
end
theorem uEh {st : St} {ty : TypeId} {x i : Operand} {t : TypeId} {g gi gate : Bool} {k : IntKind} {m : Int} {j sz : Nat} {es : List (List C)} {row : List C} {ti : TyI} {e by' : Nat} (h : lk Z.T st ty x=some (g, .v (.c (.sl sz es)))) (hi : lk Z.T st ty i=some (gi, .v (.c (.i k m))))
  (hg : gate=true→g=true) (hgi : gate=true→gi=true) (ht : tyAt Z.T t=some ti) (hel : ti.el=some (e,sz,by')) (hn : gate=true→m=(j : Int)) (hj : gate=true→es[j]? = some row) : PureOk Z st (.indexAddr t x i) ty gate (.v (.ro row)) :=
 fun o E G a w h1 h2 h3 h4=>uAq h hi hg hgi ht hel (hn h4) hj o E G a w h1 h2 h3 h4
theorem uJ1 (j' : Nat) {N : Nat} {ops : Array Oper} {rest : List Oper} {K : St→Prop} {st : St} {o : Oper} {d k : Nat} {x : Operand} {t : TypeId} {sz e by' L m0 : Nat} {cs : List C} {xs : List (List C)} {ti : TyI}
  (ho : o.op = .call { callee:=.builtin .append,args:=#[.tmp k,x],argTypes:=#[t,t] }) (hg : uBc ops st o=some true) (hd : o.dst=some d)
  (hs : st.get k=some (true, .v (.ms (.l m0) sz 0 L))) (hw : st.own (.t k)=some sz) (hb : st.box (.l m0)=some cs) (hx : lk Z.T st t x=some (true, .v (.c (.sl sz xs))))
  (ht : tyAt Z.T t=some ti) (hel : ti.el=some (e,sz,by')) (hN : Nat.ble (d + 1) N=true) (hkd : Nat.beq k d=false) (hf1 : st.freshO (.l j',true)=true) (hf2 : st.freshO (.l m0,false)=true) (hcl : cs.length=L * sz) (hx1 : 1≤xs.length)
  (hbig : (L + xs.length) * by'≤140737488355328) (hmax : L + xs.length≤9223372036854775807)
  (h : AL Z N ops rest K (st.msApp d k j' (.l m0) sz (L + xs.length) (cs++xs.flatten))) (hz : Z.old=false:=by rfl) : AL Z N ops (o :: rest) K st :=
 uDK (uGm hg (by
  rw [hd,ho]
  exact uLt hs hw hx ht hel hN hkd ⟨_,rfl⟩ (St.freshO_ok hf1) (St.freshO_ok hf2) hcl hx1 hbig hmax (uP3 hb hcl) (hz:=hz))) h
end Go.Abs
namespace Go.Proofs.YtnjjdbapadkomaaGreatDoor
open Go Go.Abs
def strC (L : List (List UInt8)) : List C:=L.map .s
theorem uIw : ∀ L : List (List UInt8),(strR L).flatten=strC L
 | []=>rfl
 | x :: L=>by
  show ([[C.s x]]++strR L).flatten=_
  rw [List.flatten_append,uIw L]; rfl
theorem uFu (L : List (List UInt8)) : (strC L).length=L.length:=by simp [strC]
theorem uHT (a b : List (List UInt8)) : strC (a++b)=strC a++strC b:=by simp [strC]
theorem uNB (L : List (List UInt8)) : ∀ (i : Nat) (row : List C),(strR L)[i]? = some row→row.length=1:=by
 intro i row h
 rw [strR,List.getElem?_map,Option.map_eq_some_iff] at h
 obtain ⟨x,_,rfl⟩:=h
 rfl
theorem uMU (L : List (List UInt8)) (x : List UInt8) {j : Nat} (hj : j=L.length) : (strC (L++[x]))[0 + j * 1]? = some (.s x):=by
 subst hj; simp [strC]
theorem uJY (L : List (List UInt8)) (x y : List UInt8) {j : Nat} (hj : j=L.length) : uBI (strC (L++[x])) (0 + j * 1) [.s y]=strC (L++[y]):=by
 subst hj
 rw [uHT,uHT,Nat.zero_add,Nat.mul_one]
 have := uIx [C.s y] (strC L) [C.s x] [] rfl
 rw [uFu,List.append_nil,List.append_nil] at this
 exact this
theorem uPV {a b : Nat} (h : a≤b) : Nat.ble a b=true:=Nat.ble_eq_true_of_le h
def Nar.lk (n : Nar) (k : Nat) : List (List UInt8):=[uDc n,(Itm.roles n.roles).text]++(frI n.fresh k).map Itm.text
theorem uLr (n : Nar) (k : Nat) : (n.lk k).length=2 + (frI n.fresh k).length:=by simp [Nar.lk]; omega
theorem uP1 (f : Fs) : fsW f.pr=f.name++[32]++sortW.getD (f.sort - 2).toNat []:=by simp [fsW,Fs.pr,uCq]
theorem uOR {n : Nar} {k : Nat} (hs : uCE n.fresh k) : ∃ L x,n.lk k=L++[x++[59]]∧n.lk (k + 1)=L++[x++[44,32]++fsW (n.fresh.getD k default).pr++[59]] ∧ ∃ l,(Itm.fresh (n.fresh.getD k default).role l) ∈ frI n.fresh k∧x++[59]=(Itm.fresh (n.fresh.getD k default).role l).text:=by
 obtain ⟨I,l,h1,h2,h3⟩:=uDO hs
 obtain ⟨x,hx⟩:=uIK (n.fresh.getD k default).role l
 refine ⟨[uDc n,(Itm.roles n.roles).text]++I.map Itm.text,x,?_,?_,l,by rw [h2]; simp,hx.symm⟩
 ·rw [Nar.lk,h2,← hx]; simp
 ·rw [Nar.lk,h3,List.map_append,List.map_cons,List.map_nil,uIp _ h1,hx,List.dropLast_concat]; simp
theorem uPz {n : Nar} {k : Nat} (hs : ¬uCE n.fresh k) : n.lk (k + 1)=n.lk k++[hFresh++(n.fresh.getD k default).role++[58,32]++fsW (n.fresh.getD k default).pr++[59]]:=by
 rw [Nar.lk,uEW hs,Nar.lk]
 simp [Itm.text,uFH]
def uCI (n : Nar) : List UInt8 × Int:=if narE uAH n≠0 then ([],narE uAH n) else (n.text,0)
def Nar.rest (n : Nar) (j k : Nat) : List (List UInt8):=n.lk n.fresh.length++((if n.tags=[] then [] else [(Itm.tags n.tags).text])++((n.steps.take j).map (fun s=>(Itm.step s).text)++(n.goals.take k).map fun g=>(Itm.goal g).text))
theorem uEn (n : Nar) : n.rest n.steps.length n.goals.length++[[125]]=n.lines:=by
 simp only [Nar.rest,List.take_length,Nar.lk,Nar.lines,Nar.itms]
 split <;> simp [List.map_map,Function.comp_def]
theorem uEZ (n : Nar) {j : Nat} (h : j < n.steps.length) : n.rest (j + 1) 0=n.rest j 0++[(Itm.step (n.steps.getD j default)).text]:=by
 simp only [Nar.rest,map_take (d:=default) (fun s=>(Itm.step s).text) h]
 simp
theorem uER (n : Nar) {k : Nat} (h : k < n.goals.length) : n.rest n.steps.length (k + 1)=n.rest n.steps.length k++[(Itm.goal (n.goals.getD k default)).text]:=by
 simp only [Nar.rest,map_take (d:=default) (fun g=>(Itm.goal g).text) h]
 simp
theorem uOC (n : Nar) (j k : Nat) : (n.rest j k).length≤2 + n.fresh.length + 1 + n.steps.length + n.goals.length:=by
 have := uEQ n.fresh n.fresh.length
 have := List.length_take_le j n.steps
 have := List.length_take_le k n.goals
 simp only [Nar.rest,List.length_append,List.length_map,uLr]
 split <;> simp <;> omega
theorem uPZ {n : Nar} (h : NarOk n) {k : Nat} (hk : k≤n.fresh.length) : (n.lk k).length≤14:=by
 have := uEQ n.fresh k
 have := h.f2
 rw [uLr]; omega
theorem uEt {n : Nar} (h : NarOk n) (j k : Nat) : (n.rest j k).length≤31:=by
 have := uOC n j k
 have := h.f2
 have := h.s2
 have := h.g2
 omega
set_option maxHeartbeats 8000000 in
theorem uJM (n : Nar) (hs : ∀ s ∈ n.steps,s.msg.size≤900000) (hg : ∀ g ∈ n.goals,T.sizes g.data≤900000) : Ctr sys 12 [xn n] [] (xse (uCI n)) none []:=by
 have hr1:=uAi n.roles
 have hr2:=Fs.rows_len n.fresh
 have hr3:=uAi n.tags
 have hr4:=Sp.rows_len n.steps
 have hr5:=Gl.rows_len n.goals
 refine uAy Tryz.func12 rfl rfl rfl rfl rfl rfl ?_;refine uAe (uAb ?_);refine uAw rfl (uAX rfl rfl rfl rfl) ?_;refine uAa rfl rfl rfl (uAd rfl gU) ?_;refine uAa rfl rfl rfl (uAd rfl gU) ?_;refine uAf ?_;refine uAe ?_;refine uAe (uAb ?_);refine uAa rfl rfl rfl (uAv rfl gU rfl rfl rfl rfl rfl) ?_;refine uAx rfl rfl rfl rfl rfl rfl gU gU (uFd n hs hg) rfl ?_;refine uAa rfl rfl rfl (uAd rfl gU) ?_;refine uAf ?_;refine uAn (s:=⟨[(1,_,_),(4,_,_)],[(.l 1,_)],[],[]⟩) (uAj (⟨sx rfl,sx rfl,trivial⟩) (⟨sx rfl,trivial⟩) trivial) ?_;refine uAe (uAb ?_);refine uAa rfl rfl rfl (uAc rfl gU) ?_;refine uAa rfl rfl rfl (uAk rfl rfl gU gU rfl) ?_;refine uAf ?_;refine uAm rfl (fun hc=>?_) (fun hc=>?_)
 ·try simp only [nn,uAi,T.rows_len,Gl.rows_len,Fs.rows_len,Sp.rows_len] at hc
  refine uAe (uAb ?_);refine uAa rfl rfl rfl (uAc rfl gU) ?_;refine uAa rfl rfl rfl (uAd rfl gU) ?_;refine uAa rfl rfl rfl (uAd rfl gU) ?_;refine uAf ?_;refine uAp ?_
  repeat (first | refine tR ?_ | refine bR ?_)
  refine uAs rfl ?_ trivial
  (rw [uCI,if_pos hc]; rfl)
 ·try simp only [nn,uAi,T.rows_len,Gl.rows_len,Fs.rows_len,Sp.rows_len] at hc
  have hE : uCI n=(n.text,0):=by rw [uCI,if_neg (by simpa using hc)]
  have hok:=uEp (n:=n) (by simpa using hc)
  have b1:=uBz hok.name
  have b2:=uCx hok.roles
  have b3:=hok.r2
  have b4:=uCx hok.tags
  have b5:=hok.t2
  have b6:=hok.f2
  have b7:=hok.s2
  have b8:=hok.g2
  rw [hE]
  refine uAo ?_;refine uAe ?_;refine awp_drawn' (by kernel_rfl) ?_;refine uAh rfl rfl rfl rfl (uAg rfl gU rfl rfl) ?_;refine uAS rfl rfl rfl rfl rfl rfl rfl gU rfl rfl rfl rfl ?_;refine uAh rfl rfl rfl rfl (uAu rfl rfl gU gU (by first | omega | (simp only [List.length_append,List.length_cons,List.length_nil]; omega))) ?_;refine uAh rfl rfl rfl rfl (uAu rfl rfl gU gU (by first | omega | (simp only [List.length_append,List.length_cons,List.length_nil]; omega))) ?_;refine uAh rfl rfl rfl rfl (uAg rfl gU rfl rfl) ?_;refine uAS rfl rfl rfl rfl rfl rfl rfl gU rfl rfl rfl rfl ?_;refine uA4 rfl rfl rfl rfl rfl rfl rfl gU gU (uDQ n.roles [44,32] (by omega) (by decide) (by omega)) rfl ?_;refine uAh rfl rfl rfl rfl (uAu rfl rfl gU gU (by first | omega | (simp only [List.length_append,List.length_cons,List.length_nil]; omega))) ?_;refine uAh rfl rfl rfl rfl (uAu rfl rfl gU gU (by first | omega | (simp only [List.length_append,List.length_cons,List.length_nil]; omega))) ?_;refine uLK 28 (xs:=[_,_]) rfl rfl rfl rfl rfl rfl rfl rfl rfl rfl rfl rfl rfl ?_;refine uEP rfl (.inr rfl) rfl rfl rfl rfl rfl ?_;refine uA8 (by kernel_rfl) ?_;refine uAn (s:=⟨[(1,_,_),(5,_,_)],[(.l 1,_),(.l 28,_)],[(.t 5,_)],[]⟩) (uAj (⟨sx rfl,sx rfl,trivial⟩) (⟨sx rfl,sx rfl,trivial⟩) (⟨rfl,trivial⟩)) ?_;refine uAe ?_;refine uAe (uAb ?_)
  refine uAa rfl rfl rfl (uAg rfl gU rfl rfl) ?_;refine uAa rfl rfl rfl (uAl rfl gU rfl rfl rfl rfl) ?_;refine uAL rfl rfl rfl rfl rfl gU rfl rfl ?_ (fun hh=>by simp at hh); intro hlen;refine uAa rfl rfl rfl (uAc rfl gU) ?_;refine uAf ?_;refine uAt ?_;refine uAW (ι:=Nat) { t:=[(1,_,_),(30,_,_),(31,_,_)],bx:=[(.l 1,_)],ow:=[(.t 5,_)] } (fun k=>[(32,true,xi (k : Int)),(5,true, .v (.ms (.l 28) 1 0 (n.lk k).length))]) (fun k=>[((.l 28),strC (n.lk k))]) (fun k=>k≤n.fresh.length) (fun k=>n.fresh.length - k) (0) (by simp) (uAj (⟨sx rfl,sx rfl,sx rfl,sx rfl,sx rfl,trivial⟩) (⟨⟨_,rfl,by simp [strC,Nar.lk,frI,uDc,Itm.text,hProt,hRole]⟩,⟨sx rfl,trivial⟩⟩) (⟨rfl,trivial⟩)) ?_
  intro k hokk
  dsimp only [List.cons_append,List.nil_append]
  have hlm:=uPZ hok hokk
  have hll:=uLr n k
  have hcl:=uFu (n.lk k)
  refine uAe (uAb ?_);refine uAa rfl rfl rfl (uAk rfl rfl gU gU rfl) ?_;refine uAf ?_;refine uAe ?_;refine uAm rfl (fun hc2=>?_) (fun hc2=>?_)
  ·try simp only [nn,uAi,T.rows_len,Gl.rows_len,Fs.rows_len,Sp.rows_len] at hc2
   have hlt : k < n.fresh.length:=by omega
   obtain ⟨f1,f2,f3,f4⟩:=hok.fresh _ (uBv (d:=default) hlt)
   have f5:=uBz f1
   have f6:=uBz f2
   have f7:=uKe (n.fresh.getD k default).sort
   have f8:=uP1 (n.fresh.getD k default)
   have hsl : sortW.length=3:=rfl
   have hfw : (fsW (n.fresh.getD k default).pr).length≤40:=by
    simp only [fsW,Fs.pr,List.length_append,List.length_cons,List.length_nil]; omega
   have f9 : (sortW.getD ((n.fresh.getD k default).sort - 2).toNat []).length≤5:=f7
   refine uAo ?_;refine uAe ?_;refine uAt ?_;refine uAe (uAb ?_);refine uAa rfl rfl rfl (uAc rfl gU) ?_;refine uAa rfl rfl rfl (uAq rfl rfl gU gU rfl rfl rfl (fun hh=>Fs.rows_at (by first | omega | (simp at hh ⊢; omega)))) ?_;refine uAa rfl rfl rfl (uAF rfl gU rfl rfl rfl rfl) ?_;refine uAw rfl (uAT rfl rfl rfl) ?_;refine uAa rfl rfl rfl (uAd rfl gU) ?_;refine uAw rfl (uAB rfl rfl rfl rfl rfl rfl rfl) ?_;refine uAf ?_;refine uAn (s:=⟨[(1,_,_),(5,_,_),(6,_,_),(7,_,_),(30,_,_),(31,_,_),(32,_,_)],[(.l 1,_),(.l 28,_),(.l 7,_)],[(.t 5,_)],[]⟩) (uAj (⟨sx rfl,sx rfl,sx rfl,sx rfl,sx rfl,sx rfl,sx rfl,trivial⟩) (⟨sx rfl,sx rfl,sx rfl,trivial⟩) (⟨rfl,trivial⟩)) ?_;refine uAe ?_;refine awp_drawn' (by kernel_rfl) ?_;refine uAh rfl rfl rfl rfl (uAg rfl gU rfl rfl) ?_;refine uAS rfl rfl rfl rfl rfl rfl rfl gU rfl rfl rfl rfl ?_;refine uAh rfl rfl rfl rfl (uAu rfl rfl gU gU (by first | omega | (simp only [List.length_append,List.length_cons,List.length_nil]; omega))) ?_;refine uA4 rfl rfl rfl rfl rfl rfl rfl gU gU (uFs) rfl ?_;refine uAh rfl rfl rfl rfl (uAg rfl gU rfl rfl) ?_;refine uAS rfl rfl rfl rfl rfl rfl rfl gU rfl rfl rfl rfl ?_;refine uAh rfl rfl rfl rfl (uAr rfl rfl gU gU rfl (IntWalk.i64_in _ (by omega))) ?_;refine uAh rfl rfl rfl rfl (uAq (j:=((n.fresh.getD k default).sort - 2).toNat) rfl rfl gU gU rfl rfl (by first | omega | (simp at hh ⊢; omega)) (fun hh=>uBW (by first | omega | (simp at hh ⊢; omega)))) ?_
   refine uAh rfl rfl rfl rfl (uAI rfl gU rfl rfl rfl) ?_;refine uAh rfl rfl rfl rfl (uAu rfl rfl gU gU (by first | omega | (simp only [List.length_append,List.length_cons,List.length_nil]; omega))) ?_
   rw [← f8]
   refine uAh rfl rfl rfl rfl (uAd rfl gU) ?_;refine uA8 (by kernel_rfl) ?_;refine uAn (s:=⟨[(1,_,_),(5,_,_),(6,_,_),(7,_,_),(8,_,_),(30,_,_),(31,_,_),(32,_,_)],[(.l 1,_),(.l 28,_),(.l 7,_)],[(.t 5,_)],[]⟩) (uAj (⟨sx rfl,sx rfl,sx rfl,sx rfl,sx rfl,sx rfl,sx rfl,sx rfl,trivial⟩) (⟨sx rfl,sx rfl,sx rfl,trivial⟩) (⟨(ak rfl (ak rfl (ak rfl (ak rfl (ak rfl (ak rfl (ak rfl (ak rfl (ak rfl (ak rfl (ak rfl (rfl)))))))))))),trivial⟩)) ?_;refine uAe ?_;refine uAe ?_;refine awp_drawn' (by kernel_rfl) ?_;refine uAh rfl rfl rfl rfl (uAc rfl gU) ?_;refine uAh rfl rfl rfl rfl (uAk rfl rfl gU gU rfl) ?_;refine uAh rfl rfl rfl rfl (uAc rfl gU) ?_;refine uAh rfl rfl rfl rfl (uAg rfl gU rfl rfl) ?_;refine uAS rfl rfl rfl rfl rfl rfl rfl (fun hh=>hh) rfl rfl rfl rfl ?_;refine uAh rfl rfl rfl rfl (uAc rfl gU) ?_;refine uAh rfl rfl rfl rfl (uAr rfl rfl (fun hh=>hh) gU rfl (IntWalk.i64_in _ (by omega))) ?_;refine uAh rfl rfl rfl rfl (uEh (j:=k - 1) rfl rfl (by first | exact fun hh=>hh | exact fun _=>rfl | exact fun hh=>gL hh | exact fun hh=>gL (gL hh) | (intro hh; simp_all)) (by first | exact fun hh=>hh | exact fun _=>rfl | exact fun hh=>gL hh | exact fun hh=>gL (gL hh) | (intro hh; simp_all)) rfl rfl (fun hh=>by simp at hh; omega) (fun hh=>Fs.rows_at (by simp at hh; omega))) ?_
   refine uAh rfl rfl rfl rfl (uAP rfl (fun hh=>hh) rfl rfl) ?_;refine uAh rfl rfl rfl rfl (uAI rfl (fun hh=>hh) rfl rfl rfl) ?_;refine uAh rfl rfl rfl rfl (uAg rfl gU rfl rfl) ?_;refine uAS rfl rfl rfl rfl rfl rfl rfl (fun hh=>hh) rfl rfl rfl rfl ?_;refine uAh rfl rfl rfl rfl (uAZ rfl rfl (fun hh=>hh) (fun hh=>hh) rfl) ?_;refine uAh rfl rfl rfl rfl (uAR rfl rfl gU (fun _ hi=>gP rfl hi)) ?_;refine uA8 (by kernel_rfl) ?_;refine uAn (s:=⟨[(1,_,_),(5,_,_),(7,_,_),(8,_,_),(30,_,_),(31,_,_),(32,_,_),(60,_,_)],[(.l 1,_),(.l 28,_),(.l 7,_)],[(.t 5,_)],[]⟩) (uAj (⟨sx rfl,sx rfl,sx rfl,sx rfl,sx rfl,sx rfl,sx rfl,sx rfl,trivial⟩) (⟨sx rfl,sx rfl,sx rfl,trivial⟩) (⟨(ak rfl (ak rfl (ak rfl (ak rfl (ak rfl (ak rfl (ak rfl (ak rfl (ak rfl (ak rfl (ak rfl (ak rfl (ak rfl (ak rfl (rfl))))))))))))))),trivial⟩)) ?_;refine uAm rfl (fun hc3=>?_) (fun hc3=>?_)
   ·try simp only [nn,uAi,T.rows_len,Gl.rows_len,Fs.rows_len,Sp.rows_len] at hc3
    have hsm : uCE n.fresh k:=⟨by omega,hc3.2⟩
    obtain ⟨L,x,e1,e2,l,e3,e4⟩:=uOR hsm
    have hxl : x.length≤500:=by
     have := uFN hok.fresh (k := k) hokk hok.f2 _ e3
     rw [← e4,List.length_append] at this; omega
    have e5 : (n.lk k).length=L.length + 1:=by rw [e1]; simp
    have e6 : (n.lk (k + 1)).length=L.length + 1:=by rw [e2]; simp
    rw [e5]
    rw [e1]
    refine uAe (uAb ?_);refine uAa rfl rfl rfl (uAc rfl gU) ?_;refine uAa rfl rfl rfl (uAc rfl gU) ?_;refine uAa rfl rfl rfl (uK1 rfl gU rfl rfl) ?_;refine uAa rfl rfl rfl (uAr rfl rfl gU gU rfl (IntWalk.i64_in _ (by omega))) ?_;refine uAa rfl rfl rfl (uJv (j:=L.length) rfl rfl gU gU rfl rfl (by first | rfl | first | omega | (simp at hh ⊢; omega)) (fun hh=>by first | omega | (simp at hh ⊢; omega))) ?_;refine uAa rfl rfl rfl (uAd rfl gU) ?_;refine uAf ?_;refine uAn (s:=⟨[(1,_,_),(5,_,_),(8,_,_),(9,_,_),(30,_,_),(31,_,_),(32,_,_)],[(.l 1,_),(.l 28,_)],[(.t 5,_)],[]⟩) (uAj (⟨sx rfl,sx rfl,sx rfl,sx rfl,sx rfl,sx rfl,sx rfl,trivial⟩) (⟨sx rfl,sx rfl,trivial⟩) (⟨rfl,trivial⟩)) ?_;refine uAe (uAb ?_);refine uAa rfl rfl rfl (uAc rfl gU) ?_;refine uAa rfl rfl rfl (uAc rfl gU) ?_;refine uAa rfl rfl rfl (uAA rfl gU) ?_;refine uAa rfl rfl rfl (uAl rfl gU rfl rfl rfl (uMU L _ rfl)) ?_;refine uAx rfl rfl rfl rfl rfl rfl gU gU (uJd x 59 (by omega)) rfl ?_;refine uAa rfl rfl rfl (uAu rfl rfl gU gU (by first | omega | (simp only [List.length_append,List.length_cons,List.length_nil]; omega))) ?_;refine uAa rfl rfl rfl (uAc rfl gU) ?_;refine uAa rfl rfl rfl (uAu rfl rfl gU gU (by first | omega | (simp only [List.length_append,List.length_cons,List.length_nil]; omega))) ?_
    refine uAa rfl rfl rfl (uAu rfl rfl gU gU (by first | omega | (simp only [List.length_append,List.length_cons,List.length_nil]; omega))) ?_;refine uAa rfl rfl rfl (uAA rfl gU) ?_;refine uAw rfl (uAB rfl rfl rfl rfl rfl rfl (uPV (by rw [uFu]; simp))) ?_;refine uAf ?_;refine uAM ?_
    repeat (first | refine uAD ?_ | refine uAE ?_ | refine uAC rfl ?_)
    refine uAb ?_;refine uAa rfl rfl rfl (uAr rfl rfl gU gU rfl (IntWalk.i64_in _ (by omega))) ?_;refine uAa rfl rfl rfl (uAc rfl gU) ?_;refine uAf ?_;refine ⟨k + 1,?_,?_,uAj (⟨⟨_,rfl,?_⟩,⟨⟨_,rfl,?_⟩,⟨sx rfl,sx rfl,sx rfl,trivial⟩⟩⟩) (⟨⟨_,rfl,?_⟩,⟨sx rfl,trivial⟩⟩) (⟨rfl,trivial⟩)⟩
    all_goals first
     | rfl
     | omega
     | exact tx (by rw [e6])
     | (rw [uJY L _ _ rfl,e2]; done)
     | (rw [uJY L _ _ rfl,e2]; rfl)
   ·try simp only [nn,uAi,T.rows_len,Gl.rows_len,Fs.rows_len,Sp.rows_len] at hc3
    have hsm : ¬uCE n.fresh k:=by
     rintro ⟨q1,q2⟩
     rcases hc3 with q | q
     ·omega
     ·exact q q2
    have e1:=uPz hsm
    have e2 : (n.lk (k + 1)).length=(n.lk k).length + 1:=by rw [e1]; simp
    refine uAo ?_;refine uAb ?_;refine uAw rfl (uAN (.inl rfl) rfl rfl rfl) ?_;refine uAa rfl rfl rfl (uAg rfl gU rfl rfl) ?_;refine uAa rfl rfl rfl (uAl rfl gU rfl rfl rfl rfl) ?_;refine uAa rfl rfl rfl (uAu rfl rfl gU gU (by first | omega | (simp only [List.length_append,List.length_cons,List.length_nil]; omega))) ?_;refine uAa rfl rfl rfl (uAu rfl rfl gU gU (by first | omega | (simp only [List.length_append,List.length_cons,List.length_nil]; omega))) ?_;refine uAa rfl rfl rfl (uAc rfl gU) ?_;refine uAa rfl rfl rfl (uAu rfl rfl gU gU (by first | omega | (simp only [List.length_append,List.length_cons,List.length_nil]; omega))) ?_;refine uAa rfl rfl rfl (uAu rfl rfl gU gU (by first | omega | (simp only [List.length_append,List.length_cons,List.length_nil]; omega))) ?_;refine uAQ (xs:=[_]) rfl rfl rfl rfl rfl rfl rfl rfl rfl gU rfl ?_;refine uJ1 85 rfl rfl rfl rfl rfl rfl rfl rfl rfl rfl rfl rfl rfl (by rw [uFu,Nat.mul_one]) (by simp) (by simp; omega) (by simp; omega) ?_;refine uAw rfl (uAN (.inr rfl) rfl rfl rfl) ?_;refine uAf ?_;refine uAn (s:=⟨[(1,_,_),(5,_,_),(30,_,_),(31,_,_),(32,_,_)],[(.l 1,_),(.l 85,_)],[(.t 5,_)],[]⟩) (uAj (⟨sx rfl,sx rfl,sx rfl,sx rfl,sx rfl,trivial⟩) (⟨sx rfl,sx rfl,trivial⟩) (⟨rfl,trivial⟩)) ?_;refine uAb ?_;refine uBk (s:=⟨[(1,_,_),(5,_,_),(30,_,_),(31,_,_),(32,_,_)],[(.l 1,_),(.l 85,_)],[(.t 5,_)],[]⟩) (uAj (⟨sx rfl,sx rfl,sx rfl,sx rfl,sx rfl,trivial⟩) (⟨sx rfl,sx rfl,trivial⟩) (⟨rfl,trivial⟩)) ?_
    refine uNx 5 85 28 rfl rfl rfl rfl ?_;refine uBk (s:=⟨[(1,_,_),(5,_,_),(30,_,_),(31,_,_),(32,_,_)],[(.l 1,_),(.l 28,_)],[(.t 5,_)],[]⟩) (uAj (⟨sx rfl,sx rfl,sx rfl,sx rfl,sx rfl,trivial⟩) (⟨sx rfl,sx rfl,trivial⟩) (⟨rfl,trivial⟩)) ?_;refine uAa rfl rfl rfl (uAr rfl rfl gU gU rfl (IntWalk.i64_in _ (by omega))) ?_;refine uAa rfl rfl rfl (uAc rfl gU) ?_;refine uAf ?_;refine ⟨k + 1,?_,?_,uAj (⟨⟨_,rfl,?_⟩,⟨⟨_,rfl,?_⟩,⟨sx rfl,sx rfl,sx rfl,trivial⟩⟩⟩) (⟨⟨_,rfl,?_⟩,⟨sx rfl,trivial⟩⟩) (⟨rfl,trivial⟩)⟩
    all_goals first
     | rfl
     | omega
     | exact tx (by rw [e2]; rfl)
     | (rw [e1,uHT]; rfl)
  ·try simp only [nn,uAi,T.rows_len,Gl.rows_len,Fs.rows_len,Sp.rows_len] at hc2
   have hke : k=n.fresh.length:=by omega
   subst hke
   refine uAM ?_
   repeat (first | refine uAD ?_ | refine uAE ?_ | refine uAC rfl ?_)
   refine uAe ?_;refine uAe (uAb ?_);refine uM3 5 28 (strR (n.lk n.fresh.length)) rfl (by rw [uIw]; rfl) (uAi _) (by omega) (uNB _) rfl ?_;refine uAa rfl rfl rfl (uAg rfl gU rfl rfl) ?_;refine uAa rfl rfl rfl (uAl rfl gU rfl rfl rfl rfl) ?_;refine uAL rfl rfl rfl rfl rfl gU rfl rfl ?_ (fun hh=>by simp at hh); intro hlen;refine uAa rfl rfl rfl (uAk rfl rfl gU gU rfl) ?_;refine uAf ?_;refine uAn (s:=⟨[(1,_,_),(5,_,_),(90,_,_)],[(.l 1,_)],[(.t 5,_)],[]⟩) (uAj (⟨sx rfl,sx rfl,sx rfl,trivial⟩) (⟨sx rfl,trivial⟩) (⟨rfl,trivial⟩)) ?_;refine uAm rfl (fun hc4=>?_) (fun hc4=>?_)
   ·try simp only [nn,uAi,T.rows_len,Gl.rows_len,Fs.rows_len,Sp.rows_len] at hc4
    have htg : n.tags≠[]:=by intro q; rw [q] at hc4; simp at hc4
    have e0 : n.rest 0 0=n.lk n.fresh.length++[(Itm.tags n.tags).text]:=by simp [Nar.rest,htg]
    refine uAb ?_;refine uAw rfl (uAN (.inl rfl) rfl rfl rfl) ?_;refine uAa rfl rfl rfl (uAg rfl gU rfl rfl) ?_;refine uAa rfl rfl rfl (uAl rfl gU rfl rfl rfl rfl) ?_;refine uAx rfl rfl rfl rfl rfl rfl gU gU (uDQ n.tags [44,32] (by omega) (by decide) (by omega)) rfl ?_;refine uAa rfl rfl rfl (uAu rfl rfl gU gU (by first | omega | (simp only [List.length_append,List.length_cons,List.length_nil]; omega))) ?_;refine uAa rfl rfl rfl (uAu rfl rfl gU gU (by first | omega | (simp only [List.length_append,List.length_cons,List.length_nil]; omega))) ?_;refine uAQ (xs:=[_]) rfl rfl rfl rfl rfl rfl rfl rfl rfl gU rfl ?_;refine uAw rfl (uA2 rfl rfl rfl rfl rfl rfl rfl (by first | omega | (simp only [List.length_append,List.length_singleton,uAi]; omega)) (by first | omega | (simp only [List.length_append,List.length_singleton,uAi]; omega))) ?_;refine uAw rfl (uAN (.inr rfl) rfl rfl rfl) ?_;refine uAf ?_;refine uAn (s:=⟨[(1,_,_),(5,_,_)],[(.l 1,_)],[(.t 5,_)],[]⟩) (uAj (⟨sx rfl,sx rfl,trivial⟩) (⟨sx rfl,trivial⟩) (⟨rfl,trivial⟩)) ?_;refine uAe ?_;refine uAe (uAb ?_);refine uAa rfl rfl rfl (uAg rfl gU rfl rfl) ?_;refine uAa rfl rfl rfl (uAl rfl gU rfl rfl rfl rfl) ?_;refine uAL rfl rfl rfl rfl rfl gU rfl rfl ?_ (fun hh=>by simp at hh); intro hlen;refine uAa rfl rfl rfl (uAc rfl gU) ?_
    refine uAf ?_;refine uAt ?_;refine uAW (ι:=Nat) { t:=[(1,_,_),(100,_,_),(101,_,_)],bx:=[(.l 1,_)],ow:=[(.t 5,_)] } (fun j=>[(102,true,xi (j : Int)),(5,true,xss (n.rest j 0))]) (fun j=>[]) (fun j=>j≤n.steps.length) (fun j=>n.steps.length - j) (0) (by simp) (uAj (⟨sx rfl,⟨⟨_,rfl,by rw [e0]; exact tx ((uCb _ _).trans (by simp [Itm.text,hTag]))⟩,⟨sx rfl,sx rfl,sx rfl,trivial⟩⟩⟩) (⟨sx rfl,trivial⟩) (⟨rfl,trivial⟩)) ?_
    intro j hokj
    dsimp only [List.cons_append,List.nil_append]
    have hm1:=uEt hok j 0
    refine uAe (uAb ?_);refine uAa rfl rfl rfl (uAk rfl rfl gU gU rfl) ?_;refine uAf ?_;refine uAe ?_;refine uAm rfl (fun hc5=>?_) (fun hc5=>?_)
    ·try simp only [nn,uAi,T.rows_len,Gl.rows_len,Fs.rows_len,Sp.rows_len] at hc5
     have hlt : j < n.steps.length:=by omega
     obtain ⟨s1,s2,s3⟩:=hok.steps _ (uBv (d:=default) hlt)
     have s4:=uBz s1
     have s5:=uBz s2
     have s6:=s3.len
     refine uAo ?_;refine uAe ?_;refine uAt ?_;refine uAe (uAb ?_);refine uAa rfl rfl rfl (uAq rfl rfl gU gU rfl rfl rfl (fun hh=>Sp.rows_at (by first | omega | (simp at hh ⊢; omega)))) ?_;refine uAa rfl rfl rfl (uAF rfl gU rfl rfl rfl rfl) ?_;refine uAw rfl (uAT rfl rfl rfl) ?_;refine uAw rfl (uAB rfl rfl rfl rfl rfl rfl rfl) ?_;refine uAf ?_;refine awp_drawn' (by kernel_rfl) ?_;refine uEP rfl (.inl rfl) rfl rfl rfl rfl rfl ?_;refine uAh rfl rfl rfl rfl (uAg rfl gU rfl rfl) ?_;refine uAS rfl rfl rfl rfl rfl rfl rfl gU rfl rfl rfl rfl ?_;refine uAh rfl rfl rfl rfl (uAu rfl rfl gU gU (by first | omega | (simp only [List.length_append,List.length_cons,List.length_nil]; omega))) ?_;refine uAh rfl rfl rfl rfl (uAu rfl rfl gU gU (by first | omega | (simp only [List.length_append,List.length_cons,List.length_nil]; omega))) ?_;refine uAh rfl rfl rfl rfl (uAg rfl gU rfl rfl) ?_;refine uAS rfl rfl rfl rfl rfl rfl rfl gU rfl rfl rfl rfl ?_;refine uAh rfl rfl rfl rfl (uAu rfl rfl gU gU (by first | omega | (simp only [List.length_append,List.length_cons,List.length_nil]; omega))) ?_;refine uAh rfl rfl rfl rfl (uAu rfl rfl gU gU (by first | omega | (simp only [List.length_append,List.length_cons,List.length_nil]; omega))) ?_;refine uAh rfl rfl rfl rfl (uAg rfl gU rfl rfl) ?_;refine uB3 rfl rfl rfl rfl rfl rfl rfl gU rfl rfl rfl rfl rfl ?_
     refine uA4 rfl rfl rfl rfl rfl rfl rfl gU gU (uDY (n.steps.getD j default).msg (by have := s3.size; omega) s3.ok) rfl ?_;refine uAh rfl rfl rfl rfl (uAu rfl rfl gU gU (by first | omega | (simp only [List.length_append,List.length_cons,List.length_nil]; omega))) ?_;refine uAh rfl rfl rfl rfl (uAu rfl rfl gU gU (by first | omega | (simp only [List.length_append,List.length_cons,List.length_nil]; omega))) ?_;refine uCt (xs := [_]) rfl rfl rfl rfl rfl rfl rfl rfl rfl rfl gU rfl ?_;refine uCd rfl rfl rfl rfl rfl (rko (ak2 rfl (ak rfl (ak rfl (ak rfl (ak rfl (ak rfl (ak rfl (ak rfl (ak rfl (ak rfl (ak rfl (ak rfl (ak rfl (ak rfl (rfl)))))))))))))))) rfl rfl rfl rfl rfl (by first | omega | (simp only [List.length_append,List.length_singleton,uAi]; omega)) (by first | omega | (simp only [List.length_append,List.length_singleton,uAi]; omega)) ?_;refine uEP rfl (.inr rfl) rfl rfl rfl rfl rfl ?_;refine uA8 (by kernel_rfl) ?_;refine uAn (s := ⟨[(1,_,_),(5,_,_),(100,_,_),(101,_,_),(102,_,_)],[(.l 1,_)],[(.t 5,_)],[]⟩) (uAj (⟨sx rfl,sx rfl,sx rfl,sx rfl,sx rfl,trivial⟩) (⟨sx rfl,trivial⟩) (⟨rfl,trivial⟩)) ?_;refine uAb ?_;refine uAa rfl rfl rfl (uAr rfl rfl gU gU rfl (IntWalk.i64_in _ (by omega))) ?_;refine uAa rfl rfl rfl (uAc rfl gU) ?_;refine uAf ?_;refine ⟨j + 1,?_,?_,uAj (⟨⟨_,rfl,?_⟩,⟨⟨_,rfl,?_⟩,⟨sx rfl,sx rfl,sx rfl,trivial⟩⟩⟩) (⟨sx rfl,trivial⟩) (⟨rfl,trivial⟩)⟩
     all_goals first
      | rfl
      | omega
      | exact tx ((uCb _ _).trans (by rw [uEZ n hlt]; simp [Itm.text,hMsg,arrow]))
    ·try simp only [nn,uAi,T.rows_len,Gl.rows_len,Fs.rows_len,Sp.rows_len] at hc5
     have hje : j=n.steps.length:=by omega
     subst hje
     refine uAM ?_
     repeat (first | refine uAD ?_ | refine uAE ?_ | refine uAC rfl ?_)
     refine uAe ?_;refine uAe (uAb ?_);refine uAa rfl rfl rfl (uAg rfl gU rfl rfl) ?_;refine uAa rfl rfl rfl (uAl rfl gU rfl rfl rfl rfl) ?_;refine uAL rfl rfl rfl rfl rfl gU rfl rfl ?_ (fun hh=>by simp at hh); intro hlen;refine uAa rfl rfl rfl (uAc rfl gU) ?_;refine uAf ?_;refine uAn (s:=⟨[(5,_,_),(124,_,_),(125,_,_),(126,_,_)],[],[(.t 5,_)],[]⟩) (uAj (⟨sx rfl,sx rfl,sx rfl,sx rfl,trivial⟩) trivial (⟨rfl,trivial⟩)) ?_;refine uAt ?_;refine uAW (ι:=Nat) { t:=[(124,_,_),(125,_,_)],bx:=[],ow:=[(.t 5,_)] } (fun k=>[(126,true,xi (k : Int)),(5,true,xss (n.rest n.steps.length k))]) (fun k=>[]) (fun k=>k≤n.goals.length) (fun k=>n.goals.length - k) (0) (by simp) (uAj (⟨sx rfl,sx rfl,sx rfl,sx rfl,trivial⟩) trivial (⟨rfl,trivial⟩)) ?_
     intro k hokk2
     dsimp only [List.cons_append,List.nil_append]
     have hm2:=uEt hok n.steps.length k
     refine uAe (uAb ?_);refine uAa rfl rfl rfl (uAk rfl rfl gU gU rfl) ?_;refine uAf ?_;refine uAe ?_;refine uAm rfl (fun hc6=>?_) (fun hc6=>?_)
     ·try simp only [nn,uAi,T.rows_len,Gl.rows_len,Fs.rows_len,Sp.rows_len] at hc6
      have hlt : k < n.goals.length:=by omega
      have hgk:=hok.goals _ (uBv (d:=default) hlt)
      have g1:=uDo hgk
      have g2:=uEd (n.goals.getD k default)
      have g3 : (uEi (n.goals.getD k default)).length≤4600:=by
       rw [g2] at g1; simp only [List.length_append] at g1; omega
      refine uAo ?_;refine uAe ?_;refine uAt ?_;refine uAe (uAb ?_);refine uAa rfl rfl rfl (uAq rfl rfl gU gU rfl rfl rfl (fun hh=>Gl.rows_at (by first | omega | (simp at hh ⊢; omega)))) ?_;refine uAa rfl rfl rfl (uAF rfl gU rfl rfl rfl rfl) ?_;refine uAw rfl (uAT rfl rfl rfl) ?_;refine uAw rfl (uAB rfl rfl rfl rfl rfl rfl rfl) ?_;refine uAf ?_;refine uAb ?_;refine uAw rfl (uAN (.inl rfl) rfl rfl rfl) ?_;refine uAa rfl rfl rfl (uAv rfl gU rfl rfl rfl rfl rfl) ?_;refine uAx rfl rfl rfl rfl rfl rfl gU gU (uE3 _ hgk) rfl ?_;refine uAa rfl rfl rfl (uAu rfl rfl gU gU (by first | omega | (simp only [List.length_append,List.length_cons,List.length_nil]; omega))) ?_;refine uAa rfl rfl rfl (uAu rfl rfl gU gU (by first | omega | (simp only [List.length_append,List.length_cons,List.length_nil]; omega))) ?_;refine uAQ (xs:=[_]) rfl rfl rfl rfl rfl rfl rfl rfl rfl gU rfl ?_;refine uAw rfl (uA2 rfl rfl rfl rfl rfl rfl rfl (by first | omega | (simp only [List.length_append,List.length_singleton,uAi]; omega)) (by first | omega | (simp only [List.length_append,List.length_singleton,uAi]; omega))) ?_;refine uAw rfl (uAN (.inr rfl) rfl rfl rfl) ?_;refine uAf ?_;refine uAn (s:=⟨[(5,_,_),(124,_,_),(125,_,_),(126,_,_)],[],[(.t 5,_)],[]⟩) (uAj (⟨sx rfl,sx rfl,sx rfl,sx rfl,trivial⟩) trivial (⟨rfl,trivial⟩)) ?_
      refine uAb ?_;refine uAa rfl rfl rfl (uAr rfl rfl gU gU rfl (IntWalk.i64_in _ (by omega))) ?_;refine uAa rfl rfl rfl (uAc rfl gU) ?_;refine uAf ?_;refine ⟨k + 1,?_,?_,uAj (⟨⟨_,rfl,?_⟩,⟨⟨_,rfl,?_⟩,⟨sx rfl,sx rfl,trivial⟩⟩⟩) trivial (⟨rfl,trivial⟩)⟩
      all_goals first
       | rfl
       | omega
       | exact tx ((uCb _ _).trans (by rw [uER n hlt,g2]; simp [hGoal]))
     ·try simp only [nn,uAi,T.rows_len,Gl.rows_len,Fs.rows_len,Sp.rows_len] at hc6
      have hke : k=n.goals.length:=by omega
      subst hke
      have hj1:=uEn n
      have hj2 : (Lib.join n.lines [10]).length≤60000:=by
       have := hok.text_len
       simp only [Nar.text,List.length_append] at this; omega
      have hj3 : X.v (.c (.sl 1 (strR (n.rest n.steps.length n.goals.length)++[[C.s [125]]])))=xss n.lines:=by rw [← hj1]; exact uCb _ _
      have hjn : Ctr sys 40 [.v (.c (.sl 1 (strR (n.rest n.steps.length n.goals.length)++[[C.s [125]]]))),xs [10]] [] (xs (Lib.join n.lines [10])) none []:=by
       rw [hj3]; exact uDQ n.lines [10] (by have := hok.lines_len; omega) (by decide) (by omega)
      refine uAM ?_
      repeat (first | refine uAD ?_ | refine uAE ?_ | refine uAC rfl ?_)
      refine uAe (uAb ?_);refine uAw rfl (uAN (.inl rfl) rfl rfl rfl) ?_;refine uAQ (xs:=[_]) rfl rfl rfl rfl rfl rfl rfl rfl rfl gU rfl ?_;refine uAw rfl (uA2 rfl rfl rfl rfl rfl rfl rfl (by first | omega | (simp only [List.length_append,List.length_singleton,uAi]; omega)) (by first | omega | (simp only [List.length_append,List.length_singleton,uAi]; omega))) ?_;refine uAx rfl rfl rfl rfl rfl rfl gU gU (hjn) rfl ?_;refine uAa rfl rfl rfl (uAu rfl rfl gU gU (by first | omega | (simp only [List.length_append,List.length_cons,List.length_nil]; omega))) ?_;refine uAa rfl rfl rfl (uAd rfl gU) ?_;refine uAa rfl rfl rfl (uAd rfl gU) ?_;refine uAf ?_;refine uAp ?_
      repeat (first | refine tR ?_ | refine bR ?_)
      refine uAs rfl ?_ trivial
      rfl
   ·try simp only [nn,uAi,T.rows_len,Gl.rows_len,Fs.rows_len,Sp.rows_len] at hc4
    have htg : n.tags=[]:=List.length_eq_zero_iff.1 (by omega)
    have e0 : n.rest 0 0=n.lk n.fresh.length:=by simp [Nar.rest,htg]
    refine uAo ?_;refine uAe ?_;refine uAe (uAb ?_);refine uAa rfl rfl rfl (uAg rfl gU rfl rfl) ?_;refine uAa rfl rfl rfl (uAl rfl gU rfl rfl rfl rfl) ?_;refine uAL rfl rfl rfl rfl rfl gU rfl rfl ?_ (fun hh=>by simp at hh); intro hlen;refine uAa rfl rfl rfl (uAc rfl gU) ?_;refine uAf ?_;refine uAt ?_;refine uAW (ι:=Nat) { t:=[(1,_,_),(100,_,_),(101,_,_)],bx:=[(.l 1,_)],ow:=[(.t 5,_)] } (fun j=>[(102,true,xi (j : Int)),(5,true,xss (n.rest j 0))]) (fun j=>[]) (fun j=>j≤n.steps.length) (fun j=>n.steps.length - j) (0) (by simp) (uAj (⟨sx rfl,⟨⟨_,rfl,by rw [e0]⟩,⟨sx rfl,sx rfl,sx rfl,trivial⟩⟩⟩) (⟨sx rfl,trivial⟩) (⟨rfl,trivial⟩)) ?_
    intro j hokj
    dsimp only [List.cons_append,List.nil_append]
    have hm1:=uEt hok j 0
    refine uAe (uAb ?_);refine uAa rfl rfl rfl (uAk rfl rfl gU gU rfl) ?_;refine uAf ?_;refine uAe ?_;refine uAm rfl (fun hc5=>?_) (fun hc5=>?_)
    ·try simp only [nn,uAi,T.rows_len,Gl.rows_len,Fs.rows_len,Sp.rows_len] at hc5
     have hlt : j < n.steps.length:=by omega
     obtain ⟨s1,s2,s3⟩:=hok.steps _ (uBv (d:=default) hlt)
     have s4:=uBz s1
     have s5:=uBz s2
     have s6:=s3.len
     refine uAo ?_;refine uAe ?_;refine uAt ?_;refine uAe (uAb ?_);refine uAa rfl rfl rfl (uAq rfl rfl gU gU rfl rfl rfl (fun hh=>Sp.rows_at (by first | omega | (simp at hh ⊢; omega)))) ?_;refine uAa rfl rfl rfl (uAF rfl gU rfl rfl rfl rfl) ?_;refine uAw rfl (uAT rfl rfl rfl) ?_;refine uAw rfl (uAB rfl rfl rfl rfl rfl rfl rfl) ?_;refine uAf ?_;refine awp_drawn' (by kernel_rfl) ?_;refine uEP rfl (.inl rfl) rfl rfl rfl rfl rfl ?_;refine uAh rfl rfl rfl rfl (uAg rfl gU rfl rfl) ?_;refine uAS rfl rfl rfl rfl rfl rfl rfl gU rfl rfl rfl rfl ?_;refine uAh rfl rfl rfl rfl (uAu rfl rfl gU gU (by first | omega | (simp only [List.length_append,List.length_cons,List.length_nil]; omega))) ?_;refine uAh rfl rfl rfl rfl (uAu rfl rfl gU gU (by first | omega | (simp only [List.length_append,List.length_cons,List.length_nil]; omega))) ?_;refine uAh rfl rfl rfl rfl (uAg rfl gU rfl rfl) ?_;refine uAS rfl rfl rfl rfl rfl rfl rfl gU rfl rfl rfl rfl ?_;refine uAh rfl rfl rfl rfl (uAu rfl rfl gU gU (by first | omega | (simp only [List.length_append,List.length_cons,List.length_nil]; omega))) ?_;refine uAh rfl rfl rfl rfl (uAu rfl rfl gU gU (by first | omega | (simp only [List.length_append,List.length_cons,List.length_nil]; omega))) ?_;refine uAh rfl rfl rfl rfl (uAg rfl gU rfl rfl) ?_;refine uB3 rfl rfl rfl rfl rfl rfl rfl gU rfl rfl rfl rfl rfl ?_
     refine uA4 rfl rfl rfl rfl rfl rfl rfl gU gU (uDY (n.steps.getD j default).msg (by have := s3.size; omega) s3.ok) rfl ?_;refine uAh rfl rfl rfl rfl (uAu rfl rfl gU gU (by first | omega | (simp only [List.length_append,List.length_cons,List.length_nil]; omega))) ?_;refine uAh rfl rfl rfl rfl (uAu rfl rfl gU gU (by first | omega | (simp only [List.length_append,List.length_cons,List.length_nil]; omega))) ?_;refine uCt (xs := [_]) rfl rfl rfl rfl rfl rfl rfl rfl rfl rfl gU rfl ?_;refine uCd rfl rfl rfl rfl rfl (rko (ak2 rfl (ak rfl (ak rfl (ak rfl (ak rfl (ak rfl (ak rfl (ak rfl (ak rfl (ak rfl (ak rfl (ak rfl (ak rfl (ak rfl (rfl)))))))))))))))) rfl rfl rfl rfl rfl (by first | omega | (simp only [List.length_append,List.length_singleton,uAi]; omega)) (by first | omega | (simp only [List.length_append,List.length_singleton,uAi]; omega)) ?_;refine uEP rfl (.inr rfl) rfl rfl rfl rfl rfl ?_;refine uA8 (by kernel_rfl) ?_;refine uAn (s := ⟨[(1,_,_),(5,_,_),(100,_,_),(101,_,_),(102,_,_)],[(.l 1,_)],[(.t 5,_)],[]⟩) (uAj (⟨sx rfl,sx rfl,sx rfl,sx rfl,sx rfl,trivial⟩) (⟨sx rfl,trivial⟩) (⟨rfl,trivial⟩)) ?_;refine uAb ?_;refine uAa rfl rfl rfl (uAr rfl rfl gU gU rfl (IntWalk.i64_in _ (by omega))) ?_;refine uAa rfl rfl rfl (uAc rfl gU) ?_;refine uAf ?_;refine ⟨j + 1,?_,?_,uAj (⟨⟨_,rfl,?_⟩,⟨⟨_,rfl,?_⟩,⟨sx rfl,sx rfl,sx rfl,trivial⟩⟩⟩) (⟨sx rfl,trivial⟩) (⟨rfl,trivial⟩)⟩
     all_goals first
      | rfl
      | omega
      | exact tx ((uCb _ _).trans (by rw [uEZ n hlt]; simp [Itm.text,hMsg,arrow]))
    ·try simp only [nn,uAi,T.rows_len,Gl.rows_len,Fs.rows_len,Sp.rows_len] at hc5
     have hje : j=n.steps.length:=by omega
     subst hje
     refine uAM ?_
     repeat (first | refine uAD ?_ | refine uAE ?_ | refine uAC rfl ?_)
     refine uAe ?_;refine uAe (uAb ?_);refine uAa rfl rfl rfl (uAg rfl gU rfl rfl) ?_;refine uAa rfl rfl rfl (uAl rfl gU rfl rfl rfl rfl) ?_;refine uAL rfl rfl rfl rfl rfl gU rfl rfl ?_ (fun hh=>by simp at hh); intro hlen;refine uAa rfl rfl rfl (uAc rfl gU) ?_;refine uAf ?_;refine uAn (s:=⟨[(5,_,_),(124,_,_),(125,_,_),(126,_,_)],[],[(.t 5,_)],[]⟩) (uAj (⟨sx rfl,sx rfl,sx rfl,sx rfl,trivial⟩) trivial (⟨rfl,trivial⟩)) ?_;refine uAt ?_;refine uAW (ι:=Nat) { t:=[(124,_,_),(125,_,_)],bx:=[],ow:=[(.t 5,_)] } (fun k=>[(126,true,xi (k : Int)),(5,true,xss (n.rest n.steps.length k))]) (fun k=>[]) (fun k=>k≤n.goals.length) (fun k=>n.goals.length - k) (0) (by simp) (uAj (⟨sx rfl,sx rfl,sx rfl,sx rfl,trivial⟩) trivial (⟨rfl,trivial⟩)) ?_
     intro k hokk2
     dsimp only [List.cons_append,List.nil_append]
     have hm2:=uEt hok n.steps.length k
     refine uAe (uAb ?_);refine uAa rfl rfl rfl (uAk rfl rfl gU gU rfl) ?_;refine uAf ?_;refine uAe ?_;refine uAm rfl (fun hc6=>?_) (fun hc6=>?_)
     ·try simp only [nn,uAi,T.rows_len,Gl.rows_len,Fs.rows_len,Sp.rows_len] at hc6
      have hlt : k < n.goals.length:=by omega
      have hgk:=hok.goals _ (uBv (d:=default) hlt)
      have g1:=uDo hgk
      have g2:=uEd (n.goals.getD k default)
      have g3 : (uEi (n.goals.getD k default)).length≤4600:=by
       rw [g2] at g1; simp only [List.length_append] at g1; omega
      refine uAo ?_;refine uAe ?_;refine uAt ?_;refine uAe (uAb ?_);refine uAa rfl rfl rfl (uAq rfl rfl gU gU rfl rfl rfl (fun hh=>Gl.rows_at (by first | omega | (simp at hh ⊢; omega)))) ?_;refine uAa rfl rfl rfl (uAF rfl gU rfl rfl rfl rfl) ?_;refine uAw rfl (uAT rfl rfl rfl) ?_;refine uAw rfl (uAB rfl rfl rfl rfl rfl rfl rfl) ?_;refine uAf ?_;refine uAb ?_;refine uAw rfl (uAN (.inl rfl) rfl rfl rfl) ?_;refine uAa rfl rfl rfl (uAv rfl gU rfl rfl rfl rfl rfl) ?_;refine uAx rfl rfl rfl rfl rfl rfl gU gU (uE3 _ hgk) rfl ?_;refine uAa rfl rfl rfl (uAu rfl rfl gU gU (by first | omega | (simp only [List.length_append,List.length_cons,List.length_nil]; omega))) ?_;refine uAa rfl rfl rfl (uAu rfl rfl gU gU (by first | omega | (simp only [List.length_append,List.length_cons,List.length_nil]; omega))) ?_;refine uAQ (xs:=[_]) rfl rfl rfl rfl rfl rfl rfl rfl rfl gU rfl ?_;refine uAw rfl (uA2 rfl rfl rfl rfl rfl rfl rfl (by first | omega | (simp only [List.length_append,List.length_singleton,uAi]; omega)) (by first | omega | (simp only [List.length_append,List.length_singleton,uAi]; omega))) ?_;refine uAw rfl (uAN (.inr rfl) rfl rfl rfl) ?_;refine uAf ?_;refine uAn (s:=⟨[(5,_,_),(124,_,_),(125,_,_),(126,_,_)],[],[(.t 5,_)],[]⟩) (uAj (⟨sx rfl,sx rfl,sx rfl,sx rfl,trivial⟩) trivial (⟨rfl,trivial⟩)) ?_
      refine uAb ?_;refine uAa rfl rfl rfl (uAr rfl rfl gU gU rfl (IntWalk.i64_in _ (by omega))) ?_;refine uAa rfl rfl rfl (uAc rfl gU) ?_;refine uAf ?_;refine ⟨k + 1,?_,?_,uAj (⟨⟨_,rfl,?_⟩,⟨⟨_,rfl,?_⟩,⟨sx rfl,sx rfl,trivial⟩⟩⟩) trivial (⟨rfl,trivial⟩)⟩
      all_goals first
       | rfl
       | omega
       | exact tx ((uCb _ _).trans (by rw [uER n hlt,g2]; simp [hGoal]))
     ·try simp only [nn,uAi,T.rows_len,Gl.rows_len,Fs.rows_len,Sp.rows_len] at hc6
      have hke : k=n.goals.length:=by omega
      subst hke
      have hj1:=uEn n
      have hj2 : (Lib.join n.lines [10]).length≤60000:=by
       have := hok.text_len
       simp only [Nar.text,List.length_append] at this; omega
      have hj3 : X.v (.c (.sl 1 (strR (n.rest n.steps.length n.goals.length)++[[C.s [125]]])))=xss n.lines:=by rw [← hj1]; exact uCb _ _
      have hjn : Ctr sys 40 [.v (.c (.sl 1 (strR (n.rest n.steps.length n.goals.length)++[[C.s [125]]]))),xs [10]] [] (xs (Lib.join n.lines [10])) none []:=by
       rw [hj3]; exact uDQ n.lines [10] (by have := hok.lines_len; omega) (by decide) (by omega)
      refine uAM ?_
      repeat (first | refine uAD ?_ | refine uAE ?_ | refine uAC rfl ?_)
      refine uAe (uAb ?_);refine uAw rfl (uAN (.inl rfl) rfl rfl rfl) ?_;refine uAQ (xs:=[_]) rfl rfl rfl rfl rfl rfl rfl rfl rfl gU rfl ?_;refine uAw rfl (uA2 rfl rfl rfl rfl rfl rfl rfl (by first | omega | (simp only [List.length_append,List.length_singleton,uAi]; omega)) (by first | omega | (simp only [List.length_append,List.length_singleton,uAi]; omega))) ?_;refine uAx rfl rfl rfl rfl rfl rfl gU gU (hjn) rfl ?_;refine uAa rfl rfl rfl (uAu rfl rfl gU gU (by first | omega | (simp only [List.length_append,List.length_cons,List.length_nil]; omega))) ?_;refine uAa rfl rfl rfl (uAd rfl gU) ?_;refine uAa rfl rfl rfl (uAd rfl gU) ?_;refine uAf ?_;refine uAp ?_
      repeat (first | refine tR ?_ | refine bR ?_)
      refine uAs rfl ?_ trivial
      rfl
end Go.Proofs.YtnjjdbapadkomaaGreatDoor
