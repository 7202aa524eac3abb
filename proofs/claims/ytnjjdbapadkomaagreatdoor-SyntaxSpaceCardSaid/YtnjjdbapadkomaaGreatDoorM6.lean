/- Our abstract program logic and contracts of this seat's functions, part 6: no statement of its own (long names of ours are shortened by a program). -/
import Derived.Test.YtnjjdbapadkomaaGreatDoorM5
import Derived.SizedLaws
import Derived.Test.YtnjjdbapadkomaaGreatDoorChecked
import Derived.Handed
import Derived.LaidSub
import Derived.MakeChecks
set_option linter.unusedVariables false
set_option linter.unusedSimpArgs false
namespace Go.Proofs.YtnjjdbapadkomaaGreatDoor
open Go Go.Abs
theorem uNW {l : List Tk} (h : ∀ t ∈ l,TkS t) : ∀ k,k < l.length→TkS (l.getD k tk0):=by
 intro k hk
 apply h
 rw [List.getD_eq_getElem?_getD,List.getElem?_eq_getElem hk]
 exact List.getElem_mem _
theorem uNU {N : Nat} {t : Tk} (h : GoodTk N t) (hN : N≤100000) : TkS t:=by
 obtain ⟨form,hs⟩:=h
 rcases form with ⟨h1,h2,h3,h4,h5,h6,h7⟩ | ⟨h1,h2,h3,h4,h5⟩ | ⟨h1,h2,h3⟩ | ⟨h1,h2,h3,c,h4,h5⟩
 ·exact ⟨by omega,by omega,by omega⟩
 ·exact ⟨by omega,by omega,by rw [h2]; simp⟩
 ·exact ⟨by omega,by omega,by rw [h2]; simp⟩
 ·exact ⟨by omega,by omega,by rw [h4]; simp⟩
theorem uGS {s : List UInt8} (h : (tokP s).2.2=0) : (uB3 s).2.2=errL (tokP s).1∧(uB3 s).1.el=(if errL (tokP s).1=0 then (uCp (tokP s).1).1.el else nar0.el):=by
 have e0 : uB3 s=uC6 (tokP s).1:=by rw [uB3,if_neg (by simpa using h)]
 rw [e0]
 unfold uC6 errL
 split
 ·rename_i q
  exact ⟨rfl,by first | rfl | rw [if_neg q]⟩
 ·split
  ·rename_i q
   exact ⟨rfl,by first | rfl | rw [if_neg q]⟩
  ·rename_i q
   have q:=Decidable.not_not.1 q
   exact ⟨q.symm,by first | rfl | rw [if_pos q]⟩
theorem uIR (s g : List UInt8) (hs : s.length≤1500) (h : (tokP s).2.2=0) : (uB3 s).2.2=(uB3 (uCU (tokP s).1 g (tokP s).1.length)).2.2∧(uB3 s).1.el=(uB3 (uCU (tokP s).1 g (tokP s).1.length)).1.el:=by
 obtain ⟨h1,h2⟩:=uJV s g hs
 obtain ⟨a1,a2⟩:=uGS h
 obtain ⟨b1,b2⟩:=uGS h1
 have hsm:=SmT.of_nl h2
 rw [a1,a2,b1,b2,uNb hsm,(uJS hsm).1]
 exact ⟨rfl,rfl⟩
theorem uFv (s g : List UInt8) : Ctr sys 5 [xs s,xbs g] [] (xb true) none []:=by
 have hgr:=uBo g
 refine uAz Tryz.func5 rfl rfl rfl rfl rfl rfl ?_;refine uAe (uAb ?_);refine uAa rfl rfl rfl (uAd rfl gU) ?_;refine uAf ?_;refine uAe ?_;refine uAe (uAb ?_);refine uAA rfl rfl rfl rfl rfl rfl gU gU (uGt) rfl ?_;refine uAa rfl rfl rfl (uA8 rfl gU) ?_;refine uAa rfl rfl rfl (uAc rfl gU) ?_;refine uAa rfl rfl rfl (uAc rfl gU) ?_;refine uAa rfl rfl rfl (uB7 rfl (fun hh=>hh) (Tryz.underlying9)) ?_;refine uAa rfl rfl rfl (uAk rfl rfl (fun hh=>hh) gU rfl) ?_;refine uAa rfl rfl rfl (uAJ rfl rfl gU (fun _ hi=>gP rfl hi)) ?_;refine uAa rfl rfl rfl (uAc rfl gU) ?_;refine uAa rfl rfl rfl (uAc rfl gU) ?_;refine uAa rfl rfl rfl (uA9 rfl (fun hh=>hh) rfl rfl) ?_;refine uAa rfl rfl rfl (uAk rfl rfl (fun hh=>hh) gU rfl) ?_;refine uBB (s:=⟨[(0,_,_),(1,_,_),(25,_,_),(28,_,_)],[],[],[]⟩) (uAj (⟨sx rfl,sx rfl,sx rfl,sx rfl,trivial⟩) trivial trivial) ?_;refine uAa rfl rfl rfl (uAJ rfl rfl gU (fun _ hi=>gP rfl hi)) ?_;refine uAf ?_;refine uAl rfl (fun hc=>?_) (fun hc=>?_)
 ·refine uAe (uAb ?_)
  refine uAA rfl rfl rfl rfl rfl rfl gU gU (uGt) rfl ?_;refine uAa rfl rfl rfl (uAd rfl gU) ?_;refine uAf ?_;refine uAo ?_
  repeat (first | refine tR ?_ | refine bR ?_)
  refine uAr rfl ?_ trivial
  rfl
 ·try simp only [nn,uAi,T.rows_len,Tk.rows_len,Gl.rows_len,Fs.rows_len,Sp.rows_len] at hc
  have hs : s.length≤1500:=by simp at hc; omega
  have hgl : 0 < g.length:=by
   rcases Nat.eq_zero_or_pos g.length with q | q
   ·exfalso; have q:=List.length_eq_zero_iff.1 q; subst q; simp [uBc] at hc
   ·exact q
  have hg : ∀ t ∈ (tokP s).1,TkS t:=fun t ht=>uNU (uHA s t ht) (by omega)
  have hm:=uNW hg
  have hcnt:=uDD s
  have hwd:=uGs s
  have hr:=Tk.rows_len (tokP s).1
  refine uAp ?_;refine uAe (uAb ?_);refine uAa rfl rfl rfl (uAc rfl gU) ?_;refine uAA rfl rfl rfl rfl rfl rfl gU gU (uLs s (by omega)) rfl ?_;refine uAa rfl rfl rfl (uAc rfl gU) ?_;refine uAa rfl rfl rfl (uAE rfl gU rfl) ?_;refine uAa rfl rfl rfl (uAE rfl gU rfl) ?_;refine uAa rfl rfl rfl (uAE rfl gU rfl) ?_;refine uAa rfl rfl rfl (uAd rfl gU) ?_;refine uAa rfl rfl rfl (uAd rfl gU) ?_;refine uAa rfl rfl rfl (uAd rfl gU) ?_;refine uAf ?_;refine uAm (s:=⟨[(0,_,_),(1,_,_),(5,_,_),(7,_,_)],[],[],[]⟩) (uAj (⟨sx rfl,sx rfl,sx rfl,sx rfl,trivial⟩) trivial trivial) ?_;refine uAe ?_;refine uAe (uAb ?_);refine uAa rfl rfl rfl (uAc rfl gU) ?_;refine uAa rfl rfl rfl (uAk rfl rfl gU gU rfl) ?_;refine uAf ?_;refine uAl rfl (fun hc2=>?_) (fun hc2=>?_)
  ·try simp only [nn,uAi,T.rows_len,Tk.rows_len,Gl.rows_len,Fs.rows_len,Sp.rows_len] at hc2
   refine uAe (uAb ?_);refine uAa rfl rfl rfl (uAd rfl gU) ?_;refine uAf ?_;refine uAo ?_
   repeat (first | refine tR ?_ | refine bR ?_)
   refine uAr rfl ?_ trivial
   rfl
  ·try simp only [nn,uAi,T.rows_len,Tk.rows_len,Gl.rows_len,Fs.rows_len,Sp.rows_len] at hc2
   obtain ⟨j1,j2⟩:=uIR s g hs hc2
   obtain ⟨p1,p2,p3,p4⟩:=uJx s
   have htl : ∀ k,k≤(tokP s).1.length→(uCU (tokP s).1 g k).length≤45000:=fun k hk=>uH5 g hs hk
   refine uAp ?_;refine uAe (uAb ?_);refine uAa rfl rfl rfl (uAd rfl gU) ?_;refine uAf ?_;refine uAe ?_;refine uAe (uAb ?_);refine uAa rfl rfl rfl (uAc rfl gU) ?_;refine uAR rfl rfl rfl rfl rfl gU rfl rfl ?_ (fun hh=>by simp at hh); intro hlen;refine uAa rfl rfl rfl (uAc rfl gU) ?_;refine uAf ?_;refine uAm (s:=⟨[(0,_,_),(1,_,_),(8,_,_),(39,_,_),(40,_,_),(41,_,_)],[],[],[]⟩) (uAj (⟨sx rfl,sx rfl,sx rfl,sx rfl,sx rfl,sx rfl,trivial⟩) trivial trivial) ?_;refine uAs ?_;refine uAZ (ι:=Nat) { t:=[(0,_,_),(1,_,_),(39,_,_),(40,_,_)],bx:=[],ow:=[] } (fun k=>[(41,true,xi (k : Int)),(8,true,xs (uCU (tokP s).1 g k))]) (fun k=>[]) (fun k=>k≤(tokP s).1.length) (fun k=>(tokP s).1.length - k) (0) (by simp) (uAj (⟨sx rfl,sx rfl,sx rfl,sx rfl,sx rfl,sx rfl,trivial⟩) trivial trivial) ?_
   intro k hok
   dsimp only [List.cons_append,List.nil_append]
   have htk:=htl k hok
   refine uAe (uAb ?_);refine uAa rfl rfl rfl (uAk rfl rfl gU gU rfl) ?_;refine uAf ?_;refine uAe ?_;refine uAl rfl (fun hc3=>?_) (fun hc3=>?_)
   ·try simp only [nn,uAi,T.rows_len,Tk.rows_len,Gl.rows_len,Fs.rows_len,Sp.rows_len] at hc3
    have hk:=hm k (by omega)
    have hw:=uLq hk
    have hmod : (k : Int) % (g.length : Int)=((k % g.length : Nat) : Int):=(Int.natCast_emod k g.length).symm
    have hmod2:=Nat.mod_lt k hgl
    have hmod3 : (k : Int) % ((uBc g).length : Int)=((k % g.length : Nat) : Int):=by rw [hgr]; exact hmod
    have hu:=(g.getD (k % g.length) 0).toNat_lt
    have hj : gapJ g k < 4:=Nat.mod_lt _ (by omega)
    have hgp:=uJT hj
    have hgi : ((g.getD (k % g.length) 0).toNat : Int) % 4=((gapJ g k : Nat) : Int):=by unfold gapJ; omega
    refine uAp ?_;refine uAe ?_;refine uAs ?_;refine uAe (uAb ?_);refine uAa rfl rfl rfl (uAc rfl gU) ?_;refine uAa rfl rfl rfl (uAu rfl rfl gU gU rfl rfl rfl (fun hh=>Tk.rows_at (by first | omega | (simp at hh ⊢; omega)))) ?_;refine uAa rfl rfl rfl (uAK rfl gU rfl rfl rfl rfl) ?_;refine uAt rfl (uAN rfl rfl rfl) ?_;refine uAa rfl rfl rfl (uAd rfl gU) ?_;refine uAt rfl (uAx rfl rfl rfl rfl rfl rfl rfl) ?_;refine uAf ?_;refine uAm (s:=⟨[(0,_,_),(1,_,_),(8,_,_),(9,_,_),(10,_,_),(39,_,_),(40,_,_),(41,_,_)],[(.l 10,_)],[],[]⟩) (uAj (⟨sx rfl,sx rfl,sx rfl,sx rfl,sx rfl,sx rfl,sx rfl,sx rfl,trivial⟩) (⟨sx rfl,trivial⟩) trivial) ?_;refine uAe (uAb ?_);refine uAa rfl rfl rfl (uAc rfl gU) ?_;refine uAa rfl rfl rfl (uAc rfl gU) ?_;refine uAa rfl rfl rfl (uAc rfl gU) ?_;refine uAR rfl rfl rfl rfl rfl gU rfl rfl ?_ (fun hh=>by simp at hh); intro hlen;refine uAa rfl rfl rfl (uDj rfl rfl gU gU (fun hh=>by first | omega | (simp at hh ⊢; omega)) (fun hh=>Int.tmod_eq_emod_of_nonneg (by first | omega | (simp at hh ⊢; omega)))) ?_;refine uAa rfl rfl rfl (uAu (j:=k % g.length) rfl rfl gU gU rfl rfl (by first | omega | (simp at hh ⊢; omega)) (fun hh=>uLY (by first | omega | (simp at hh ⊢; omega)))) ?_;refine uAa rfl rfl rfl (uAP rfl gU rfl rfl rfl) ?_
    refine uAa rfl rfl rfl (uCG rfl gU ⟨_,Tryz.underlying5⟩ (Tryz.underlying3) (IntWalk.i64_in _ (by omega))) ?_;refine uAa rfl rfl rfl (uDj rfl rfl gU gU (fun hh=>by first | omega | (simp at hh ⊢; omega)) (fun hh=>Int.tmod_eq_emod_of_nonneg (by first | omega | (simp at hh ⊢; omega)))) ?_;refine uAa rfl rfl rfl (uAd rfl gU) ?_;refine uAf ?_;refine uAm (s:=⟨[(0,_,_),(1,_,_),(8,_,_),(10,_,_),(11,_,_),(39,_,_),(40,_,_),(41,_,_)],[(.l 10,_)],[],[]⟩) (uAj (⟨sx rfl,sx rfl,sx rfl,sx rfl,sx rfl,sx rfl,sx rfl,sx rfl,trivial⟩) (⟨sx rfl,trivial⟩) trivial) ?_;refine awp_drawn' (by kernel_rfl) ?_;refine uAg rfl rfl rfl rfl (uAc rfl gU) ?_;refine uB1 rfl rfl rfl rfl rfl rfl rfl gU rfl rfl rfl rfl rfl ?_;refine uBd rfl rfl rfl rfl rfl rfl rfl gU gU (uKd _ hk) rfl ?_;refine uCr (xs:=[_,_,_,_]) rfl rfl rfl rfl rfl rfl rfl rfl rfl rfl gU rfl ?_;refine uAg rfl rfl rfl rfl (uAc rfl gU) ?_;refine uAg rfl rfl rfl rfl (uAu (j:=gapJ g k) rfl rfl gU gU rfl rfl hgi (fun hh=>uCK (l:=gapS) (k:=gapJ g k) hj)) ?_;refine uAg rfl rfl rfl rfl (uAP rfl gU rfl rfl rfl) ?_;refine uAg rfl rfl rfl rfl (uAB rfl rfl gU gU (by first | omega | (simp only [List.length_append,List.length_singleton]; omega) | (simp only [List.length_append]; omega))) ?_;refine uAg rfl rfl rfl rfl (uAB rfl rfl gU gU (by first | omega | (simp only [List.length_append,List.length_singleton]; omega) | (simp only [List.length_append]; omega))) ?_
    refine uAg rfl rfl rfl rfl (uAd rfl gU) ?_;refine uBf (by kernel_rfl) ?_;refine uAm (s:=⟨[(0,_,_),(1,_,_),(8,_,_),(39,_,_),(40,_,_),(41,_,_)],[],[],[]⟩) (uAj (⟨sx rfl,sx rfl,sx rfl,sx rfl,sx rfl,sx rfl,trivial⟩) trivial trivial) ?_;refine uAb ?_;refine uAa rfl rfl rfl (uAq rfl rfl gU gU rfl (IntWalk.i64_in _ (by omega))) ?_;refine uAa rfl rfl rfl (uAc rfl gU) ?_;refine uAf ?_;refine ⟨k + 1,?_,?_,uAj (⟨⟨_,rfl,?_⟩,⟨⟨_,rfl,?_⟩,⟨sx rfl,sx rfl,sx rfl,sx rfl,trivial⟩⟩⟩) trivial trivial⟩
    all_goals (first | rfl | omega)
   ·try simp only [nn,uAi,T.rows_len,Tk.rows_len,Gl.rows_len,Fs.rows_len,Sp.rows_len] at hc3
    have hk : k=(tokP s).1.length:=by omega
    rw [hk] at htk ⊢
    refine uAL ?_
    repeat (first | refine uAF ?_ | refine uAG ?_ | refine uAC rfl ?_)
    refine uAe (uAb ?_);refine uAa rfl rfl rfl (uAc rfl gU) ?_;refine uAA rfl rfl rfl rfl rfl rfl gU gU (uEw _ (by omega)) rfl ?_;refine uAa rfl rfl rfl (uAc rfl gU) ?_;refine uAa rfl rfl rfl (uAE rfl gU rfl) ?_;refine uAa rfl rfl rfl (uAE rfl gU rfl) ?_;refine uAa rfl rfl rfl (uAE rfl gU rfl) ?_;refine uAt rfl (uAN rfl rfl rfl) ?_;refine uAt rfl (uAx rfl rfl rfl rfl rfl rfl rfl) ?_;refine uAa rfl rfl rfl (uAd rfl gU) ?_;refine uAa rfl rfl rfl (uAd rfl gU) ?_;refine uAf ?_;refine uAm (s:=⟨[(8,_,_),(12,_,_),(14,_,_)],[(.l 12,_)],[],[]⟩) (uAj (⟨sx rfl,sx rfl,sx rfl,trivial⟩) (⟨sx rfl,trivial⟩) trivial) ?_;refine uAe (uAb ?_);refine uAa rfl rfl rfl (uAc rfl gU) ?_;refine uAA rfl rfl rfl rfl rfl rfl gU gU (uEw _ (by omega)) rfl ?_;refine uAa rfl rfl rfl (uAc rfl gU) ?_;refine uAa rfl rfl rfl (uAE rfl gU rfl) ?_;refine uAa rfl rfl rfl (uAE rfl gU rfl) ?_;refine uAa rfl rfl rfl (uAE rfl gU rfl) ?_;refine uAt rfl (uAN rfl rfl rfl) ?_;refine uAt rfl (uAx rfl rfl rfl rfl rfl rfl rfl) ?_;refine uAa rfl rfl rfl (uAd rfl gU) ?_;refine uAa rfl rfl rfl (uAd rfl gU) ?_;refine uAf ?_;refine uAm (s:=⟨[(12,_,_),(14,_,_),(15,_,_),(17,_,_)],[(.l 12,_),(.l 15,_)],[],[]⟩) (uAj (⟨sx rfl,sx rfl,sx rfl,sx rfl,trivial⟩) (⟨sx rfl,sx rfl,trivial⟩) trivial) ?_
    refine uAe (uAb ?_);refine uAa rfl rfl rfl (uAc rfl gU) ?_;refine uAa rfl rfl rfl (uAc rfl gU) ?_;refine uAa rfl rfl rfl (uAk rfl rfl gU gU rfl) ?_;refine uAa rfl rfl rfl (uAc rfl gU) ?_;refine uAa rfl rfl rfl (uAy rfl gU rfl rfl rfl rfl rfl) ?_;refine uAa rfl rfl rfl (uAy rfl gU rfl rfl rfl rfl rfl) ?_;refine uAA rfl rfl rfl rfl rfl rfl gU (fun hh=>gA ((fun hh=>hh) hh) (gA ((fun hh=>hh) hh) (rfl))) (uIO _ _ j2 p3 p4) rfl ?_;refine uAa rfl rfl rfl (uAX rfl rfl gU (fun _ hi=>gP rfl hi)) ?_;refine uAa rfl rfl rfl (uAd rfl gU) ?_;refine uAf ?_;refine uAo ?_
    repeat (first | refine tR ?_ | refine bR ?_)
    refine uAr rfl ?_ trivial;refine uCV ?_
    simp [j1]
end Go.Proofs.YtnjjdbapadkomaaGreatDoor
namespace Go.Abs
section
variable {H : Type} {enc : TypeId × Value→H} {P : Program} {L : List TypeId} {w : World}
structure Bnd (P : Program) (L : List TypeId) (M : Nat) (B : TypeId→DataW H→Prop) : Prop where
 str : ∀ {t : TypeId} {s : List UInt8},P.underlying t=some .string→B t (.lit (.string s))→s.length≤M
 sl : ∀ {t e : TypeId} {es sp : List (DataW H)},t ∈ L→P.underlying t=some (.slice e)→B t (.slice es sp)→es.length≤M ∧ ∀ x ∈ es,B e x
 st : ∀ {t : TypeId} {fs : Array Field} {ps : List (DataW H)},P.underlying t=some (.struct fs)→B t (.agg ps) → ∀ (j : Nat) (f : Field) (x : DataW H),fs.toList[j]? = some f→ps[j]? = some x→B f.type x
 arr : ∀ {t e : TypeId} {n : Nat} {ps : List (DataW H)},P.underlying t=some (.array n e)→B t (.agg ps) → ∀ x ∈ ps,B e x
end
end Go.Abs
namespace Go.Proofs.YtnjjdbapadkomaaGreatDoor
open Go Go.Abs
theorem uMl : uIw Tryz.prog [9,5,45]=true:=by kernel_rfl
theorem uN5 : Tryz.prog.cellsOf 5=1:=by kernel_rfl
theorem uN0 {n : Nat} {cs : List C} (h : uCk Tryz.prog n 9 cs) : ∃ l,cs=[.s l]:=by
 cases n with
 | zero=>exact h.elim
 | succ n=>simp only [uCk,Tryz.underlying9] at h; exact h
theorem uM6 {n : Nat} {c : C} (h : uCk Tryz.prog n 9 [c]) : ∃ l,c = .s l:=by
 obtain ⟨l,hl⟩:=uN0 h
 exact ⟨l,by simpa using hl⟩
theorem uEX {α : Type} {f : α→List C} {R : List C→Prop} (h : ∀ row,R row → ∃ t : α,row=f t) : ∀ es : List (List C),(∀ row,row ∈ es→R row) → ∃ ts : List α,es=ts.map f
 | [],_=>⟨[],rfl⟩
 | e :: es,he=>by
  obtain ⟨t,ht⟩:=h e (he e (List.mem_cons_self ..))
  obtain ⟨ts,hts⟩:=uEX h es fun row hr=>he row (List.mem_cons_of_mem _ hr)
  exact ⟨t :: ts,by rw [List.map_cons,← hts,ht]⟩
theorem uNg {n : Nat} {cs : List C} (h : uCk Tryz.prog n 5 cs) : ∃ b : UInt8,cs=[.i .u8 (b.toNat : Int)]:=by
 cases n with
 | zero=>exact h.elim
 | succ n =>
  simp only [uCk,Tryz.underlying5] at h
  obtain ⟨m,rfl,hm⟩:=h
  have hb : 0≤m∧m < 256:=by
   have h1 : IntKind.u8.min=0:=by kernel_rfl
   have h2 : IntKind.u8.max=255:=by kernel_rfl
   simp only [Lit.wf,h1,h2,Bool.and_eq_true,decide_eq_true_eq] at hm
   omega
  exact ⟨UInt8.ofNat m.toNat,by rw [UInt8.toNat_ofNat']; congr 2; omega⟩
theorem uMk {n : Nat} {c : C} (h : uCk Tryz.prog n 45 [c]) : ∃ l : List UInt8,c = .sl 1 (uBc l):=by
 cases n with
 | zero=>exact h.elim
 | succ n =>
  simp only [uCk,Tryz.underlying45,uN5] at h
  obtain ⟨es,h1,h5⟩:=h
  obtain ⟨ts,rfl⟩:=uEX (f:=fun b : UInt8=>[C.i .u8 (b.toNat : Int)]) (fun row hr=>uNg hr) es h5
  exact ⟨ts,by simp only [List.cons.injEq,and_true] at h1; exact h1⟩
theorem own : ownKnob Tryz.prog.godebug=none:=by kernel_rfl
theorem uKU : laidOutB Tryz.prog=true:=by kernel_rfl
theorem uNY {W : World} (h : W.ShapedOpen Tryz.prog) : ∀ g ∈ sys.gv,g.1 < W.heap.size∧g.2 W.heap[g.1]? := by
 intro g hg
 have hg : g ∈ ([(0,intAt)] : List (Nat × (Option Obj→Prop))):=hg
 obtain rfl : g=(0,intAt):=by simpa using hg
 obtain ⟨m,hm⟩ : ∃ m,W.cell? ⟨0,0,none⟩=some (.int .i64 m):=laysM146.s1_3 W h
 exact ⟨World.block_lt_of_cell? (a:=⟨0,0,none⟩) W hm,intAt.of hm⟩
theorem uHk {H : Type} {enc : TypeId × Value→H} {a : Assume} {C : Checked} {os : Os} {f : FuncId} {fn : Func} {s : ChangeSpec} {conds : List PathCond} {apart fresh handsOn again : Bool} {X : World→Array Value→Prop}
  (hX : ∀ (w w' : World) (args : Array Value),w.heap=w'.heap→X w args→X w' args)
  (own : ownKnob C.prog.godebug=none) (started : os.Started) (noInit : C.prog.inits.idxOf? f=none) (hfn : C.prog.funcs[f]? = some fn)
  (witness : ∃ (w : World) (tape : Tape) (i : Input),w.os=os∧(w.forCall tape i).Shaped C.prog∧i.vars=[]∧Input.okWide C.prog (w.forCall tape i) .any w.heap.size f i ∧
   ((s.pre enc C.prog fn conds apart (w.forCall tape i).memory i.args∧X (w.forCall tape i).memory i.args)∧sizedMet enc C.prog fn (OpenSpec.ofChange s) apart (w.forCall tape i).memory i.args)∧a.holds C.prog (lone (Frame.enter C.prog f i.args .normal) [] (w.forCall tape i)))
  (contract : ∀ (W : World) (base : Nat) (args : Array Value) (ds gs : List (DataW H)) (before : List MemPlace),
   (∀ (j : Nat) t v,fn.params[j]? = some t→args[j]? = some v→Value.okWide C.prog W .any base t v) →
   DataW.Whole enc C.prog fn.params.toList s.vars apart W args.toList ds gs before→X W args→W.ShapedOpen C.prog →
   Calls C.prog f args W fun e W'=>∃ v,e = .returned v∧s.post enc C.prog fn apart fresh handsOn again W args v W') :
  ReturnsInHanded a C os f .any (fun w args=>(s.pre enc C.prog fn conds apart w args∧X w args)∧sizedMet enc C.prog fn (OpenSpec.ofChange s) apart w args) (s.post enc C.prog fn apart fresh handsOn again):=by
 refine returnsInHanded_of_calls own started noInit witness ?_
 intro w tape i _ hsh _ hok hpre hholds
 obtain ⟨_,_,_,fn',hfn',_,_,_,_,hval⟩:=hok
 have e : fn'=fn:=Option.some.inj (hfn'.symm.trans hfn)
 subst e
 obtain ⟨⟨⟨ds,gs,before,hw,hc⟩,hx⟩,hz⟩:=hpre
 have hw':=DataW.Whole.of_heap (w':=w.forCall tape i) (by rfl) hw
 refine (contract (w.forCall tape i) w.heap.size i.args ds gs before hval hw' (hX _ _ _ (by rfl) hx) hsh).mono fun e W' ⟨v,he,hp⟩=>?_
 subst he
 exact ChangeSpec.post_blind hp
end Go.Proofs.YtnjjdbapadkomaaGreatDoor
