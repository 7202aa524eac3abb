/- Our abstract program logic and contracts of this seat's functions, part 6: no statement of its own (long names of ours are shortened by a program). -/
import Derived.Test.YtnjjdbapadkomaaGreatDoorM5
import Derived.SizedLaws
import Derived.Test.YtnjjdbapadkomaaGreatDoorChecked
import Derived.Handed
import Derived.LaidSub
import Derived.MakeChecks
set_option linter.unusedVariables false
set_option linter.unusedSimpArgs false
namespace Go.Proofs.YtnjjdbapadkomaaGreatDoor
open Go Go.Abs
def tabF : List (Option TyI):=tab.set 115 (some { n:=1,agg:=false,offs:=[],el:=none,z:=[.o .nilFunc] })
theorem uKj : uDb Tryz.prog 0 tabF=true:=by kernel_rfl
noncomputable def sysF (fv : Value) : Pg:={ P:=Tryz.prog,T:=tabF,ok:=uKj,mix:=uId,gv:=[(0,intAt)],old:=true,ex:=uLP fv 84 }
theorem upF {fv : Value} {f : FuncId} {args : List X} {bs bs' : List (List C)} {res : X} {ro : Option Nat} (h : Ctr sys f args bs res ro bs') : Ctr (sysF fv) f args bs res ro bs':=h.wk rfl fun _ hg=>hg
set_option maxHeartbeats 4000000 in
theorem uJ2 (fv : Value) : ∀ (n : Nat) (t : T) (out : List (List UInt8)),t.size≤n→n≤900000→out.length + t.size≤900000 →
  CtrX (sysF fv) (uE3 fv 84 1) 84 [xm t, .v (.ptr (.o 0) 0), .v (.ptr (.o 1) 0)] [[.sl 1 (strR out)],[.o fv]] [(0,0,1)] (.tup []) [[.sl 1 (strR (t.all.foldl uBf out))],[.o fv]] .box:=by
 intro n
 induction n with
 | zero=>intro t out h; have := t.size_pos; omega
 | succ n ih =>
  intro t out ht hn ho
  have hse:=t.size_eq
  have hr:=T.rows_len t.kids
  have hro:=uAh out
  have hls:=T.len_sizes t.kids
  have hst : (uBf out t).length≤out.length + 1:=by unfold uBf; split <;> simp
  refine uFr Tryz.func84 rfl rfl rfl rfl rfl rfl rfl ?_ (fun w G vs hH hvs=>uLH hH hvs);refine uAe (uAb ?_);refine uAu rfl (uAT rfl rfl rfl rfl) ?_;refine uAf ?_;refine uAe ?_;refine uAe (uAb ?_);refine uAa rfl rfl rfl (uAg rfl gU rfl rfl) ?_;refine uAa rfl rfl rfl (uAm rfl gU rfl rfl rfl rfl) ?_;refine uAa rfl rfl rfl (uAk rfl rfl gU gU rfl) ?_;refine uAa rfl rfl rfl (uAc rfl gU) ?_;refine uAa rfl rfl rfl (uAg rfl gU rfl rfl) ?_;refine uAa rfl rfl rfl (uAm rfl (fun hh=>hh) rfl rfl rfl rfl) ?_;refine uAa rfl rfl rfl (uAk rfl rfl (fun hh=>hh) gU rfl) ?_;refine uAa rfl rfl rfl (uAM rfl rfl gU (fun _ hi=>gP rfl hi)) ?_;refine uAa rfl rfl rfl (uAc rfl gU) ?_;refine uAa rfl rfl rfl (uAm rfl gU rfl rfl rfl rfl) ?_;refine uAa rfl rfl rfl (uAg rfl gU rfl rfl) ?_;refine uBq (s:=⟨[(1,_,_),(2,_,_),(3,_,_),(14,_,_),(15,_,_),(16,_,_)],[(.l 3,_),(.o 0,_),(.o 1,_)],[(.b (.o 0) 0,_)],[]⟩) (uAj (⟨sx rfl,sx rfl,sx rfl,sx rfl,sx rfl,sx rfl,trivial⟩) (⟨sx rfl,sx rfl,sx rfl,trivial⟩) (⟨rfl,trivial⟩)) ?_;refine uAa rfl rfl rfl (uAm rfl (fun hh=>hh) rfl rfl rfl rfl) ?_;refine uAw rfl rfl rfl rfl rfl rfl gU (fun hh=>gA ((fun hh=>hh) hh) (gA ((fun hh=>hh) hh) (rfl))) (upF (uEl _ _)) rfl ?_;refine uAa rfl rfl rfl (uA1 rfl (fun hh=>hh)) ?_
  refine uAa rfl rfl rfl (uAO rfl rfl gU (fun _ hi=>gP rfl hi)) ?_;refine uAf ?_;refine uAl rfl (fun hc=>?_) (fun hc=>?_)
  ·try simp only [nn,uAh,T.rows_len] at hc
   have hT : uBf out t=out++[t.name]:=by rw [uBf,if_pos ⟨by omega,by simpa using hc.2⟩]
   refine uAb ?_;refine uAu rfl (uDh rfl rfl rfl rfl rfl rfl rfl) ?_;refine uAa rfl rfl rfl (uAg rfl gU rfl rfl) ?_;refine uAa rfl rfl rfl (uAm rfl gU rfl rfl rfl rfl) ?_;refine uAK (xs:=[_]) rfl rfl rfl rfl rfl rfl rfl rfl rfl gU rfl ?_;refine uAu rfl (uAZ rfl rfl rfl rfl rfl rfl rfl (by first | omega | (simp only [List.length_append,List.length_singleton,uAh]; omega)) (by first | omega | (simp only [List.length_append,List.length_singleton,uAh]; omega))) ?_;refine uAu rfl (uDk rfl rfl rfl rfl rfl rfl rfl) ?_;refine uAf ?_;refine uAn (s:=⟨[(2,_,_),(3,_,_)],[(.l 3,_),(.o 0,_),(.o 1,_)],[(.b (.o 0) 0,_)],[]⟩) (uAj (⟨sx rfl,sx rfl,trivial⟩) (⟨sx rfl,sx rfl,sx rfl,trivial⟩) (⟨rfl,trivial⟩)) ?_;refine uAe (uAb ?_);refine uAa rfl rfl rfl (uAg rfl gU rfl rfl) ?_;refine uAa rfl rfl rfl (uAm rfl gU rfl rfl rfl rfl) ?_;refine uAQ rfl rfl rfl rfl rfl gU rfl rfl ?_ (fun hh=>by simp at hh); intro hlen;refine uAa rfl rfl rfl (uAc rfl gU) ?_;refine uAf ?_;refine uAt ?_;refine uAW (ι:=Nat) { t:=[(2,_,_),(27,_,_),(28,_,_)],bx:=[(.o 1,_)],ow:=[(.b (.o 0) 0,_)] } (fun k=>[(29,true,xi (k : Int))]) (fun k=>[((.o 0),[.sl 1 (strR ((T.alls (t.kids.take k)).foldl uBf (uBf out t)))])]) (fun k=>k≤t.kids.length) (fun k=>t.kids.length - k) (0) (by simp) (uAj (⟨sx rfl,sx rfl,sx rfl,sx rfl,trivial⟩) (⟨⟨_,rfl,by (rw [hT]; simp [T.alls,strR] <;> rfl)⟩,⟨sx rfl,trivial⟩⟩) (⟨rfl,trivial⟩)) ?_
   intro k hoka
   dsimp only [List.cons_append,List.nil_append]
   have hnl:=uHX (T.alls (t.kids.take k)) (uBf out t)
   have htk:=T.sizes_take_le t.kids k
   have hal:=T.alls_len (t.kids.take k)
   refine uAe (uAb ?_);refine uAa rfl rfl rfl (uAk rfl rfl gU gU rfl) ?_;refine uAf ?_;refine uAe ?_;refine uAl rfl (fun hc2=>?_) (fun hc2=>?_)
   ·try simp only [nn,uAh,T.rows_len] at hc2
    have hlt : k < t.kids.length:=by omega
    have hgs:=T.getD_size hlt
    have hT:=T.alls_take hlt
    have hih:=ih (t.kids.getD k default) ((T.alls (t.kids.take k)).foldl uBf (uBf out t)) (by omega) (by omega) (by omega)
    refine uAp ?_;refine uAe ?_;refine uAt ?_;refine uAe (uAb ?_);refine uAa rfl rfl rfl (uAy rfl rfl gU gU rfl rfl rfl (fun hh=>T.rows_at (by first | omega | (simp at hh ⊢; omega)))) ?_;refine uAa rfl rfl rfl (uAJ rfl gU rfl rfl rfl rfl) ?_;refine uAu rfl (uAP rfl rfl rfl) ?_;refine uAu rfl (uAz rfl rfl rfl rfl rfl rfl rfl) ?_;refine uAf ?_;refine uAb ?_;refine uAa rfl rfl rfl (uAm rfl gU rfl rfl rfl rfl) ?_;refine uAa rfl rfl rfl (uAs rfl gU rfl rfl rfl rfl rfl) ?_;refine uFN [⟨.o 0,0,[.sl 1 (strR ((T.alls (t.kids.take k)).foldl uBf (uBf out t)))],[.sl 1 (strR ((t.kids.getD k default).all.foldl uBf ((T.alls (t.kids.take k)).foldl uBf (uBf out t))))]⟩,⟨.o 1,0,[.o fv],[.o fv]⟩] [(0,0,1)] rfl rfl rfl rfl rfl rfl rfl (ps2 rfl rfl) rfl rfl hih rfl rfl rfl ?_;refine uAf ?_;refine uAn (s:=⟨[(2,_,_),(27,_,_),(28,_,_),(29,_,_)],[(.o 0,_),(.o 1,_)],[(.b (.o 0) 0,_)],[]⟩) (uAj (⟨sx rfl,sx rfl,sx rfl,sx rfl,trivial⟩) (⟨sx rfl,sx rfl,trivial⟩) (⟨rfl,trivial⟩)) ?_;refine uAb ?_;refine uAa rfl rfl rfl (uAr rfl rfl gU gU rfl (IntWalk.i64_in _ (by omega))) ?_;refine uAa rfl rfl rfl (uAc rfl gU) ?_;refine uAf ?_;refine ⟨k + 1,?_,?_,uAj (⟨⟨_,rfl,?_⟩,⟨sx rfl,sx rfl,sx rfl,trivial⟩⟩) (⟨⟨_,rfl,?_⟩,⟨sx rfl,trivial⟩⟩) (⟨rfl,trivial⟩)⟩
    all_goals first
     | rfl
     | omega
     | (rw [hT,List.foldl_append]; done)
     | (rw [hT,List.foldl_append]; rfl)
   ·try simp only [nn,uAh,T.rows_len] at hc2
    have hk : k=t.kids.length:=by omega
    subst hk
    refine uAL ?_
    repeat (first | refine uAF ?_ | refine uAE ?_ | refine uAB rfl ?_)
    refine uBu rfl ?_ (⟨⟨_,rfl,?_⟩,⟨⟨_,rfl,?_⟩,trivial⟩⟩) (by kernel_rfl)
    all_goals first | rfl | (rw [T.all_eq,List.take_length]; rfl)
  ·try simp only [nn,uAh,T.rows_len] at hc
   have hT : uBf out t=out:=by rw [uBf,if_neg (by rintro ⟨q1,q2⟩; rcases hc with z | z; { omega }; { rw [z] at q2; cases q2 })]
   refine uAp ?_;refine uAe (uAb ?_);refine uAa rfl rfl rfl (uAg rfl gU rfl rfl) ?_;refine uAa rfl rfl rfl (uAm rfl gU rfl rfl rfl rfl) ?_;refine uAQ rfl rfl rfl rfl rfl gU rfl rfl ?_ (fun hh=>by simp at hh); intro hlen;refine uAa rfl rfl rfl (uAc rfl gU) ?_;refine uAf ?_;refine uAn (s:=⟨[(2,_,_),(27,_,_),(28,_,_),(29,_,_)],[(.o 0,_),(.o 1,_)],[(.b (.o 0) 0,_)],[]⟩) (uAj (⟨sx rfl,sx rfl,sx rfl,sx rfl,trivial⟩) (⟨sx rfl,sx rfl,trivial⟩) (⟨rfl,trivial⟩)) ?_;refine uAt ?_;refine uAW (ι:=Nat) { t:=[(2,_,_),(27,_,_),(28,_,_)],bx:=[(.o 1,_)],ow:=[(.b (.o 0) 0,_)] } (fun k=>[(29,true,xi (k : Int))]) (fun k=>[((.o 0),[.sl 1 (strR ((T.alls (t.kids.take k)).foldl uBf (uBf out t)))])]) (fun k=>k≤t.kids.length) (fun k=>t.kids.length - k) (0) (by simp) (uAj (⟨sx rfl,sx rfl,sx rfl,sx rfl,trivial⟩) (⟨⟨_,rfl,by (rw [hT]; simp [T.alls])⟩,⟨sx rfl,trivial⟩⟩) (⟨rfl,trivial⟩)) ?_
   intro k hokb
   dsimp only [List.cons_append,List.nil_append]
   have hnl:=uHX (T.alls (t.kids.take k)) (uBf out t)
   have htk:=T.sizes_take_le t.kids k
   have hal:=T.alls_len (t.kids.take k)
   refine uAe (uAb ?_);refine uAa rfl rfl rfl (uAk rfl rfl gU gU rfl) ?_;refine uAf ?_;refine uAe ?_;refine uAl rfl (fun hc2=>?_) (fun hc2=>?_)
   ·try simp only [nn,uAh,T.rows_len] at hc2
    have hlt : k < t.kids.length:=by omega
    have hgs:=T.getD_size hlt
    have hT:=T.alls_take hlt
    have hih:=ih (t.kids.getD k default) ((T.alls (t.kids.take k)).foldl uBf (uBf out t)) (by omega) (by omega) (by omega)
    refine uAp ?_;refine uAe ?_;refine uAt ?_;refine uAe (uAb ?_);refine uAa rfl rfl rfl (uAy rfl rfl gU gU rfl rfl rfl (fun hh=>T.rows_at (by first | omega | (simp at hh ⊢; omega)))) ?_;refine uAa rfl rfl rfl (uAJ rfl gU rfl rfl rfl rfl) ?_;refine uAu rfl (uAP rfl rfl rfl) ?_;refine uAu rfl (uAz rfl rfl rfl rfl rfl rfl rfl) ?_;refine uAf ?_;refine uAb ?_;refine uAa rfl rfl rfl (uAm rfl gU rfl rfl rfl rfl) ?_;refine uAa rfl rfl rfl (uAs rfl gU rfl rfl rfl rfl rfl) ?_;refine uFN [⟨.o 0,0,[.sl 1 (strR ((T.alls (t.kids.take k)).foldl uBf (uBf out t)))],[.sl 1 (strR ((t.kids.getD k default).all.foldl uBf ((T.alls (t.kids.take k)).foldl uBf (uBf out t))))]⟩,⟨.o 1,0,[.o fv],[.o fv]⟩] [(0,0,1)] rfl rfl rfl rfl rfl rfl rfl (ps2 rfl rfl) rfl rfl hih rfl rfl rfl ?_;refine uAf ?_;refine uAn (s:=⟨[(2,_,_),(27,_,_),(28,_,_),(29,_,_)],[(.o 0,_),(.o 1,_)],[(.b (.o 0) 0,_)],[]⟩) (uAj (⟨sx rfl,sx rfl,sx rfl,sx rfl,trivial⟩) (⟨sx rfl,sx rfl,trivial⟩) (⟨rfl,trivial⟩)) ?_;refine uAb ?_;refine uAa rfl rfl rfl (uAr rfl rfl gU gU rfl (IntWalk.i64_in _ (by omega))) ?_;refine uAa rfl rfl rfl (uAc rfl gU) ?_;refine uAf ?_;refine ⟨k + 1,?_,?_,uAj (⟨⟨_,rfl,?_⟩,⟨sx rfl,sx rfl,sx rfl,trivial⟩⟩) (⟨⟨_,rfl,?_⟩,⟨sx rfl,trivial⟩⟩) (⟨rfl,trivial⟩)⟩
    all_goals first
     | rfl
     | omega
     | (rw [hT,List.foldl_append]; done)
     | (rw [hT,List.foldl_append]; rfl)
   ·try simp only [nn,uAh,T.rows_len] at hc2
    have hk : k=t.kids.length:=by omega
    subst hk
    refine uAL ?_
    repeat (first | refine uAF ?_ | refine uAE ?_ | refine uAB rfl ?_)
    refine uBu rfl ?_ (⟨⟨_,rfl,?_⟩,⟨⟨_,rfl,?_⟩,trivial⟩⟩) (by kernel_rfl)
    all_goals first | rfl | (rw [T.all_eq,List.take_length]; rfl)
end Go.Proofs.YtnjjdbapadkomaaGreatDoor
namespace Go.Proofs.YtnjjdbapadkomaaGreatDoor
open Go Go.Abs
noncomputable def sysG : Pg:={ P:=Tryz.prog,T:=tabF,ok:=uKj,mix:=uId,gv:=[(0,intAt)] }
theorem uI7 (t : T) (ht : t.size≤450000) : Ctr sysG 34 [xm t] [] (xss (uIg t)) none []:=by
 refine uAv Tryz.func34 rfl rfl rfl rfl rfl rfl ?_;refine uAe (uAb ?_);refine uAu rfl (uAT rfl rfl rfl rfl) ?_;refine uAa rfl rfl rfl (uAd rfl gU) ?_;refine uAf ?_;refine uAe (uAb ?_);refine uAu rfl (uFD rfl rfl rfl rfl) ?_;refine uAf ?_;refine uAe (uAb ?_);refine uAu rfl (uAP rfl rfl rfl) ?_;refine uAf ?_;refine uD5 (.l 3) 0 1 rfl rfl rfl ?_;refine uL5 (i:=3) (j:=4) (f:=84) rfl rfl fun fv=>?_
 refine uFv (V':=Caps fv 84 3 4) ?_;refine uL8 rfl rfl rfl (by decide) (by decide) rfl ?_;refine uH9 (uEA rfl (uAz rfl rfl rfl rfl rfl rfl rfl)) (fun a v h=>h) ?_;refine uKA ?_ (fun _ h=>h);refine uFv (V':=fun _=>True) ?_;refine uH9 (uEP rfl rfl rfl (uAm rfl gU rfl rfl rfl rfl)) (fun a v h=>uGO (by decide) (by decide) a v h) ?_;refine uH9 (uEP rfl rfl rfl (uAs rfl gU rfl rfl rfl rfl rfl)) (fun a v h=>uGO (by decide) (by decide) a v h) ?_;refine uMi (V':=fun _=>True) (i:=3) (j:=4) [⟨.l 3,0,[.sl 1 (strR [])],[.sl 1 (strR (t.all.foldl uBf []))]⟩,⟨.l 4,0,[.o fv],[.o fv]⟩] [(0,0,1)] rfl rfl rfl rfl rfl rfl rfl rfl rfl rfl (ps2 rfl rfl) rfl rfl (uJ2 fv _ t [] (Nat.le_refl _) (by omega) (by simp; omega)) rfl rfl rfl (fun _ _ _=>trivial) ?_;refine uMH ?_;refine uAe (uAb ?_);refine uAa rfl rfl rfl (uAm rfl gU rfl rfl rfl rfl) ?_;refine uAa rfl rfl rfl (uAd rfl gU) ?_;refine uAf ?_;refine uAo ?_
 repeat (first | refine tR ?_ | refine bR ?_)
 refine uAq rfl ?_ trivial
 rfl
theorem uJS (t : T) (ht : t.size≤450000) : Ctr sys 34 [xm t] [] (xss (uIg t)) none []:=(uI7 t ht).wk rfl fun _ h=>h
end Go.Proofs.YtnjjdbapadkomaaGreatDoor
namespace Go.Abs
section
variable {H : Type} {enc : TypeId × Value→H} {P : Program} {L : List TypeId} {w : World}
structure Bnd (P : Program) (L : List TypeId) (M : Nat) (B : TypeId→DataW H→Prop) : Prop where
 str : ∀ {t : TypeId} {s : List UInt8},P.underlying t=some .string→B t (.lit (.string s))→s.length≤M
 sl : ∀ {t e : TypeId} {es sp : List (DataW H)},t ∈ L→P.underlying t=some (.slice e)→B t (.slice es sp)→es.length≤M ∧ ∀ x ∈ es,B e x
 st : ∀ {t : TypeId} {fs : Array Field} {ps : List (DataW H)},P.underlying t=some (.struct fs)→B t (.agg ps) → ∀ (j : Nat) (f : Field) (x : DataW H),fs.toList[j]? = some f→ps[j]? = some x→B f.type x
 arr : ∀ {t e : TypeId} {n : Nat} {ps : List (DataW H)},P.underlying t=some (.array n e)→B t (.agg ps) → ∀ x ∈ ps,B e x
end
end Go.Abs
namespace Go.Proofs.YtnjjdbapadkomaaGreatDoor
open Go Go.Abs
theorem uM8 {n : Nat} {cs : List C} (h : uCf Tryz.prog n 9 cs) : ∃ l,cs=[.s l]:=by
 cases n with
 | zero=>exact h.elim
 | succ n=>simp only [uCf,Tryz.underlying9] at h; exact h
theorem uER {α : Type} {f : α→List C} {R : List C→Prop} (h : ∀ row,R row → ∃ t : α,row=f t) : ∀ es : List (List C),(∀ row,row ∈ es→R row) → ∃ ts : List α,es=ts.map f
 | [],_=>⟨[],rfl⟩
 | e :: es,he=>by
  obtain ⟨t,ht⟩:=h e (he e (List.mem_cons_self ..))
  obtain ⟨ts,hts⟩:=uER h es fun row hr=>he row (List.mem_cons_of_mem _ hr)
  exact ⟨t :: ts,by rw [List.map_cons,← hts,ht]⟩
theorem own : ownKnob Tryz.prog.godebug=none:=by kernel_rfl
theorem uMx : laidOutB Tryz.prog=true:=by kernel_rfl
theorem uNn {W : World} (h : W.ShapedOpen Tryz.prog) : ∀ g ∈ sys.gv,g.1 < W.heap.size∧g.2 W.heap[g.1]? := by
 intro g hg
 have hg : g ∈ ([(0,intAt)] : List (Nat × (Option Obj→Prop))):=hg
 obtain rfl : g=(0,intAt):=by simpa using hg
 obtain ⟨m,hm⟩ : ∃ m,W.cell? ⟨0,0,none⟩=some (.int .i64 m):=laysM146.s1_3 W h
 exact ⟨World.block_lt_of_cell? (a:=⟨0,0,none⟩) W hm,intAt.of hm⟩
theorem uHb {H : Type} {enc : TypeId × Value→H} {a : Assume} {C : Checked} {os : Os} {f : FuncId} {fn : Func} {s : ChangeSpec} {conds : List PathCond} {apart fresh handsOn again : Bool} {X : World→Array Value→Prop}
  (hX : ∀ (w w' : World) (args : Array Value),w.heap=w'.heap→X w args→X w' args)
  (own : ownKnob C.prog.godebug=none) (started : os.Started) (noInit : C.prog.inits.idxOf? f=none) (hfn : C.prog.funcs[f]? = some fn)
  (witness : ∃ (w : World) (tape : Tape) (i : Input),w.os=os∧(w.forCall tape i).Shaped C.prog∧i.vars=[]∧Input.okWide C.prog (w.forCall tape i) .any w.heap.size f i ∧
   ((s.pre enc C.prog fn conds apart (w.forCall tape i).memory i.args∧X (w.forCall tape i).memory i.args)∧sizedMet enc C.prog fn (OpenSpec.ofChange s) apart (w.forCall tape i).memory i.args)∧a.holds C.prog (lone (Frame.enter C.prog f i.args .normal) [] (w.forCall tape i)))
  (contract : ∀ (W : World) (base : Nat) (args : Array Value) (ds gs : List (DataW H)) (before : List MemPlace),
   (∀ (j : Nat) t v,fn.params[j]? = some t→args[j]? = some v→Value.okWide C.prog W .any base t v) →
   DataW.Whole enc C.prog fn.params.toList s.vars apart W args.toList ds gs before→X W args→W.ShapedOpen C.prog →
   Calls C.prog f args W fun e W'=>∃ v,e = .returned v∧s.post enc C.prog fn apart fresh handsOn again W args v W') :
  ReturnsInHanded a C os f .any (fun w args=>(s.pre enc C.prog fn conds apart w args∧X w args)∧sizedMet enc C.prog fn (OpenSpec.ofChange s) apart w args) (s.post enc C.prog fn apart fresh handsOn again):=by
 refine returnsInHanded_of_calls own started noInit witness ?_
 intro w tape i _ hsh _ hok hpre hholds
 obtain ⟨_,_,_,fn',hfn',_,_,_,_,hval⟩:=hok
 have e : fn'=fn:=Option.some.inj (hfn'.symm.trans hfn)
 subst e
 obtain ⟨⟨⟨ds,gs,before,hw,hc⟩,hx⟩,hz⟩:=hpre
 have hw':=DataW.Whole.of_heap (w':=w.forCall tape i) (by rfl) hw
 refine (contract (w.forCall tape i) w.heap.size i.args ds gs before hval hw' (hX _ _ _ (by rfl) hx) hsh).mono fun e W' ⟨v,he,hp⟩=>?_
 subst he
 exact ChangeSpec.post_blind hp
end Go.Proofs.YtnjjdbapadkomaaGreatDoor
namespace Go.Proofs.YtnjjdbapadkomaaGreatDoor
open Go Go.Abs
theorem uKW (t : T) (rs : List (List C)) (h : rs=T.rows [t]) : Ctr sys 32 [.v (.c (.sl 4 rs)),xi 1,xi 450] [] (xb (fewB [t] 1 450)) none []:=by
 subst h; exact uLJ [t] 1 450 (by omega)
theorem uDL (t : T) : Ctr sys 9 [xm t] [] (xb true) none []:=by
 have e4 : [t.cells.take 4]=T.rows [t]:=by rw [T.rows_eq]; cases t; rfl
 refine uAv Tryz.func9 rfl rfl rfl rfl rfl rfl ?_;refine uAe (uAb ?_);refine uAu rfl (uAT rfl rfl rfl rfl) ?_;refine uAa rfl rfl rfl (uAd rfl gU) ?_;refine uAf ?_;refine uAe ?_;refine uAe (uAb ?_);refine uAw rfl rfl rfl rfl rfl rfl gU gU (uGz) rfl ?_;refine uAa rfl rfl rfl (uA1 rfl gU) ?_;refine uAa rfl rfl rfl (uAc rfl gU) ?_;refine uAa rfl rfl rfl (uAs rfl gU rfl rfl rfl rfl rfl) ?_;refine uG0 (xs:=[_]) rfl rfl rfl rfl rfl rfl rfl rfl rfl (by first | exact fun hh=>hh | exact fun _=>rfl | exact fun hh=>gL hh | exact fun hh=>gL (gL hh) | (intro hh; simp_all)) rfl ?_;refine uAw rfl rfl rfl rfl rfl rfl gU (fun hh=>gA ((fun hh=>hh) hh) (gA rfl (gA rfl (rfl)))) (uKW t _ e4) rfl ?_;refine uAa rfl rfl rfl (uA1 rfl (fun hh=>hh)) ?_;refine uAa rfl rfl rfl (uAM rfl rfl gU (fun _ hi=>gP rfl hi)) ?_;refine uAf ?_;refine uAn (s:=⟨[(1,_,_),(14,_,_)],[(.l 1,_)],[],[]⟩) (uAj (⟨sx rfl,sx rfl,trivial⟩) (⟨sx rfl,trivial⟩) trivial) ?_;refine uAl rfl (fun hc=>?_) (fun hc=>?_)
 ·refine uAe (uAb ?_)
  refine uAw rfl rfl rfl rfl rfl rfl gU gU (uGz) rfl ?_;refine uAa rfl rfl rfl (uAd rfl gU) ?_;refine uAf ?_;refine uAo ?_
  repeat (first | refine tR ?_ | refine bR ?_)
  refine uAq rfl ?_ trivial
  rfl
 ·try simp only [nn,uAh,T.rows_len] at hc
  have hf : fewB [t] 1 450=true:=by simpa using hc
  obtain ⟨_,h2⟩:=uJL hf
  simp only [T.sizes] at h2
  refine uAp ?_;refine uAe (uAb ?_);refine uAa rfl rfl rfl (uAs rfl gU rfl rfl rfl rfl rfl) ?_;refine uAw rfl rfl rfl rfl rfl rfl gU gU (uDJ t (by omega)) rfl ?_;refine uAa rfl rfl rfl (uAc rfl gU) ?_;refine uAa rfl rfl rfl (uAG rfl gU rfl) ?_;refine uAa rfl rfl rfl (uAG rfl gU rfl) ?_;refine uAa rfl rfl rfl (uAd rfl gU) ?_;refine uAa rfl rfl rfl (uAd rfl gU) ?_;refine uAf ?_;refine uAn (s:=⟨[(1,_,_),(3,_,_),(4,_,_)],[(.l 1,_)],[],[]⟩) (uAj (⟨sx rfl,sx rfl,sx rfl,trivial⟩) (⟨sx rfl,trivial⟩) trivial) ?_;refine uAe (uAb ?_);refine uAa rfl rfl rfl (uAs rfl gU rfl rfl rfl rfl rfl) ?_;refine uAw rfl rfl rfl rfl rfl rfl gU gU (uFj t (by omega)) rfl ?_;refine uAa rfl rfl rfl (uAc rfl gU) ?_;refine uAa rfl rfl rfl (uAG rfl gU rfl) ?_;refine uAa rfl rfl rfl (uAG rfl gU rfl) ?_;refine uAa rfl rfl rfl (uAd rfl gU) ?_;refine uAa rfl rfl rfl (uAd rfl gU) ?_;refine uAf ?_;refine uAn (s:=⟨[(1,_,_),(3,_,_),(4,_,_),(5,_,_),(6,_,_)],[(.l 1,_)],[],[]⟩) (uAj (⟨sx rfl,sx rfl,sx rfl,sx rfl,sx rfl,trivial⟩) (⟨sx rfl,trivial⟩) trivial) ?_;refine uAe ?_;refine awp_drawn' (by kernel_rfl) ?_;refine uAi rfl rfl rfl rfl (uAc rfl gU) ?_;refine uAi rfl rfl rfl rfl (uAc rfl gU) ?_
  refine uAi rfl rfl rfl rfl (uAY rfl rfl gU gU rfl) ?_;refine uAi rfl rfl rfl rfl (uAc rfl gU) ?_;refine uAi rfl rfl rfl rfl (uAc rfl gU) ?_;refine uAi rfl rfl rfl rfl (uAc rfl gU) ?_;refine uAi rfl rfl rfl rfl (uAk rfl rfl (fun hh=>hh) (fun hh=>hh) rfl) ?_;refine uAi rfl rfl rfl rfl (uAO rfl rfl gU (fun _ hi=>gP rfl hi)) ?_;refine uAi rfl rfl rfl rfl (uAc rfl gU) ?_;refine uBQ rfl rfl rfl rfl rfl rfl rfl gU rfl rfl rfl rfl rfl ?_;refine uBa rfl rfl rfl rfl rfl rfl rfl gU (fun hh=>gA ((fun hh=>hh) hh) (rfl)) (uJS t (by omega)) rfl ?_;refine uBQ rfl rfl rfl rfl rfl rfl rfl gU rfl rfl rfl rfl rfl ?_;refine uBa rfl rfl rfl rfl rfl rfl rfl gU (fun hh=>gA ((fun hh=>hh) hh) (rfl)) (uI4 t (by omega)) rfl ?_;refine uBa rfl rfl rfl rfl rfl rfl rfl gU (fun hh=>gA ((fun hh=>hh) hh) (gA ((fun hh=>hh) hh) (rfl))) (uJc _ _ rfl) rfl ?_;refine uAi rfl rfl rfl rfl (uAO rfl rfl gU (fun _ hi=>gP rfl hi)) ?_;refine uAi rfl rfl rfl rfl (uAd rfl gU) ?_;refine uBg (by kernel_rfl) ?_;refine uAo ?_
  repeat (first | refine tR ?_ | refine bR ?_)
  refine uAq rfl ?_ trivial;refine uCu ?_
  simp
theorem uM7 : uIe Tryz.prog [3,9,39,37]=true:=by kernel_rfl
theorem uMy : Tryz.prog.cellsOf 39=4:=by kernel_rfl
theorem uMp {n : Nat} {cs : List C} (h : uCf Tryz.prog n 3 cs) : ∃ m,cs=[.i .i64 m]:=by
 cases n with
 | zero=>exact h.elim
 | succ n =>
  simp only [uCf,Tryz.underlying3] at h
  obtain ⟨m,h,_⟩:=h
  exact ⟨m,h⟩
theorem uNF (n : Nat) : ∀ cs : List C,uCf Tryz.prog n 39 cs → ∃ t : T,cs=t.cells:=by
 induction n using Nat.strongRecOn with
 | ind n IH =>
  intro cs h
  cases n with
  | zero=>exact h.elim
  | succ n =>
   simp only [uCf,Tryz.underlying39,uKl] at h
   obtain ⟨a,b,rfl,h1,c,d,rfl,h2,e,f,rfl,h3,g,k,rfl,h4,rfl⟩:=h
   obtain ⟨m1,rfl⟩:=uMp h1
   obtain ⟨m2,rfl⟩:=uM8 h2
   obtain ⟨m3,rfl⟩:=uMp h3
   cases n with
   | zero=>exact h4.elim
   | succ n =>
    simp only [uCf,Tryz.underlying37,uMy] at h4
    obtain ⟨es,rfl,h5⟩:=h4
    obtain ⟨ts,rfl⟩:=uER (f:=T.cells) (IH n (by omega)) es h5
    exact ⟨.mk m1 m2 m3 ts,by simp [T.cells,T.kind,T.name,T.sort,T.kids,T.rows_eq]⟩
theorem uNy {n : Nat} {cs : List C} (h : uCf Tryz.prog n 39 cs) : ∃ t : T,cs=t.cells:=uNF n cs h
end Go.Proofs.YtnjjdbapadkomaaGreatDoor
