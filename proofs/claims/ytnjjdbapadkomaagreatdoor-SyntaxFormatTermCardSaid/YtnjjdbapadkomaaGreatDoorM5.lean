/- Our abstract program logic and contracts of this seat's functions, part 5: no statement of its own (long names of ours are shortened by a program). -/
import Derived.Test.YtnjjdbapadkomaaGreatDoorM4
import Derived.RangeFuncNested
import Derived.RangeFuncLeaves
import Derived.Shelf.Abstract
import Derived.WalkKit
import Derived.OwnWalkIn
import Derived.TacticsInMore
import Derived.LoopNIn
import Derived.LoopIn
import Derived.KernelRfl
set_option linter.unusedVariables false
set_option linter.unusedSimpArgs false
namespace Go.Proofs.YtnjjdbapadkomaaGreatDoor
open Go Go.Proofs Go.RowKit Go.Shelf
attribute [local go_sem] Oper.semAt_some
set_option maxHeartbeats 2000000 in
theorem uME (F : Fence) (n : Nat) (hf : F.fn 152) (hro : F.round=none) (a : Option Addr) (len cap : Nat) (w : World) :
  CallsIn F n Tryz.prog 152 #[.slice a len cap] w fun e w'=>e = .returned (.func (.func 168) #[] #[.pointer (some ⟨w.heap.size,0,none⟩)])∧w'=w.alloc (.cells #[.slice a len cap] 37):=by
 refine callsIn_of_wp Tryz.func152 rfl hf ?_ hro
 simp only [Tryz.ntmps152,List.size_toArray,List.length_cons,List.length_nil,Nat.reduceAdd,Nat.reduceSub,Array.replicate_succ,Array.replicate_zero,List.push_toArray,List.append_toArray,List.nil_append,List.cons_append]
 gi_wp2
 go_ret
 exact ⟨rfl,rfl⟩
def uDc {α : Type} (el : Nat→α) (len k : Nat) : List α:=(List.range (len - k)).map fun j=>el (len - 1 - j)
theorem uGA {α : Type} (el : Nat→α) {len k : Nat} (h : k < len) : uDc el len k=uDc el len (k + 1)++[el k]:=by
 unfold uDc
 rw [show len - k=(len - (k + 1)) + 1 by omega,List.range_succ,List.map_append]
 simp only [List.map_cons,List.map_nil]
 rw [show len - 1 - (len - (k + 1))=k by omega]
theorem uLa {α : Type} (el : Nat→α) (len k : Nat) : (uDc el len k).length=len - k:=by simp [uDc]
theorem uHt {α : Type} (el : Nat→α) (len : Nat) : uDc el len len=[]:=by simp [uDc]
def KeepB (n₀ Bo : Nat) (W W' : World) : Prop:=∀ b,b < n₀→b≠Bo→W'.heap[b]? = W.heap[b]?
theorem KeepB.refl (n₀ Bo : Nat) (W : World) : KeepB n₀ Bo W W:=fun _ _ _=>rfl
theorem KeepB.trans {n₀ Bo : Nat} {A B C : World} (h : KeepB n₀ Bo A B) (k : KeepB n₀ Bo B C) : KeepB n₀ Bo A C:=fun b h1 h2=>(k b h1 h2).trans (h b h1 h2)
theorem KeepB.cell {n₀ Bo : Nat} {A B : World} (h : KeepB n₀ Bo A B) {b : Nat} (o : Nat) (h1 : b < n₀) (h2 : b≠Bo) : B.cell? ⟨b,o,none⟩=A.cell? ⟨b,o,none⟩:=by
 unfold World.cell?; dsimp only; rw [h b h1 h2]
theorem KeepB.alloc {n₀ Bo : Nat} (W : World) (ob : Obj) (h : n₀≤W.heap.size) : KeepB n₀ Bo W (W.alloc ob):=fun b h1 _=>Below.heap_alloc W ob b (by omega)
theorem KeepB.putObj {n₀ Bo : Nat} (W : World) (l : Nat) (o' : Obj) (h : n₀≤l) : KeepB n₀ Bo W (W.putObj l o'):=fun b h1 _=>World.putObj_heap_other (by omega)
set_option maxRecDepth 100000 in
set_option maxHeartbeats 2000000 in
theorem uLO (F : Fence) (n : Nat) (hf : F.fn 168) (hro : F.round=none) (hn : 1≤n) (l Bs n₀ Bo b off len cap : Nat) (hlen : len≤3000000) (hb : b < n₀) (hbo : b≠Bo) (hBo : Bs≠Bo) {α : Type} (ix : α→Nat) (v0 v1 v2 v3 : α→Value) (el : Nat→α) (hix : ∀ k,ix (el k)=k)
  (J Jx : List α→World→Prop)
  (hY : ∀ pre x W,J pre W→pre.length < len→YieldAt F (n - 1) Tryz.prog l #[.int .i64 (ix x : Int), .agg #[v0 x,v1 x,v2 x,v3 x]] W fun e W' =>
   (e = .returned (.bool true)∧J (pre++[x]) W'∧KeepB n₀ Bo W W')∨(e = .returned (.bool false)∧Jx (pre++[x]) W'))
  (W : World) (hBs : W.cell? ⟨Bs,0,none⟩=some (.slice (some ⟨b,off,none⟩) len cap))
  (hc : ∀ j,j < len→W.cell? ⟨b,off + j * 4,none⟩=some (v0 (el j))∧W.cell? ⟨b,off + j * 4 + 1,none⟩=some (v1 (el j))∧W.cell? ⟨b,off + j * 4 + 2,none⟩=some (v2 (el j))∧W.cell? ⟨b,off + j * 4 + 3,none⟩=some (v3 (el j)))
  (hBn : Bs < n₀) (h0 : J [] W) :
  CallsIn F n Tryz.prog 168 #[.func (.yield l) #[] #[], .pointer (some ⟨Bs,0,none⟩)] W fun e W'=>(∃ v,e = .returned v) ∧
   ((∃ ys,ys=uDc el len 0∧J ys W')∨(∃ pre,True∧Jx pre W')):=by
 refine callsIn_of_wp Tryz.func168 rfl hf ?_ hro
 simp only [Tryz.ntmps168,List.size_toArray,List.length_cons,List.length_nil,Nat.reduceAdd,Nat.reduceSub,Array.replicate_succ,Array.replicate_zero,List.push_toArray,List.append_toArray,List.nil_append,List.cons_append]
 gi_wp2
 gi_loopw [3] (fun i wr=>∃ k : Nat,k≤len∧i = .int .i64 ((k : Int) - 1)∧J (uDc el len k) wr∧KeepB n₀ Bo W wr)
  (fun i _=>(intOf i + 1).toNat)
 case atStart=>exact ⟨len,Nat.le_refl _,by simp,by rw [uHt]; exact h0,KeepB.refl _ _ _⟩
 case round =>
  obtain ⟨k,hk,rfl,hJs,hnx⟩:=hrel
  cases k with
  | zero =>
   gi_wp2
   go_end0
   exact ⟨⟨_,rfl⟩, .inl ⟨_,rfl,hJs⟩⟩
  | succ k =>
   have hlt : k < len:=by omega
   obtain ⟨c0,c1,c2,c3⟩:=hc k hlt
   replace c0:=(hnx.cell (off + k * 4) hb hbo).trans c0
   replace c1:=(hnx.cell (off + k * 4 + 1) hb hbo).trans c1
   replace c2:=(hnx.cell (off + k * 4 + 2) hb hbo).trans c2
   replace c3:=(hnx.cell (off + k * 4 + 3) hb hbo).trans c3
   have cB:=(hnx.cell 0 hBn hBo).trans hBs
   obtain ⟨fn,tmps,assign,body,hy,hR⟩:=hY _ (el k) wr hJs (by rw [uLa]; omega)
   rw [hix] at hy
   have ek : ((k + 1 : Nat) : Int) - 1=(k : Int):=by omega
   rw [ek]
   gi_wp2
   refine hR.mono ?_
   rintro e W3 (⟨rfl,hJ3,hk3⟩ | ⟨rfl,hJx3⟩)
   ·gi_wp2
    go_roundw
    case rel=>exact ⟨k,by omega,by simp,by rw [uGA el hlt]; exact hJ3,hnx.trans hk3⟩
    case measure=>simp [intOf]
   ·gi_wp2
    refine bodyPost_ret (results_none rfl _ _ _) rfl ?_;exact ⟨⟨_,rfl⟩, .inr ⟨_,trivial,hJx3⟩⟩
theorem uJK (F : Fence) (n : Nat) (hf : F.fn 168) (hro : F.round=none) (hn : 1≤n) (Bs Bo b off len cap : Nat) (hlen : len≤3000000) {α : Type} (ix : α→Nat) (v0 v1 v2 v3 : α→Value) (el : Nat→α) (hix : ∀ k,ix (el k)=k) (w : World)
  (hb : b < w.heap.size) (hbo : b≠Bo) (hBo : Bs≠Bo) (hBn : Bs < w.heap.size) (hBs : w.cell? ⟨Bs,0,none⟩=some (.slice (some ⟨b,off,none⟩) len cap))
  (hc : ∀ j,j < len→w.cell? ⟨b,off + j * 4,none⟩=some (v0 (el j))∧w.cell? ⟨b,off + j * 4 + 1,none⟩=some (v1 (el j))∧w.cell? ⟨b,off + j * 4 + 2,none⟩=some (v2 (el j))∧w.cell? ⟨b,off + j * 4 + 3,none⟩=some (v3 (el j))) :
  SeqStopsK F n Tryz.prog 168 #[.pointer (some ⟨Bs,0,none⟩)] (fun x=>#[.int .i64 (ix x : Int), .agg #[v0 x,v1 x,v2 x,v3 x]]) (KeepB w.heap.size Bo) (fun ys=>ys=uDc el len 0) (fun _=>True) len w:=fun l J Jx W hW _ _ hY h0=>by
 have kc : ∀ {b' : Nat} (o : Nat),b' < w.heap.size→W.cell? ⟨b',o,none⟩=w.cell? ⟨b',o,none⟩:=fun o h=>hW.cell (p:=⟨_,o,none⟩) h
 exact uLO F n hf hro hn l Bs w.heap.size Bo b off len cap hlen hb hbo hBo ix v0 v1 v2 v3 el hix J Jx hY W ((kc 0 hBn).trans hBs) (fun j hj=>by
  obtain ⟨c0,c1,c2,c3⟩:=hc j hj
  exact ⟨(kc _ hb).trans c0,(kc _ hb).trans c1,(kc _ hb).trans c2,(kc _ hb).trans c3⟩) hBn h0
abbrev tInt (n : Int) : Value:=.int .i64 n
abbrev tStr (l : List UInt8) : Value:=.string ⟨l.toArray⟩
abbrev Elm (w : World) (S : Nat→Nat→Prop):={ x : Nat × T × Option Addr × Nat × Nat // Abs.CRep w S (.sl 4 (T.rows x.2.1.kids)) (.slice x.2.2.1 x.2.2.2.1 x.2.2.2.2)∧x.2.1.name.length≤9223372036854775807 }
def uBP (t : T) {w : World} {S : Nat→Nat→Prop} (l : List (Elm w S)) : T:=l.foldl (fun out x=>uHK x.1.2.1 out) t
theorem uDC (t : T) {w : World} {S : Nat→Nat→Prop} (l : List (Elm w S)) (x : Elm w S) : uBP t (l++[x])=uHK x.1.2.1 (uBP t l):=by simp [uBP]
theorem uLp {w : World} {S : Nat→Nat→Prop} {t : T} {a b c d : Value} (h0 : Abs.CRep w S (.i .i64 t.kind) a) (h1 : Abs.CRep w S (.s t.name) b) (h2 : Abs.CRep w S (.i .i64 t.sort) c) (h3 : Abs.CRep w S (.sl 4 (T.rows t.kids)) d) :
  a=tInt t.kind∧b=tStr t.name∧c=tInt t.sort∧(∃ p l k,d = .slice p l k)∧t.name.length≤9223372036854775807:=by
 cases h0; cases h2
 cases h1 with
 | s _ hm =>
 refine ⟨rfl,rfl,rfl,?_,hm⟩
 generalize T.rows t.kids=es at h3
 cases h3 <;> exact ⟨_,_,_,rfl⟩
theorem uFM {W : World} {B : Nat} {t : TypeId} {a b c d : Value} (h : W.heap[B]? = some (.cells #[a,b,c,d] t (0,0))) (a' b' c' d' : Value) :
  ((((W.setCell ⟨B,0,none⟩ a').setCell ⟨B,1,none⟩ b').setCell ⟨B,2,none⟩ c').setCell ⟨B,3,none⟩ d').heap[B]? = some (.cells #[a',b',c',d'] t (0,0)):=by
 have h1:=heap_setCell_same W B 0 _ t a' h
 have h2:=heap_setCell_same _ B 1 _ t b' h1
 have h3:=heap_setCell_same _ B 2 _ t c' h2
 exact heap_setCell_same _ B 3 _ t d' h3
theorem heap_cells4' (W : World) {B k : Nat} (hk : k≠B) (a' b' c' d' : Value) :
  ((((W.setCell ⟨B,0,none⟩ a').setCell ⟨B,1,none⟩ b').setCell ⟨B,2,none⟩ c').setCell ⟨B,3,none⟩ d').heap[k]? = W.heap[k]? := by
 rw [Below.heap_setCell _ _ _ _ hk,Below.heap_setCell _ _ _ _ hk,Below.heap_setCell _ _ _ _ hk,Below.heap_setCell _ _ _ _ hk]
theorem uDt {W W' : World} {b : Nat} (h : W'.heap[b]? = W.heap[b]?) (o : Nat) : W'.cell? ⟨b,o,none⟩=W.cell? ⟨b,o,none⟩:=by
 unfold World.cell?; dsimp only; rw [h]
def TupI (w : World) (S : Nat→Nat→Prop) (z : Array Value) (last : T) (pre : List (Elm w S)) (W : World) : Prop :=
 (∃ (S' : Nat→Nat→Prop) (p : Option Addr) (l k : Nat),W.heap[w.heap.size + 1]? = some (.cells #[tInt (uBP last pre).kind,tStr (uBP last pre).name,tInt (uBP last pre).sort, .slice p l k] 39 (0,0))∧W.heap[w.heap.size]? = some (.cells z 39 (0,0)) ∧
  Abs.CRep W S' (.sl 4 (T.rows (uBP last pre).kids)) (.slice p l k)∧(uBP last pre).name.length≤9223372036854775807∧(∀ b o,S b o→S' b o) ∧ ∀ b o,S' b o→S b o∨(w.heap.size + 2≤b ∧ ∃ v,W.cell? ⟨b,o,none⟩=some v))∧Below w.heap.size w W∧w.heap.size + 3≤W.heap.size
theorem uI3 (w : World) (S : Nat→Nat→Prop) (hS : ∀ b o,S b o→b < w.heap.size) (z : Array Value) (last : T) (B : Nat) (hB : w.heap.size≤B) : OwnFrom B (TupI w S z last):=by
 rintro pre X Y row ⟨⟨S',p,l,k,h1,h2,h3,hn,h4,h5⟩,h6,h7⟩ hg hr
 have hkeep : ∀ (k : Nat) (o : Obj),X.heap[k]? = some o→o.isCells=true→Y.heap[k]? = some o:=by
  intro k o hk ho
  refine (hg.block k (Array.getElem?_eq_some_iff.1 hk).1 fun e=>?_).trans hk
  obtain ⟨_,o',h7,h8⟩:=hr k e.symm
  rw [hk] at h7; cases h7; rw [ho] at h8; cases h8
 have hcell : ∀ (b o : Nat) (v : Value),X.cell? ⟨b,o,none⟩=some v→Y.cell? ⟨b,o,none⟩=some v:=by
  intro b o v hv
  obtain ⟨x,hx,hxc⟩:=cells_of_cell hv
  unfold World.cell? at hv ⊢
  dsimp only at hv hx ⊢
  rw [hkeep b x hx hxc]; rw [hx] at hv; exact hv
 have hbl : Below w.heap.size w Y:=h6.grown hg h6.size (fun k e=>Nat.le_trans hB (hr k e).1)
 refine ⟨⟨S',p,l,k,hkeep _ _ h1 rfl,hkeep _ _ h2 rfl,Abs.CRep.mono (fun _ _ h=>h) (fun b o hs=>?_) h3,hn,h4,fun b o hs=>?_⟩,hbl,Nat.le_trans h7 hg.size⟩
 ·rcases h5 b o hs with q | ⟨_,v,q⟩
  ·rw [hbl.cell (p:=⟨b,o,none⟩) (hS b o q),h6.cell (p:=⟨b,o,none⟩) (hS b o q)]
  ·rw [q,hcell b o v q]
 ·rcases h5 b o hs with q | ⟨q1,v,q⟩
  ·exact .inl q
  ·exact .inr ⟨q1,v,hcell b o v q⟩
theorem tupT_cons' (t : T) (ts : List T) (h : ts≠[]) : tupT (t :: ts)=uHK t (tupT ts):=by
 cases ts with
 | nil=>exact absurd rfl h
 | cons u l=>rfl
theorem uFu {w : World} {S : Nat→Nat→Prop} (el : Nat→Elm w S) (ts : List T) (m : Nat) (hm : ts.length=m + 1) (he : ∀ k,k < m→(el k).1.2.1=ts.getD k default) : ∀ d j,j + d=m→uBP (ts.getD m default) (uDc el m j)=tupT (ts.drop j)
 | 0,j,h=>by
  have : j=m:=by omega
  subst this
  rw [uHt,List.drop_eq_getElem_cons (by omega),List.drop_of_length_le (by omega)]
  show ts.getD j default=ts[j]
  rw [List.getD_eq_getElem?_getD,List.getElem?_eq_getElem (by omega)]; rfl
 | d + 1,j,h=>by
  rw [uGA el (by omega),uDC,uFu el ts m hm he d (j + 1) (by omega),he j (by omega),List.drop_eq_getElem_cons (i := j) (by omega),tupT_cons' _ _ (by intro q; have := congrArg List.length q; simp at this; omega),List.getD_eq_getElem?_getD,List.getElem?_eq_getElem (by omega)]
  rfl
abbrev elV0 {w : World} {S : Nat→Nat→Prop} (x : Elm w S) : Value:=tInt x.1.2.1.kind
abbrev elV1 {w : World} {S : Nat→Nat→Prop} (x : Elm w S) : Value:=tStr x.1.2.1.name
abbrev elV2 {w : World} {S : Nat→Nat→Prop} (x : Elm w S) : Value:=tInt x.1.2.1.sort
abbrev elV3 {w : World} {S : Nat→Nat→Prop} (x : Elm w S) : Value:=.slice x.1.2.2.1 x.1.2.2.2.1 x.1.2.2.2.2
set_option maxRecDepth 100000 in
set_option maxHeartbeats 4000000 in
theorem uNm (F : Fence) (n : Nat) (h1f : F.fn 115) (h2f : F.fn 152) (h3f : F.fn 168) (hro : F.round=none) (hn : 3≤n)
  (w : World) (S : Nat→Nat→Prop) (hS : ∀ b o,S b o→b < w.heap.size) (ts : List T) (hts : 0 < ts.length) (hmax : ts.length≤3000000) (v : Value) (hv : Abs.CRep w S (.sl 4 (T.rows ts)) v) :
  CallsIn F n Tryz.prog 115 #[v] w fun e W'=>∃ (vs : List Value) (S' : Nat→Nat→Prop),e = .returned (.agg vs.toArray)∧Abs.All2 (Abs.CRep W' S') (tupT ts).cells vs∧Below w.heap.size w W'∧(∀ b o,S b o→S' b o) ∧ ∀ b o,S' b o→S b o∨(w.heap.size≤b∧b < W'.heap.size):=by
 have h1 : 1≤n:=by omega
 have hrl:=T.rows_len ts
 generalize hes : T.rows ts=es at hv hrl
 cases hv with
 | emp=>simp at hrl; omega
 | sl _ _ b off len cap vals hl hc hm hsz hcell hrep =>
 have hlen : len=ts.length:=by omega
 subst hlen
 have hrow : ∀ i,i < ts.length→es[i]? = some (ts.getD i default).cells:=fun i hi=>by rw [← hes]; exact T.rows_at hi
 have hb : b < w.heap.size:=hS _ _ (hcell 0 0 hts (by omega)).1
 have hel : ∀ i,i < ts.length → ∃ p l k,Abs.CRep w S (.sl 4 (T.rows (ts.getD i default).kids)) (.slice p l k)∧(ts.getD i default).name.length≤9223372036854775807 ∧
   w.cell? ⟨b,off + i * 4,none⟩=some (tInt (ts.getD i default).kind)∧w.cell? ⟨b,off + i * 4 + 1,none⟩=some (tStr (ts.getD i default).name)∧w.cell? ⟨b,off + i * 4 + 2,none⟩=some (tInt (ts.getD i default).sort)∧w.cell? ⟨b,off + i * 4 + 3,none⟩=some (.slice p l k):=by
  intro i hi
  have hr:=hrow i hi
  have r0:=hrep _ _ 0 _ hr rfl
  have r1:=hrep _ _ 1 _ hr rfl
  have r2:=hrep _ _ 2 _ hr rfl
  have r3:=hrep _ _ 3 _ hr rfl
  obtain ⟨q0,q1,q2,⟨p,l,k,q3⟩,q4⟩:=uLp r0 r1 r2 r3
  have c0:=(hcell i 0 hi (by omega)).2
  have c1:=(hcell i 1 hi (by omega)).2
  have c2:=(hcell i 2 hi (by omega)).2
  have c3:=(hcell i 3 hi (by omega)).2
  rw [q0] at c0; rw [q1] at c1; rw [q2] at c2; rw [q3] at c3 r3
  exact ⟨p,l,k,r3,q4,c0,c1,c2,c3⟩
 obtain ⟨m,hm1⟩ : ∃ m,ts.length=m + 1:=⟨ts.length - 1,by omega⟩
 have hex : ∀ i,∃ x : Elm w S,x.1.1=i∧(i < m→x.1.2.1=ts.getD i default∧w.cell? ⟨b,off + i * 4,none⟩=some (elV0 x)∧w.cell? ⟨b,off + i * 4 + 1,none⟩=some (elV1 x)∧w.cell? ⟨b,off + i * 4 + 2,none⟩=some (elV2 x)∧w.cell? ⟨b,off + i * 4 + 3,none⟩=some (elV3 x)):=by
  intro i
  by_cases hi : i < m
  ·obtain ⟨p,l,k,r,hnl,q0,q1,q2,q3⟩:=hel i (by omega)
   exact ⟨⟨(i,ts.getD i default,p,l,k),r,hnl⟩,rfl,fun _=>⟨rfl,q0,q1,q2,q3⟩⟩
  ·obtain ⟨p,l,k,r,hnl,q0,q1,q2,q3⟩:=hel m (by omega)
   exact ⟨⟨(i,ts.getD m default,p,l,k),r,hnl⟩,rfl,fun q=>absurd q hi⟩
 obtain ⟨el,hel1⟩ : ∃ el : Nat→Elm w S,∀ i,(el i).1.1=i∧(i < m→(el i).1.2.1=ts.getD i default∧w.cell? ⟨b,off + i * 4,none⟩=some (elV0 (el i))∧w.cell? ⟨b,off + i * 4 + 1,none⟩=some (elV1 (el i))∧w.cell? ⟨b,off + i * 4 + 2,none⟩=some (elV2 (el i))∧w.cell? ⟨b,off + i * 4 + 3,none⟩=some (elV3 (el i))) :=
  ⟨fun i=>Classical.choose (hex i),fun i=>Classical.choose_spec (hex i)⟩
 obtain ⟨lp,ll,lk,lr,ln,c0,c1,c2,c3⟩:=hel m (by omega)
 have hfold:=uFu el ts m hm1 (fun k hk=>((hel1 k).2 hk).1) m 0 (by omega)
 clear hel hex hcell hrep hsz hrow
 rw [List.drop_zero] at hfold
 generalize hlast : ts.getD m default=last at *
 have e1 : ((m + 1 : Nat) : Int) - 1=(m : Int):=by omega
 rw [hm1]
 rw [hm1] at hc hm
 refine callsIn_of_wp_marks Tryz.func115 rfl h1f ?_ hro
 simp only [Tryz.ntmps115,List.size_toArray,List.length_cons,List.length_nil,Nat.reduceAdd,Nat.reduceSub,Array.replicate_succ,Array.replicate_zero,List.push_toArray,List.append_toArray,List.nil_append,List.cons_append]
 gi_wp2_with (gi_at_call 152; refine (uME F (n - 1) h2f hro _ _ _ _).mono ?_; rintro e w' ⟨rfl,rfl⟩)
 have hB0 : Below w.heap.size w (((w.alloc (.cells #[tInt 0, .string ⟨#[]⟩,tInt 0, .slice none 0 0] 39)).alloc (.cells #[tInt last.kind,tStr last.name,tInt last.sort, .slice lp ll lk] 39)).alloc (.cells #[.slice (some ⟨b,off,none⟩) m cap] 37)):=(((Below.refl _ w).alloc (Nat.le_refl _) _).alloc (by simp) _).alloc (by simp; omega) _
 obtain ⟨W0,hW0⟩ : ∃ W0,(((w.alloc (.cells #[tInt 0, .string ⟨#[]⟩,tInt 0, .slice none 0 0] 39)).alloc (.cells #[tInt last.kind,tStr last.name,tInt last.sort, .slice lp ll lk] 39)).alloc (.cells #[.slice (some ⟨b,off,none⟩) m cap] 37))=W0:=⟨_,rfl⟩
 have hsz : W0.heap.size=w.heap.size + 3:=by rw [← hW0]; simp
 have hR : W0.heap[w.heap.size]? = some (.cells #[tInt 0, .string ⟨#[]⟩,tInt 0, .slice none 0 0] 39 (0,0)):=by
  rw [← hW0]; exact ((Below.heap_alloc _ _ _ (by simp; omega)).trans (Below.heap_alloc _ _ _ (by simp))).trans (World.alloc_heap_new w _)
 have hO : W0.heap[w.heap.size + 1]? = some (.cells #[tInt last.kind,tStr last.name,tInt last.sort, .slice lp ll lk] 39 (0,0)):=by
  rw [← hW0]; refine (Below.heap_alloc _ _ _ (by simp)).trans ?_
  have := World.alloc_heap_new (w.alloc (.cells #[tInt 0, .string ⟨#[]⟩,tInt 0, .slice none 0 0] 39)) (.cells #[tInt last.kind,tStr last.name,tInt last.sort, .slice lp ll lk] 39); rwa [World.size_alloc] at this
 have hN : W0.heap[w.heap.size + 1 + 1]? = some (.cells #[.slice (some ⟨b,off,none⟩) m cap] 37 (0,0)):=by
  rw [← hW0]; have := World.alloc_heap_new ((w.alloc (.cells #[tInt 0, .string ⟨#[]⟩,tInt 0, .slice none 0 0] 39)).alloc (.cells #[tInt last.kind,tStr last.name,tInt last.sort, .slice lp ll lk] 39)) (.cells #[.slice (some ⟨b,off,none⟩) m cap] 37); rwa [World.size_alloc,World.size_alloc] at this
 rw [hW0] at hB0
 have hW0' : (((w.alloc (.cells #[.int .i64 0, .string ⟨#[]⟩, .int .i64 0, .slice none 0 0] 39)).alloc (.cells #[.int .i64 last.kind, .string ⟨last.name.toArray⟩, .int .i64 last.sort, .slice lp ll lk] 39)).alloc (.cells #[.slice (some ⟨b,off,none⟩) m cap] 37))=W0:=hW0
 simp only [hW0']
 clear hW0 hW0'
 refine wpIn_rangeFunc_ownH hro h1 (gf:=168) (lb:=#[.pointer (some ⟨w.heap.size + 1 + 1,0,none⟩)]) rfl h3f (enters_of Tryz.func168 (by kernel_rfl) rfl)
  (uJK F (n - 1) h3f hro (by omega) (w.heap.size + 1 + 1) (w.heap.size + 1) b off m cap (by omega) (fun x : Elm w S=>x.1.1) elV0 elV1 elV2 elV3 el (fun k=>(hel1 k).1) W0 (by omega) (by omega) (by omega) (by omega)
   (by unfold World.cell?; rw [hN]; rfl)
   (fun j hj=>by
    obtain ⟨_,q⟩:=hel1 j
    obtain ⟨_,q0,q1,q2,q3⟩:=q hj
    exact ⟨(hB0.cell (p:=⟨b,_,none⟩) hb).trans q0,(hB0.cell (p:=⟨b,_,none⟩) hb).trans q1,(hB0.cell (p:=⟨b,_,none⟩) hb).trans q2,(hB0.cell (p:=⟨b,_,none⟩) hb).trans q3⟩))
  KeepB.trans (fun W l o o' hl _ _ _=>KeepB.putObj W l o' hl) (Below.refl _ _) (fun _=>rfl)
  (TupI w S #[tInt 0, .string ⟨#[]⟩,tInt 0, .slice none 0 0] last) (fun _ _ _=>False) (uI3 w S hS _ last _ (by omega)) (fun _ _ _ _ _ hs _ _=>hs)
  ?start
  (fun x a' W=>∃ Bx,w.heap.size + 2 < Bx∧W.heap[Bx]? = some (.cells #[elV0 x,elV1 x,elV2 x,elV3 x] 39 (0,0))∧a' = { tmps:=#[Value.slice (some { block:=b,off:=off }) (m + 1) cap,undef,Value.pointer (some { block:=w.heap.size,off:=0 }),Value.pointer (some { block:=w.heap.size + 1,off:=0 }),undef,Value.pointer (some { block:=Bx,off:=0 }),Value.slice (some { block:=b,off:=off }) (m + 1) cap,Value.slice (some { block:=b,off:=off }) (m + 1) cap,Value.int IntKind.i64 ((m : Int) + 1),Value.int IntKind.i64 ↑m,Value.pointer (some { block:=b,off:=off + m * 4 }),Value.agg #[tInt last.kind,tStr last.name,tInt last.sort,Value.slice lp ll lk],Value.slice (some { block:=b,off:=off }) (m + 1) cap,Value.slice (some { block:=b,off:=off }) (m + 1) cap,Value.int IntKind.i64 ((m : Int) + 1),Value.int IntKind.i64 ↑m,Value.slice (some { block:=b,off:=off }) m cap,Value.func (Fn.func 168) #[] #[Value.pointer (some { block:=w.heap.size + 1 + 1,off:=0 })], .int .i64 x.1.1, .agg #[elV0 x,elV1 x,elV2 x,elV3 x],undef,undef,undef,undef,undef],defers:=[] })
  ?axOwn ?assign ?body ?done ?stop
 case start=>exact ⟨⟨S,lp,ll,lk,hO,hR,Abs.CRep.mono (fun _ _ h=>h) (fun b o hs=>hB0.cell (p:=⟨b,o,none⟩) (hS b o hs)) lr,ln,fun _ _ h=>h,fun _ _ h=>.inl h⟩,hB0,by omega⟩
 case axOwn =>
  rintro x a' _ X Y row ⟨Bx,q1,q2,q3⟩ hg hr
  refine ⟨Bx,q1,(hg.block Bx (Array.getElem?_eq_some_iff.1 q2).1 fun e=>?_).trans q2,q3⟩
  obtain ⟨_,o',h7,h8⟩:=hr Bx e.symm
  rw [q2] at h7; cases h7; cases h8
 case assign =>
  rintro l pre x W K hI hK
  have hsW:=hI.2.2
  gi_wp2
  exact hK _ _ ((KeepsOthers.alloc _ _).from _) (KeepB.alloc W _ (by omega)) ((uI3 w S hS _ last w.heap.size (Nat.le_refl _)).alloc _ hI) ⟨W.heap.size,by omega,World.alloc_heap_new W _,rfl⟩
 case body =>
  rintro l pre x a' W hl hrr ⟨⟨S',p,l',k,h1,h2,h3,hn',h4,h5⟩,h6,h7⟩ ⟨Bx,hBx,bX,rfl⟩ hlt
  have cO0 : W.cell? ⟨w.heap.size + 1,0,none⟩=some (tInt (uBP last pre).kind):=by unfold World.cell?; rw [h1]; rfl
  have cO1 : W.cell? ⟨w.heap.size + 1,1,none⟩=some (tStr (uBP last pre).name):=by unfold World.cell?; rw [h1]; rfl
  have cO2 : W.cell? ⟨w.heap.size + 1,2,none⟩=some (tInt (uBP last pre).sort):=by unfold World.cell?; rw [h1]; rfl
  have cO3 : W.cell? ⟨w.heap.size + 1,3,none⟩=some (.slice p l' k):=by unfold World.cell?; rw [h1]; rfl
  have cX0 : W.cell? ⟨Bx,0,none⟩=some (elV0 x):=by unfold World.cell?; rw [bX]; rfl
  have cX1 : W.cell? ⟨Bx,1,none⟩=some (elV1 x):=by unfold World.cell?; rw [bX]; rfl
  have cX2 : W.cell? ⟨Bx,2,none⟩=some (elV2 x):=by unfold World.cell?; rw [bX]; rfl
  have cX3 : W.cell? ⟨Bx,3,none⟩=some (elV3 x):=by unfold World.cell?; rw [bX]; rfl
  have f0 : W.frozen? ⟨w.heap.size + 1,0,none⟩=false:=by unfold World.frozen?; rw [h1]; rfl
  have f1 : W.frozen? ⟨w.heap.size + 1,1,none⟩=false:=by unfold World.frozen?; rw [h1]; rfl
  have f2 : W.frozen? ⟨w.heap.size + 1,2,none⟩=false:=by unfold World.frozen?; rw [h1]; rfl
  have f3 : W.frozen? ⟨w.heap.size + 1,3,none⟩=false:=by unfold World.frozen?; rw [h1]; rfl
  have hltW : w.heap.size + 1 < W.heap.size:=(Array.getElem?_eq_some_iff.1 h1).1
  have hA : ∀ (ob : Obj),(W.alloc ob).heap[w.heap.size + 1]? = some (.cells #[tInt (uBP last pre).kind,tStr (uBP last pre).name,tInt (uBP last pre).sort, .slice p l' k] 39 (0,0)):=fun ob=>(Below.heap_alloc W ob _ hltW).trans h1
  have gO0 : ∀ ob : Obj,(W.alloc ob).cell? ⟨w.heap.size + 1,0,none⟩=some (tInt (uBP last pre).kind):=fun ob=>by unfold World.cell?; rw [hA]; rfl
  have gO1 : ∀ ob : Obj,(W.alloc ob).cell? ⟨w.heap.size + 1,1,none⟩=some (tStr (uBP last pre).name):=fun ob=>by unfold World.cell?; rw [hA]; rfl
  have gO2 : ∀ ob : Obj,(W.alloc ob).cell? ⟨w.heap.size + 1,2,none⟩=some (tInt (uBP last pre).sort):=fun ob=>by unfold World.cell?; rw [hA]; rfl
  have gO3 : ∀ ob : Obj,(W.alloc ob).cell? ⟨w.heap.size + 1,3,none⟩=some (.slice p l' k):=fun ob=>by unfold World.cell?; rw [hA]; rfl
  have e0 : ∀ ob : Obj,(W.alloc ob).frozen? ⟨w.heap.size + 1,0,none⟩=false:=fun ob=>by unfold World.frozen?; rw [hA]; rfl
  have e1 : ∀ ob : Obj,(W.alloc ob).frozen? ⟨w.heap.size + 1,1,none⟩=false:=fun ob=>by unfold World.frozen?; rw [hA]; rfl
  have e2 : ∀ ob : Obj,(W.alloc ob).frozen? ⟨w.heap.size + 1,2,none⟩=false:=fun ob=>by unfold World.frozen?; rw [hA]; rfl
  have e3 : ∀ ob : Obj,(W.alloc ob).frozen? ⟨w.heap.size + 1,3,none⟩=false:=fun ob=>by unfold World.frozen?; rw [hA]; rfl
  clear hA
  gi_wp2
  clear gO0 gO1 gO2 gO3 e0 e1 e2 e3 cO0 cO1 cO2 cO3 cX0 cX1 cX2 cX3 f0 f1 f2 f3
  obtain ⟨W1,hW1⟩ : ∃ W1,((((W.setCell ⟨w.heap.size + 1,0,none⟩ (.int .i64 3)).setCell ⟨w.heap.size + 1,1,none⟩ (.string ⟨#[112,97,105,114]⟩)).setCell ⟨w.heap.size + 1,2,none⟩ (.int .i64 0)).setCell ⟨w.heap.size + 1,3,none⟩ (.slice (some ⟨W.heap.size,0,none⟩) 2 2))=W1:=⟨_,rfl⟩
  have hs1 : W1.heap.size=W.heap.size:=by rw [← hW1]; simp [World.setCell]
  have k1 : W1.heap[w.heap.size + 1]? = some (.cells #[tInt 3, .string ⟨#[112,97,105,114]⟩,tInt 0, .slice (some ⟨W.heap.size,0,none⟩) 2 2] 39 (0,0)):=by rw [← hW1]; exact uFM h1 _ _ _ _
  have k2 : ∀ j,j≠w.heap.size + 1→W1.heap[j]? = W.heap[j]? := fun j hj=>by rw [← hW1]; exact heap_cells4' W hj _ _ _ _
  have ko : KeepsOthers W W1:=by rw [← hW1]; exact (((KeepsOthers.setCell _ _ _).trans (KeepsOthers.setCell _ _ _)).trans (KeepsOthers.setCell _ _ _)).trans (KeepsOthers.setCell _ _ _)
  have kb : Below w.heap.size W W1:=by rw [← hW1]; exact ((((Below.refl _ W).setCell (p:=⟨w.heap.size + 1,0,none⟩) (by simp) _).setCell (p:=⟨w.heap.size + 1,1,none⟩) (by simp) _).setCell (p:=⟨w.heap.size + 1,2,none⟩) (by simp) _).setCell (p:=⟨w.heap.size + 1,3,none⟩) (by simp) _
  rw [hW1]
  clear hW1
  obtain ⟨ob,hob⟩ : ∃ ob : Obj,Obj.cells #[elV0 x,elV1 x,elV2 x,elV3 x,tInt (uBP last pre).kind,tStr (uBP last pre).name,tInt (uBP last pre).sort,Value.slice p l' k] 39 (0,0)=ob:=⟨_,rfl⟩
  have knew:=World.alloc_heap_new W1 ob
  rw [hs1] at knew
  have kold : ∀ j,j < W.heap.size→j≠w.heap.size + 1→(W1.alloc ob).heap[j]? = W.heap[j]? := fun j hj hne=>(Below.heap_alloc W1 ob j (by omega)).trans (k2 j hne)
  have hb1 : Below w.heap.size W (W1.alloc ob):=kb.alloc (by omega) ob
  rw [hob]
  refine ⟨(ko.trans (KeepsOthers.alloc W1 ob)).from _,fun j hj hne=>kold j (by omega) hne,⟨fun b o=>S' b o∨(b=W.heap.size∧o < 8),some ⟨W.heap.size,0,none⟩,2,2,?_,?_,?_,?_,fun b o hs=>.inl (h4 b o hs),?_⟩,h6.trans hb1,by rw [World.size_alloc]; omega⟩
  ·rw [uDC]
   exact (Below.heap_alloc W1 ob _ (by omega)).trans k1
  ·exact (kold _ (by omega) (by omega)).trans h2
  ·have hS' : ∀ b o,S' b o→(W1.alloc ob).cell? ⟨b,o,none⟩=W.cell? ⟨b,o,none⟩:=fun b o hs=>by
    rcases h5 b o hs with q | ⟨q1,v,q⟩
    ·exact hb1.cell (p:=⟨b,o,none⟩) (hS b o q)
    ·exact uDt (kold b (World.block_lt_of_cell? (a:=⟨b,o,none⟩) W q) (by omega)) o
   have hSS : ∀ b o,S b o→(W1.alloc ob).cell? ⟨b,o,none⟩=w.cell? ⟨b,o,none⟩:=fun b o hs=>(h6.trans hb1).cell (p:=⟨b,o,none⟩) (hS b o hs)
   have r1:=Abs.CRep.mono (S':=fun b o=>S' b o∨(b=W.heap.size∧o < 8)) (fun b o hs=>.inl (h4 b o hs)) hSS x.2.1
   have r2:=Abs.CRep.mono (S':=fun b o=>S' b o∨(b=W.heap.size∧o < 8)) (fun b o hs=>.inl hs) hS' h3
   rw [uDC]
   have hc8 : ∀ o,(W1.alloc ob).cell? ⟨W.heap.size,o,none⟩ = #[elV0 x,elV1 x,elV2 x,elV3 x,tInt (uBP last pre).kind,tStr (uBP last pre).name,tInt (uBP last pre).sort,Value.slice p l' k][o]? := fun o=>by
    unfold World.cell?; dsimp only; rw [knew,← hob]; rfl
   refine Abs.CRep.mk_sl (by rw [T.rows_len]; rfl) (Nat.le_refl _) (by omega) fun i row hi=>?_
   have hrr : T.rows (uHK x.1.2.1 (uBP last pre)).kids=[x.1.2.1.cells,(uBP last pre).cells]:=by rw [T.rows_eq]; rfl
   rw [hrr] at hi
   match i,hi with
   | 0,hi =>
    simp only [List.getElem?_cons_zero,Option.some.injEq] at hi
    subst hi
    refine ⟨rfl,fun j c hj=>?_⟩
    match j,hj with
    | 0,hj=>simp [T.cells] at hj; subst hj; exact ⟨.inr ⟨rfl,by omega⟩,_,(hc8 _).trans rfl, .i _ _⟩
    | 1,hj=>simp [T.cells] at hj; subst hj; exact ⟨.inr ⟨rfl,by omega⟩,_,(hc8 _).trans rfl, .s _ x.2.2⟩
    | 2,hj=>simp [T.cells] at hj; subst hj; exact ⟨.inr ⟨rfl,by omega⟩,_,(hc8 _).trans rfl, .i _ _⟩
    | 3,hj=>simp [T.cells] at hj; subst hj; exact ⟨.inr ⟨rfl,by omega⟩,_,(hc8 _).trans rfl,r1⟩
    | j + 4,hj=>simp [T.cells] at hj
   | 1,hi =>
    simp only [List.getElem?_cons_succ,List.getElem?_cons_zero,Option.some.injEq] at hi
    subst hi
    refine ⟨rfl,fun j c hj=>?_⟩
    match j,hj with
    | 0,hj=>simp [T.cells] at hj; subst hj; exact ⟨.inr ⟨rfl,by omega⟩,_,(hc8 _).trans rfl, .i _ _⟩
    | 1,hj=>simp [T.cells] at hj; subst hj; exact ⟨.inr ⟨rfl,by omega⟩,_,(hc8 _).trans rfl, .s _ hn'⟩
    | 2,hj=>simp [T.cells] at hj; subst hj; exact ⟨.inr ⟨rfl,by omega⟩,_,(hc8 _).trans rfl, .i _ _⟩
    | 3,hj=>simp [T.cells] at hj; subst hj; exact ⟨.inr ⟨rfl,by omega⟩,_,(hc8 _).trans rfl,r2⟩
    | j + 4,hj=>simp [T.cells] at hj
   | i + 2,hi=>simp at hi
  ·rw [uDC]; show wPair.length≤_; decide
  ·rintro b o (hs | ⟨rfl,ho⟩)
   ·rcases h5 b o hs with q | ⟨q1,v,q⟩
    ·exact .inl q
    ·exact .inr ⟨q1,v,(uDt (kold b (World.block_lt_of_cell? (a:=⟨b,o,none⟩) W q) (by omega)) o).trans q⟩
   ·refine .inr ⟨by omega,?_⟩
    unfold World.cell?
    dsimp only
    rw [knew,← hob]
    exact ⟨_,Array.getElem?_eq_getElem (by simpa using ho)⟩
 case done =>
  rintro D ys W hD rfl ⟨⟨S',p,l',k,h1,h2,h3,hn',h4,h5⟩,h6,h7⟩ hK
  have cO0 : W.cell? ⟨w.heap.size + 1,0,none⟩=some (tInt (uBP last (uDc el m 0)).kind):=by unfold World.cell?; rw [h1]; rfl
  have cO1 : W.cell? ⟨w.heap.size + 1,1,none⟩=some (tStr (uBP last (uDc el m 0)).name):=by unfold World.cell?; rw [h1]; rfl
  have cO2 : W.cell? ⟨w.heap.size + 1,2,none⟩=some (tInt (uBP last (uDc el m 0)).sort):=by unfold World.cell?; rw [h1]; rfl
  have cO3 : W.cell? ⟨w.heap.size + 1,3,none⟩=some (.slice p l' k):=by unfold World.cell?; rw [h1]; rfl
  have cR0 : W.cell? ⟨w.heap.size,0,none⟩=some (tInt 0):=by unfold World.cell?; rw [h2]; rfl
  have cR1 : W.cell? ⟨w.heap.size,1,none⟩=some (.string ⟨#[]⟩):=by unfold World.cell?; rw [h2]; rfl
  have cR2 : W.cell? ⟨w.heap.size,2,none⟩=some (tInt 0):=by unfold World.cell?; rw [h2]; rfl
  have cR3 : W.cell? ⟨w.heap.size,3,none⟩=some (.slice none 0 0):=by unfold World.cell?; rw [h2]; rfl
  have f0 : W.frozen? ⟨w.heap.size,0,none⟩=false:=by unfold World.frozen?; rw [h2]; rfl
  have f1 : W.frozen? ⟨w.heap.size,1,none⟩=false:=by unfold World.frozen?; rw [h2]; rfl
  have f2 : W.frozen? ⟨w.heap.size,2,none⟩=false:=by unfold World.frozen?; rw [h2]; rfl
  have f3 : W.frozen? ⟨w.heap.size,3,none⟩=false:=by unfold World.frozen?; rw [h2]; rfl
  gi_wp2
  clear cO0 cO1 cO2 cO3 cR0 cR1 cR2 cR3 f0 f1 f2 f3
  rw [hfold] at h1 h3 hn'
  obtain ⟨W1,hW1⟩ : ∃ W1,((((W.setCell ⟨w.heap.size,0,none⟩ (.int .i64 (tupT ts).kind)).setCell ⟨w.heap.size,1,none⟩ (.string ⟨(tupT ts).name.toArray⟩)).setCell ⟨w.heap.size,2,none⟩ (.int .i64 (tupT ts).sort)).setCell ⟨w.heap.size,3,none⟩ (.slice p l' k))=W1:=⟨_,rfl⟩
  have hs1 : W1.heap.size=W.heap.size:=by rw [← hW1]; simp [World.setCell]
  have k1 : W1.heap[w.heap.size]? = some (.cells #[tInt (tupT ts).kind,tStr (tupT ts).name,tInt (tupT ts).sort, .slice p l' k] 39 (0,0)):=by rw [← hW1]; exact uFM h2 _ _ _ _
  have k2 : ∀ j,j≠w.heap.size→W1.heap[j]? = W.heap[j]? := fun j hj=>by rw [← hW1]; exact heap_cells4' W hj _ _ _ _
  have kb : Below w.heap.size W W1:=by rw [← hW1]; exact ((((Below.refl _ W).setCell (p:=⟨w.heap.size,0,none⟩) (by simp) _).setCell (p:=⟨w.heap.size,1,none⟩) (by simp) _).setCell (p:=⟨w.heap.size,2,none⟩) (by simp) _).setCell (p:=⟨w.heap.size,3,none⟩) (by simp) _
  rw [hW1]
  clear hW1
  have hDne : D≠w.heap.size:=by omega
  have hK' : W1.heap[D]? = some (.deferred (some [])):=(k2 D hDne).trans hK
  refine ⟨by simp, .inl ⟨_,_,rfl,run_takeDeferred hK',?_⟩⟩
  have k3 : (W1.putObj D (.deferred none)).heap[w.heap.size]? = some (.cells #[tInt (tupT ts).kind,tStr (tupT ts).name,tInt (tupT ts).sort, .slice p l' k] 39 (0,0)):=(World.putObj_heap_other hDne.symm).trans k1
  have hb1 : Below w.heap.size W (W1.putObj D (.deferred none)):=kb.trans (belowK_b (w:=w) (Nat.le_refl _) W1 D _ _ (by omega) hK' rfl rfl)
  have hold : ∀ b o,S' b o→(W1.putObj D (.deferred none)).cell? ⟨b,o,none⟩=W.cell? ⟨b,o,none⟩:=fun b o hs=>by
   rcases h5 b o hs with q | ⟨q1,v,q⟩
   ·exact hb1.cell (p:=⟨b,o,none⟩) (hS b o q)
   ·have hbD : b≠D:=by
     rintro rfl
     obtain ⟨y,hy,hyc⟩:=cells_of_cell q
     rw [show W.heap[b]? = _ from hK] at hy
     cases hy; cases hyc
    exact uDt ((World.putObj_heap_other hbD).trans (k2 b (by omega))) o
  have z0 : (W1.putObj D (.deferred none)).cell? ⟨w.heap.size,0,none⟩=some (tInt (tupT ts).kind):=by unfold World.cell?; rw [k3]; rfl
  have z1 : (W1.putObj D (.deferred none)).cell? ⟨w.heap.size,1,none⟩=some (tStr (tupT ts).name):=by unfold World.cell?; rw [k3]; rfl
  have z2 : (W1.putObj D (.deferred none)).cell? ⟨w.heap.size,2,none⟩=some (tInt (tupT ts).sort):=by unfold World.cell?; rw [k3]; rfl
  have z3 : (W1.putObj D (.deferred none)).cell? ⟨w.heap.size,3,none⟩=some (.slice p l' k):=by unfold World.cell?; rw [k3]; rfl
  refine ⟨.agg #[tInt (tupT ts).kind,tStr (tupT ts).name,tInt (tupT ts).sort, .slice p l' k],?_,[tInt (tupT ts).kind,tStr (tupT ts).name,tInt (tupT ts).sort, .slice p l' k],S',rfl,⟨.i _ _, .s _ hn', .i _ _,Abs.CRep.mono (fun _ _ h=>h) hold h3,trivial⟩,h6.trans hb1,h4,fun b o hs=>?_⟩
  ·simp [results,Tryz.f115,go_sem,z0,z1,z2,z3]
  ·rcases h5 b o hs with q | ⟨q1,v,q⟩
   ·exact .inl q
   ·have := World.block_lt_of_cell? (a := ⟨b,o,none⟩) W q
    have hsz5:=hb1.size
    exact .inr ⟨by omega,Nat.lt_of_lt_of_le this hsz5⟩
 case stop=>rintro D c pre W _ _ h _; exact h.elim
theorem uJG (ts : List T) (hts : 0 < ts.length) (hmax : ts.length≤3000000) : Abs.Ctr sys 115 [xl ts] [] (xm (tupT ts)) none []:=by
 refine ⟨⟨_,Tryz.func115,by kernel_rfl,by kernel_rfl⟩,fun w G vs hvs hwf hbx hbox hown _=>?_⟩
 match vs,hvs with
 | [v],⟨hv,_⟩ =>
  have hv : Abs.CRep w G.S (.sl 4 (T.rows ts)) v:=hv
  have hS : ∀ b o,G.S b o→b < w.heap.size:=fun b o hs=>hwf b o (by rw [show G.W b o = .imm from hs]; simp)
  refine (callsIn_wide.1 (uNm Fence.wide 3 trivial trivial trivial rfl (Nat.le_refl _) w G.S hS ts hts hmax v hv)).mono ?_
  rintro e W' ⟨us,S',rfl,h1,h2,h3,h4⟩
  open Classical in
  let G' : Abs.Gh:={ G with W:=fun b o=>if S' b o then .imm else G.W b o }
  have hI : ∀ b o,G'.W b o = .imm→S' b o:=fun b o h=>by
   by_cases hs : S' b o
   ·exact hs
   ·have h : (if S' b o then Abs.Who.imm else G.W b o) = .imm:=h
    rw [if_neg hs] at h
    exact h3 b o h
  have hO : ∀ b o p,G'.W b o ≠ .own p:=fun b o p h=>by
   have h : (if S' b o then Abs.Who.imm else G.W b o) = .own p:=h
   split at h
   ·cases h
   ·exact hown b o p h
  refine ⟨_,G',rfl,Abs.Fr.ofBelow h2,fun b o h=>if_pos (h3 b o h),fun b o hb h=>?_,fun b o h=>?_,⟨us,rfl,h1.mono fun c v hc=>hc.mono (fun b o hs=>if_pos hs) (fun _ _ _=>rfl)⟩,fun _=>rfl,fun j cs h=>by simp at h,fun sz h=>by simp at h,fun b o h=>absurd h (hO b o _)⟩
  ·rcases h4 b o (hI b o h) with q | ⟨q,_⟩
   ·exact q
   ·omega
  ·by_cases hs : S' b o
   ·rcases h4 b o hs with q | ⟨_,q⟩
    ·exact Nat.lt_of_lt_of_le (hS b o q) h2.size
    ·exact q
   ·have h : (if S' b o then Abs.Who.imm else G.W b o) ≠ .none:=h
    rw [if_neg hs] at h
    exact Nat.lt_of_lt_of_le (hwf b o h) h2.size
theorem uFn (l : List Tk) (hl : l.length≤2000000) (n : Nat) (p : PS) (hp : p.at'≤l.length) (hn : l.length - p.at' < n) : Abs.Ctr sys 66 [xpp] [pbx l p] (xm (uAR l n p).1) none [pbx l (uAR l n p).2] :=
 uMP l hl (fun ts h1 h2=>uJG ts h1 h2) n p hp hn
end Go.Proofs.YtnjjdbapadkomaaGreatDoor
namespace Go.Abs
def uNz (s : St) (os : OS) : Bool:=os.all fun e=>match s.own (.b (.o e.1) e.2.1) with
 | some z=>Nat.beq z e.2.2
 | none=>false
theorem uBu {T : List (Option TyI)} {rs : List ResultVar} {res x : X} {bs' : List (List C)} {os : OS} {s : St} (h : resX T s rs=some x) (hx : x=res) (hb : subB s (uC1 0 bs')) (ho : uNz s os=true) : retO T rs res bs' os .box .normal s:=by
 have h1 : retS T rs res none bs' .ret s:=uAq h hx hb
 refine ⟨h1.1,h1.2.2,fun e he=>?_⟩
 have := List.all_eq_true.1 ho e he
 split at this
 ·rename_i z hz; rw [hz,Nat.eq_of_beq_eq_true this]
 ·simp at this
end Go.Abs
namespace Go.Proofs.YtnjjdbapadkomaaGreatDoor
open Go Go.Abs
noncomputable def sysO : Pg:={ P:=Tryz.prog,T:=tab,ok:=uL7,mix:=uId,gv:=[(0,intAt)],old:=true }
theorem up {f : FuncId} {args : List X} {bs bs' : List (List C)} {res : X} {ro : Option Nat} (h : Ctr sys f args bs res ro bs') : Ctr sysO f args bs res ro bs':=h.wk rfl fun _ hg=>hg
def osN : OS:=[(1,1,1),(1,2,3),(1,3,1),(1,4,7),(1,5,5)]
abbrev xnn : X:=.v (.ptr (.o 1) 0)
theorem uBr {l : List Tk} {c : List UInt8} {p : PS} (h : p.at'≤l.length) : (uA7 l c p).at'≤l.length:=(uBp l c p).2 h
theorem uBm {l : List Tk} {ws : List (List UInt8)} {p : PS} (h : p.at'≤l.length) : (uAA l ws p).2.at'≤l.length:=(uA4 l ws p).2 h
theorem le3 {l : List Tk} {x : Nat} (hl : l.length≤2000000) (h : x≤l.length) : x≤3000000:=by omega
theorem uMR (l : List Tk) (p : PS) (n : Nar) (line : Int) (hl : l.length≤2000000) (hp : p.at'≤l.length) (hn : n.steps.length≤3000000)
  (hterm : ∀ p : PS,p.at'≤l.length→Ctr sys 66 [xpp] [pbx l p] (xm (uAR l (l.length + 1) p).1) none [pbx l (uAR l (l.length + 1) p).2]) :
  CtrO sysO 111 [xpp,xnn,xi line] [pbx l p,n.cells] osN (.tup []) [pbx l (uCL l line p).2,({ n with steps:=n.steps++[(uCL l line p).1] } : Nar).cells] .box:=by
 have hrs:=Sp.rows_len n.steps
 have hrl:=Tk.rows_len l
 refine uDa Tryz.func111 rfl rfl rfl rfl rfl rfl rfl ?_;refine uAe (uAb ?_);refine uAa rfl rfl rfl (uAc rfl gU) ?_;refine uAI (.o 0) rfl rfl rfl rfl rfl rfl (up (uBy l _ [] (by omega) (le3 hl (by repeat (first | exact hp | refine uBr ?_ | refine uBm ?_))))) rfl (by rfl) (by rfl) rfl rfl rfl ?_;refine uAa rfl rfl rfl (uAc rfl gU) ?_;refine uAa rfl rfl rfl (uAU rfl Tryz.underlying67 rfl gU) ?_;refine uAu rfl (uAP rfl rfl rfl) ?_;refine uAu rfl (uAz rfl rfl rfl rfl rfl rfl rfl) ?_;refine uAf ?_;refine uAn (s:=⟨[(0,_,_),(1,_,_),(6,_,_)],[(.l 6,_),(.o 0,_),(.o 1,_)],[(.b (.o 1) 1,_),(.b (.o 1) 2,_),(.b (.o 1) 3,_),(.b (.o 1) 4,_),(.b (.o 1) 5,_)],[]⟩) (uAj (⟨sx rfl,sx rfl,sx rfl,trivial⟩) (⟨sx rfl,sx rfl,sx rfl,trivial⟩) (⟨rfl,rfl,rfl,rfl,rfl,trivial⟩)) ?_;refine uAe (uAb ?_);refine uAa rfl rfl rfl (uAc rfl gU) ?_;refine uAI (.o 0) rfl rfl rfl rfl rfl rfl (up (uBc l _ _ (by omega) (le3 hl (by repeat (first | exact hp | refine uBr ?_ | refine uBm ?_))))) rfl (by rfl) (by rfl) rfl rfl rfl ?_;refine uAf ?_;refine uAe (uAb ?_);refine uAa rfl rfl rfl (uAc rfl gU) ?_;refine uAI (.o 0) rfl rfl rfl rfl rfl rfl (up (uBc l _ _ (by omega) (le3 hl (by repeat (first | exact hp | refine uBr ?_ | refine uBm ?_))))) rfl (by rfl) (by rfl) rfl rfl rfl ?_
 refine uAf ?_;refine uAe (uAb ?_);refine uAa rfl rfl rfl (uAc rfl gU) ?_;refine uAI (.o 0) rfl rfl rfl rfl rfl rfl (up (uBy l _ [] (by omega) (le3 hl (by repeat (first | exact hp | refine uBr ?_ | refine uBm ?_))))) rfl (by rfl) (by rfl) rfl rfl rfl ?_;refine uAa rfl rfl rfl (uAg rfl gU rfl rfl) ?_;refine uAu rfl (uAz rfl rfl rfl rfl rfl rfl rfl) ?_;refine uAf ?_;refine uAn (s:=⟨[(0,_,_),(1,_,_),(6,_,_)],[(.l 6,_),(.o 0,_),(.o 1,_)],[(.b (.o 1) 1,_),(.b (.o 1) 2,_),(.b (.o 1) 3,_),(.b (.o 1) 4,_),(.b (.o 1) 5,_)],[]⟩) (uAj (⟨sx rfl,sx rfl,sx rfl,trivial⟩) (⟨sx rfl,sx rfl,sx rfl,trivial⟩) (⟨rfl,rfl,rfl,rfl,rfl,trivial⟩)) ?_;refine uAe (uAb ?_);refine uAa rfl rfl rfl (uAc rfl gU) ?_;refine uAI (.o 0) rfl rfl rfl rfl rfl rfl (up (uBc l _ _ (by omega) (le3 hl (by repeat (first | exact hp | refine uBr ?_ | refine uBm ?_))))) rfl (by rfl) (by rfl) rfl rfl rfl ?_;refine uAf ?_;refine uAe (uAb ?_);refine uAa rfl rfl rfl (uAc rfl gU) ?_;refine uAI (.o 0) rfl rfl rfl rfl rfl rfl (up (hterm _ (by repeat (first | exact hp | refine uBr ?_ | refine uBm ?_)))) rfl (by rfl) (by rfl) rfl rfl rfl ?_;refine uAa rfl rfl rfl (uAg rfl gU rfl rfl) ?_;refine uAu rfl (uAz rfl rfl rfl rfl rfl rfl rfl) ?_;refine uAf ?_;refine uAn (s:=⟨[(1,_,_),(6,_,_)],[(.l 6,_),(.o 0,_),(.o 1,_)],[(.b (.o 1) 1,_),(.b (.o 1) 2,_),(.b (.o 1) 3,_),(.b (.o 1) 4,_),(.b (.o 1) 5,_)],[]⟩) (uAj (⟨sx rfl,sx rfl,trivial⟩) (⟨sx rfl,sx rfl,sx rfl,trivial⟩) (⟨rfl,rfl,rfl,rfl,rfl,trivial⟩)) ?_
 refine awp_drawn' (by kernel_rfl) ?_;refine uAi rfl rfl rfl rfl (uAc rfl gU) ?_;refine uAi rfl rfl rfl rfl (uAc rfl gU) ?_;refine uAi rfl rfl rfl rfl (uAx rfl gU) ?_;refine uAi rfl rfl rfl rfl (uAg rfl gU rfl rfl) ?_;refine uBW rfl rfl rfl rfl rfl rfl rfl rfl rfl rfl rfl rfl ?_;refine uBQ rfl rfl rfl rfl rfl rfl rfl gU rfl rfl rfl rfl rfl ?_;refine uCp (xs:=[_]) rfl rfl rfl rfl rfl rfl rfl rfl rfl rfl gU rfl ?_;refine uBT rfl rfl rfl rfl rfl rfl rfl rfl rfl rfl rfl (by first | omega | (simp only [List.length_append,List.length_singleton,Sp.rows_len]; omega)) (by first | omega | (simp only [List.length_append,List.length_singleton,Sp.rows_len]; omega)) ?_;refine uAi rfl rfl rfl rfl (uAx rfl gU) ?_;refine uAi rfl rfl rfl rfl (uAg rfl gU rfl rfl) ?_;refine uBZ rfl rfl rfl rfl rfl rfl rfl rfl rfl rfl rfl rfl ?_;refine uBg (by kernel_rfl) ?_;refine uBu rfl ?_ (⟨⟨_,rfl,?_⟩,⟨⟨_,rfl,?_⟩,trivial⟩⟩) (by kernel_rfl)
 all_goals first | rfl | (simp only [Nar.cells,Sp.rows_app]; rfl)
end Go.Proofs.YtnjjdbapadkomaaGreatDoor
namespace Go.Proofs.YtnjjdbapadkomaaGreatDoor
open Go Go.Abs
theorem uF8 (s : List UInt8) : ∀ l : List (List UInt8),uBA l s=idxF (fun x=>decide (s=x)) l
 | []=>rfl
 | x :: l=>by
  rw [uBA,idxF,uF8 s l]
  by_cases h : x=s
  ·rw [if_pos h,if_pos (by simp [h])]
  ·have h' : ¬decide (s=x)=true:=by rw [decide_eq_true_eq]; exact fun e=>h (Eq.symm e)
   rw [if_neg h,if_neg h']
theorem uEC (s : List UInt8) : ∀ l : List (List UInt8),-1≤uBA l s∧uBA l s < l.length
 | []=>by simp [uBA]
 | x :: l=>by
  have := uEC s l
  rw [uBA]
  simp only [List.length_cons]
  split
  ·omega
  ·split <;> omega
theorem uEq : Ctr sys 95 [] [] (xss kindW) none []:=by
 refine uAv Tryz.func95 rfl rfl rfl rfl rfl rfl ?_;refine uAe (uAb ?_);refine uAa rfl rfl rfl (uAd rfl gU) ?_;refine uAf ?_;refine uAe (uAb ?_);refine uAK (xs:=[_,_,_,_,_]) rfl rfl rfl rfl rfl rfl rfl rfl rfl gU rfl ?_;refine uAa rfl rfl rfl (uAd rfl gU) ?_;refine uAf ?_;refine uAo ?_
 repeat (first | refine tR ?_ | refine bR ?_)
 refine uAq rfl ?_ trivial
 rfl
theorem uEr : Ctr sys 41 [] [] (xss sortW) none []:=by
 refine uAv Tryz.func41 rfl rfl rfl rfl rfl rfl ?_;refine uAe (uAb ?_);refine uAa rfl rfl rfl (uAd rfl gU) ?_;refine uAf ?_;refine uAe (uAb ?_);refine uAK (xs:=[_,_,_]) rfl rfl rfl rfl rfl rfl rfl rfl rfl gU rfl ?_;refine uAa rfl rfl rfl (uAd rfl gU) ?_;refine uAf ?_;refine uAo ?_
 repeat (first | refine tR ?_ | refine bR ?_)
 refine uAq rfl ?_ trivial
 rfl
set_option maxHeartbeats 2000000 in
theorem uMr (l : List Tk) (p : PS) (n : Nar) (line : Int) (hl : l.length≤2000000) (hp : p.at'≤l.length) (hn : n.goals.length≤3000000)
  (hterms : ∀ p : PS,p.at'≤l.length→Ctr sys 116 [xpp] [pbx l p] (xl (uBk l (uAR l (l.length + 1)) p).1) none [pbx l (uBk l (uAR l (l.length + 1)) p).2]) :
  CtrO sysO 112 [xpp,xnn,xi line] [pbx l p,n.cells] osN (.tup []) [pbx l (uCr l line p).2,({ n with goals:=n.goals++[(uCr l line p).1] } : Nar).cells] .box:=by
 have hrs:=Gl.rows_len n.goals
 have hrl:=Tk.rows_len l
 have hix:=uEC (uAA l kindW p).1 kindW
 have hkl : (kindW.length : Int)=5:=rfl
 have hixs:=uEy kindW (uAA l kindW p).1
 rw [← uF8] at hixs
 refine uDa Tryz.func112 rfl rfl rfl rfl rfl rfl rfl ?_;refine uAe (uAb ?_);refine uAa rfl rfl rfl (uAc rfl gU) ?_;refine uAa rfl rfl rfl (uAU rfl Tryz.underlying70 rfl gU) ?_;refine uAu rfl (uAP rfl rfl rfl) ?_;refine uAu rfl (uAz rfl rfl rfl rfl rfl rfl rfl) ?_;refine uAf ?_;refine uAe (uAb ?_);refine uAw rfl rfl rfl rfl rfl rfl gU gU (up uEq) rfl ?_;refine uAa rfl rfl rfl (uAc rfl gU) ?_;refine uAw rfl rfl rfl rfl rfl rfl gU gU (up uEq) rfl ?_;refine uAI (.o 0) rfl rfl rfl rfl rfl rfl (up (uBy l _ kindW (by omega) (le3 hl (by repeat (first | exact hp | refine uBr ?_ | refine uBm ?_))))) rfl (by rfl) (by rfl) rfl rfl rfl ?_;refine uAw rfl rfl rfl rfl rfl rfl gU gU (up hixs) rfl ?_;refine uAa rfl rfl rfl (uAr rfl rfl gU gU rfl (IntWalk.i64_in _ (by omega))) ?_;refine uAa rfl rfl rfl (uAg rfl gU rfl rfl) ?_;refine uAu rfl (uAz rfl rfl rfl rfl rfl rfl rfl) ?_;refine uAf ?_;refine uAn (s:=⟨[(0,_,_),(1,_,_),(6,_,_)],[(.l 6,_),(.o 0,_),(.o 1,_)],[(.b (.o 1) 1,_),(.b (.o 1) 2,_),(.b (.o 1) 3,_),(.b (.o 1) 4,_),(.b (.o 1) 5,_)],[]⟩) (uAj (⟨sx rfl,sx rfl,sx rfl,trivial⟩) (⟨sx rfl,sx rfl,sx rfl,trivial⟩) (⟨rfl,rfl,rfl,rfl,rfl,trivial⟩)) ?_;refine uAe (uAb ?_);refine uAa rfl rfl rfl (uAc rfl gU) ?_;refine uAI (.o 0) rfl rfl rfl rfl rfl rfl (up (uBy l _ [] (by omega) (le3 hl (by repeat (first | exact hp | refine uBr ?_ | refine uBm ?_))))) rfl (by rfl) (by rfl) rfl rfl rfl ?_
 refine uAa rfl rfl rfl (uAg rfl gU rfl rfl) ?_;refine uAu rfl (uAz rfl rfl rfl rfl rfl rfl rfl) ?_;refine uAf ?_;refine uAe ?_;refine uAe (uAb ?_);refine uAa rfl rfl rfl (uAs rfl gU rfl rfl rfl rfl rfl) ?_;refine uAw rfl rfl rfl rfl rfl rfl gU gU (up (uBS ⟨1 + uBA kindW (uAA l kindW p).1,(uAA l [] (uAA l kindW p).2).1,[],[],line⟩)) rfl ?_;refine uAf ?_;refine uAn (s:=⟨[(0,_,_),(1,_,_),(6,_,_),(20,_,_)],[(.l 6,_),(.o 0,_),(.o 1,_)],[(.b (.o 1) 1,_),(.b (.o 1) 2,_),(.b (.o 1) 3,_),(.b (.o 1) 4,_),(.b (.o 1) 5,_)],[]⟩) (uAj (⟨sx rfl,sx rfl,sx rfl,sx rfl,trivial⟩) (⟨sx rfl,sx rfl,sx rfl,trivial⟩) (⟨rfl,rfl,rfl,rfl,rfl,trivial⟩)) ?_;refine uAl rfl (fun hc=>?_) (fun hc=>?_)
 ·have h : uBC (1 + uBA kindW (uAA l kindW p).1)=true:=hc
  refine uAb ?_;refine uAa rfl rfl rfl (uAc rfl gU) ?_;refine uAI (.o 0) rfl rfl rfl rfl rfl rfl (up (uBy l _ [] (by omega) (le3 hl (by repeat (first | exact hp | refine uBr ?_ | refine uBm ?_))))) rfl (by rfl) (by rfl) rfl rfl rfl ?_;refine uAa rfl rfl rfl (uAg rfl gU rfl rfl) ?_;refine uAu rfl (uAz rfl rfl rfl rfl rfl rfl rfl) ?_;refine uAf ?_;refine uAe (uAb ?_);refine uAa rfl rfl rfl (uAc rfl gU) ?_;refine uAI (.o 0) rfl rfl rfl rfl rfl rfl (up (uBc l _ _ (by omega) (le3 hl (by repeat (first | exact hp | refine uBr ?_ | refine uBm ?_))))) rfl (by rfl) (by rfl) rfl rfl rfl ?_;refine uAf ?_;refine uAn (s:=⟨[(0,_,_),(1,_,_),(6,_,_)],[(.l 6,_),(.o 0,_),(.o 1,_)],[(.b (.o 1) 1,_),(.b (.o 1) 2,_),(.b (.o 1) 3,_),(.b (.o 1) 4,_),(.b (.o 1) 5,_)],[]⟩) (uAj (⟨sx rfl,sx rfl,sx rfl,trivial⟩) (⟨sx rfl,sx rfl,sx rfl,trivial⟩) (⟨rfl,rfl,rfl,rfl,rfl,trivial⟩)) ?_;refine uAe (uAb ?_);refine uAa rfl rfl rfl (uAc rfl gU) ?_;refine uAI (.o 0) rfl rfl rfl rfl rfl rfl (up (hterms _ (by repeat (first | exact hp | refine uBr ?_ | refine uBm ?_)))) rfl (by rfl) (by rfl) rfl rfl rfl ?_;refine uAa rfl rfl rfl (uAg rfl gU rfl rfl) ?_;refine uAu rfl (uAz rfl rfl rfl rfl rfl rfl rfl) ?_;refine uAf ?_;refine awp_drawn' (by kernel_rfl) ?_;refine uAi rfl rfl rfl rfl (uAc rfl gU) ?_
  refine uAi rfl rfl rfl rfl (uAc rfl gU) ?_;refine uAi rfl rfl rfl rfl (uAx rfl gU) ?_;refine uAi rfl rfl rfl rfl (uAg rfl gU rfl rfl) ?_;refine uBW rfl rfl rfl rfl rfl rfl rfl rfl rfl rfl rfl rfl ?_;refine uBQ rfl rfl rfl rfl rfl rfl rfl gU rfl rfl rfl rfl rfl ?_;refine uCp (xs:=[_]) rfl rfl rfl rfl rfl rfl rfl rfl rfl rfl gU rfl ?_;refine uBT rfl rfl rfl rfl rfl rfl rfl rfl rfl rfl rfl (by first | omega | (simp only [List.length_append,List.length_singleton,Gl.rows_len]; omega)) (by first | omega | (simp only [List.length_append,List.length_singleton,Gl.rows_len]; omega)) ?_;refine uAi rfl rfl rfl rfl (uAx rfl gU) ?_;refine uAi rfl rfl rfl rfl (uAg rfl gU rfl rfl) ?_;refine uBZ rfl rfl rfl rfl rfl rfl rfl rfl rfl rfl rfl rfl ?_;refine uBg (by kernel_rfl) ?_;refine uBu rfl ?_ (⟨⟨_,rfl,?_⟩,⟨⟨_,rfl,?_⟩,trivial⟩⟩) (by kernel_rfl)
  all_goals first | rfl | (simp only [Nar.cells,Gl.rows_app,uCr,h,if_true]; done) | (simp only [Nar.cells,Gl.rows_app,uCr,h,if_true]; rfl)
 ·have h : uBC (1 + uBA kindW (uAA l kindW p).1)=false:=hc
  refine uAp ?_;refine uAe (uAb ?_);refine uAa rfl rfl rfl (uAc rfl gU) ?_;refine uAI (.o 0) rfl rfl rfl rfl rfl rfl (up (uBc l _ _ (by omega) (le3 hl (by repeat (first | exact hp | refine uBr ?_ | refine uBm ?_))))) rfl (by rfl) (by rfl) rfl rfl rfl ?_;refine uAf ?_;refine uAe (uAb ?_);refine uAa rfl rfl rfl (uAc rfl gU) ?_;refine uAI (.o 0) rfl rfl rfl rfl rfl rfl (up (hterms _ (by repeat (first | exact hp | refine uBr ?_ | refine uBm ?_)))) rfl (by rfl) (by rfl) rfl rfl rfl ?_;refine uAa rfl rfl rfl (uAg rfl gU rfl rfl) ?_;refine uAu rfl (uAz rfl rfl rfl rfl rfl rfl rfl) ?_;refine uAf ?_;refine uAn (s:=⟨[(1,_,_),(6,_,_)],[(.l 6,_),(.o 0,_),(.o 1,_)],[(.b (.o 1) 1,_),(.b (.o 1) 2,_),(.b (.o 1) 3,_),(.b (.o 1) 4,_),(.b (.o 1) 5,_)],[]⟩) (uAj (⟨sx rfl,sx rfl,trivial⟩) (⟨sx rfl,sx rfl,sx rfl,trivial⟩) (⟨rfl,rfl,rfl,rfl,rfl,trivial⟩)) ?_;refine awp_drawn' (by kernel_rfl) ?_;refine uAi rfl rfl rfl rfl (uAc rfl gU) ?_;refine uAi rfl rfl rfl rfl (uAc rfl gU) ?_;refine uAi rfl rfl rfl rfl (uAx rfl gU) ?_;refine uAi rfl rfl rfl rfl (uAg rfl gU rfl rfl) ?_;refine uBW rfl rfl rfl rfl rfl rfl rfl rfl rfl rfl rfl rfl ?_;refine uBQ rfl rfl rfl rfl rfl rfl rfl gU rfl rfl rfl rfl rfl ?_;refine uCp (xs:=[_]) rfl rfl rfl rfl rfl rfl rfl rfl rfl rfl gU rfl ?_
  refine uBT rfl rfl rfl rfl rfl rfl rfl rfl rfl rfl rfl (by first | omega | (simp only [List.length_append,List.length_singleton,Gl.rows_len]; omega)) (by first | omega | (simp only [List.length_append,List.length_singleton,Gl.rows_len]; omega)) ?_;refine uAi rfl rfl rfl rfl (uAx rfl gU) ?_;refine uAi rfl rfl rfl rfl (uAg rfl gU rfl rfl) ?_;refine uBZ rfl rfl rfl rfl rfl rfl rfl rfl rfl rfl rfl rfl ?_;refine uBg (by kernel_rfl) ?_;refine uBu rfl ?_ (⟨⟨_,rfl,?_⟩,⟨⟨_,rfl,?_⟩,trivial⟩⟩) (by kernel_rfl)
  all_goals first | rfl | (simp only [Nar.cells,Gl.rows_app,uCr,h,Bool.false_eq_true,if_false]; done) | (simp only [Nar.cells,Gl.rows_app,uCr,h,Bool.false_eq_true,if_false]; rfl)
end Go.Proofs.YtnjjdbapadkomaaGreatDoor
namespace Go.Proofs.YtnjjdbapadkomaaGreatDoor
open Go Go.Abs
set_option maxHeartbeats 2000000 in
theorem uFz (l : List Tk) (p : PS) (n : Nar) (hl : l.length≤2000000) (hp : p.at'≤l.length) (hn : n.fresh.length≤3000000) :
  CtrO sysO 110 [xpp,xnn] [pbx l p,n.cells] osN (.tup []) [pbx l (uB3 l p n.fresh).2,({ n with fresh:=(uB3 l p n.fresh).1 } : Nar).cells] .box:=by
 have hrl:=Tk.rows_len l
 have a1:=uA4 l [] p
 have a2:=uBp l [58] (uAA l [] p).2
 have a3 : (uA7 l [58] (uAA l [] p).2).at'≤l.length:=uBr (uBm hp)
 have hrole : ∃ r,(uAA l [] p).1=r:=⟨_,rfl⟩
 obtain ⟨role,hrole⟩:=hrole
 refine uDa Tryz.func110 rfl rfl rfl rfl rfl rfl rfl ?_;refine uAe (uAb ?_);refine uAa rfl rfl rfl (uAc rfl gU) ?_;refine uAI (.o 0) rfl rfl rfl rfl rfl rfl (up (uBy l _ [] (by omega) (le3 hl (by repeat (first | assumption | refine uBr ?_ | refine uBm ?_))))) rfl (by rfl) (by rfl) rfl rfl rfl ?_;refine uAa rfl rfl rfl (uAd rfl gU) ?_;refine uAf ?_;refine uAe (uAb ?_);refine uAa rfl rfl rfl (uAc rfl gU) ?_;refine uAI (.o 0) rfl rfl rfl rfl rfl rfl (up (uBc l _ _ (by omega) (le3 hl (by repeat (first | assumption | refine uBr ?_ | refine uBm ?_))))) rfl (by rfl) (by rfl) rfl rfl rfl ?_;refine uAf ?_;refine uAn (s:=⟨[(0,_,_),(1,_,_),(4,_,_)],[(.o 0,_),(.o 1,_)],[(.b (.o 1) 1,_),(.b (.o 1) 2,_),(.b (.o 1) 3,_),(.b (.o 1) 4,_),(.b (.o 1) 5,_)],[]⟩) (uAj (⟨sx rfl,sx rfl,sx rfl,trivial⟩) (⟨sx rfl,sx rfl,trivial⟩) (⟨rfl,rfl,rfl,rfl,rfl,trivial⟩)) ?_;refine uAe (uAb ?_);refine uAa rfl rfl rfl (uAd rfl gU) ?_;refine uAf ?_;refine uAt ?_
 rw [hrole]
 refine uAW (ι:=PS × Bool × List Fs) { t:=[(0,_,_),(1,_,_),(4,_,_)],bx:=[],ow:=[(.b (.o 1) 1,_),(.b (.o 1) 2,_),(.b (.o 1) 3,_),(.b (.o 1) 4,_),(.b (.o 1) 5,_)] } (fun q=>[(5,true,xb q.2.1)]) (fun q=>[((.o 0),pbx l q.1),((.o 1),({ n with fresh:=q.2.2 } : Nar).cells)]) (fun q=>q.1.at'≤l.length∧q.2.2.length≤n.fresh.length + q.1.at' + (if q.2.1=true then 0 else 1) ∧ ∃ k,l.length + 1≤k + q.1.at'∧(if q.2.1=true then uCa l role k q.1 q.2.2 else (q.2.2,q.1))=uB3 l p n.fresh) (fun q=>(if q.2.1=true∧q.1.bad=false then 1 else 0) + (l.length - q.1.at')) ((uA7 l [58] (uAA l [] p).2,true,n.fresh)) (⟨a3,by simp,l.length + 1,by dsimp only; omega,by dsimp only; rw [← hrole]; rfl⟩) (uAj (⟨sx rfl,sx rfl,sx rfl,sx rfl,trivial⟩) (⟨sx rfl,sx rfl,trivial⟩) (⟨rfl,rfl,rfl,rfl,rfl,trivial⟩)) ?_
 intro q hok
 dsimp only [List.cons_append,List.nil_append] at *
 obtain ⟨q,more,out⟩:=q
 dsimp only at hok ⊢
 obtain ⟨hq,ho,k,hk,hi⟩:=hok
 have hro:=Fs.rows_len out
 refine uAe ?_;refine uAe (uAb ?_);refine uAa rfl rfl rfl (uAc rfl gU) ?_;refine uAa rfl rfl rfl (uAc rfl gU) ?_;refine uAa rfl rfl rfl (uAc rfl gU) ?_;refine uAa rfl rfl rfl (uAx rfl (fun hh=>hh)) ?_;refine uAa rfl rfl rfl (uAg rfl (fun hh=>hh) rfl rfl) ?_;refine uAa rfl rfl rfl (uAm rfl (fun hh=>hh) rfl rfl rfl rfl) ?_;refine uAa rfl rfl rfl (uA1 rfl (fun hh=>hh)) ?_;refine uAa rfl rfl rfl (uAO rfl rfl gU (fun _ hi=>gP rfl hi)) ?_;refine uAf ?_;refine uAn (s:=⟨[(0,_,_),(1,_,_),(4,_,_),(19,_,_)],[(.o 0,_),(.o 1,_)],[(.b (.o 1) 1,_),(.b (.o 1) 2,_),(.b (.o 1) 3,_),(.b (.o 1) 4,_),(.b (.o 1) 5,_)],[]⟩) (uAj (⟨sx rfl,sx rfl,sx rfl,sx rfl,trivial⟩) (⟨sx rfl,sx rfl,trivial⟩) (⟨rfl,rfl,rfl,rfl,rfl,trivial⟩)) ?_;refine uAl rfl (fun hc=>?_) (fun hc=>?_)
 ·try simp only [nn,uAh,T.rows_len,Tk.rows_len] at hc
  obtain ⟨hm,hb⟩:=hc
  rw [if_pos hm] at hi ho
  obtain ⟨k,rfl⟩ : ∃ j,k=j + 1:=⟨k - 1,by omega⟩
  rw [uCa,if_neg (by rw [hb]; simp)] at hi
  have b1:=uA4 l [] q
  have b2:=uA4 l sortW (uAA l [] q).2
  have hix:=uEC (uAA l sortW (uAA l [] q).2).1 sortW
  have hsl : (sortW.length : Int)=3:=rfl
  have hixs:=uEy sortW (uAA l sortW (uAA l [] q).2).1
  rw [← uF8] at hixs
  refine uAp ?_;refine uAe ?_;refine uAt ?_;refine uAe (uAb ?_);refine uAa rfl rfl rfl (uAc rfl gU) ?_;refine uAI (.o 0) rfl rfl rfl rfl rfl rfl (up (uBy l _ [] (by omega) (le3 hl (by repeat (first | assumption | refine uBr ?_ | refine uBm ?_))))) rfl (by rfl) (by rfl) rfl rfl rfl ?_;refine uAa rfl rfl rfl (uAd rfl gU) ?_;refine uAf ?_;refine uAe (uAb ?_);refine uAw rfl rfl rfl rfl rfl rfl gU gU (up uEr) rfl ?_;refine uAa rfl rfl rfl (uAc rfl gU) ?_;refine uAw rfl rfl rfl rfl rfl rfl gU gU (up uEr) rfl ?_;refine uAI (.o 0) rfl rfl rfl rfl rfl rfl (up (uBy l _ sortW (by omega) (le3 hl (by repeat (first | assumption | refine uBr ?_ | refine uBm ?_))))) rfl (by rfl) (by rfl) rfl rfl rfl ?_;refine uAw rfl rfl rfl rfl rfl rfl gU gU (up hixs) rfl ?_;refine uAa rfl rfl rfl (uAr rfl rfl gU gU rfl (IntWalk.i64_in _ (by omega))) ?_;refine uAa rfl rfl rfl (uAd rfl gU) ?_;refine uAf ?_;refine uAn (s:=⟨[(0,_,_),(1,_,_),(4,_,_),(6,_,_),(7,_,_)],[(.o 0,_),(.o 1,_)],[(.b (.o 1) 1,_),(.b (.o 1) 2,_),(.b (.o 1) 3,_),(.b (.o 1) 4,_),(.b (.o 1) 5,_)],[]⟩) (uAj (⟨sx rfl,sx rfl,sx rfl,sx rfl,sx rfl,trivial⟩) (⟨sx rfl,sx rfl,trivial⟩) (⟨rfl,rfl,rfl,rfl,rfl,trivial⟩)) ?_;refine uAb ?_;refine uAa rfl rfl rfl (uAc rfl gU) ?_;refine uAa rfl rfl rfl (uAc rfl gU) ?_
  refine uAa rfl rfl rfl (uAx rfl gU) ?_;refine uAa rfl rfl rfl (uAg rfl gU rfl rfl) ?_;refine uAu rfl (uDh rfl rfl rfl rfl rfl rfl rfl) ?_;refine uAa rfl rfl rfl (uAc rfl gU) ?_;refine uAa rfl rfl rfl (uAc rfl gU) ?_;refine uAa rfl rfl rfl (uAc rfl gU) ?_;refine uAa rfl rfl rfl (uAU rfl Tryz.underlying73 rfl gU) ?_;refine uAK (xs:=[_]) rfl rfl rfl rfl rfl rfl rfl rfl rfl gU rfl ?_;refine uAu rfl (uAZ rfl rfl rfl rfl rfl rfl rfl (by first | omega | (simp only [List.length_append,List.length_singleton,Fs.rows_len]; omega)) (by first | omega | (simp only [List.length_append,List.length_singleton,Fs.rows_len]; omega))) ?_;refine uAa rfl rfl rfl (uAx rfl gU) ?_;refine uBq (s:=⟨[(0,_,_),(1,_,_),(4,_,_),(40,_,_),(41,_,_)],[(.o 0,_),(.o 1,_)],[(.b (.o 1) 1,_),(.b (.o 1) 3,_),(.b (.o 1) 4,_),(.b (.o 1) 5,_),(.t 40,_)],[]⟩) (uAj (⟨sx rfl,sx rfl,sx rfl,sx rfl,sx rfl,trivial⟩) (⟨sx rfl,sx rfl,trivial⟩) (⟨rfl,rfl,rfl,rfl,rfl,trivial⟩)) ?_;refine uAa rfl rfl rfl (uAg rfl gU rfl rfl) ?_;refine uAu rfl (uDk rfl rfl rfl rfl rfl rfl rfl) ?_;refine uAf ?_;refine uAb ?_;refine uAa rfl rfl rfl (uAc rfl gU) ?_;refine uAI (.o 0) rfl rfl rfl rfl rfl rfl (up (uBO l _ _ (by omega) (le3 hl (by repeat (first | assumption | refine uBr ?_ | refine uBm ?_))))) rfl (by rfl) (by rfl) rfl rfl rfl ?_
  refine uAa rfl rfl rfl (uAd rfl gU) ?_;refine uAf ?_
  generalize hq2 : (uAA l sortW (uAA l [] q).2).2=q2 at *
  refine ⟨(symP l q2 [44],symQ l q2 [44],out++[⟨role,(uAA l [] q).1,2 + uBA sortW (uAA l sortW (uAA l [] q).2).1⟩]),?_,?_,uAj (⟨⟨_,rfl,?_⟩,⟨sx rfl,sx rfl,sx rfl,trivial⟩⟩) (⟨⟨_,rfl,?_⟩,⟨⟨_,rfl,?_⟩,trivial⟩⟩) (⟨rfl,rfl,rfl,rfl,rfl,trivial⟩)⟩
  ·by_cases hz : symQ l q2 [44]=true
   ·have hlt:=(uCj hz).1
    have hs : symP l q2 [44]=q2.go:=by rw [symP,if_pos hz]
    have hg : q2.go.at'=q2.at' + 1:=rfl
    rw [if_pos hz] at hi
    dsimp only
    rw [hs,hz,if_pos rfl]
    refine ⟨by omega,by simp only [List.length_append,List.length_singleton]; omega,k,by omega,by rw [if_pos rfl]; exact hi⟩
   ·have hz' : symQ l q2 [44]=false:=by simpa using hz
    have hs : symP l q2 [44]=q2:=by rw [symP,hz']; rfl
    rw [if_neg hz] at hi
    dsimp only
    rw [hs,hz',if_neg (by simp)]
    refine ⟨by omega,by simp only [List.length_append,List.length_singleton]; omega,k + 1,by omega,by rw [if_neg (by simp)]; exact hi⟩
  ·dsimp only
   rw [if_pos (c:=more=true∧q.bad=false) ⟨hm,hb⟩]
   by_cases hz : symQ l q2 [44]=true
   ·have hlt:=(uCj hz).1
    have hs : symP l q2 [44]=q2.go:=by rw [symP,if_pos hz]
    have hg : q2.go.at'=q2.at' + 1:=rfl
    rw [hs]
    split <;> omega
   ·rw [if_neg (fun q=>hz q.1)]
    have hs : symP l q2 [44]=q2:=by rw [symP,if_neg hz]
    rw [hs]; omega
  ·rfl
  ·rfl
  ·simp only [Nar.cells,Fs.rows_app]; rfl
 ·try simp only [nn,uAh,T.rows_len,Tk.rows_len] at hc
  have hfin : (out,q)=uB3 l p n.fresh:=by
   cases more with
   | false=>simpa using hi
   | true =>
    obtain ⟨k,rfl⟩ : ∃ j,k=j + 1:=⟨k - 1,by omega⟩
    rw [if_pos rfl,uCa,if_pos (by simpa using hc)] at hi
    exact hi
  rw [← hfin]
  refine uAL ?_
  repeat (first | refine uAF ?_ | refine uAE ?_ | refine uAB rfl ?_)
  refine uBu rfl ?_ (⟨⟨_,rfl,?_⟩,⟨⟨_,rfl,?_⟩,trivial⟩⟩) (by kernel_rfl)
  all_goals rfl
end Go.Proofs.YtnjjdbapadkomaaGreatDoor
namespace Go.Proofs.YtnjjdbapadkomaaGreatDoor
open Go Go.Abs
theorem ps2 {st : St} {a b : Pass} (ha : st.box a.n=some a.cs) (hb : st.box b.n=some b.cs) : ∀ p ∈ [a,b],st.box p.n=some p.cs:=by
 intro p hp
 rcases List.mem_cons.1 hp with q | q
 ·subst q; exact ha
 ·simp at q; subst q; exact hb
theorem uJW (l : List Tk) (hl : l.length≤2000000) (p : PS) (hp : p.at'≤l.length) : Ctr sys 116 [xpp] [pbx l p] (xl (uBk l (uAR l (l.length + 1)) p).1) none [pbx l (uBk l (uAR l (l.length + 1)) p).2] :=
 uIR l (l.length + 1) hl (fun q h1 h2=>uFn l hl _ q h1 h2) p hp (by omega)
theorem uHv (l : List Tk) (p : PS) (n : Nar) (line : Int) (hl : l.length≤2000000) (hp : p.at'≤l.length) (hn : n.steps.length≤3000000) :
  CtrO sysO 111 [xpp,xnn,xi line] [pbx l p,n.cells] osN (.tup []) [pbx l (uCL l line p).2,({ n with steps:=n.steps++[(uCL l line p).1] } : Nar).cells] .box :=
 uMR l p n line hl hp hn fun q hq=>uFn l hl _ q hq (by omega)
theorem uG4 (l : List Tk) (p : PS) (n : Nar) (line : Int) (hl : l.length≤2000000) (hp : p.at'≤l.length) (hn : n.goals.length≤3000000) :
  CtrO sysO 112 [xpp,xnn,xi line] [pbx l p,n.cells] osN (.tup []) [pbx l (uCr l line p).2,({ n with goals:=n.goals++[(uCr l line p).1] } : Nar).cells] .box :=
 uMr l p n line hl hp hn fun q hq=>uJW l hl q hq
theorem uA2 {l : List Tk} {n n' : Nar} {p q : PS} {line : Int} {w : List UInt8} (hw : uAA l uB6 p=(w,q)) (hl : uCH l p=line) {r : PS} (h : uBY l n line w q=(n',r)) : uCl l n p=(n',uA7 l [59] r):=by
 unfold uCl; rw [hl,hw]; dsimp only; rw [h]
theorem uEh (l : List Tk) (n : Nar) (line : Int) (q : PS) : uBY l n line uFJ q=({ n with roles:=n.roles++(uBJ l q).1 },(uBJ l q).2):=by rw [uBY,if_pos rfl]
theorem uEf (l : List Tk) (n : Nar) (line : Int) (q : PS) : uBY l n line uDZ q=({ n with fresh:=(uB3 l q n.fresh).1 },(uB3 l q n.fresh).2):=by rw [uBY,if_neg (by decide),if_pos rfl]
theorem uD6 (l : List Tk) (n : Nar) (line : Int) (q : PS) : uBY l n line uFI q=({ n with tags:=n.tags++(uBJ l q).1 },(uBJ l q).2):=by rw [uBY,if_neg (by decide),if_neg (by decide),if_pos rfl]
theorem uEe (l : List Tk) (n : Nar) (line : Int) (q : PS) : uBY l n line wMsg q=({ n with steps:=n.steps++[(uCL l line q).1] },(uCL l line q).2):=by rw [uBY,if_neg (by decide),if_neg (by decide),if_neg (by decide),if_pos rfl]
theorem uEc (l : List Tk) (n : Nar) (line : Int) (q : PS) : uBY l n line uFA q=({ n with goals:=n.goals++[(uCr l line q).1] },(uCr l line q).2):=by rw [uBY,if_neg (by decide),if_neg (by decide),if_neg (by decide),if_neg (by decide),if_pos rfl]
theorem uFV (l : List Tk) (n : Nar) (line : Int) (q : PS) {w : List UInt8} (h1 : w≠uFJ) (h2 : w≠uDZ) (h3 : w≠uFI) (h4 : w≠wMsg) (h5 : w≠uFA) : uBY l n line w q=(n,q):=by rw [uBY,if_neg h1,if_neg h2,if_neg h3,if_neg h4,if_neg h5]
set_option maxHeartbeats 4000000 in
theorem uLf (l : List Tk) (p : PS) (n : Nar) (hl : l.length≤2000000) (hp : p.at'≤l.length) (hn : n.Le 2000000) :
  CtrO sysO 62 [xpp,xnn] [pbx l p,n.cells] osN (.tup []) [pbx l (uCl l n p).2,(uCl l n p).1.cells] .box:=by
 have hrl:=Tk.rows_len l
 have hr1:=uAh n.roles
 have hr2:=uAh n.tags
 have hq1:=uBm (ws:=uB6) hp
 obtain ⟨b1,b2,b3,b4,b5⟩:=hn
 obtain ⟨w,q,hw⟩ : ∃ w q,uAA l uB6 p=(w,q):=⟨_,_,rfl⟩
 have hns:=uBy l p uB6 (by omega) (by omega)
 rw [hw] at hns hq1
 dsimp only at hns hq1
 have hnl : (uBJ l q).1.length≤2000001:=by
  have h1:=uFp (uA4 l []) q
  have h2:=(uCM (uA4 l []) q).2 hq1
  unfold uBJ; omega
 have hnr:=uAh (uBJ l q).1
 have hq2 : (uBJ l q).2.at'≤l.length:=(uCM (uA4 l []) q).2 hq1
 have hq3 : (uB3 l q n.fresh).2.at'≤l.length:=(uHM l n.fresh q).2 hq1
 have hq4 : ∀ line,(uCL l line q).2.at'≤l.length:=fun line=>(uF4 l line q).2 hq1
 have hq5 : ∀ line,(uCr l line q).2.at'≤l.length:=fun line=>(uG2 l line q).2 hq1
 refine uDa Tryz.func62 rfl rfl rfl rfl rfl rfl rfl ?_;refine uAe (uAb ?_);refine uAa rfl rfl rfl (uAd rfl gU) ?_;refine uAf ?_;refine uAe ?_;refine uAe ?_;refine awp_drawn' (by kernel_rfl) ?_;refine uAi rfl rfl rfl rfl (uAc rfl gU) ?_;refine uAi rfl rfl rfl rfl (uAx rfl gU) ?_;refine uAi rfl rfl rfl rfl (uAg rfl gU rfl rfl) ?_;refine uAV rfl rfl rfl rfl rfl rfl rfl gU rfl rfl rfl rfl ?_;refine uAi rfl rfl rfl rfl (uAc rfl gU) ?_;refine uAi rfl rfl rfl rfl (uAx rfl gU) ?_;refine uAi rfl rfl rfl rfl (uAg rfl gU rfl rfl) ?_;refine uAV rfl rfl rfl rfl rfl rfl rfl gU rfl rfl rfl rfl ?_;refine uAi rfl rfl rfl rfl (uBb rfl gU rfl rfl) ?_;refine uAi rfl rfl rfl rfl (uAk rfl rfl gU gU rfl) ?_;refine uBg (by kernel_rfl) ?_;refine uAn (s:=⟨[(0,_,_),(1,_,_),(4,_,_),(14,_,_)],[(.o 0,_),(.o 1,_)],[(.b (.o 1) 1,_),(.b (.o 1) 2,_),(.b (.o 1) 3,_),(.b (.o 1) 4,_),(.b (.o 1) 5,_)],[]⟩) (uAj (⟨sx rfl,sx rfl,sx rfl,sx rfl,trivial⟩) (⟨sx rfl,sx rfl,trivial⟩) (⟨(ak rfl (ak rfl (ak rfl (ak rfl (ak rfl (ak rfl (ak rfl (ak rfl (ak rfl (ak rfl (rfl))))))))))),(ak rfl (ak rfl (ak rfl (ak rfl (ak rfl (ak rfl (ak rfl (ak rfl (ak rfl (ak rfl (rfl))))))))))),(ak rfl (ak rfl (ak rfl (ak rfl (ak rfl (ak rfl (ak rfl (ak rfl (ak rfl (ak rfl (rfl))))))))))),(ak rfl (ak rfl (ak rfl (ak rfl (ak rfl (ak rfl (ak rfl (ak rfl (ak rfl (ak rfl (rfl))))))))))),(ak rfl (ak rfl (ak rfl (ak rfl (ak rfl (ak rfl (ak rfl (ak rfl (ak rfl (ak rfl (rfl))))))))))),trivial⟩)) ?_
 refine uAl rfl (fun hcx=>?_) (fun hcx=>?_)
 ·try simp only [nn,uAh,T.rows_len,Tk.rows_len] at hcx
  have hline : uCH l p=(l.getD p.at' tk0).line:=by rw [uCH,if_pos (by omega)]
  refine awp_drawn' (by kernel_rfl) ?_;refine uAi rfl rfl rfl rfl (uAc rfl gU) ?_;refine uAi rfl rfl rfl rfl (uAx rfl gU) ?_;refine uAi rfl rfl rfl rfl (uAg rfl gU rfl rfl) ?_;refine uAV rfl rfl rfl rfl rfl rfl rfl gU rfl rfl rfl rfl ?_;refine uAi rfl rfl rfl rfl (uAc rfl gU) ?_;refine uAi rfl rfl rfl rfl (uAx rfl gU) ?_;refine uAi rfl rfl rfl rfl (uAg rfl gU rfl rfl) ?_;refine uAV rfl rfl rfl rfl rfl rfl rfl gU rfl rfl rfl rfl ?_;refine uAi rfl rfl rfl rfl (uAy (j:=p.at') rfl rfl gU gU rfl rfl (by first | omega | (simp at hh ⊢; omega)) (fun hh=>Tk.rows_at (by first | omega | (simp at hh ⊢; omega)))) ?_;refine uAi rfl rfl rfl rfl (uA8 rfl gU rfl rfl) ?_;refine uAi rfl rfl rfl rfl (uAX rfl gU rfl rfl rfl) ?_;refine uAi rfl rfl rfl rfl (uAd rfl gU) ?_;refine uBg (by kernel_rfl) ?_;refine uAn (s:=⟨[(0,_,_),(1,_,_),(4,_,_)],[(.o 0,_),(.o 1,_)],[(.b (.o 1) 1,_),(.b (.o 1) 2,_),(.b (.o 1) 3,_),(.b (.o 1) 4,_),(.b (.o 1) 5,_)],[]⟩) (uAj (⟨sx rfl,sx rfl,sx rfl,trivial⟩) (⟨sx rfl,sx rfl,trivial⟩) (⟨(ak rfl (ak rfl (ak rfl (ak rfl (ak rfl (ak rfl (ak rfl (ak rfl (ak rfl (ak rfl (ak rfl (ak rfl (rfl))))))))))))),(ak rfl (ak rfl (ak rfl (ak rfl (ak rfl (ak rfl (ak rfl (ak rfl (ak rfl (ak rfl (ak rfl (ak rfl (rfl))))))))))))),(ak rfl (ak rfl (ak rfl (ak rfl (ak rfl (ak rfl (ak rfl (ak rfl (ak rfl (ak rfl (ak rfl (ak rfl (rfl))))))))))))),(ak rfl (ak rfl (ak rfl (ak rfl (ak rfl (ak rfl (ak rfl (ak rfl (ak rfl (ak rfl (ak rfl (ak rfl (rfl))))))))))))),(ak rfl (ak rfl (ak rfl (ak rfl (ak rfl (ak rfl (ak rfl (ak rfl (ak rfl (ak rfl (ak rfl (ak rfl (rfl))))))))))))),trivial⟩)) ?_
  refine uAe ?_;refine uAe (uAb ?_);refine uAa rfl rfl rfl (uAc rfl gU) ?_;refine uAK (xs:=[_,_,_,_,_]) rfl rfl rfl rfl rfl rfl rfl rfl rfl gU rfl ?_;refine uAI (.o 0) rfl rfl rfl rfl rfl rfl (up hns) rfl (by rfl) (by rfl) rfl rfl rfl ?_;refine uAf ?_;refine uAt ?_;refine uAe (uAb ?_);refine uAa rfl rfl rfl (uAY rfl rfl gU gU rfl) ?_;refine uAa rfl rfl rfl (uAd rfl gU) ?_;refine uAf ?_;refine uAn (s:=⟨[(0,_,_),(1,_,_),(4,_,_),(28,_,_),(29,_,_)],[(.o 0,_),(.o 1,_)],[(.b (.o 1) 1,_),(.b (.o 1) 2,_),(.b (.o 1) 3,_),(.b (.o 1) 4,_),(.b (.o 1) 5,_)],[]⟩) (uAj (⟨sx rfl,sx rfl,sx rfl,sx rfl,sx rfl,trivial⟩) (⟨sx rfl,sx rfl,trivial⟩) (⟨rfl,rfl,rfl,rfl,rfl,trivial⟩)) ?_;refine uAl rfl (fun hcu0=>?_) (fun hcu0=>?_)
  ·try simp only [nn,uAh,T.rows_len,Tk.rows_len] at hcu0
   have hwe : w=uFJ:=hcu0
   subst hwe
   refine awp_drawn' (by kernel_rfl) ?_;refine uAi rfl rfl rfl rfl (uAc rfl gU) ?_;refine uAi rfl rfl rfl rfl (uAc rfl gU) ?_;refine uAi rfl rfl rfl rfl (uAx rfl gU) ?_;refine uAi rfl rfl rfl rfl (uAg rfl gU rfl rfl) ?_;refine uBW rfl rfl rfl rfl rfl rfl rfl rfl rfl rfl rfl rfl ?_;refine uAi rfl rfl rfl rfl (uAc rfl gU) ?_;refine uEg (.o 0) rfl rfl rfl rfl rfl rfl rfl (up (uDF l q (by omega) hq1)) rfl (by rfl) (by rfl) rfl rfl rfl ?_;refine uBT rfl rfl rfl rfl rfl rfl rfl rfl rfl rfl rfl (by first | omega | (simp only [List.length_append,List.length_singleton,uAh]; omega)) (by first | omega | (simp only [List.length_append,List.length_singleton,uAh]; omega)) ?_;refine uAi rfl rfl rfl rfl (uAx rfl gU) ?_;refine uAi rfl rfl rfl rfl (uAg rfl gU rfl rfl) ?_;refine uBZ rfl rfl rfl rfl rfl rfl rfl rfl rfl rfl rfl rfl ?_;refine uBg (by kernel_rfl) ?_;refine uAn (s:=⟨[(0,_,_)],[(.o 0,_),(.o 1,_)],[(.b (.o 1) 1,_),(.b (.o 1) 2,_),(.b (.o 1) 3,_),(.b (.o 1) 4,_),(.b (.o 1) 5,_)],[]⟩) (uAj (⟨sx rfl,trivial⟩) (⟨sx rfl,sx rfl,trivial⟩) (⟨rfl,(ak2 rfl (ak rfl (ak rfl (ak2 rfl (ak rfl (ak rfl (ak2 rfl (ak rfl (ak rfl (ak rfl (ak rfl (rfl)))))))))))),(ak2 rfl (ak rfl (ak rfl (ak2 rfl (ak rfl (ak rfl (ak2 rfl (ak rfl (ak rfl (ak rfl (ak rfl (rfl)))))))))))),(ak2 rfl (ak rfl (ak rfl (ak2 rfl (ak rfl (ak rfl (ak2 rfl (ak rfl (ak rfl (ak rfl (ak rfl (rfl)))))))))))),(ak2 rfl (ak rfl (ak rfl (ak2 rfl (ak rfl (ak rfl (ak2 rfl (ak rfl (ak rfl (ak rfl (ak rfl (rfl)))))))))))),trivial⟩)) ?_
   refine uAb ?_;refine uAa rfl rfl rfl (uAc rfl gU) ?_;refine uAI (.o 0) rfl rfl rfl rfl rfl rfl (up (uBc l _ _ (by omega) (le3 hl (by first | assumption | exact hq4 _ | exact hq5 _)))) rfl (by rfl) (by rfl) rfl rfl rfl ?_;refine uAf ?_;refine uBu rfl ?_ (⟨⟨_,rfl,?_⟩,⟨⟨_,rfl,?_⟩,trivial⟩⟩) (by kernel_rfl)
   all_goals first | exact (rfl : uCg []=X.tup []) | (rw [uA2 hw hline (uEh l n (l.getD p.at' tk0).line q)]; done) | (rw [uA2 hw hline (uEh l n (l.getD p.at' tk0).line q)]; rfl) | (rw [uA2 hw hline (uEh l n (l.getD p.at' tk0).line q)]; simp only [Nar.cells,strR,List.map_append]; rfl)
  ·try simp only [nn,uAh,T.rows_len,Tk.rows_len] at hcu0
   have hn0 : w≠uFJ:=hcu0
   refine uAe (uAb ?_);refine uAa rfl rfl rfl (uAY rfl rfl gU gU rfl) ?_;refine uAa rfl rfl rfl (uAd rfl gU) ?_;refine uAf ?_;refine uAl rfl (fun hcu1=>?_) (fun hcu1=>?_)
   ·try simp only [nn,uAh,T.rows_len,Tk.rows_len] at hcu1
    have hwe : w=uDZ:=hcu1
    subst hwe
    refine uAb ?_;refine uAa rfl rfl rfl (uAc rfl gU) ?_;refine uAa rfl rfl rfl (uAc rfl gU) ?_;refine uC7 [⟨.o 0,0,pbx l q,pbx l (uB3 l q n.fresh).2⟩,⟨.o 1,0,n.cells,({ n with fresh:=(uB3 l q n.fresh).1 } : Nar).cells⟩] osN rfl rfl rfl rfl rfl rfl (ps2 rfl rfl) rfl rfl (uFz l q n hl hq1 (by omega)) rfl rfl rfl ?_;refine uAf ?_;refine uAn (s:=⟨[(0,_,_)],[(.o 0,_),(.o 1,_)],[(.b (.o 1) 1,_),(.b (.o 1) 2,_),(.b (.o 1) 3,_),(.b (.o 1) 4,_),(.b (.o 1) 5,_)],[]⟩) (uAj (⟨sx rfl,trivial⟩) (⟨sx rfl,sx rfl,trivial⟩) (⟨rfl,rfl,rfl,rfl,rfl,trivial⟩)) ?_;refine uAb ?_;refine uAa rfl rfl rfl (uAc rfl gU) ?_;refine uAI (.o 0) rfl rfl rfl rfl rfl rfl (up (uBc l _ _ (by omega) (le3 hl (by first | assumption | exact hq4 _ | exact hq5 _)))) rfl (by rfl) (by rfl) rfl rfl rfl ?_;refine uAf ?_;refine uBu rfl ?_ (⟨⟨_,rfl,?_⟩,⟨⟨_,rfl,?_⟩,trivial⟩⟩) (by kernel_rfl)
    all_goals first | exact (rfl : uCg []=X.tup []) | (rw [uA2 hw hline (uEf l n (l.getD p.at' tk0).line q)]; done) | (rw [uA2 hw hline (uEf l n (l.getD p.at' tk0).line q)]; rfl) | (rw [uA2 hw hline (uEf l n (l.getD p.at' tk0).line q)]; simp only [Nar.cells,strR,List.map_append]; rfl)
   ·try simp only [nn,uAh,T.rows_len,Tk.rows_len] at hcu1
    have hn1 : w≠uDZ:=hcu1
    refine uAe (uAb ?_);refine uAa rfl rfl rfl (uAY rfl rfl gU gU rfl) ?_;refine uAa rfl rfl rfl (uAd rfl gU) ?_;refine uAf ?_;refine uAl rfl (fun hcu2=>?_) (fun hcu2=>?_)
    ·try simp only [nn,uAh,T.rows_len,Tk.rows_len] at hcu2
     have hwe : w=uFI:=hcu2
     subst hwe
     refine awp_drawn' (by kernel_rfl) ?_;refine uAi rfl rfl rfl rfl (uAc rfl gU) ?_;refine uAi rfl rfl rfl rfl (uAc rfl gU) ?_;refine uAi rfl rfl rfl rfl (uAx rfl gU) ?_;refine uAi rfl rfl rfl rfl (uAg rfl gU rfl rfl) ?_;refine uBW rfl rfl rfl rfl rfl rfl rfl rfl rfl rfl rfl rfl ?_;refine uAi rfl rfl rfl rfl (uAc rfl gU) ?_;refine uEg (.o 0) rfl rfl rfl rfl rfl rfl rfl (up (uDF l q (by omega) hq1)) rfl (by rfl) (by rfl) rfl rfl rfl ?_;refine uBT rfl rfl rfl rfl rfl rfl rfl rfl rfl rfl rfl (by first | omega | (simp only [List.length_append,List.length_singleton,uAh]; omega)) (by first | omega | (simp only [List.length_append,List.length_singleton,uAh]; omega)) ?_;refine uAi rfl rfl rfl rfl (uAx rfl gU) ?_;refine uAi rfl rfl rfl rfl (uAg rfl gU rfl rfl) ?_;refine uBZ rfl rfl rfl rfl rfl rfl rfl rfl rfl rfl rfl rfl ?_;refine uBg (by kernel_rfl) ?_;refine uAn (s:=⟨[(0,_,_)],[(.o 0,_),(.o 1,_)],[(.b (.o 1) 1,_),(.b (.o 1) 2,_),(.b (.o 1) 3,_),(.b (.o 1) 4,_),(.b (.o 1) 5,_)],[]⟩) (uAj (⟨sx rfl,trivial⟩) (⟨sx rfl,sx rfl,trivial⟩) (⟨(ak2 rfl (ak rfl (ak rfl (ak2 rfl (ak rfl (ak rfl (ak2 rfl (ak rfl (ak rfl (ak rfl (ak rfl (rfl)))))))))))),(ak2 rfl (ak rfl (ak rfl (ak2 rfl (ak rfl (ak rfl (ak2 rfl (ak rfl (ak rfl (ak rfl (ak rfl (rfl)))))))))))),rfl,(ak2 rfl (ak rfl (ak rfl (ak2 rfl (ak rfl (ak rfl (ak2 rfl (ak rfl (ak rfl (ak rfl (ak rfl (rfl)))))))))))),(ak2 rfl (ak rfl (ak rfl (ak2 rfl (ak rfl (ak rfl (ak2 rfl (ak rfl (ak rfl (ak rfl (ak rfl (rfl)))))))))))),trivial⟩)) ?_
     refine uAb ?_;refine uAa rfl rfl rfl (uAc rfl gU) ?_;refine uAI (.o 0) rfl rfl rfl rfl rfl rfl (up (uBc l _ _ (by omega) (le3 hl (by first | assumption | exact hq4 _ | exact hq5 _)))) rfl (by rfl) (by rfl) rfl rfl rfl ?_;refine uAf ?_;refine uBu rfl ?_ (⟨⟨_,rfl,?_⟩,⟨⟨_,rfl,?_⟩,trivial⟩⟩) (by kernel_rfl)
     all_goals first | exact (rfl : uCg []=X.tup []) | (rw [uA2 hw hline (uD6 l n (l.getD p.at' tk0).line q)]; done) | (rw [uA2 hw hline (uD6 l n (l.getD p.at' tk0).line q)]; rfl) | (rw [uA2 hw hline (uD6 l n (l.getD p.at' tk0).line q)]; simp only [Nar.cells,strR,List.map_append]; rfl)
    ·try simp only [nn,uAh,T.rows_len,Tk.rows_len] at hcu2
     have hn2 : w≠uFI:=hcu2
     refine uAe (uAb ?_);refine uAa rfl rfl rfl (uAY rfl rfl gU gU rfl) ?_;refine uAa rfl rfl rfl (uAd rfl gU) ?_;refine uAf ?_;refine uAn (s:=⟨[(0,_,_),(1,_,_),(4,_,_),(28,_,_),(58,_,_)],[(.o 0,_),(.o 1,_)],[(.b (.o 1) 1,_),(.b (.o 1) 2,_),(.b (.o 1) 3,_),(.b (.o 1) 4,_),(.b (.o 1) 5,_)],[]⟩) (uAj (⟨sx rfl,sx rfl,sx rfl,sx rfl,sx rfl,trivial⟩) (⟨sx rfl,sx rfl,trivial⟩) (⟨rfl,rfl,rfl,rfl,rfl,trivial⟩)) ?_;refine uAl rfl (fun hcu3=>?_) (fun hcu3=>?_)
     ·try simp only [nn,uAh,T.rows_len,Tk.rows_len] at hcu3
      have hwe : w=wMsg:=hcu3
      subst hwe
      refine uAb ?_;refine uAa rfl rfl rfl (uAc rfl gU) ?_;refine uAa rfl rfl rfl (uAc rfl gU) ?_;refine uAa rfl rfl rfl (uAc rfl gU) ?_;refine uC7 [⟨.o 0,0,pbx l q,pbx l (uCL l ((l.getD p.at' tk0).line) q).2⟩,⟨.o 1,0,n.cells,({ n with steps:=n.steps++[(uCL l ((l.getD p.at' tk0).line) q).1] } : Nar).cells⟩] osN rfl rfl rfl rfl rfl rfl (ps2 rfl rfl) rfl rfl (uHv l q n ((l.getD p.at' tk0).line) hl hq1 (by omega)) rfl rfl rfl ?_;refine uAf ?_;refine uAb ?_;refine uAa rfl rfl rfl (uAc rfl gU) ?_;refine uAI (.o 0) rfl rfl rfl rfl rfl rfl (up (uBc l _ _ (by omega) (le3 hl (by first | assumption | exact hq4 _ | exact hq5 _)))) rfl (by rfl) (by rfl) rfl rfl rfl ?_;refine uAf ?_;refine uBu rfl ?_ (⟨⟨_,rfl,?_⟩,⟨⟨_,rfl,?_⟩,trivial⟩⟩) (by kernel_rfl)
      all_goals first | exact (rfl : uCg []=X.tup []) | (rw [uA2 hw hline (uEe l n (l.getD p.at' tk0).line q)]; done) | (rw [uA2 hw hline (uEe l n (l.getD p.at' tk0).line q)]; rfl) | (rw [uA2 hw hline (uEe l n (l.getD p.at' tk0).line q)]; simp only [Nar.cells,strR,List.map_append]; rfl)
     ·try simp only [nn,uAh,T.rows_len,Tk.rows_len] at hcu3
      have hn3 : w≠wMsg:=hcu3
      refine uAe (uAb ?_);refine uAa rfl rfl rfl (uAY rfl rfl gU gU rfl) ?_;refine uAa rfl rfl rfl (uAd rfl gU) ?_;refine uAf ?_;refine uAl rfl (fun hcu4=>?_) (fun hcu4=>?_)
      ·try simp only [nn,uAh,T.rows_len,Tk.rows_len] at hcu4
       have hwe : w=uFA:=hcu4
       subst hwe
       refine uAb ?_;refine uAa rfl rfl rfl (uAc rfl gU) ?_;refine uAa rfl rfl rfl (uAc rfl gU) ?_;refine uAa rfl rfl rfl (uAc rfl gU) ?_;refine uC7 [⟨.o 0,0,pbx l q,pbx l (uCr l ((l.getD p.at' tk0).line) q).2⟩,⟨.o 1,0,n.cells,({ n with goals:=n.goals++[(uCr l ((l.getD p.at' tk0).line) q).1] } : Nar).cells⟩] osN rfl rfl rfl rfl rfl rfl (ps2 rfl rfl) rfl rfl (uG4 l q n ((l.getD p.at' tk0).line) hl hq1 (by omega)) rfl rfl rfl ?_;refine uAf ?_;refine uAn (s:=⟨[(0,_,_)],[(.o 0,_),(.o 1,_)],[(.b (.o 1) 1,_),(.b (.o 1) 2,_),(.b (.o 1) 3,_),(.b (.o 1) 4,_),(.b (.o 1) 5,_)],[]⟩) (uAj (⟨sx rfl,trivial⟩) (⟨sx rfl,sx rfl,trivial⟩) (⟨rfl,rfl,rfl,rfl,rfl,trivial⟩)) ?_;refine uAb ?_;refine uAa rfl rfl rfl (uAc rfl gU) ?_;refine uAI (.o 0) rfl rfl rfl rfl rfl rfl (up (uBc l _ _ (by omega) (le3 hl (by first | assumption | exact hq4 _ | exact hq5 _)))) rfl (by rfl) (by rfl) rfl rfl rfl ?_;refine uAf ?_;refine uBu rfl ?_ (⟨⟨_,rfl,?_⟩,⟨⟨_,rfl,?_⟩,trivial⟩⟩) (by kernel_rfl)
       all_goals first | exact (rfl : uCg []=X.tup []) | (rw [uA2 hw hline (uEc l n (l.getD p.at' tk0).line q)]; done) | (rw [uA2 hw hline (uEc l n (l.getD p.at' tk0).line q)]; rfl) | (rw [uA2 hw hline (uEc l n (l.getD p.at' tk0).line q)]; simp only [Nar.cells,strR,List.map_append]; rfl)
      ·try simp only [nn,uAh,T.rows_len,Tk.rows_len] at hcu4
       have hn4 : w≠uFA:=hcu4
       refine uAp ?_;refine uAb ?_;refine uAa rfl rfl rfl (uAc rfl gU) ?_;refine uAI (.o 0) rfl rfl rfl rfl rfl rfl (up (uBc l _ _ (by omega) (le3 hl (by first | assumption | exact hq4 _ | exact hq5 _)))) rfl (by rfl) (by rfl) rfl rfl rfl ?_;refine uAf ?_;refine uBu rfl ?_ (⟨⟨_,rfl,?_⟩,⟨⟨_,rfl,?_⟩,trivial⟩⟩) (by kernel_rfl)
       all_goals first | exact (rfl : uCg []=X.tup []) | (rw [uA2 hw hline (uFV l n (l.getD p.at' tk0).line q hn0 hn1 hn2 hn3 hn4)]; done) | (rw [uA2 hw hline (uFV l n (l.getD p.at' tk0).line q hn0 hn1 hn2 hn3 hn4)]; rfl)
 ·try simp only [nn,uAh,T.rows_len,Tk.rows_len] at hcx
  have hline : uCH l p=0:=by rw [uCH,if_neg (by omega)]
  refine uAp ?_;refine uAe ?_;refine uAe (uAb ?_);refine uAa rfl rfl rfl (uAc rfl gU) ?_;refine uAK (xs:=[_,_,_,_,_]) rfl rfl rfl rfl rfl rfl rfl rfl rfl gU rfl ?_;refine uAI (.o 0) rfl rfl rfl rfl rfl rfl (up hns) rfl (by rfl) (by rfl) rfl rfl rfl ?_;refine uAf ?_;refine uAt ?_;refine uAe (uAb ?_);refine uAa rfl rfl rfl (uAY rfl rfl gU gU rfl) ?_;refine uAa rfl rfl rfl (uAd rfl gU) ?_;refine uAf ?_;refine uAn (s:=⟨[(0,_,_),(1,_,_),(4,_,_),(28,_,_),(29,_,_)],[(.o 0,_),(.o 1,_)],[(.b (.o 1) 1,_),(.b (.o 1) 2,_),(.b (.o 1) 3,_),(.b (.o 1) 4,_),(.b (.o 1) 5,_)],[]⟩) (uAj (⟨sx rfl,sx rfl,sx rfl,sx rfl,sx rfl,trivial⟩) (⟨sx rfl,sx rfl,trivial⟩) (⟨rfl,rfl,rfl,rfl,rfl,trivial⟩)) ?_;refine uAl rfl (fun hcv0=>?_) (fun hcv0=>?_)
  ·try simp only [nn,uAh,T.rows_len,Tk.rows_len] at hcv0
   have hwe : w=uFJ:=hcv0
   subst hwe
   refine awp_drawn' (by kernel_rfl) ?_;refine uAi rfl rfl rfl rfl (uAc rfl gU) ?_;refine uAi rfl rfl rfl rfl (uAc rfl gU) ?_;refine uAi rfl rfl rfl rfl (uAx rfl gU) ?_;refine uAi rfl rfl rfl rfl (uAg rfl gU rfl rfl) ?_;refine uBW rfl rfl rfl rfl rfl rfl rfl rfl rfl rfl rfl rfl ?_;refine uAi rfl rfl rfl rfl (uAc rfl gU) ?_;refine uEg (.o 0) rfl rfl rfl rfl rfl rfl rfl (up (uDF l q (by omega) hq1)) rfl (by rfl) (by rfl) rfl rfl rfl ?_;refine uBT rfl rfl rfl rfl rfl rfl rfl rfl rfl rfl rfl (by first | omega | (simp only [List.length_append,List.length_singleton,uAh]; omega)) (by first | omega | (simp only [List.length_append,List.length_singleton,uAh]; omega)) ?_;refine uAi rfl rfl rfl rfl (uAx rfl gU) ?_;refine uAi rfl rfl rfl rfl (uAg rfl gU rfl rfl) ?_;refine uBZ rfl rfl rfl rfl rfl rfl rfl rfl rfl rfl rfl rfl ?_;refine uBg (by kernel_rfl) ?_;refine uAn (s:=⟨[(0,_,_)],[(.o 0,_),(.o 1,_)],[(.b (.o 1) 1,_),(.b (.o 1) 2,_),(.b (.o 1) 3,_),(.b (.o 1) 4,_),(.b (.o 1) 5,_)],[]⟩) (uAj (⟨sx rfl,trivial⟩) (⟨sx rfl,sx rfl,trivial⟩) (⟨rfl,(ak2 rfl (ak rfl (ak rfl (ak2 rfl (ak rfl (ak rfl (ak2 rfl (ak rfl (ak rfl (ak rfl (ak rfl (rfl)))))))))))),(ak2 rfl (ak rfl (ak rfl (ak2 rfl (ak rfl (ak rfl (ak2 rfl (ak rfl (ak rfl (ak rfl (ak rfl (rfl)))))))))))),(ak2 rfl (ak rfl (ak rfl (ak2 rfl (ak rfl (ak rfl (ak2 rfl (ak rfl (ak rfl (ak rfl (ak rfl (rfl)))))))))))),(ak2 rfl (ak rfl (ak rfl (ak2 rfl (ak rfl (ak rfl (ak2 rfl (ak rfl (ak rfl (ak rfl (ak rfl (rfl)))))))))))),trivial⟩)) ?_
   refine uAb ?_;refine uAa rfl rfl rfl (uAc rfl gU) ?_;refine uAI (.o 0) rfl rfl rfl rfl rfl rfl (up (uBc l _ _ (by omega) (le3 hl (by first | assumption | exact hq4 _ | exact hq5 _)))) rfl (by rfl) (by rfl) rfl rfl rfl ?_;refine uAf ?_;refine uBu rfl ?_ (⟨⟨_,rfl,?_⟩,⟨⟨_,rfl,?_⟩,trivial⟩⟩) (by kernel_rfl)
   all_goals first | exact (rfl : uCg []=X.tup []) | (rw [uA2 hw hline (uEh l n 0 q)]; done) | (rw [uA2 hw hline (uEh l n 0 q)]; rfl) | (rw [uA2 hw hline (uEh l n 0 q)]; simp only [Nar.cells,strR,List.map_append]; rfl)
  ·try simp only [nn,uAh,T.rows_len,Tk.rows_len] at hcv0
   have hn0 : w≠uFJ:=hcv0
   refine uAe (uAb ?_);refine uAa rfl rfl rfl (uAY rfl rfl gU gU rfl) ?_;refine uAa rfl rfl rfl (uAd rfl gU) ?_;refine uAf ?_;refine uAl rfl (fun hcv1=>?_) (fun hcv1=>?_)
   ·try simp only [nn,uAh,T.rows_len,Tk.rows_len] at hcv1
    have hwe : w=uDZ:=hcv1
    subst hwe
    refine uAb ?_;refine uAa rfl rfl rfl (uAc rfl gU) ?_;refine uAa rfl rfl rfl (uAc rfl gU) ?_;refine uC7 [⟨.o 0,0,pbx l q,pbx l (uB3 l q n.fresh).2⟩,⟨.o 1,0,n.cells,({ n with fresh:=(uB3 l q n.fresh).1 } : Nar).cells⟩] osN rfl rfl rfl rfl rfl rfl (ps2 rfl rfl) rfl rfl (uFz l q n hl hq1 (by omega)) rfl rfl rfl ?_;refine uAf ?_;refine uAn (s:=⟨[(0,_,_)],[(.o 0,_),(.o 1,_)],[(.b (.o 1) 1,_),(.b (.o 1) 2,_),(.b (.o 1) 3,_),(.b (.o 1) 4,_),(.b (.o 1) 5,_)],[]⟩) (uAj (⟨sx rfl,trivial⟩) (⟨sx rfl,sx rfl,trivial⟩) (⟨rfl,rfl,rfl,rfl,rfl,trivial⟩)) ?_;refine uAb ?_;refine uAa rfl rfl rfl (uAc rfl gU) ?_;refine uAI (.o 0) rfl rfl rfl rfl rfl rfl (up (uBc l _ _ (by omega) (le3 hl (by first | assumption | exact hq4 _ | exact hq5 _)))) rfl (by rfl) (by rfl) rfl rfl rfl ?_;refine uAf ?_;refine uBu rfl ?_ (⟨⟨_,rfl,?_⟩,⟨⟨_,rfl,?_⟩,trivial⟩⟩) (by kernel_rfl)
    all_goals first | exact (rfl : uCg []=X.tup []) | (rw [uA2 hw hline (uEf l n 0 q)]; done) | (rw [uA2 hw hline (uEf l n 0 q)]; rfl) | (rw [uA2 hw hline (uEf l n 0 q)]; simp only [Nar.cells,strR,List.map_append]; rfl)
   ·try simp only [nn,uAh,T.rows_len,Tk.rows_len] at hcv1
    have hn1 : w≠uDZ:=hcv1
    refine uAe (uAb ?_);refine uAa rfl rfl rfl (uAY rfl rfl gU gU rfl) ?_;refine uAa rfl rfl rfl (uAd rfl gU) ?_;refine uAf ?_;refine uAl rfl (fun hcv2=>?_) (fun hcv2=>?_)
    ·try simp only [nn,uAh,T.rows_len,Tk.rows_len] at hcv2
     have hwe : w=uFI:=hcv2
     subst hwe
     refine awp_drawn' (by kernel_rfl) ?_;refine uAi rfl rfl rfl rfl (uAc rfl gU) ?_;refine uAi rfl rfl rfl rfl (uAc rfl gU) ?_;refine uAi rfl rfl rfl rfl (uAx rfl gU) ?_;refine uAi rfl rfl rfl rfl (uAg rfl gU rfl rfl) ?_;refine uBW rfl rfl rfl rfl rfl rfl rfl rfl rfl rfl rfl rfl ?_;refine uAi rfl rfl rfl rfl (uAc rfl gU) ?_;refine uEg (.o 0) rfl rfl rfl rfl rfl rfl rfl (up (uDF l q (by omega) hq1)) rfl (by rfl) (by rfl) rfl rfl rfl ?_;refine uBT rfl rfl rfl rfl rfl rfl rfl rfl rfl rfl rfl (by first | omega | (simp only [List.length_append,List.length_singleton,uAh]; omega)) (by first | omega | (simp only [List.length_append,List.length_singleton,uAh]; omega)) ?_;refine uAi rfl rfl rfl rfl (uAx rfl gU) ?_;refine uAi rfl rfl rfl rfl (uAg rfl gU rfl rfl) ?_;refine uBZ rfl rfl rfl rfl rfl rfl rfl rfl rfl rfl rfl rfl ?_;refine uBg (by kernel_rfl) ?_;refine uAn (s:=⟨[(0,_,_)],[(.o 0,_),(.o 1,_)],[(.b (.o 1) 1,_),(.b (.o 1) 2,_),(.b (.o 1) 3,_),(.b (.o 1) 4,_),(.b (.o 1) 5,_)],[]⟩) (uAj (⟨sx rfl,trivial⟩) (⟨sx rfl,sx rfl,trivial⟩) (⟨(ak2 rfl (ak rfl (ak rfl (ak2 rfl (ak rfl (ak rfl (ak2 rfl (ak rfl (ak rfl (ak rfl (ak rfl (rfl)))))))))))),(ak2 rfl (ak rfl (ak rfl (ak2 rfl (ak rfl (ak rfl (ak2 rfl (ak rfl (ak rfl (ak rfl (ak rfl (rfl)))))))))))),rfl,(ak2 rfl (ak rfl (ak rfl (ak2 rfl (ak rfl (ak rfl (ak2 rfl (ak rfl (ak rfl (ak rfl (ak rfl (rfl)))))))))))),(ak2 rfl (ak rfl (ak rfl (ak2 rfl (ak rfl (ak rfl (ak2 rfl (ak rfl (ak rfl (ak rfl (ak rfl (rfl)))))))))))),trivial⟩)) ?_
     refine uAb ?_;refine uAa rfl rfl rfl (uAc rfl gU) ?_;refine uAI (.o 0) rfl rfl rfl rfl rfl rfl (up (uBc l _ _ (by omega) (le3 hl (by first | assumption | exact hq4 _ | exact hq5 _)))) rfl (by rfl) (by rfl) rfl rfl rfl ?_;refine uAf ?_;refine uBu rfl ?_ (⟨⟨_,rfl,?_⟩,⟨⟨_,rfl,?_⟩,trivial⟩⟩) (by kernel_rfl)
     all_goals first | exact (rfl : uCg []=X.tup []) | (rw [uA2 hw hline (uD6 l n 0 q)]; done) | (rw [uA2 hw hline (uD6 l n 0 q)]; rfl) | (rw [uA2 hw hline (uD6 l n 0 q)]; simp only [Nar.cells,strR,List.map_append]; rfl)
    ·try simp only [nn,uAh,T.rows_len,Tk.rows_len] at hcv2
     have hn2 : w≠uFI:=hcv2
     refine uAe (uAb ?_);refine uAa rfl rfl rfl (uAY rfl rfl gU gU rfl) ?_;refine uAa rfl rfl rfl (uAd rfl gU) ?_;refine uAf ?_;refine uAn (s:=⟨[(0,_,_),(1,_,_),(4,_,_),(28,_,_),(58,_,_)],[(.o 0,_),(.o 1,_)],[(.b (.o 1) 1,_),(.b (.o 1) 2,_),(.b (.o 1) 3,_),(.b (.o 1) 4,_),(.b (.o 1) 5,_)],[]⟩) (uAj (⟨sx rfl,sx rfl,sx rfl,sx rfl,sx rfl,trivial⟩) (⟨sx rfl,sx rfl,trivial⟩) (⟨rfl,rfl,rfl,rfl,rfl,trivial⟩)) ?_;refine uAl rfl (fun hcv3=>?_) (fun hcv3=>?_)
     ·try simp only [nn,uAh,T.rows_len,Tk.rows_len] at hcv3
      have hwe : w=wMsg:=hcv3
      subst hwe
      refine uAb ?_;refine uAa rfl rfl rfl (uAc rfl gU) ?_;refine uAa rfl rfl rfl (uAc rfl gU) ?_;refine uAa rfl rfl rfl (uAc rfl gU) ?_;refine uC7 [⟨.o 0,0,pbx l q,pbx l (uCL l (0) q).2⟩,⟨.o 1,0,n.cells,({ n with steps:=n.steps++[(uCL l (0) q).1] } : Nar).cells⟩] osN rfl rfl rfl rfl rfl rfl (ps2 rfl rfl) rfl rfl (uHv l q n (0) hl hq1 (by omega)) rfl rfl rfl ?_;refine uAf ?_;refine uAb ?_;refine uAa rfl rfl rfl (uAc rfl gU) ?_;refine uAI (.o 0) rfl rfl rfl rfl rfl rfl (up (uBc l _ _ (by omega) (le3 hl (by first | assumption | exact hq4 _ | exact hq5 _)))) rfl (by rfl) (by rfl) rfl rfl rfl ?_;refine uAf ?_;refine uBu rfl ?_ (⟨⟨_,rfl,?_⟩,⟨⟨_,rfl,?_⟩,trivial⟩⟩) (by kernel_rfl)
      all_goals first | exact (rfl : uCg []=X.tup []) | (rw [uA2 hw hline (uEe l n 0 q)]; done) | (rw [uA2 hw hline (uEe l n 0 q)]; rfl) | (rw [uA2 hw hline (uEe l n 0 q)]; simp only [Nar.cells,strR,List.map_append]; rfl)
     ·try simp only [nn,uAh,T.rows_len,Tk.rows_len] at hcv3
      have hn3 : w≠wMsg:=hcv3
      refine uAe (uAb ?_);refine uAa rfl rfl rfl (uAY rfl rfl gU gU rfl) ?_;refine uAa rfl rfl rfl (uAd rfl gU) ?_;refine uAf ?_;refine uAl rfl (fun hcv4=>?_) (fun hcv4=>?_)
      ·try simp only [nn,uAh,T.rows_len,Tk.rows_len] at hcv4
       have hwe : w=uFA:=hcv4
       subst hwe
       refine uAb ?_;refine uAa rfl rfl rfl (uAc rfl gU) ?_;refine uAa rfl rfl rfl (uAc rfl gU) ?_;refine uAa rfl rfl rfl (uAc rfl gU) ?_;refine uC7 [⟨.o 0,0,pbx l q,pbx l (uCr l (0) q).2⟩,⟨.o 1,0,n.cells,({ n with goals:=n.goals++[(uCr l (0) q).1] } : Nar).cells⟩] osN rfl rfl rfl rfl rfl rfl (ps2 rfl rfl) rfl rfl (uG4 l q n (0) hl hq1 (by omega)) rfl rfl rfl ?_;refine uAf ?_;refine uAn (s:=⟨[(0,_,_)],[(.o 0,_),(.o 1,_)],[(.b (.o 1) 1,_),(.b (.o 1) 2,_),(.b (.o 1) 3,_),(.b (.o 1) 4,_),(.b (.o 1) 5,_)],[]⟩) (uAj (⟨sx rfl,trivial⟩) (⟨sx rfl,sx rfl,trivial⟩) (⟨rfl,rfl,rfl,rfl,rfl,trivial⟩)) ?_;refine uAb ?_;refine uAa rfl rfl rfl (uAc rfl gU) ?_;refine uAI (.o 0) rfl rfl rfl rfl rfl rfl (up (uBc l _ _ (by omega) (le3 hl (by first | assumption | exact hq4 _ | exact hq5 _)))) rfl (by rfl) (by rfl) rfl rfl rfl ?_;refine uAf ?_;refine uBu rfl ?_ (⟨⟨_,rfl,?_⟩,⟨⟨_,rfl,?_⟩,trivial⟩⟩) (by kernel_rfl)
       all_goals first | exact (rfl : uCg []=X.tup []) | (rw [uA2 hw hline (uEc l n 0 q)]; done) | (rw [uA2 hw hline (uEc l n 0 q)]; rfl) | (rw [uA2 hw hline (uEc l n 0 q)]; simp only [Nar.cells,strR,List.map_append]; rfl)
      ·try simp only [nn,uAh,T.rows_len,Tk.rows_len] at hcv4
       have hn4 : w≠uFA:=hcv4
       refine uAp ?_;refine uAb ?_;refine uAa rfl rfl rfl (uAc rfl gU) ?_;refine uAI (.o 0) rfl rfl rfl rfl rfl rfl (up (uBc l _ _ (by omega) (le3 hl (by first | assumption | exact hq4 _ | exact hq5 _)))) rfl (by rfl) (by rfl) rfl rfl rfl ?_;refine uAf ?_;refine uBu rfl ?_ (⟨⟨_,rfl,?_⟩,⟨⟨_,rfl,?_⟩,trivial⟩⟩) (by kernel_rfl)
       all_goals first | exact (rfl : uCg []=X.tup []) | (rw [uA2 hw hline (uFV l n 0 q hn0 hn1 hn2 hn3 hn4)]; done) | (rw [uA2 hw hline (uFV l n 0 q hn0 hn1 hn2 hn3 hn4)]; rfl)
end Go.Proofs.YtnjjdbapadkomaaGreatDoor
namespace Go.Proofs.YtnjjdbapadkomaaGreatDoor
open Go Go.Abs
def t0T : T:=⟨0,[],0,[]⟩
abbrev xtie (r : T × Int × Int) : X:=.tup [.agg r.1.cells, .c (.i .i64 r.2.1), .c (.i .i64 r.2.2)]
def uHL (s : List UInt8) : T × Int × Int :=
 if (tokP s).2.2≠0 then (t0T,(tokP s).2.1,(tokP s).2.2)
 else if (endE (tokP s).1 (uAR (tokP s).1 ((tokP s).1.length + 1) ⟨0,false⟩).2).2≠0 then (t0T,(endE (tokP s).1 (uAR (tokP s).1 ((tokP s).1.length + 1) ⟨0,false⟩).2).1,(endE (tokP s).1 (uAR (tokP s).1 ((tokP s).1.length + 1) ⟨0,false⟩).2).2)
 else if uC0 uAN (uAR (tokP s).1 ((tokP s).1.length + 1) ⟨0,false⟩).1≠0 then (t0T,0,uC0 uAN (uAR (tokP s).1 ((tokP s).1.length + 1) ⟨0,false⟩).1)
 else ((uAR (tokP s).1 ((tokP s).1.length + 1) ⟨0,false⟩).1,0,0)
theorem uKS (s : List UInt8) (hs : s.length≤100000) : Ctr sys 18 [xs s] [] (xtie (uHL s)) none []:=by
 have hcnt:=uGa s
 have htl:=Tk.rows_len (tokP s).1
 have hsz:=uDA (tokP s).1 ((tokP s).1.length + 1) ⟨0,false⟩
 have hat:=(uCo (tokP s).1 ((tokP s).1.length + 1) ⟨0,false⟩).2 (Nat.zero_le _)
 dsimp only at hsz
 refine uAv Tryz.func18 rfl rfl rfl rfl rfl rfl ?_;refine uAe (uAb ?_);refine uAu rfl (uAP rfl rfl rfl) ?_;refine uAa rfl rfl rfl (uAd rfl gU) ?_;refine uAa rfl rfl rfl (uAd rfl gU) ?_;refine uAf ?_;refine uAe (uAb ?_);refine uAa rfl rfl rfl (uAc rfl gU) ?_;refine uAw rfl rfl rfl rfl rfl rfl gU gU (uFO _ (by omega)) rfl ?_;refine uAa rfl rfl rfl (uAc rfl gU) ?_;refine uAa rfl rfl rfl (uAG rfl gU rfl) ?_;refine uAa rfl rfl rfl (uAG rfl gU rfl) ?_;refine uAa rfl rfl rfl (uAG rfl gU rfl) ?_;refine uAa rfl rfl rfl (uAd rfl gU) ?_;refine uAa rfl rfl rfl (uAd rfl gU) ?_;refine uAa rfl rfl rfl (uAd rfl gU) ?_;refine uAf ?_;refine uAn (s:=⟨[(2,_,_),(5,_,_),(6,_,_),(7,_,_)],[(.l 2,_)],[],[]⟩) (uAj (⟨sx rfl,sx rfl,sx rfl,sx rfl,trivial⟩) (⟨sx rfl,trivial⟩) trivial) ?_;refine uAe ?_;refine uAe (uAb ?_);refine uAa rfl rfl rfl (uAc rfl gU) ?_;refine uAa rfl rfl rfl (uAk rfl rfl gU gU rfl) ?_;refine uAf ?_;refine uAl rfl (fun hc=>?_) (fun hc=>?_)
 ·try simp only [nn,uAh,T.rows_len,Tk.rows_len] at hc
  refine uAe (uAb ?_);refine uAa rfl rfl rfl (uAU rfl Tryz.underlying39 rfl gU) ?_;refine uAa rfl rfl rfl (uAc rfl gU) ?_;refine uAa rfl rfl rfl (uAc rfl gU) ?_;refine uAu rfl (uAz rfl rfl rfl rfl rfl rfl rfl) ?_;refine uAa rfl rfl rfl (uAd rfl gU) ?_;refine uAa rfl rfl rfl (uAd rfl gU) ?_;refine uAf ?_;refine uAo ?_
  repeat (first | refine tR ?_ | refine bR ?_)
  refine uAq rfl ?_ trivial
  (rw [uHL,if_pos hc]; rfl)
 ·try simp only [nn,uAh,T.rows_len,Tk.rows_len] at hc
  refine uAp ?_;refine uAe (uAb ?_);refine uAa rfl rfl rfl (uAc rfl gU) ?_;refine uAa rfl rfl rfl (uAU rfl Tryz.underlying86 rfl gU) ?_;refine uAu rfl (uAT rfl rfl rfl rfl) ?_;refine uAa rfl rfl rfl (uAd rfl gU) ?_;refine uAf ?_;refine uAn (s:=⟨[(2,_,_),(8,_,_)],[(.l 2,_),(.l 26,_)],[],[]⟩) (uAj (⟨sx rfl,sx rfl,trivial⟩) (⟨sx rfl,sx rfl,trivial⟩) trivial) ?_;refine uAe (uAb ?_);refine uAa rfl rfl rfl (uAc rfl gU) ?_;refine uAI (.l 26) rfl rfl rfl rfl rfl rfl (uFn (tokP s).1 (by omega) ((tokP s).1.length + 1) ⟨0,false⟩ (Nat.zero_le _) (by dsimp only; omega)) rfl (by rfl) (by rfl) rfl rfl rfl ?_;refine uAu rfl (uAP rfl rfl rfl) ?_;refine uAu rfl (uAz rfl rfl rfl rfl rfl rfl rfl) ?_;refine uAf ?_;refine uAe ?_;refine uAe (uAb ?_);refine uAa rfl rfl rfl (uAc rfl gU) ?_;refine uAI (.l 26) rfl rfl rfl rfl rfl rfl (uE2 _ _ (by omega)) rfl (by rfl) (by rfl) rfl rfl rfl ?_;refine uAa rfl rfl rfl (uAc rfl gU) ?_;refine uAa rfl rfl rfl (uAG rfl gU rfl) ?_;refine uAa rfl rfl rfl (uAG rfl gU rfl) ?_;refine uAa rfl rfl rfl (uAd rfl gU) ?_;refine uAa rfl rfl rfl (uAd rfl gU) ?_;refine uAf ?_;refine uAn (s:=⟨[(2,_,_),(9,_,_),(10,_,_),(11,_,_)],[(.l 2,_),(.l 9,_)],[],[]⟩) (uAj (⟨sx rfl,sx rfl,sx rfl,sx rfl,trivial⟩) (⟨sx rfl,sx rfl,trivial⟩) trivial) ?_
  refine uAe (uAb ?_);refine uAa rfl rfl rfl (uAc rfl gU) ?_;refine uAa rfl rfl rfl (uAk rfl rfl gU gU rfl) ?_;refine uAf ?_;refine uAl rfl (fun hc2=>?_) (fun hc2=>?_)
  ·try simp only [nn,uAh,T.rows_len,Tk.rows_len] at hc2
   refine uAe (uAb ?_);refine uAa rfl rfl rfl (uAU rfl Tryz.underlying39 rfl gU) ?_;refine uAa rfl rfl rfl (uAc rfl gU) ?_;refine uAa rfl rfl rfl (uAc rfl gU) ?_;refine uAu rfl (uAz rfl rfl rfl rfl rfl rfl rfl) ?_;refine uAa rfl rfl rfl (uAd rfl gU) ?_;refine uAa rfl rfl rfl (uAd rfl gU) ?_;refine uAf ?_;refine uAo ?_
   repeat (first | refine tR ?_ | refine bR ?_)
   refine uAq rfl ?_ trivial
   (rw [uHL,if_neg (by simpa using hc),if_pos hc2]; rfl)
  ·try simp only [nn,uAh,T.rows_len,Tk.rows_len] at hc2
   refine uAp ?_;refine uAe ?_;refine uAe (uAb ?_);refine uAa rfl rfl rfl (uAs rfl gU rfl rfl rfl rfl rfl) ?_;refine uAw rfl rfl rfl rfl rfl rfl gU gU (uDv _ (by omega)) rfl ?_;refine uAa rfl rfl rfl (uAd rfl gU) ?_;refine uAf ?_;refine uAn (s:=⟨[(2,_,_),(9,_,_),(12,_,_)],[(.l 2,_),(.l 9,_)],[],[]⟩) (uAj (⟨sx rfl,sx rfl,sx rfl,trivial⟩) (⟨sx rfl,sx rfl,trivial⟩) trivial) ?_;refine uAe (uAb ?_);refine uAa rfl rfl rfl (uAc rfl gU) ?_;refine uAa rfl rfl rfl (uAk rfl rfl gU gU rfl) ?_;refine uAf ?_;refine uAl rfl (fun hc3=>?_) (fun hc3=>?_)
   ·try simp only [nn,uAh,T.rows_len,Tk.rows_len] at hc3
    refine uAe (uAb ?_);refine uAa rfl rfl rfl (uAU rfl Tryz.underlying39 rfl gU) ?_;refine uAa rfl rfl rfl (uAc rfl gU) ?_;refine uAu rfl (uAz rfl rfl rfl rfl rfl rfl rfl) ?_;refine uAa rfl rfl rfl (uAd rfl gU) ?_;refine uAa rfl rfl rfl (uAd rfl gU) ?_;refine uAf ?_;refine uAo ?_
    repeat (first | refine tR ?_ | refine bR ?_)
    refine uAq rfl ?_ trivial
    (rw [uHL,if_neg (by simpa using hc),if_neg (by simpa using hc2),if_pos hc3]; rfl)
   ·try simp only [nn,uAh,T.rows_len,Tk.rows_len] at hc3
    refine uAp ?_;refine uAe (uAb ?_);refine uAa rfl rfl rfl (uAs rfl gU rfl rfl rfl rfl rfl) ?_;refine uAu rfl (uAz rfl rfl rfl rfl rfl rfl rfl) ?_;refine uAa rfl rfl rfl (uAd rfl gU) ?_;refine uAa rfl rfl rfl (uAd rfl gU) ?_;refine uAf ?_;refine uAo ?_
    repeat (first | refine tR ?_ | refine bR ?_)
    refine uAq rfl ?_ trivial
    (rw [uHL,if_neg (by simpa using hc),if_neg (by simpa using hc2),if_neg (by simpa using hc3)]; rfl)
abbrev xnie (r : Nar × Int × Int) : X:=.tup [.agg r.1.cells, .c (.i .i64 r.2.1), .c (.i .i64 r.2.2)]
def uDP (l : List Tk) : Nar × Int × Int :=
 if (endE l (uDN l).2).2≠0 then (nar0,(endE l (uDN l).2).1,(endE l (uDN l).2).2)
 else if narE uAN (uDN l).1≠0 then (nar0,0,narE uAN (uDN l).1)
 else ((uDN l).1,0,0)
def uFd (s : List UInt8) : Nar × Int × Int:=if (tokP s).2.2≠0 then (nar0,(tokP s).2.1,(tokP s).2.2) else uDP (tokP s).1
theorem uJ1 {l : List Tk} {m : Nat} {n : Nar} {p : PS} (h : p.bad=true) : uDi l m n p=(n,p):=by
 cases m with
 | zero=>rfl
 | succ m=>rw [uDi,if_pos h]
theorem uIS {l : List Tk} {m : Nat} {n : Nar} {p : PS} (h : p.bad=false) (hq : symQ l p [125]=true) : uDi l (m + 1) n p=(n,p.go):=by
 rw [uDi,if_neg (by rw [h]; simp),if_pos hq]
theorem uKT {l : List Tk} {m : Nat} {n : Nar} {p : PS} (h : p.bad=false) (hq : symQ l p [125]=false) : uDi l (m + 1) n p=uDi l m (uCl l n p).1 (uCl l n p).2:=by
 rw [uDi,if_neg (by rw [h]; simp),if_neg (by rw [hq]; simp)]
theorem uLt (l : List Tk) (n : Nar) (p : PS) : p.at'≤(uCl l n p).2.at':=Nat.le_trans (uA4 l uB6 p).1 (Nat.le_trans (uGJ l n (uCH l p) (uAA l uB6 p).1 (uAA l uB6 p).2).1 (uBp l [59] _).1)
theorem uKC {l : List Tk} {n : Nar} {p : PS} (h : (n,p)=uDN l) (he : (endE l p).2≠0) : uDP l=(nar0,(endE l p).1,(endE l p).2):=by
 unfold uDP; rw [← h,if_pos he]
theorem uKb {l : List Tk} {n : Nar} {p : PS} (h : (n,p)=uDN l) (he : (endE l p).2=0) (hv : narE uAN n≠0) : uDP l=(nar0,0,narE uAN n):=by
 unfold uDP; rw [← h,if_neg (by simpa using he),if_pos hv]
theorem uKs {l : List Tk} {n : Nar} {p : PS} (h : (n,p)=uDN l) (he : (endE l p).2=0) (hv : narE uAN n=0) : uDP l=(n,0,0):=by
 unfold uDP; rw [← h,if_neg (by simpa using he),if_neg (by simpa using hv)]
set_option maxHeartbeats 4000000 in
theorem uJk (s : List UInt8) (hs : s.length≤100000) : Ctr sysO 16 [xs s] [] (xnie (uFd s)) none []:=by
 have hcnt:=uGa s
 have htl:=Tk.rows_len (tokP s).1
 obtain ⟨l,hl⟩ : ∃ l,(tokP s).1=l:=⟨_,rfl⟩
 have hll : l.length≤100000:=by rw [← hl]; omega
 have a1:=(uA4 l [uFK] ⟨0,false⟩).2 (Nat.zero_le _)
 have a2:=(uA4 l [] (uAA l [uFK] ⟨0,false⟩).2).2 a1
 have a3:=(uBp l [123] (uAA l [] (uAA l [uFK] ⟨0,false⟩).2).2).2 a2
 have hn1:=uBy l ⟨0,false⟩ [uFK] (by omega) (by dsimp only; omega)
 have hn2:=uBy l (uAA l [uFK] ⟨0,false⟩).2 [] (by omega) (by omega)
 refine uAv Tryz.func16 rfl rfl rfl rfl rfl rfl ?_;refine uAe (uAb ?_);refine uAu rfl (uAP rfl rfl rfl) ?_;refine uAa rfl rfl rfl (uAd rfl gU) ?_;refine uAa rfl rfl rfl (uAd rfl gU) ?_;refine uAf ?_;refine uAe (uAb ?_);refine uAa rfl rfl rfl (uAc rfl gU) ?_;refine uAw rfl rfl rfl rfl rfl rfl gU gU (up (uFO _ (by omega))) rfl ?_;refine uAa rfl rfl rfl (uAc rfl gU) ?_;refine uAa rfl rfl rfl (uAG rfl gU rfl) ?_;refine uAa rfl rfl rfl (uAG rfl gU rfl) ?_;refine uAa rfl rfl rfl (uAG rfl gU rfl) ?_;refine uAa rfl rfl rfl (uAd rfl gU) ?_;refine uAa rfl rfl rfl (uAd rfl gU) ?_;refine uAa rfl rfl rfl (uAd rfl gU) ?_;refine uAf ?_;refine uAn (s:=⟨[(2,_,_),(5,_,_),(6,_,_),(7,_,_)],[(.l 2,_)],[],[]⟩) (uAj (⟨sx rfl,sx rfl,sx rfl,sx rfl,trivial⟩) (⟨sx rfl,trivial⟩) trivial) ?_;refine uAe ?_;refine uAe (uAb ?_);refine uAa rfl rfl rfl (uAc rfl gU) ?_;refine uAa rfl rfl rfl (uAk rfl rfl gU gU rfl) ?_;refine uAf ?_;refine uAl rfl (fun hc=>?_) (fun hc=>?_)
 ·try simp only [nn,uAh,T.rows_len,Tk.rows_len] at hc
  refine uAe (uAb ?_);refine uAa rfl rfl rfl (uAU rfl Tryz.underlying27 rfl gU) ?_;refine uAa rfl rfl rfl (uAc rfl gU) ?_;refine uAa rfl rfl rfl (uAc rfl gU) ?_;refine uAu rfl (uAz rfl rfl rfl rfl rfl rfl rfl) ?_;refine uAa rfl rfl rfl (uAd rfl gU) ?_;refine uAa rfl rfl rfl (uAd rfl gU) ?_;refine uAf ?_;refine uAo ?_
  repeat (first | refine tR ?_ | refine bR ?_)
  refine uAq rfl ?_ trivial
  (rw [uFd,if_pos hc]; rfl)
 ·try simp only [nn,uAh,T.rows_len,Tk.rows_len] at hc
  have hpe : uFd s=uDP l:=by rw [uFd,if_neg (by simpa using hc),hl]
  rw [hpe]
  rw [hl]
  refine uAp ?_;refine uAe (uAb ?_);refine uAa rfl rfl rfl (uAc rfl gU) ?_;refine uAa rfl rfl rfl (uAU rfl Tryz.underlying86 rfl gU) ?_;refine uAu rfl (uAT rfl rfl rfl rfl) ?_;refine uAa rfl rfl rfl (uAd rfl gU) ?_;refine uAf ?_;refine uAn (s:=⟨[(2,_,_),(8,_,_)],[(.l 2,_),(.l 26,_)],[],[]⟩) (uAj (⟨sx rfl,sx rfl,trivial⟩) (⟨sx rfl,sx rfl,trivial⟩) trivial) ?_;refine uAe (uAb ?_);refine uAu rfl (uFD rfl rfl rfl rfl) ?_;refine uAf ?_;refine uAe (uAb ?_);refine uAa rfl rfl rfl (uAc rfl gU) ?_;refine uAK (xs:=[_]) rfl rfl rfl rfl rfl rfl rfl rfl rfl gU rfl ?_;refine uAI (.l 26) rfl rfl rfl rfl rfl rfl (up hn1) rfl (by rfl) (by rfl) rfl rfl rfl ?_;refine uAf ?_;refine uAe (uAb ?_);refine uAa rfl rfl rfl (uAc rfl gU) ?_;refine uAI (.l 26) rfl rfl rfl rfl rfl rfl (up hn2) rfl (by rfl) (by rfl) rfl rfl rfl ?_;refine uAa rfl rfl rfl (uAg rfl gU rfl rfl) ?_;refine uAu rfl (uAz rfl rfl rfl rfl rfl rfl rfl) ?_;refine uAf ?_;refine uAn (s:=⟨[(2,_,_),(8,_,_),(9,_,_)],[(.l 2,_),(.l 26,_),(.l 9,_)],[],[]⟩) (uAj (⟨sx rfl,sx rfl,sx rfl,trivial⟩) (⟨sx rfl,sx rfl,sx rfl,trivial⟩) trivial) ?_;refine uAe (uAb ?_);refine uAa rfl rfl rfl (uAc rfl gU) ?_;refine uAI (.l 26) rfl rfl rfl rfl rfl rfl (up (uBc l _ _ (by omega) (by omega))) rfl (by rfl) (by rfl) rfl rfl rfl ?_
  refine uAf ?_;refine uAe ?_;refine uAt ?_;refine uD5 (.l 9) 1 1 rfl rfl rfl ?_;refine uD5 (.l 9) 2 3 rfl rfl rfl ?_;refine uD5 (.l 9) 3 1 rfl rfl rfl ?_;refine uD5 (.l 9) 4 7 rfl rfl rfl ?_;refine uD5 (.l 9) 5 5 rfl rfl rfl ?_;refine uAW (ι:=PS × Nar) { t:=[(2,_,_),(8,_,_),(9,_,_)],bx:=[(.l 2,_)],ow:=[(.b (.l 9) 1,_),(.b (.l 9) 2,_),(.b (.l 9) 3,_),(.b (.l 9) 4,_),(.b (.l 9) 5,_)] } (fun q=>[]) (fun q=>[((.l 26),pbx l q.1),((.l 9),q.2.cells)]) (fun q=>q.1.at'≤l.length∧q.2.Le q.1.at'∧q.2.Sm (2 * l.length + 2) ∧ ∃ m,(q.1.bad=true∨l.length < m + q.1.at')∧uDi l m q.2 q.1=uDN l) (fun q=>(l.length - q.1.at') + (if q.1.bad=true then 0 else 1)) ((uA7 l [123] (uAA l [] (uAA l [uFK] ⟨0,false⟩).2).2,{ nar0 with name:=(uAA l [] (uAA l [uFK] ⟨0,false⟩).2).1 })) (⟨a3,⟨Nat.zero_le _,Nat.zero_le _,Nat.zero_le _,Nat.zero_le _,Nat.zero_le _⟩,⟨fun s hs=>by simp [nar0] at hs,fun s hs=>by simp [nar0] at hs⟩,l.length + 2, .inr (by omega),rfl⟩) (uAj (⟨sx rfl,sx rfl,sx rfl,trivial⟩) (⟨sx rfl,sx rfl,sx rfl,trivial⟩) (⟨rfl,rfl,rfl,rfl,rfl,trivial⟩)) ?_
  intro q hok
  dsimp only [List.cons_append,List.nil_append] at *
  obtain ⟨⟨at1,bad1⟩,n⟩:=q
  dsimp only at hok ⊢
  obtain ⟨hq,hle,hsm,m,hm,hi⟩:=hok
  have hle2:=hle.mono (j:=2000000) (by omega)
  cases bad1
  ·skip
   refine uAe ?_;refine uAe (uAb ?_);refine uAa rfl rfl rfl (uAc rfl gU) ?_;refine uAa rfl rfl rfl (uAx rfl gU) ?_;refine uAa rfl rfl rfl (uAg rfl gU rfl rfl) ?_;refine uAa rfl rfl rfl (uAm rfl gU rfl rfl rfl rfl) ?_;refine uAa rfl rfl rfl (uA1 rfl gU) ?_;refine uAa rfl rfl rfl (uAc rfl gU) ?_;refine uAa rfl rfl rfl (uAc rfl gU) ?_;refine uAI (.l 26) rfl rfl rfl rfl rfl rfl (up (uBO l ⟨at1,false⟩ _ (by omega) (by dsimp only; omega))) rfl (by rfl) (by rfl) rfl rfl rfl ?_;refine uAa rfl rfl rfl (uA1 rfl (fun hh=>hh)) ?_;refine uAa rfl rfl rfl (uAO rfl rfl gU (fun _ hi=>gP rfl hi)) ?_;refine uAf ?_;refine uAn (s:=⟨[(2,_,_),(8,_,_),(9,_,_),(44,_,_)],[(.l 2,_),(.l 26,_),(.l 9,_)],[(.b (.l 9) 1,_),(.b (.l 9) 2,_),(.b (.l 9) 3,_),(.b (.l 9) 4,_),(.b (.l 9) 5,_)],[]⟩) (uAj (⟨sx rfl,sx rfl,sx rfl,sx rfl,trivial⟩) (⟨sx rfl,sx rfl,sx rfl,trivial⟩) (⟨rfl,rfl,rfl,rfl,rfl,trivial⟩)) ?_;refine uAl rfl (fun hc2=>?_) (fun hc2=>?_)
   ·try simp only [nn,uAh,T.rows_len,Tk.rows_len] at hc2
    have hz : symQ l ⟨at1,false⟩ [125]=false:=by simpa using hc2
    have hs2 : symP l ⟨at1,false⟩ [125]=⟨at1,false⟩:=by rw [symP,hz]; rfl
    have hm : l.length < m + at1:=hm.resolve_left (by simp)
    obtain ⟨m,rfl⟩ : ∃ j,m=j + 1:=⟨m - 1,by omega⟩
    rw [uKT rfl hz] at hi
    rw [hs2]
    obtain ⟨i1,i2⟩:=uLU l n ⟨at1,false⟩ hq
    have i5:=uLt l n ⟨at1,false⟩
    dsimp only at i5
    have i3:=uLG (l:=l) (p:=⟨at1,false⟩) hle
    have i4:=uMs (l:=l) (p:=⟨at1,false⟩) hsm hq
    refine uAp ?_;refine uAt ?_;refine uAb ?_;refine uAa rfl rfl rfl (uAc rfl gU) ?_;refine uC7 [⟨.l 26,0,pbx l ⟨at1,false⟩,pbx l (uCl l n ⟨at1,false⟩).2⟩,⟨.l 9,0,n.cells,(uCl l n ⟨at1,false⟩).1.cells⟩] osN rfl rfl rfl rfl rfl rfl (ps2 rfl rfl) rfl rfl (uLf l ⟨at1,false⟩ n (by omega) hq hle2) rfl rfl rfl ?_;refine uAf ?_;refine ⟨((uCl l n ⟨at1,false⟩).2,(uCl l n ⟨at1,false⟩).1),?_,?_,uAj (⟨sx rfl,sx rfl,sx rfl,trivial⟩) (⟨⟨_,rfl,?_⟩,⟨⟨_,rfl,?_⟩,⟨sx rfl,trivial⟩⟩⟩) (⟨rfl,rfl,rfl,rfl,rfl,trivial⟩)⟩
    ·refine ⟨i1,i3,i4,m,?_,hi⟩
     cases hz2 : (uCl l n ⟨at1,false⟩).2.bad with
     | true=>exact .inl rfl
     | false=>exact .inr (by have := i2 hz2; dsimp only at this ⊢; omega)
    ·dsimp only
     cases hz2 : (uCl l n ⟨at1,false⟩).2.bad with
     | true=>simp; omega
     | false=>have := i2 hz2; dsimp only at this; simp; omega
    all_goals rfl
   ·try simp only [nn,uAh,T.rows_len,Tk.rows_len] at hc2
    have hz : symQ l ⟨at1,false⟩ [125]=true:=by simpa using hc2
    have hs2 : symP l ⟨at1,false⟩ [125]=⟨at1 + 1,false⟩:=by rw [symP,if_pos hz]; rfl
    have hm : l.length < m + at1:=hm.resolve_left (by simp)
    obtain ⟨m,rfl⟩ : ∃ j,m=j + 1:=⟨m - 1,by omega⟩
    rw [uIS rfl hz] at hi
    have hi : (n,(⟨at1 + 1,false⟩ : PS))=uDN l:=hi
    rw [hs2]
    refine uAL ?_
    repeat (first | refine uAF ?_ | refine uAE ?_ | refine uAB rfl ?_)
    refine uAe ?_;refine uAe (uAb ?_);refine uAa rfl rfl rfl (uAc rfl gU) ?_;refine uAI (.l 26) rfl rfl rfl rfl rfl rfl (up (uE2 _ _ (by omega))) rfl (by rfl) (by rfl) rfl rfl rfl ?_;refine uAa rfl rfl rfl (uAc rfl gU) ?_;refine uAa rfl rfl rfl (uAG rfl gU rfl) ?_;refine uAa rfl rfl rfl (uAG rfl gU rfl) ?_;refine uAa rfl rfl rfl (uAd rfl gU) ?_;refine uAa rfl rfl rfl (uAd rfl gU) ?_;refine uAf ?_;refine uAn (s:=⟨[(2,_,_),(9,_,_),(10,_,_),(11,_,_)],[(.l 2,_),(.l 9,_)],[(.b (.l 9) 1,_),(.b (.l 9) 2,_),(.b (.l 9) 3,_),(.b (.l 9) 4,_),(.b (.l 9) 5,_)],[]⟩) (uAj (⟨sx rfl,sx rfl,sx rfl,sx rfl,trivial⟩) (⟨sx rfl,sx rfl,trivial⟩) (⟨rfl,rfl,rfl,rfl,rfl,trivial⟩)) ?_;refine uAe (uAb ?_);refine uAa rfl rfl rfl (uAc rfl gU) ?_;refine uAa rfl rfl rfl (uAk rfl rfl gU gU rfl) ?_;refine uAf ?_;refine uAl rfl (fun hc3=>?_) (fun hc3=>?_)
    ·try simp only [nn,uAh,T.rows_len,Tk.rows_len] at hc3
     refine uAe (uAb ?_);refine uAa rfl rfl rfl (uAU rfl Tryz.underlying27 rfl gU) ?_;refine uAa rfl rfl rfl (uAc rfl gU) ?_;refine uAa rfl rfl rfl (uAc rfl gU) ?_;refine uAu rfl (uAz rfl rfl rfl rfl rfl rfl rfl) ?_;refine uAa rfl rfl rfl (uAd rfl gU) ?_;refine uAa rfl rfl rfl (uAd rfl gU) ?_;refine uAf ?_;refine uAo ?_
     repeat (first | refine tR ?_ | refine bR ?_)
     refine uAq rfl ?_ trivial
     (rw [uKC hi hc3]; rfl)
    ·try simp only [nn,uAh,T.rows_len,Tk.rows_len] at hc3
     refine uAp ?_;refine uAe ?_;refine uAe (uAb ?_);refine uAa rfl rfl rfl (uAs rfl gU rfl rfl rfl rfl rfl) ?_;refine uAw rfl rfl rfl rfl rfl rfl gU gU (up (uEw n (fun s hs=>Nat.le_trans (hsm.steps s hs) (by omega)) (fun g hg=>Nat.le_trans (hsm.goals g hg) (by omega)))) rfl ?_;refine uAa rfl rfl rfl (uAd rfl gU) ?_;refine uAf ?_;refine uAn (s:=⟨[(2,_,_),(9,_,_),(12,_,_)],[(.l 2,_),(.l 9,_)],[(.b (.l 9) 1,_),(.b (.l 9) 2,_),(.b (.l 9) 3,_),(.b (.l 9) 4,_),(.b (.l 9) 5,_)],[]⟩) (uAj (⟨sx rfl,sx rfl,sx rfl,trivial⟩) (⟨sx rfl,sx rfl,trivial⟩) (⟨rfl,rfl,rfl,rfl,rfl,trivial⟩)) ?_;refine uAe (uAb ?_);refine uAa rfl rfl rfl (uAc rfl gU) ?_;refine uAa rfl rfl rfl (uAk rfl rfl gU gU rfl) ?_;refine uAf ?_;refine uAl rfl (fun hc4=>?_) (fun hc4=>?_)
     ·try simp only [nn,uAh,T.rows_len,Tk.rows_len] at hc4
      refine uAe (uAb ?_);refine uAa rfl rfl rfl (uAU rfl Tryz.underlying27 rfl gU) ?_;refine uAa rfl rfl rfl (uAc rfl gU) ?_;refine uAu rfl (uAz rfl rfl rfl rfl rfl rfl rfl) ?_;refine uAa rfl rfl rfl (uAd rfl gU) ?_;refine uAa rfl rfl rfl (uAd rfl gU) ?_;refine uAf ?_;refine uAo ?_
      repeat (first | refine tR ?_ | refine bR ?_)
      refine uAq rfl ?_ trivial
      (rw [uKb hi (by simpa using hc3) hc4]; rfl)
     ·try simp only [nn,uAh,T.rows_len,Tk.rows_len] at hc4
      refine uAp ?_;refine uAe (uAb ?_);refine uAa rfl rfl rfl (uAs rfl gU rfl rfl rfl rfl rfl) ?_;refine uAu rfl (uAz rfl rfl rfl rfl rfl rfl rfl) ?_;refine uAa rfl rfl rfl (uAd rfl gU) ?_;refine uAa rfl rfl rfl (uAd rfl gU) ?_;refine uAf ?_;refine uAo ?_
      repeat (first | refine tR ?_ | refine bR ?_)
      refine uAq rfl ?_ trivial
      (rw [uKs hi (by simpa using hc3) (by simpa using hc4)]; rfl)
  ·skip
   refine uAe ?_;refine uAe (uAb ?_);refine uAa rfl rfl rfl (uAc rfl gU) ?_;refine uAa rfl rfl rfl (uAx rfl gU) ?_;refine uAa rfl rfl rfl (uAg rfl gU rfl rfl) ?_;refine uAa rfl rfl rfl (uAm rfl gU rfl rfl rfl rfl) ?_;refine uAa rfl rfl rfl (uA1 rfl gU) ?_;refine uAa rfl rfl rfl (uAc rfl gU) ?_;refine uAa rfl rfl rfl (uAc rfl gU) ?_;refine uKk (xb false) rfl rfl rfl ?_;refine uAa rfl rfl rfl (uA1 rfl (fun hh=>hh)) ?_;refine uAa rfl rfl rfl (uAO rfl rfl gU (fun _ hi=>gP rfl hi)) ?_;refine uAf ?_;refine uAn (s:=⟨[(2,_,_),(8,_,_),(9,_,_),(44,_,_)],[(.l 2,_),(.l 26,_),(.l 9,_)],[(.b (.l 9) 1,_),(.b (.l 9) 2,_),(.b (.l 9) 3,_),(.b (.l 9) 4,_),(.b (.l 9) 5,_)],[]⟩) (uAj (⟨sx rfl,sx rfl,sx rfl,sx rfl,trivial⟩) (⟨sx rfl,sx rfl,sx rfl,trivial⟩) (⟨rfl,rfl,rfl,rfl,rfl,trivial⟩)) ?_;refine uAl rfl (fun hc2=>?_) (fun hc2=>?_)
   ·exfalso
    simp at hc2
   ·rw [uJ1 rfl] at hi
    refine uAL ?_
    repeat (first | refine uAF ?_ | refine uAE ?_ | refine uAB rfl ?_)
    refine uAe ?_;refine uAe (uAb ?_);refine uAa rfl rfl rfl (uAc rfl gU) ?_;refine uAI (.l 26) rfl rfl rfl rfl rfl rfl (up (uE2 _ _ (by omega))) rfl (by rfl) (by rfl) rfl rfl rfl ?_;refine uAa rfl rfl rfl (uAc rfl gU) ?_;refine uAa rfl rfl rfl (uAG rfl gU rfl) ?_;refine uAa rfl rfl rfl (uAG rfl gU rfl) ?_;refine uAa rfl rfl rfl (uAd rfl gU) ?_;refine uAa rfl rfl rfl (uAd rfl gU) ?_;refine uAf ?_;refine uAn (s:=⟨[(2,_,_),(9,_,_),(10,_,_),(11,_,_)],[(.l 2,_),(.l 9,_)],[(.b (.l 9) 1,_),(.b (.l 9) 2,_),(.b (.l 9) 3,_),(.b (.l 9) 4,_),(.b (.l 9) 5,_)],[]⟩) (uAj (⟨sx rfl,sx rfl,sx rfl,sx rfl,trivial⟩) (⟨sx rfl,sx rfl,trivial⟩) (⟨rfl,rfl,rfl,rfl,rfl,trivial⟩)) ?_;refine uAe (uAb ?_);refine uAa rfl rfl rfl (uAc rfl gU) ?_;refine uAa rfl rfl rfl (uAk rfl rfl gU gU rfl) ?_;refine uAf ?_;refine uAl rfl (fun hc3=>?_) (fun hc3=>?_)
    ·try simp only [nn,uAh,T.rows_len,Tk.rows_len] at hc3
     refine uAe (uAb ?_);refine uAa rfl rfl rfl (uAU rfl Tryz.underlying27 rfl gU) ?_;refine uAa rfl rfl rfl (uAc rfl gU) ?_;refine uAa rfl rfl rfl (uAc rfl gU) ?_;refine uAu rfl (uAz rfl rfl rfl rfl rfl rfl rfl) ?_;refine uAa rfl rfl rfl (uAd rfl gU) ?_;refine uAa rfl rfl rfl (uAd rfl gU) ?_;refine uAf ?_;refine uAo ?_
     repeat (first | refine tR ?_ | refine bR ?_)
     refine uAq rfl ?_ trivial
     (rw [uKC hi hc3]; rfl)
    ·try simp only [nn,uAh,T.rows_len,Tk.rows_len] at hc3
     refine uAp ?_;refine uAe ?_;refine uAe (uAb ?_);refine uAa rfl rfl rfl (uAs rfl gU rfl rfl rfl rfl rfl) ?_;refine uAw rfl rfl rfl rfl rfl rfl gU gU (up (uEw n (fun s hs=>Nat.le_trans (hsm.steps s hs) (by omega)) (fun g hg=>Nat.le_trans (hsm.goals g hg) (by omega)))) rfl ?_;refine uAa rfl rfl rfl (uAd rfl gU) ?_;refine uAf ?_;refine uAn (s:=⟨[(2,_,_),(9,_,_),(12,_,_)],[(.l 2,_),(.l 9,_)],[(.b (.l 9) 1,_),(.b (.l 9) 2,_),(.b (.l 9) 3,_),(.b (.l 9) 4,_),(.b (.l 9) 5,_)],[]⟩) (uAj (⟨sx rfl,sx rfl,sx rfl,trivial⟩) (⟨sx rfl,sx rfl,trivial⟩) (⟨rfl,rfl,rfl,rfl,rfl,trivial⟩)) ?_;refine uAe (uAb ?_);refine uAa rfl rfl rfl (uAc rfl gU) ?_;refine uAa rfl rfl rfl (uAk rfl rfl gU gU rfl) ?_;refine uAf ?_;refine uAl rfl (fun hc4=>?_) (fun hc4=>?_)
     ·try simp only [nn,uAh,T.rows_len,Tk.rows_len] at hc4
      refine uAe (uAb ?_);refine uAa rfl rfl rfl (uAU rfl Tryz.underlying27 rfl gU) ?_;refine uAa rfl rfl rfl (uAc rfl gU) ?_;refine uAu rfl (uAz rfl rfl rfl rfl rfl rfl rfl) ?_;refine uAa rfl rfl rfl (uAd rfl gU) ?_;refine uAa rfl rfl rfl (uAd rfl gU) ?_;refine uAf ?_;refine uAo ?_
      repeat (first | refine tR ?_ | refine bR ?_)
      refine uAq rfl ?_ trivial
      (rw [uKb hi (by simpa using hc3) hc4]; rfl)
     ·try simp only [nn,uAh,T.rows_len,Tk.rows_len] at hc4
      refine uAp ?_;refine uAe (uAb ?_);refine uAa rfl rfl rfl (uAs rfl gU rfl rfl rfl rfl rfl) ?_;refine uAu rfl (uAz rfl rfl rfl rfl rfl rfl rfl) ?_;refine uAa rfl rfl rfl (uAd rfl gU) ?_;refine uAa rfl rfl rfl (uAd rfl gU) ?_;refine uAf ?_;refine uAo ?_
      repeat (first | refine tR ?_ | refine bR ?_)
      refine uAq rfl ?_ trivial
      (rw [uKs hi (by simpa using hc3) (by simpa using hc4)]; rfl)
theorem uJQ (s : List UInt8) (hs : s.length≤100000) : Ctr sys 16 [xs s] [] (xnie (uFd s)) none []:=(uJk s hs).wk rfl fun _ h=>h
end Go.Proofs.YtnjjdbapadkomaaGreatDoor
namespace Go.Proofs.YtnjjdbapadkomaaGreatDoor
open Go Go.Abs
theorem uLW (k : Int) : (uGE k).length≤7:=by
 unfold uGE
 have : ∀ j : Nat,(kindW.getD j []).length≤7:=by
  intro j
  match j with
  | 0=>decide
  | 1=>decide
  | 2=>decide
  | 3=>decide
  | 4=>decide
  | j + 5=>simp [kindW,List.getD_eq_getElem?_getD]
 exact this _
theorem uLS (k : Int) : (uHD k).length≤5:=by
 unfold uHD
 have : ∀ j : Nat,(sortW.getD j []).length≤5:=by
  intro j
  match j with
  | 0=>decide
  | 1=>decide
  | 2=>decide
  | j + 3=>simp [sortW,List.getD_eq_getElem?_getD]
 exact this _
theorem uEp (g : Gl) (hg : GlOk g) : Ctr sys 44 [xg g] [] (xs (uGP g)) none []:=by
 have h1:=hg.k1
 have h2:=hg.k2
 have h3:=uCn hg.role
 have h4:=hg.wth
 have h5:=hg.len
 have h6:=uLW g.kind
 have hkl : kindW.length=5:=rfl
 have hkb : kindW.getD (g.kind - 1).toNat []=uGE g.kind:=rfl
 refine uAv Tryz.func44 rfl rfl rfl rfl rfl rfl ?_;refine uAe (uAb ?_);refine uAu rfl (uAT rfl rfl rfl rfl) ?_;refine uAa rfl rfl rfl (uAd rfl gU) ?_;refine uAf ?_;refine uAe ?_;refine awp_drawn' (by kernel_rfl) ?_;refine uBa rfl rfl rfl rfl rfl rfl rfl gU gU (uEq) rfl ?_;refine uAi rfl rfl rfl rfl (uAg rfl gU rfl rfl) ?_;refine uAV rfl rfl rfl rfl rfl rfl rfl gU rfl rfl rfl rfl ?_;refine uAi rfl rfl rfl rfl (uAr rfl rfl gU gU rfl (IntWalk.i64_in _ (by omega))) ?_;refine uAi rfl rfl rfl rfl (uAy (j:=(g.kind - 1).toNat) rfl rfl gU gU rfl rfl (by first | omega | (simp at hh ⊢; omega)) (fun hh=>uCK (by first | omega | (simp at hh ⊢; omega)))) ?_;refine uAi rfl rfl rfl rfl (uAX rfl gU rfl rfl rfl) ?_
 rw [hkb]
 refine uAi rfl rfl rfl rfl (uAD rfl rfl gU gU (by first | omega | (simp only [List.length_append,List.length_cons,List.length_nil]; omega))) ?_;refine uAi rfl rfl rfl rfl (uAg rfl gU rfl rfl) ?_;refine uAV rfl rfl rfl rfl rfl rfl rfl gU rfl rfl rfl rfl ?_;refine uAi rfl rfl rfl rfl (uAD rfl rfl gU gU (by first | omega | (simp only [List.length_append,List.length_cons,List.length_nil]; omega))) ?_;refine uAi rfl rfl rfl rfl (uAd rfl gU) ?_;refine uBg (by kernel_rfl) ?_;refine uAn (s:=⟨[(1,_,_),(3,_,_)],[(.l 1,_)],[],[]⟩) (uAj (⟨sx rfl,sx rfl,trivial⟩) (⟨sx rfl,trivial⟩) trivial) ?_;refine uAe ?_;refine uAe (uAb ?_);refine uAa rfl rfl rfl (uAs rfl gU rfl rfl rfl rfl rfl) ?_;refine uAw rfl rfl rfl rfl rfl rfl gU gU (uBS g) rfl ?_;refine uAf ?_;refine uAl rfl (fun hc=>?_) (fun hc=>?_)
 ·try simp only [nn,uAh,T.rows_len,Gl.rows_len,Fs.rows_len,Sp.rows_len] at hc
  refine uAb ?_;refine uAa rfl rfl rfl (uAc rfl gU) ?_;refine uAa rfl rfl rfl (uAg rfl gU rfl rfl) ?_;refine uAa rfl rfl rfl (uAm rfl gU rfl rfl rfl rfl) ?_;refine uAa rfl rfl rfl (uAD rfl rfl gU gU (by first | omega | (simp only [List.length_append,List.length_cons,List.length_nil]; omega))) ?_;refine uAa rfl rfl rfl (uAD rfl rfl gU gU (by first | omega | (simp only [List.length_append,List.length_cons,List.length_nil]; omega))) ?_;refine uAa rfl rfl rfl (uAd rfl gU) ?_;refine uAf ?_;refine uAn (s := ⟨[(1,_,_),(3,_,_)],[(.l 1,_)],[],[]⟩) (uAj (⟨sx rfl,sx rfl,trivial⟩) (⟨sx rfl,trivial⟩) trivial) ?_;refine uAe (uAb ?_);refine uAa rfl rfl rfl (uAc rfl gU) ?_;refine uAa rfl rfl rfl (uAD rfl rfl gU gU (by first | omega | (simp only [List.length_append,List.length_cons,List.length_nil]; omega))) ?_;refine uAa rfl rfl rfl (uAg rfl gU rfl rfl) ?_;refine uAa rfl rfl rfl (uAm rfl gU rfl rfl rfl rfl) ?_;refine uAw rfl rfl rfl rfl rfl rfl gU gU (uGY g.data (by have := hg.sizes; omega) hg.oks) rfl ?_;refine uAa rfl rfl rfl (uAD rfl rfl gU gU (by first | omega | (simp only [List.length_append,List.length_cons,List.length_nil]; omega))) ?_;refine uAa rfl rfl rfl (uAd rfl gU) ?_;refine uAf ?_;refine uAo ?_
  repeat (first | refine tR ?_ | refine bR ?_)
  refine uAq rfl ?_ trivial
  (rw [uGP,if_pos hc,hkb]; simp only [List.append_assoc]; rfl)
 ·try simp only [nn,uAh,T.rows_len,Gl.rows_len,Fs.rows_len,Sp.rows_len] at hc
  refine uAp ?_;refine uAe (uAb ?_);refine uAa rfl rfl rfl (uAc rfl gU) ?_;refine uAa rfl rfl rfl (uAD rfl rfl gU gU (by first | omega | (simp only [List.length_append,List.length_cons,List.length_nil]; omega))) ?_;refine uAa rfl rfl rfl (uAg rfl gU rfl rfl) ?_;refine uAa rfl rfl rfl (uAm rfl gU rfl rfl rfl rfl) ?_;refine uAw rfl rfl rfl rfl rfl rfl gU gU (uGY g.data (by have := hg.sizes; omega) hg.oks) rfl ?_;refine uAa rfl rfl rfl (uAD rfl rfl gU gU (by first | omega | (simp only [List.length_append,List.length_cons,List.length_nil]; omega))) ?_;refine uAa rfl rfl rfl (uAd rfl gU) ?_;refine uAf ?_;refine uAo ?_
  repeat (first | refine tR ?_ | refine bR ?_)
  refine uAq rfl ?_ trivial
  (rw [uGP,if_neg (by rw [hc]; simp),hkb]; simp only [List.append_assoc,List.nil_append]; rfl)
theorem map_take {α β : Type} (f : α→β) {l : List α} {d : α} {k : Nat} (h : k < l.length) : (l.take (k + 1)).map f=(l.take k).map f++[f (l.getD k d)]:=by rw [uEk (d:=d) h,List.map_append]; rfl
theorem uIW (x : List UInt8) (c : UInt8) (hx : x.length≤2000000) : Ctr sys 136 [xs (x++[c]),xs [c]] [] (xb true) none []:=by
 have hl : (x++[c]).length=x.length + 1:=by simp
 refine uAv Tryz.func136 rfl rfl rfl rfl rfl rfl ?_;refine uAe (uAb ?_);refine uAa rfl rfl rfl (uAd rfl gU) ?_;refine uAf ?_;refine uAe (uAb ?_);refine uAa rfl rfl rfl (uAc rfl gU) ?_;refine uBj rfl rfl rfl rfl rfl gU (Tryz.underlying9) ?_ (fun hh=>by simp at hh); intro hlen;refine uAa rfl rfl rfl (uAc rfl gU) ?_;refine uBj rfl rfl rfl rfl rfl gU (Tryz.underlying9) ?_ (fun hh=>by simp at hh); intro hlen;refine uAa rfl rfl rfl (uAk rfl rfl gU gU rfl) ?_;refine uAa rfl rfl rfl (uAc rfl gU) ?_;refine uAa rfl rfl rfl (uAc rfl gU) ?_;refine uAa rfl rfl rfl (uAc rfl gU) ?_;refine uAa rfl rfl rfl (uBK rfl (fun hh=>hh) (Tryz.underlying9)) ?_;refine uAa rfl rfl rfl (uAc rfl gU) ?_;refine uAa rfl rfl rfl (uBK rfl (fun hh=>hh) (Tryz.underlying9)) ?_;refine uBq (s:=⟨[(1,_,_),(10,_,_),(11,_,_),(13,_,_),(15,_,_)],[],[],[]⟩) (uAj (⟨sx rfl,sx rfl,sx rfl,sx rfl,sx rfl,trivial⟩) trivial trivial) ?_;refine uAa rfl rfl rfl (uAr rfl rfl (fun hh=>hh) (fun hh=>hh) rfl (IntWalk.i64_in _ (by omega))) ?_;refine uAa rfl rfl rfl (uBe (l:=x.length) rfl (fun hh=>hh) Tryz.underlying9 (fun _=>⟨_,_,_,rfl,(fun hh=>hh),by first | omega | (simp only [hl,List.length_cons,List.length_nil]; omega) | (simp only [hl,List.length_cons,List.length_nil] at *; omega)⟩) (fun _=>rfl) (fun hh=>by first | omega | (simp only [hl,List.length_cons,List.length_nil]; omega) | (simp only [hl,List.length_cons,List.length_nil] at *; omega)) (fun hh=>by first | omega | (simp only [hl,List.length_cons,List.length_nil]; omega) | (simp only [hl,List.length_cons,List.length_nil] at *; omega))) ?_
 refine uAa rfl rfl rfl (uAc rfl gU) ?_;refine uAa rfl rfl rfl (uAY rfl rfl (fun hh=>hh) (fun hh=>hh) rfl) ?_;refine uAa rfl rfl rfl (uAO rfl rfl gU (fun _ hi=>gP rfl hi)) ?_;refine uAa rfl rfl rfl (uAd rfl gU) ?_;refine uAf ?_;refine uAo ?_
 repeat (first | refine tR ?_ | refine bR ?_)
 refine uAq rfl ?_ trivial;refine uCu ?_
 simp [List.take_of_length_le]
 omega
theorem uG7 (x : List UInt8) (c : UInt8) (hx : x.length≤2000000) : Ctr sys 92 [xs (x++[c]),xs [c]] [] (xs x) none []:=by
 have hl : (x++[c]).length=x.length + 1:=by simp
 refine uAv Tryz.func92 rfl rfl rfl rfl rfl rfl ?_;refine uAe (uAb ?_);refine uAa rfl rfl rfl (uAd rfl gU) ?_;refine uAf ?_;refine uAe ?_;refine uAe (uAb ?_);refine uAa rfl rfl rfl (uAc rfl gU) ?_;refine uAa rfl rfl rfl (uAc rfl gU) ?_;refine uAw rfl rfl rfl rfl rfl rfl gU gU (uIW _ _ (by omega)) rfl ?_;refine uAf ?_;refine uAl rfl (fun hc=>?_) (fun hc=>?_)
 ·refine uAe (uAb ?_)
  refine uAa rfl rfl rfl (uAc rfl gU) ?_;refine uAa rfl rfl rfl (uAc rfl gU) ?_;refine uBj rfl rfl rfl rfl rfl gU (Tryz.underlying9) ?_ (fun hh=>by simp at hh); intro hlen;refine uAa rfl rfl rfl (uAc rfl gU) ?_;refine uBj rfl rfl rfl rfl rfl gU (Tryz.underlying9) ?_ (fun hh=>by simp at hh); intro hlen;refine uAa rfl rfl rfl (uAr rfl rfl gU gU rfl (IntWalk.i64_in _ (by omega))) ?_;refine uAa rfl rfl rfl (uBe (h':=x.length) rfl gU Tryz.underlying9 (fun _=>rfl) (fun _=>⟨_,_,_,rfl,gU,by first | omega | (simp only [hl,List.length_cons,List.length_nil]; omega) | (simp only [hl,List.length_cons,List.length_nil] at *; omega)⟩) (fun hh=>by first | omega | (simp only [hl,List.length_cons,List.length_nil]; omega) | (simp only [hl,List.length_cons,List.length_nil] at *; omega)) (fun hh=>by first | omega | (simp only [hl,List.length_cons,List.length_nil]; omega) | (simp only [hl,List.length_cons,List.length_nil] at *; omega))) ?_;refine uAa rfl rfl rfl (uAd rfl gU) ?_;refine uAf ?_;refine uAo ?_
  repeat (first | refine tR ?_ | refine bR ?_)
  refine uAq rfl ?_ trivial;exact congrArg xs (by simp)
 ·exfalso
  simp at hc
theorem uHW (x : List UInt8) (c : UInt8) (hx : x.length≤2000000) : Ctr sys 42 [xs (x++[c]),xs [c]] [] (xs x) none []:=by
 refine uAv Tryz.func42 rfl rfl rfl rfl rfl rfl ?_;refine uAe (uAb ?_);refine uAa rfl rfl rfl (uAd rfl gU) ?_;refine uAf ?_;refine uAe (uAb ?_);refine uAa rfl rfl rfl (uAc rfl gU) ?_;refine uAa rfl rfl rfl (uAc rfl gU) ?_;refine uAw rfl rfl rfl rfl rfl rfl gU gU (uG7 _ _ (by omega)) rfl ?_;refine uAa rfl rfl rfl (uAd rfl gU) ?_;refine uAf ?_;refine uAo ?_
 repeat (first | refine tR ?_ | refine bR ?_)
 refine uAq rfl ?_ trivial
 rfl
end Go.Proofs.YtnjjdbapadkomaaGreatDoor
namespace Go.Abs
variable {Z : Pg}
theorem Rel.rowBox {E : Env} {G : Gh} {st : St} {a : Act} {w : World} (h : Rel E G st a w) {j' : Nat} (hfr : FreshG st (.l j',true)) {cells : Array Value} {e : TypeId} {cs : List C}
  (hrep : ∀ (j : Nat) (c : C),cs[j]? = some c → ∃ v,cells[j]? = some v∧CRep w G.S c v) :
  ∃ G1,Rel E G1 (st.addBox (.l j') cs) a (w.alloc (.cells cells e))∧G1.A (.l j')=(w.heap.size,0):=by
 let f : Nat→Who:=fun o=>if o < cs.length then .box (.l j') else .none
 have hfr' : Fr (fun _ _=>False) w.heap.size w (w.alloc (.cells cells e)):=uCO w (.cells cells e)
 refine ⟨(G.push w.heap.size f).name (.l j') (w.heap.size,0),?_,by simp [Gh.name]⟩;refine Rel.addBox ?_ ?_ rfl
 ·refine (h.sub (St.drop_sub _ (.l j'))).grow hfr' ?_ (St.drop_same (st:=st) rfl (fun k g x hk=>hfr.1 rfl k g x hk) _ _) ?_
  ·intro b o hb
   have : ¬ b=w.heap.size:=by omega
   simp [Gh.name,Gh.push,this]
  ·intro b o hne
   simp only [Gh.name,Gh.push] at hne
   split at hne
   ·rename_i hb; subst hb; simp
   ·have := h.wf b o hne; simp; omega
 ·intro j c hj
  have hjl : j < cs.length:=(List.getElem?_eq_some_iff.1 hj).1
  obtain ⟨v,hv',hr⟩:=hrep j c hj
  refine ⟨by simp [Gh.name,Gh.push,f,hjl],by simp only [Gh.name,if_true]; exact World.frozen?_alloc_new w cells e _,v,?_,?_⟩
  ·simp only [Gh.name,if_true]
   rw [Nat.zero_add]
   exact (World.cell?_alloc_new w cells e j).trans hv'
  ·refine hr.mono ?_ ?_
   ·intro b o hs
    have hb:=h.wf b o (by unfold Gh.S at hs; rw [hs]; simp)
    have : ¬ b=w.heap.size:=by omega
    simpa [Gh.S,Gh.name,Gh.push,this] using hs
   ·intro b o hs
    have hb:=h.wf b o (by unfold Gh.S at hs; rw [hs]; simp)
    exact hfr'.cell b o hb (fun x=>x)
abbrev Eff.bms (d j' sz L : Nat) (cs : List C) : Eff:={ d:=some (d,true, .v (.ms (.l j') sz 0 L)),b:=some (.l j',cs),drop:=[.t d],gain:=some (.t d,sz) }
theorem uIq (j' : Nat) {N : Nat} {st : St} {ops : Array Oper} {o : Oper} {g : Bool} {d : Nat} {t : TypeId} {len : Nat} {parts : Array (Nat × Operand)} {xs : List Operand} {ti : TyI} {e sz by' : Nat} {rs : List (List C)}
  (ho : o.op = .buildSlice t len parts) (hg : uA3 ops st o=some true) (hd : o.dst=some d) (hN : Nat.ble (d + 1) N=true) (ht : tyAt Z.T t=some ti) (hel : ti.el=some (e,sz,by')) (hp : parts.toList=uDH 0 xs) (hx : Nat.beq xs.length len=true)
  (hrs : uCt Z.T st e sz xs=some (g,rs)) (hga : g=true) (hbig : Nat.ble (len * sz) 10000=true) (hfr : FreshG st (.l j',true)) : Op1 Z N ops o st (ap (.bms d j' sz len rs.flatten) st):=by
 intro E G a w hr hE K' Q' hK
 have hdN : d < E.nt:=by rw [hE.nt]; exact Nat.le_of_ble_eq_true hN
 rw [uBs hr hg,hd]
 rw [hd] at hK
 simp only [if_true]
 have hxl : xs.length=len:=Nat.eq_of_beq_eq_true hx
 have hbig' : len * sz≤10000:=Nat.le_of_ble_eq_true hbig
 have hrep:=uEt hr hrs hga
 have hrl : rs.length=xs.length:=hrep.len
 obtain ⟨hu,jf,ze,hinfo,hsz,_,hsz0,hze,hzec⟩:=(Z.tyOk ht).sl e sz by' hel
 have hsz' : ∀ x ∈ xs,(a.eval x).cells.size=sz:=by
  intro x hx
  obtain ⟨j,hj⟩:=List.getElem?_of_mem hx
  have hjl : j < rs.length:=by rw [hrl]; exact (List.getElem?_eq_some_iff.1 hj).1
  obtain ⟨x',hx',h1,h2⟩:=hrep.get j _ (List.getElem?_eq_getElem hjl)
  rw [hj] at hx'; simp at hx'; subst hx'
  rw [← Array.length_toList,← h2.len,h1]
 let zc : Array Value:=if len * sz=0 then #[] else ze.cells
 let cells0 : Array Value:=(Array.range (len * sz)).map (zc[· % zc.size]!)
 obtain ⟨cells,hf1,hf2,_,hf4⟩:=uGK sz a.eval xs 0 cells0 hsz' (by simp [cells0,hxl])
 have hfsz : cells.size=len * sz:=by rw [hf2]; simp [cells0]
 have hrun : (execOp a.eval o).run Z.P w = .ok (.value (.slice (some ⟨w.heap.size,0,none⟩) len len)) (w.alloc (.cells cells e)):=by
  have hmap : (parts.map fun (i,x)=>(i,a.eval x)).toList=(uDH 0 xs).map fun (i,x)=>(i,a.eval x):=by
   rw [Array.toList_map,hp]
  have hnb : ¬ (len * sz > 2 ^ 24):=by omega
  simp only [execOp,ho,Instr.buildSlice,underlying,Sem.run_bind,run_program,Result.andThen_ok,hu,Sem.run_pure,sizeOf,typeInfo,hinfo,hsz,Sem.run_ite,if_neg hnb]
  by_cases hz : len * sz=0
  ·simp only [hz,if_true]
   have hc0 : (Array.range 0).map ((#[] : Array Value)[· % (#[] : Array Value).size]!)=cells0:=by simp [cells0,hz]
   rw [hmap,hc0,hf1]
   simp [newRow]
  ·simp only [if_neg hz,zeroValue,typeInfo,Sem.run_bind,run_program,Result.andThen_ok,hinfo,Sem.run_pure,hze]
   have hc0 : (Array.range (len * sz)).map (ze.cells[· % ze.cells.size]!)=cells0:=by simp only [cells0,zc,if_neg hz]
   rw [hmap,hc0,hf1]
   simp [newRow]
 unfold Oper.wp
 rw [hrun,Oper.upon_value,hd]
 have hrow : ∀ (i : Nat) (row : List C),rs[i]? = some row→row.length=sz:=fun i row hi=>by
  obtain ⟨x,hx1,hx2,hx3⟩:=hrep.get i row hi
  exact hx2
 obtain ⟨G1,hG,hA⟩:=hr.rowBox (j':=j') hfr (cells:=cells) (e:=e) (cs:=rs.flatten) (fun m c hm=>by
  obtain ⟨i,j,row,hmi,_,hi,hj⟩:=uGw hrow hm
  subst hmi
  obtain ⟨x,hx1,hx2,hx3⟩:=hrep.get i row hi
  obtain ⟨v,hv,hcr⟩:=hx3.get j c hj
  have hjl : j < sz:=by rw [← hx2]; exact (List.getElem?_eq_some_iff.1 hj).1
  have := hf4 i x j hx1 hjl
  rw [Nat.zero_add] at this
  exact ⟨v,by rw [this]; simpa using hv,hcr⟩)
 have hput:=hG.put hdN (g:=true) (x:=.v (.ms (.l j') sz 0 len)) (v:=.slice (some ⟨w.heap.size,0,none⟩) len len) (fun _=>.inr ⟨len,Nat.le_refl _,by rw [hA]⟩) (fun hf=>by simp at hf)
 have hown:=hput.addOwn (p:=.t d) (sz:=sz) (v:=.slice (some ⟨w.heap.size,0,none⟩) len len) (by
  show (a.put (some d) _).tmps[d]? = _
  rw [uBx (by rw [hr.nt]; exact hdN)]; simp) (by
  refine .inr ⟨w.heap.size,len,len,e,rfl,⟨Nat.le_refl _,Nat.le_trans E.C_le (Nat.le_trans hr.hB hr.fr.size),fun _ _ _ hh=>by simp at hh⟩,⟨?_,uD3 w cells e _⟩,fun o' h1 h2=>by omega⟩
  unfold World.shape?
  rw [show (w.alloc (.cells cells e)).heap[w.heap.size]? = some (.cells cells e) from Array.getElem?_push_size]
  simp [hfsz])
 have hsub : Sub (ap (.bms d j' sz len rs.flatten) st) (((st.addBox (.l j') rs.flatten).put d (true, .v (.ms (.l j') sz 0 len))).addOwn (.t d) sz):=by
  refine ⟨fun k x hk=>?_,fun n cs hn=>?_,fun p s hp=>?_, .inr rfl⟩
  ·rw [uCm] at hk
   show ((st.addBox (.l j') rs.flatten).put d (true, .v (.ms (.l j') sz 0 len))).get k=_
   rw [St.put_get]
   simp only [Eff.gt] at hk
   by_cases h : d=k
   ·subst h; simpa using hk
   ·have h' : ¬ k=d:=fun e=>h e.symm
    rw [if_neg h']
    have hk' : st.get k=some x:=by simpa [h] using hk
    exact hk'
  ·rw [uCs] at hn
   show getB ((.l j',rs.flatten) :: (st.drop (.l j')).bx) n=_
   rw [uA0]
   simp only [Eff.gb] at hn
   split
   ·rename_i he; rw [if_pos he] at hn; exact hn
   ·rename_i he
    rw [if_neg he] at hn
    show (st.drop (.l j')).box n=_
    rw [St.drop_box,if_neg (fun q=>he q.symm)]
    exact hn
  ·rw [uCb] at hp
   rw [St.addOwn_own]
   simp only [Eff.go,List.mem_singleton] at hp
   split
   ·rename_i he; rw [if_pos he] at hp; exact hp
   ·rename_i he
    rw [if_neg he] at hp
    rw [St.put_own]
    split
    ·rename_i h2; rw [if_pos h2] at hp; exact hp
    ·rename_i h2
     rw [if_neg h2] at hp
     show (st.drop (.l j')).own p=_
     rw [St.drop_own]
     have hp : st.own p=some s:=hp
     rw [hfr.2 p s hp]
     simpa using hp
 exact hK G1 _ _ (hown.sub hsub)
section
variable {N : Nat} {st s0 : St} {ops : Array Oper} {B : List Nat} {q : Nat} {rest : List Oper} {acc : List Lnk} {o : Oper} {Q : St→Prop} {d : Nat}
theorem uJI (j' : Nat) {g : Bool} {t : TypeId} {len : Nat} {parts : Array (Nat × Operand)} {xs : List Operand} {ti : TyI} {e sz by' : Nat} {rws : List (List C)} (hk : ops[q]? = some o)
  (ho : o.op = .buildSlice t len parts) (hg : uA3 ops (rs (foot ops o [] []) st) o=some true) (hd : o.dst=some d) (hN : Nat.ble (d + 1) N=true) (ht : tyAt Z.T t=some ti) (hel : ti.el=some (e,sz,by')) (hp : parts.toList=uDH 0 xs) (hx : Nat.beq xs.length len=true)
  (hrs : uCt Z.T (rs (foot ops o [] []) st) e sz xs=some (g,rws)) (hga : g=true) (hbig : Nat.ble (len * sz) 10000=true) (hf1 : s0.freshO (.l j',true)=true)
  (hr : Draw Z N s0 ops B (q + 1) rest (acc++[(q, .bms d j' sz len rws.flatten,{ foot ops o [] [] with rn:=[(.l j',true)] })]) (ap (.bms d j' sz len rws.flatten) st) Q) : Draw Z N s0 ops B q (o :: rest) acc st Q:=by
 refine uCy hk (R:={ foot ops o [] [] with rn:=[(.l j',true)] }) ?_ hr (by
  intro m hm
  simp only [List.mem_cons,List.not_mem_nil,or_false] at hm
  subst hm
  exact hf1)
 intro s2 hag hfr
 have hsub : Sub (rs (foot ops o [] []) st) s2:=hag.sub
 exact uIq j' ho (uB2 hsub hg) hd hN ht hel hp hx (uEz hsub hrs) hga hbig (hfr _ (by simp))
end
theorem uFQ {st : St} {ty : TypeId} {x i : Operand} {t : TypeId} {g gi gate : Bool} {k : IntKind} {m : Int} {j sz : Nat} {es : List (List C)} {row : List C} {ti : TyI} {e by' : Nat} (h : lk Z.T st ty x=some (g, .v (.c (.sl sz es)))) (hi : lk Z.T st ty i=some (gi, .v (.c (.i k m))))
  (hg : gate=true→g=true) (hgi : gate=true→gi=true) (ht : tyAt Z.T t=some ti) (hel : ti.el=some (e,sz,by')) (hn : gate=true→m=(j : Int)) (hj : gate=true→es[j]? = some row) : PureOk Z st (.indexAddr t x i) ty gate (.v (.ro row)) :=
 fun o E G a w h1 h2 h3 h4=>uAy h hi hg hgi ht hel (hn h4) hj o E G a w h1 h2 h3 h4
theorem uJj (j' : Nat) {N : Nat} {ops : Array Oper} {rest : List Oper} {K : St→Prop} {st : St} {o : Oper} {d k : Nat} {x : Operand} {t : TypeId} {sz e by' L m0 : Nat} {cs : List C} {xs : List (List C)} {ti : TyI}
  (ho : o.op = .call { callee:=.builtin .append,args:=#[.tmp k,x],argTypes:=#[t,t] }) (hg : uA3 ops st o=some true) (hd : o.dst=some d)
  (hs : st.get k=some (true, .v (.ms (.l m0) sz 0 L))) (hw : st.own (.t k)=some sz) (hb : st.box (.l m0)=some cs) (hx : lk Z.T st t x=some (true, .v (.c (.sl sz xs))))
  (ht : tyAt Z.T t=some ti) (hel : ti.el=some (e,sz,by')) (hN : Nat.ble (d + 1) N=true) (hkd : Nat.beq k d=false) (hf1 : st.freshO (.l j',true)=true) (hf2 : st.freshO (.l m0,false)=true) (hcl : cs.length=L * sz) (hx1 : 1≤xs.length)
  (hbig : (L + xs.length) * by'≤140737488355328) (hmax : L + xs.length≤9223372036854775807)
  (h : AL Z N ops rest K (st.msApp d k j' (.l m0) sz (L + xs.length) (cs++xs.flatten))) (hz : Z.old=false:=by rfl) : AL Z N ops (o :: rest) K st :=
 uCS (uEA hg (by
  rw [hd,ho]
  exact uJw hs hw hx ht hel hN hkd ⟨_,rfl⟩ (St.freshO_ok hf1) (St.freshO_ok hf2) hcl hx1 hbig hmax (uND hb hcl) (hz:=hz))) h
end Go.Abs
namespace Go.Proofs.YtnjjdbapadkomaaGreatDoor
open Go Go.Abs
def strC (L : List (List UInt8)) : List C:=L.map .s
theorem uHG : ∀ L : List (List UInt8),(strR L).flatten=strC L
 | []=>rfl
 | x :: L=>by
  show ([[C.s x]]++strR L).flatten=_
  rw [List.flatten_append,uHG L]; rfl
theorem uEL (L : List (List UInt8)) : (strC L).length=L.length:=by simp [strC]
theorem uGR (a b : List (List UInt8)) : strC (a++b)=strC a++strC b:=by simp [strC]
theorem uLL (L : List (List UInt8)) : ∀ (i : Nat) (row : List C),(strR L)[i]? = some row→row.length=1:=by
 intro i row h
 rw [strR,List.getElem?_map,Option.map_eq_some_iff] at h
 obtain ⟨x,_,rfl⟩:=h
 rfl
theorem uK0 (L : List (List UInt8)) (x : List UInt8) {j : Nat} (hj : j=L.length) : (strC (L++[x]))[0 + j * 1]? = some (.s x):=by
 subst hj; simp [strC]
theorem uIH (L : List (List UInt8)) (x y : List UInt8) {j : Nat} (hj : j=L.length) : uBB (strC (L++[x])) (0 + j * 1) [.s y]=strC (L++[y]):=by
 subst hj
 rw [uGR,uGR,Nat.zero_add,Nat.mul_one]
 have := uHd [C.s y] (strC L) [C.s x] [] rfl
 rw [uEL,List.append_nil,List.append_nil] at this
 exact this
theorem uM4 {a b : Nat} (h : a≤b) : Nat.ble a b=true:=Nat.ble_eq_true_of_le h
def Nar.lk (n : Nar) (k : Nat) : List (List UInt8):=[uGs n,(Itm.roles n.roles).text]++(frI n.fresh k).map Itm.text
theorem uJF (n : Nar) (k : Nat) : (n.lk k).length=2 + (frI n.fresh k).length:=by simp [Nar.lk]; omega
theorem uNl (f : Fs) : fsW f.pr=f.name++[32]++sortW.getD (f.sort - 2).toNat []:=by simp [fsW,Fs.pr,uHD]
theorem uMv {n : Nar} {k : Nat} (hs : uD2 n.fresh k) : ∃ L x,n.lk k=L++[x++[59]]∧n.lk (k + 1)=L++[x++[44,32]++fsW (n.fresh.getD k default).pr++[59]] ∧ ∃ l,(Itm.fresh (n.fresh.getD k default).role l) ∈ frI n.fresh k∧x++[59]=(Itm.fresh (n.fresh.getD k default).role l).text:=by
 obtain ⟨I,l,h1,h2,h3⟩:=uGc hs
 obtain ⟨x,hx⟩:=uKI (n.fresh.getD k default).role l
 refine ⟨[uGs n,(Itm.roles n.roles).text]++I.map Itm.text,x,?_,?_,l,by rw [h2]; simp,hx.symm⟩
 ·rw [Nar.lk,h2,← hx]; simp
 ·rw [Nar.lk,h3,List.map_append,List.map_cons,List.map_nil,uKM _ h1,hx,List.dropLast_concat]; simp
theorem uNi {n : Nar} {k : Nat} (hs : ¬uD2 n.fresh k) : n.lk (k + 1)=n.lk k++[hFresh++(n.fresh.getD k default).role++[58,32]++fsW (n.fresh.getD k default).pr++[59]]:=by
 rw [Nar.lk,uH6 hs,Nar.lk]
 simp [Itm.text,uGi]
def uEK (n : Nar) : List UInt8 × Int:=if narE uAN n≠0 then ([],narE uAN n) else (n.text,0)
def Nar.rest (n : Nar) (j k : Nat) : List (List UInt8):=n.lk n.fresh.length++((if n.tags=[] then [] else [(Itm.tags n.tags).text])++((n.steps.take j).map (fun s=>(Itm.step s).text)++(n.goals.take k).map fun g=>(Itm.goal g).text))
theorem uIA (n : Nar) : n.rest n.steps.length n.goals.length++[[125]]=n.lines:=by
 simp only [Nar.rest,List.take_length,Nar.lk,Nar.lines,Nar.itms]
 split <;> simp [List.map_map,Function.comp_def]
theorem uHk (n : Nar) {j : Nat} (h : j < n.steps.length) : n.rest (j + 1) 0=n.rest j 0++[(Itm.step (n.steps.getD j default)).text]:=by
 simp only [Nar.rest,map_take (d:=default) (fun s=>(Itm.step s).text) h]
 simp
theorem uHl (n : Nar) {k : Nat} (h : k < n.goals.length) : n.rest n.steps.length (k + 1)=n.rest n.steps.length k++[(Itm.goal (n.goals.getD k default)).text]:=by
 simp only [Nar.rest,map_take (d:=default) (fun g=>(Itm.goal g).text) h]
 simp
theorem uMl (n : Nar) (j k : Nat) : (n.rest j k).length≤2 + n.fresh.length + 1 + n.steps.length + n.goals.length:=by
 have := uEV n.fresh n.fresh.length
 have := List.length_take_le j n.steps
 have := List.length_take_le k n.goals
 simp only [Nar.rest,List.length_append,List.length_map,uJF]
 split <;> simp <;> omega
theorem uM6 {n : Nar} (h : NarOk n) {k : Nat} (hk : k≤n.fresh.length) : (n.lk k).length≤14:=by
 have := uEV n.fresh k
 have := h.f2
 rw [uJF]; omega
theorem uE0 {n : Nar} (h : NarOk n) (j k : Nat) : (n.rest j k).length≤31:=by
 have := uMl n j k
 have := h.f2
 have := h.s2
 have := h.g2
 omega
set_option maxHeartbeats 8000000 in
theorem uIr (n : Nar) (hs : ∀ s ∈ n.steps,s.msg.size≤900000) (hg : ∀ g ∈ n.goals,T.sizes g.data≤900000) : Ctr sys 12 [xn n] [] (xse (uEK n)) none []:=by
 have hr1:=uAh n.roles
 have hr2:=Fs.rows_len n.fresh
 have hr3:=uAh n.tags
 have hr4:=Sp.rows_len n.steps
 have hr5:=Gl.rows_len n.goals
 refine uAv Tryz.func12 rfl rfl rfl rfl rfl rfl ?_;refine uAe (uAb ?_);refine uAu rfl (uAT rfl rfl rfl rfl) ?_;refine uAa rfl rfl rfl (uAd rfl gU) ?_;refine uAa rfl rfl rfl (uAd rfl gU) ?_;refine uAf ?_;refine uAe ?_;refine uAe (uAb ?_);refine uAa rfl rfl rfl (uAs rfl gU rfl rfl rfl rfl rfl) ?_;refine uAw rfl rfl rfl rfl rfl rfl gU gU (uEw n hs hg) rfl ?_;refine uAa rfl rfl rfl (uAd rfl gU) ?_;refine uAf ?_;refine uAn (s:=⟨[(1,_,_),(4,_,_)],[(.l 1,_)],[],[]⟩) (uAj (⟨sx rfl,sx rfl,trivial⟩) (⟨sx rfl,trivial⟩) trivial) ?_;refine uAe (uAb ?_);refine uAa rfl rfl rfl (uAc rfl gU) ?_;refine uAa rfl rfl rfl (uAk rfl rfl gU gU rfl) ?_;refine uAf ?_;refine uAl rfl (fun hc=>?_) (fun hc=>?_)
 ·try simp only [nn,uAh,T.rows_len,Gl.rows_len,Fs.rows_len,Sp.rows_len] at hc
  refine uAe (uAb ?_);refine uAa rfl rfl rfl (uAc rfl gU) ?_;refine uAa rfl rfl rfl (uAd rfl gU) ?_;refine uAa rfl rfl rfl (uAd rfl gU) ?_;refine uAf ?_;refine uAo ?_
  repeat (first | refine tR ?_ | refine bR ?_)
  refine uAq rfl ?_ trivial
  (rw [uEK,if_pos hc]; rfl)
 ·try simp only [nn,uAh,T.rows_len,Gl.rows_len,Fs.rows_len,Sp.rows_len] at hc
  have hE : uEK n=(n.text,0):=by rw [uEK,if_neg (by simpa using hc)]
  have hok:=uNr (n:=n) (by simpa using hc)
  have b1:=uCn hok.name
  have b2:=uDp hok.roles
  have b3:=hok.r2
  have b4:=uDp hok.tags
  have b5:=hok.t2
  have b6:=hok.f2
  have b7:=hok.s2
  have b8:=hok.g2
  rw [hE]
  refine uAp ?_;refine uAe ?_;refine awp_drawn' (by kernel_rfl) ?_;refine uAi rfl rfl rfl rfl (uAg rfl gU rfl rfl) ?_;refine uAV rfl rfl rfl rfl rfl rfl rfl gU rfl rfl rfl rfl ?_;refine uAi rfl rfl rfl rfl (uAD rfl rfl gU gU (by first | omega | (simp only [List.length_append,List.length_cons,List.length_nil]; omega))) ?_;refine uAi rfl rfl rfl rfl (uAD rfl rfl gU gU (by first | omega | (simp only [List.length_append,List.length_cons,List.length_nil]; omega))) ?_;refine uAi rfl rfl rfl rfl (uAg rfl gU rfl rfl) ?_;refine uAV rfl rfl rfl rfl rfl rfl rfl gU rfl rfl rfl rfl ?_;refine uBa rfl rfl rfl rfl rfl rfl rfl gU gU (uDl n.roles [44,32] (by omega) (by decide) (by omega)) rfl ?_;refine uAi rfl rfl rfl rfl (uAD rfl rfl gU gU (by first | omega | (simp only [List.length_append,List.length_cons,List.length_nil]; omega))) ?_;refine uAi rfl rfl rfl rfl (uAD rfl rfl gU gU (by first | omega | (simp only [List.length_append,List.length_cons,List.length_nil]; omega))) ?_;refine uJI 28 (xs:=[_,_]) rfl rfl rfl rfl rfl rfl rfl rfl rfl rfl rfl rfl rfl ?_;refine uD8 rfl (.inr rfl) rfl rfl rfl rfl rfl ?_;refine uBg (by kernel_rfl) ?_;refine uAn (s:=⟨[(1,_,_),(5,_,_)],[(.l 1,_),(.l 28,_)],[(.t 5,_)],[]⟩) (uAj (⟨sx rfl,sx rfl,trivial⟩) (⟨sx rfl,sx rfl,trivial⟩) (⟨rfl,trivial⟩)) ?_;refine uAe ?_;refine uAe (uAb ?_)
  refine uAa rfl rfl rfl (uAg rfl gU rfl rfl) ?_;refine uAa rfl rfl rfl (uAm rfl gU rfl rfl rfl rfl) ?_;refine uAQ rfl rfl rfl rfl rfl gU rfl rfl ?_ (fun hh=>by simp at hh); intro hlen;refine uAa rfl rfl rfl (uAc rfl gU) ?_;refine uAf ?_;refine uAt ?_;refine uAW (ι:=Nat) { t:=[(1,_,_),(30,_,_),(31,_,_)],bx:=[(.l 1,_)],ow:=[(.t 5,_)] } (fun k=>[(32,true,xi (k : Int)),(5,true, .v (.ms (.l 28) 1 0 (n.lk k).length))]) (fun k=>[((.l 28),strC (n.lk k))]) (fun k=>k≤n.fresh.length) (fun k=>n.fresh.length - k) (0) (by simp) (uAj (⟨sx rfl,sx rfl,sx rfl,sx rfl,sx rfl,trivial⟩) (⟨⟨_,rfl,by simp [strC,Nar.lk,frI,uGs,Itm.text,hProt,hRole]⟩,⟨sx rfl,trivial⟩⟩) (⟨rfl,trivial⟩)) ?_
  intro k hokk
  dsimp only [List.cons_append,List.nil_append]
  have hlm:=uM6 hok hokk
  have hll:=uJF n k
  have hcl:=uEL (n.lk k)
  refine uAe (uAb ?_);refine uAa rfl rfl rfl (uAk rfl rfl gU gU rfl) ?_;refine uAf ?_;refine uAe ?_;refine uAl rfl (fun hc2=>?_) (fun hc2=>?_)
  ·try simp only [nn,uAh,T.rows_len,Gl.rows_len,Fs.rows_len,Sp.rows_len] at hc2
   have hlt : k < n.fresh.length:=by omega
   obtain ⟨f1,f2,f3,f4⟩:=hok.fresh _ (uCq (d:=default) hlt)
   have f5:=uCn f1
   have f6:=uCn f2
   have f7:=uLS (n.fresh.getD k default).sort
   have f8:=uNl (n.fresh.getD k default)
   have hsl : sortW.length=3:=rfl
   have hfw : (fsW (n.fresh.getD k default).pr).length≤40:=by
    simp only [fsW,Fs.pr,List.length_append,List.length_cons,List.length_nil]; omega
   have f9 : (sortW.getD ((n.fresh.getD k default).sort - 2).toNat []).length≤5:=f7
   refine uAp ?_;refine uAe ?_;refine uAt ?_;refine uAe (uAb ?_);refine uAa rfl rfl rfl (uAc rfl gU) ?_;refine uAa rfl rfl rfl (uAy rfl rfl gU gU rfl rfl rfl (fun hh=>Fs.rows_at (by first | omega | (simp at hh ⊢; omega)))) ?_;refine uAa rfl rfl rfl (uAJ rfl gU rfl rfl rfl rfl) ?_;refine uAu rfl (uAP rfl rfl rfl) ?_;refine uAa rfl rfl rfl (uAd rfl gU) ?_;refine uAu rfl (uAz rfl rfl rfl rfl rfl rfl rfl) ?_;refine uAf ?_;refine uAn (s:=⟨[(1,_,_),(5,_,_),(6,_,_),(7,_,_),(30,_,_),(31,_,_),(32,_,_)],[(.l 1,_),(.l 28,_),(.l 7,_)],[(.t 5,_)],[]⟩) (uAj (⟨sx rfl,sx rfl,sx rfl,sx rfl,sx rfl,sx rfl,sx rfl,trivial⟩) (⟨sx rfl,sx rfl,sx rfl,trivial⟩) (⟨rfl,trivial⟩)) ?_;refine uAe ?_;refine awp_drawn' (by kernel_rfl) ?_;refine uAi rfl rfl rfl rfl (uAg rfl gU rfl rfl) ?_;refine uAV rfl rfl rfl rfl rfl rfl rfl gU rfl rfl rfl rfl ?_;refine uAi rfl rfl rfl rfl (uAD rfl rfl gU gU (by first | omega | (simp only [List.length_append,List.length_cons,List.length_nil]; omega))) ?_;refine uBa rfl rfl rfl rfl rfl rfl rfl gU gU (uEr) rfl ?_;refine uAi rfl rfl rfl rfl (uAg rfl gU rfl rfl) ?_;refine uAV rfl rfl rfl rfl rfl rfl rfl gU rfl rfl rfl rfl ?_;refine uAi rfl rfl rfl rfl (uAr rfl rfl gU gU rfl (IntWalk.i64_in _ (by omega))) ?_;refine uAi rfl rfl rfl rfl (uAy (j:=((n.fresh.getD k default).sort - 2).toNat) rfl rfl gU gU rfl rfl (by first | omega | (simp at hh ⊢; omega)) (fun hh=>uCK (by first | omega | (simp at hh ⊢; omega)))) ?_
   refine uAi rfl rfl rfl rfl (uAX rfl gU rfl rfl rfl) ?_;refine uAi rfl rfl rfl rfl (uAD rfl rfl gU gU (by first | omega | (simp only [List.length_append,List.length_cons,List.length_nil]; omega))) ?_
   rw [← f8]
   refine uAi rfl rfl rfl rfl (uAd rfl gU) ?_;refine uBg (by kernel_rfl) ?_;refine uAn (s:=⟨[(1,_,_),(5,_,_),(6,_,_),(7,_,_),(8,_,_),(30,_,_),(31,_,_),(32,_,_)],[(.l 1,_),(.l 28,_),(.l 7,_)],[(.t 5,_)],[]⟩) (uAj (⟨sx rfl,sx rfl,sx rfl,sx rfl,sx rfl,sx rfl,sx rfl,sx rfl,trivial⟩) (⟨sx rfl,sx rfl,sx rfl,trivial⟩) (⟨(ak rfl (ak rfl (ak rfl (ak rfl (ak rfl (ak rfl (ak rfl (ak rfl (ak rfl (ak rfl (ak rfl (rfl)))))))))))),trivial⟩)) ?_;refine uAe ?_;refine uAe ?_;refine awp_drawn' (by kernel_rfl) ?_;refine uAi rfl rfl rfl rfl (uAc rfl gU) ?_;refine uAi rfl rfl rfl rfl (uAk rfl rfl gU gU rfl) ?_;refine uAi rfl rfl rfl rfl (uAc rfl gU) ?_;refine uAi rfl rfl rfl rfl (uAg rfl gU rfl rfl) ?_;refine uAV rfl rfl rfl rfl rfl rfl rfl (fun hh=>hh) rfl rfl rfl rfl ?_;refine uAi rfl rfl rfl rfl (uAc rfl gU) ?_;refine uAi rfl rfl rfl rfl (uAr rfl rfl (fun hh=>hh) gU rfl (IntWalk.i64_in _ (by omega))) ?_;refine uAi rfl rfl rfl rfl (uFQ (j:=k - 1) rfl rfl (by first | exact fun hh=>hh | exact fun _=>rfl | exact fun hh=>gL hh | exact fun hh=>gL (gL hh) | (intro hh; simp_all)) (by first | exact fun hh=>hh | exact fun _=>rfl | exact fun hh=>gL hh | exact fun hh=>gL (gL hh) | (intro hh; simp_all)) rfl rfl (fun hh=>by simp at hh; omega) (fun hh=>Fs.rows_at (by simp at hh; omega))) ?_
   refine uAi rfl rfl rfl rfl (uA8 rfl (fun hh=>hh) rfl rfl) ?_;refine uAi rfl rfl rfl rfl (uAX rfl (fun hh=>hh) rfl rfl rfl) ?_;refine uAi rfl rfl rfl rfl (uAg rfl gU rfl rfl) ?_;refine uAV rfl rfl rfl rfl rfl rfl rfl (fun hh=>hh) rfl rfl rfl rfl ?_;refine uAi rfl rfl rfl rfl (uAY rfl rfl (fun hh=>hh) (fun hh=>hh) rfl) ?_;refine uAi rfl rfl rfl rfl (uAO rfl rfl gU (fun _ hi=>gP rfl hi)) ?_;refine uBg (by kernel_rfl) ?_;refine uAn (s:=⟨[(1,_,_),(5,_,_),(7,_,_),(8,_,_),(30,_,_),(31,_,_),(32,_,_),(60,_,_)],[(.l 1,_),(.l 28,_),(.l 7,_)],[(.t 5,_)],[]⟩) (uAj (⟨sx rfl,sx rfl,sx rfl,sx rfl,sx rfl,sx rfl,sx rfl,sx rfl,trivial⟩) (⟨sx rfl,sx rfl,sx rfl,trivial⟩) (⟨(ak rfl (ak rfl (ak rfl (ak rfl (ak rfl (ak rfl (ak rfl (ak rfl (ak rfl (ak rfl (ak rfl (ak rfl (ak rfl (ak rfl (rfl))))))))))))))),trivial⟩)) ?_;refine uAl rfl (fun hc3=>?_) (fun hc3=>?_)
   ·try simp only [nn,uAh,T.rows_len,Gl.rows_len,Fs.rows_len,Sp.rows_len] at hc3
    have hsm : uD2 n.fresh k:=⟨by omega,hc3.2⟩
    obtain ⟨L,x,e1,e2,l,e3,e4⟩:=uMv hsm
    have hxl : x.length≤500:=by
     have := uIZ hok.fresh (k := k) hokk hok.f2 _ e3
     rw [← e4,List.length_append] at this; omega
    have e5 : (n.lk k).length=L.length + 1:=by rw [e1]; simp
    have e6 : (n.lk (k + 1)).length=L.length + 1:=by rw [e2]; simp
    rw [e5]
    rw [e1]
    refine uAe (uAb ?_);refine uAa rfl rfl rfl (uAc rfl gU) ?_;refine uAa rfl rfl rfl (uAc rfl gU) ?_;refine uAa rfl rfl rfl (uJR rfl gU rfl rfl) ?_;refine uAa rfl rfl rfl (uAr rfl rfl gU gU rfl (IntWalk.i64_in _ (by omega))) ?_;refine uAa rfl rfl rfl (uH5 (j:=L.length) rfl rfl gU gU rfl rfl (by first | rfl | first | omega | (simp at hh ⊢; omega)) (fun hh=>by first | omega | (simp at hh ⊢; omega))) ?_;refine uAa rfl rfl rfl (uAd rfl gU) ?_;refine uAf ?_;refine uAn (s:=⟨[(1,_,_),(5,_,_),(8,_,_),(9,_,_),(30,_,_),(31,_,_),(32,_,_)],[(.l 1,_),(.l 28,_)],[(.t 5,_)],[]⟩) (uAj (⟨sx rfl,sx rfl,sx rfl,sx rfl,sx rfl,sx rfl,sx rfl,trivial⟩) (⟨sx rfl,sx rfl,trivial⟩) (⟨rfl,trivial⟩)) ?_;refine uAe (uAb ?_);refine uAa rfl rfl rfl (uAc rfl gU) ?_;refine uAa rfl rfl rfl (uAc rfl gU) ?_;refine uAa rfl rfl rfl (uAx rfl gU) ?_;refine uAa rfl rfl rfl (uAm rfl gU rfl rfl rfl (uK0 L _ rfl)) ?_;refine uAw rfl rfl rfl rfl rfl rfl gU gU (uHW x 59 (by omega)) rfl ?_;refine uAa rfl rfl rfl (uAD rfl rfl gU gU (by first | omega | (simp only [List.length_append,List.length_cons,List.length_nil]; omega))) ?_;refine uAa rfl rfl rfl (uAc rfl gU) ?_;refine uAa rfl rfl rfl (uAD rfl rfl gU gU (by first | omega | (simp only [List.length_append,List.length_cons,List.length_nil]; omega))) ?_
    refine uAa rfl rfl rfl (uAD rfl rfl gU gU (by first | omega | (simp only [List.length_append,List.length_cons,List.length_nil]; omega))) ?_;refine uAa rfl rfl rfl (uAx rfl gU) ?_;refine uAu rfl (uAz rfl rfl rfl rfl rfl rfl (uM4 (by rw [uEL]; simp))) ?_;refine uAf ?_;refine uAL ?_
    repeat (first | refine uAF ?_ | refine uAE ?_ | refine uAB rfl ?_)
    refine uAb ?_;refine uAa rfl rfl rfl (uAr rfl rfl gU gU rfl (IntWalk.i64_in _ (by omega))) ?_;refine uAa rfl rfl rfl (uAc rfl gU) ?_;refine uAf ?_;refine ⟨k + 1,?_,?_,uAj (⟨⟨_,rfl,?_⟩,⟨⟨_,rfl,?_⟩,⟨sx rfl,sx rfl,sx rfl,trivial⟩⟩⟩) (⟨⟨_,rfl,?_⟩,⟨sx rfl,trivial⟩⟩) (⟨rfl,trivial⟩)⟩
    all_goals first
     | rfl
     | omega
     | exact tx (by rw [e6])
     | (rw [uIH L _ _ rfl,e2]; done)
     | (rw [uIH L _ _ rfl,e2]; rfl)
   ·try simp only [nn,uAh,T.rows_len,Gl.rows_len,Fs.rows_len,Sp.rows_len] at hc3
    have hsm : ¬uD2 n.fresh k:=by
     rintro ⟨q1,q2⟩
     rcases hc3 with q | q
     ·omega
     ·exact q q2
    have e1:=uNi hsm
    have e2 : (n.lk (k + 1)).length=(n.lk k).length + 1:=by rw [e1]; simp
    refine uAp ?_;refine uAb ?_;refine uAu rfl (uAH (.inl rfl) rfl rfl rfl) ?_;refine uAa rfl rfl rfl (uAg rfl gU rfl rfl) ?_;refine uAa rfl rfl rfl (uAm rfl gU rfl rfl rfl rfl) ?_;refine uAa rfl rfl rfl (uAD rfl rfl gU gU (by first | omega | (simp only [List.length_append,List.length_cons,List.length_nil]; omega))) ?_;refine uAa rfl rfl rfl (uAD rfl rfl gU gU (by first | omega | (simp only [List.length_append,List.length_cons,List.length_nil]; omega))) ?_;refine uAa rfl rfl rfl (uAc rfl gU) ?_;refine uAa rfl rfl rfl (uAD rfl rfl gU gU (by first | omega | (simp only [List.length_append,List.length_cons,List.length_nil]; omega))) ?_;refine uAa rfl rfl rfl (uAD rfl rfl gU gU (by first | omega | (simp only [List.length_append,List.length_cons,List.length_nil]; omega))) ?_;refine uAK (xs:=[_]) rfl rfl rfl rfl rfl rfl rfl rfl rfl gU rfl ?_;refine uJj 85 rfl rfl rfl rfl rfl rfl rfl rfl rfl rfl rfl rfl rfl (by rw [uEL,Nat.mul_one]) (by simp) (by simp; omega) (by simp; omega) ?_;refine uAu rfl (uAH (.inr rfl) rfl rfl rfl) ?_;refine uAf ?_;refine uAn (s:=⟨[(1,_,_),(5,_,_),(30,_,_),(31,_,_),(32,_,_)],[(.l 1,_),(.l 85,_)],[(.t 5,_)],[]⟩) (uAj (⟨sx rfl,sx rfl,sx rfl,sx rfl,sx rfl,trivial⟩) (⟨sx rfl,sx rfl,trivial⟩) (⟨rfl,trivial⟩)) ?_;refine uAb ?_;refine uBq (s:=⟨[(1,_,_),(5,_,_),(30,_,_),(31,_,_),(32,_,_)],[(.l 1,_),(.l 85,_)],[(.t 5,_)],[]⟩) (uAj (⟨sx rfl,sx rfl,sx rfl,sx rfl,sx rfl,trivial⟩) (⟨sx rfl,sx rfl,trivial⟩) (⟨rfl,trivial⟩)) ?_
    refine uK8 5 85 28 rfl rfl rfl rfl ?_;refine uBq (s:=⟨[(1,_,_),(5,_,_),(30,_,_),(31,_,_),(32,_,_)],[(.l 1,_),(.l 28,_)],[(.t 5,_)],[]⟩) (uAj (⟨sx rfl,sx rfl,sx rfl,sx rfl,sx rfl,trivial⟩) (⟨sx rfl,sx rfl,trivial⟩) (⟨rfl,trivial⟩)) ?_;refine uAa rfl rfl rfl (uAr rfl rfl gU gU rfl (IntWalk.i64_in _ (by omega))) ?_;refine uAa rfl rfl rfl (uAc rfl gU) ?_;refine uAf ?_;refine ⟨k + 1,?_,?_,uAj (⟨⟨_,rfl,?_⟩,⟨⟨_,rfl,?_⟩,⟨sx rfl,sx rfl,sx rfl,trivial⟩⟩⟩) (⟨⟨_,rfl,?_⟩,⟨sx rfl,trivial⟩⟩) (⟨rfl,trivial⟩)⟩
    all_goals first
     | rfl
     | omega
     | exact tx (by rw [e2]; rfl)
     | (rw [e1,uGR]; rfl)
  ·try simp only [nn,uAh,T.rows_len,Gl.rows_len,Fs.rows_len,Sp.rows_len] at hc2
   have hke : k=n.fresh.length:=by omega
   subst hke
   refine uAL ?_
   repeat (first | refine uAF ?_ | refine uAE ?_ | refine uAB rfl ?_)
   refine uAe ?_;refine uAe (uAb ?_);refine uLj 5 28 (strR (n.lk n.fresh.length)) rfl (by rw [uHG]; rfl) (uAh _) (by omega) (uLL _) rfl ?_;refine uAa rfl rfl rfl (uAg rfl gU rfl rfl) ?_;refine uAa rfl rfl rfl (uAm rfl gU rfl rfl rfl rfl) ?_;refine uAQ rfl rfl rfl rfl rfl gU rfl rfl ?_ (fun hh=>by simp at hh); intro hlen;refine uAa rfl rfl rfl (uAk rfl rfl gU gU rfl) ?_;refine uAf ?_;refine uAn (s:=⟨[(1,_,_),(5,_,_),(90,_,_)],[(.l 1,_)],[(.t 5,_)],[]⟩) (uAj (⟨sx rfl,sx rfl,sx rfl,trivial⟩) (⟨sx rfl,trivial⟩) (⟨rfl,trivial⟩)) ?_;refine uAl rfl (fun hc4=>?_) (fun hc4=>?_)
   ·try simp only [nn,uAh,T.rows_len,Gl.rows_len,Fs.rows_len,Sp.rows_len] at hc4
    have htg : n.tags≠[]:=by intro q; rw [q] at hc4; simp at hc4
    have e0 : n.rest 0 0=n.lk n.fresh.length++[(Itm.tags n.tags).text]:=by simp [Nar.rest,htg]
    refine uAb ?_;refine uAu rfl (uAH (.inl rfl) rfl rfl rfl) ?_;refine uAa rfl rfl rfl (uAg rfl gU rfl rfl) ?_;refine uAa rfl rfl rfl (uAm rfl gU rfl rfl rfl rfl) ?_;refine uAw rfl rfl rfl rfl rfl rfl gU gU (uDl n.tags [44,32] (by omega) (by decide) (by omega)) rfl ?_;refine uAa rfl rfl rfl (uAD rfl rfl gU gU (by first | omega | (simp only [List.length_append,List.length_cons,List.length_nil]; omega))) ?_;refine uAa rfl rfl rfl (uAD rfl rfl gU gU (by first | omega | (simp only [List.length_append,List.length_cons,List.length_nil]; omega))) ?_;refine uAK (xs:=[_]) rfl rfl rfl rfl rfl rfl rfl rfl rfl gU rfl ?_;refine uAu rfl (uAZ rfl rfl rfl rfl rfl rfl rfl (by first | omega | (simp only [List.length_append,List.length_singleton,uAh]; omega)) (by first | omega | (simp only [List.length_append,List.length_singleton,uAh]; omega))) ?_;refine uAu rfl (uAH (.inr rfl) rfl rfl rfl) ?_;refine uAf ?_;refine uAn (s:=⟨[(1,_,_),(5,_,_)],[(.l 1,_)],[(.t 5,_)],[]⟩) (uAj (⟨sx rfl,sx rfl,trivial⟩) (⟨sx rfl,trivial⟩) (⟨rfl,trivial⟩)) ?_;refine uAe ?_;refine uAe (uAb ?_);refine uAa rfl rfl rfl (uAg rfl gU rfl rfl) ?_;refine uAa rfl rfl rfl (uAm rfl gU rfl rfl rfl rfl) ?_;refine uAQ rfl rfl rfl rfl rfl gU rfl rfl ?_ (fun hh=>by simp at hh); intro hlen;refine uAa rfl rfl rfl (uAc rfl gU) ?_
    refine uAf ?_;refine uAt ?_;refine uAW (ι:=Nat) { t:=[(1,_,_),(100,_,_),(101,_,_)],bx:=[(.l 1,_)],ow:=[(.t 5,_)] } (fun j=>[(102,true,xi (j : Int)),(5,true,xss (n.rest j 0))]) (fun j=>[]) (fun j=>j≤n.steps.length) (fun j=>n.steps.length - j) (0) (by simp) (uAj (⟨sx rfl,⟨⟨_,rfl,by rw [e0]; exact tx ((uB8 _ _).trans (by simp [Itm.text,hTag]))⟩,⟨sx rfl,sx rfl,sx rfl,trivial⟩⟩⟩) (⟨sx rfl,trivial⟩) (⟨rfl,trivial⟩)) ?_
    intro j hokj
    dsimp only [List.cons_append,List.nil_append]
    have hm1:=uE0 hok j 0
    refine uAe (uAb ?_);refine uAa rfl rfl rfl (uAk rfl rfl gU gU rfl) ?_;refine uAf ?_;refine uAe ?_;refine uAl rfl (fun hc5=>?_) (fun hc5=>?_)
    ·try simp only [nn,uAh,T.rows_len,Gl.rows_len,Fs.rows_len,Sp.rows_len] at hc5
     have hlt : j < n.steps.length:=by omega
     obtain ⟨s1,s2,s3⟩:=hok.steps _ (uCq (d:=default) hlt)
     have s4:=uCn s1
     have s5:=uCn s2
     have s6:=s3.len
     refine uAp ?_;refine uAe ?_;refine uAt ?_;refine uAe (uAb ?_);refine uAa rfl rfl rfl (uAy rfl rfl gU gU rfl rfl rfl (fun hh=>Sp.rows_at (by first | omega | (simp at hh ⊢; omega)))) ?_;refine uAa rfl rfl rfl (uAJ rfl gU rfl rfl rfl rfl) ?_;refine uAu rfl (uAP rfl rfl rfl) ?_;refine uAu rfl (uAz rfl rfl rfl rfl rfl rfl rfl) ?_;refine uAf ?_;refine awp_drawn' (by kernel_rfl) ?_;refine uD8 rfl (.inl rfl) rfl rfl rfl rfl rfl ?_;refine uAi rfl rfl rfl rfl (uAg rfl gU rfl rfl) ?_;refine uAV rfl rfl rfl rfl rfl rfl rfl gU rfl rfl rfl rfl ?_;refine uAi rfl rfl rfl rfl (uAD rfl rfl gU gU (by first | omega | (simp only [List.length_append,List.length_cons,List.length_nil]; omega))) ?_;refine uAi rfl rfl rfl rfl (uAD rfl rfl gU gU (by first | omega | (simp only [List.length_append,List.length_cons,List.length_nil]; omega))) ?_;refine uAi rfl rfl rfl rfl (uAg rfl gU rfl rfl) ?_;refine uAV rfl rfl rfl rfl rfl rfl rfl gU rfl rfl rfl rfl ?_;refine uAi rfl rfl rfl rfl (uAD rfl rfl gU gU (by first | omega | (simp only [List.length_append,List.length_cons,List.length_nil]; omega))) ?_;refine uAi rfl rfl rfl rfl (uAD rfl rfl gU gU (by first | omega | (simp only [List.length_append,List.length_cons,List.length_nil]; omega))) ?_;refine uAi rfl rfl rfl rfl (uAg rfl gU rfl rfl) ?_;refine uBQ rfl rfl rfl rfl rfl rfl rfl gU rfl rfl rfl rfl rfl ?_
     refine uBa rfl rfl rfl rfl rfl rfl rfl gU gU (uDz (n.steps.getD j default).msg (by have := s3.size; omega) s3.ok) rfl ?_;refine uAi rfl rfl rfl rfl (uAD rfl rfl gU gU (by first | omega | (simp only [List.length_append,List.length_cons,List.length_nil]; omega))) ?_;refine uAi rfl rfl rfl rfl (uAD rfl rfl gU gU (by first | omega | (simp only [List.length_append,List.length_cons,List.length_nil]; omega))) ?_;refine uCp (xs := [_]) rfl rfl rfl rfl rfl rfl rfl rfl rfl rfl gU rfl ?_;refine uBT rfl rfl rfl rfl rfl (rko (ak2 rfl (ak rfl (ak rfl (ak rfl (ak rfl (ak rfl (ak rfl (ak rfl (ak rfl (ak rfl (ak rfl (ak rfl (ak rfl (ak rfl (rfl)))))))))))))))) rfl rfl rfl rfl rfl (by first | omega | (simp only [List.length_append,List.length_singleton,uAh]; omega)) (by first | omega | (simp only [List.length_append,List.length_singleton,uAh]; omega)) ?_;refine uD8 rfl (.inr rfl) rfl rfl rfl rfl rfl ?_;refine uBg (by kernel_rfl) ?_;refine uAn (s := ⟨[(1,_,_),(5,_,_),(100,_,_),(101,_,_),(102,_,_)],[(.l 1,_)],[(.t 5,_)],[]⟩) (uAj (⟨sx rfl,sx rfl,sx rfl,sx rfl,sx rfl,trivial⟩) (⟨sx rfl,trivial⟩) (⟨rfl,trivial⟩)) ?_;refine uAb ?_;refine uAa rfl rfl rfl (uAr rfl rfl gU gU rfl (IntWalk.i64_in _ (by omega))) ?_;refine uAa rfl rfl rfl (uAc rfl gU) ?_;refine uAf ?_;refine ⟨j + 1,?_,?_,uAj (⟨⟨_,rfl,?_⟩,⟨⟨_,rfl,?_⟩,⟨sx rfl,sx rfl,sx rfl,trivial⟩⟩⟩) (⟨sx rfl,trivial⟩) (⟨rfl,trivial⟩)⟩
     all_goals first
      | rfl
      | omega
      | exact tx ((uB8 _ _).trans (by rw [uHk n hlt]; simp [Itm.text,hMsg,arrow]))
    ·try simp only [nn,uAh,T.rows_len,Gl.rows_len,Fs.rows_len,Sp.rows_len] at hc5
     have hje : j=n.steps.length:=by omega
     subst hje
     refine uAL ?_
     repeat (first | refine uAF ?_ | refine uAE ?_ | refine uAB rfl ?_)
     refine uAe ?_;refine uAe (uAb ?_);refine uAa rfl rfl rfl (uAg rfl gU rfl rfl) ?_;refine uAa rfl rfl rfl (uAm rfl gU rfl rfl rfl rfl) ?_;refine uAQ rfl rfl rfl rfl rfl gU rfl rfl ?_ (fun hh=>by simp at hh); intro hlen;refine uAa rfl rfl rfl (uAc rfl gU) ?_;refine uAf ?_;refine uAn (s:=⟨[(5,_,_),(124,_,_),(125,_,_),(126,_,_)],[],[(.t 5,_)],[]⟩) (uAj (⟨sx rfl,sx rfl,sx rfl,sx rfl,trivial⟩) trivial (⟨rfl,trivial⟩)) ?_;refine uAt ?_;refine uAW (ι:=Nat) { t:=[(124,_,_),(125,_,_)],bx:=[],ow:=[(.t 5,_)] } (fun k=>[(126,true,xi (k : Int)),(5,true,xss (n.rest n.steps.length k))]) (fun k=>[]) (fun k=>k≤n.goals.length) (fun k=>n.goals.length - k) (0) (by simp) (uAj (⟨sx rfl,sx rfl,sx rfl,sx rfl,trivial⟩) trivial (⟨rfl,trivial⟩)) ?_
     intro k hokk2
     dsimp only [List.cons_append,List.nil_append]
     have hm2:=uE0 hok n.steps.length k
     refine uAe (uAb ?_);refine uAa rfl rfl rfl (uAk rfl rfl gU gU rfl) ?_;refine uAf ?_;refine uAe ?_;refine uAl rfl (fun hc6=>?_) (fun hc6=>?_)
     ·try simp only [nn,uAh,T.rows_len,Gl.rows_len,Fs.rows_len,Sp.rows_len] at hc6
      have hlt : k < n.goals.length:=by omega
      have hgk:=hok.goals _ (uCq (d:=default) hlt)
      have g1:=uFa hgk
      have g2:=uGk (n.goals.getD k default)
      have g3 : (uGP (n.goals.getD k default)).length≤4600:=by
       rw [g2] at g1; simp only [List.length_append] at g1; omega
      refine uAp ?_;refine uAe ?_;refine uAt ?_;refine uAe (uAb ?_);refine uAa rfl rfl rfl (uAy rfl rfl gU gU rfl rfl rfl (fun hh=>Gl.rows_at (by first | omega | (simp at hh ⊢; omega)))) ?_;refine uAa rfl rfl rfl (uAJ rfl gU rfl rfl rfl rfl) ?_;refine uAu rfl (uAP rfl rfl rfl) ?_;refine uAu rfl (uAz rfl rfl rfl rfl rfl rfl rfl) ?_;refine uAf ?_;refine uAb ?_;refine uAu rfl (uAH (.inl rfl) rfl rfl rfl) ?_;refine uAa rfl rfl rfl (uAs rfl gU rfl rfl rfl rfl rfl) ?_;refine uAw rfl rfl rfl rfl rfl rfl gU gU (uEp _ hgk) rfl ?_;refine uAa rfl rfl rfl (uAD rfl rfl gU gU (by first | omega | (simp only [List.length_append,List.length_cons,List.length_nil]; omega))) ?_;refine uAa rfl rfl rfl (uAD rfl rfl gU gU (by first | omega | (simp only [List.length_append,List.length_cons,List.length_nil]; omega))) ?_;refine uAK (xs:=[_]) rfl rfl rfl rfl rfl rfl rfl rfl rfl gU rfl ?_;refine uAu rfl (uAZ rfl rfl rfl rfl rfl rfl rfl (by first | omega | (simp only [List.length_append,List.length_singleton,uAh]; omega)) (by first | omega | (simp only [List.length_append,List.length_singleton,uAh]; omega))) ?_;refine uAu rfl (uAH (.inr rfl) rfl rfl rfl) ?_;refine uAf ?_;refine uAn (s:=⟨[(5,_,_),(124,_,_),(125,_,_),(126,_,_)],[],[(.t 5,_)],[]⟩) (uAj (⟨sx rfl,sx rfl,sx rfl,sx rfl,trivial⟩) trivial (⟨rfl,trivial⟩)) ?_
      refine uAb ?_;refine uAa rfl rfl rfl (uAr rfl rfl gU gU rfl (IntWalk.i64_in _ (by omega))) ?_;refine uAa rfl rfl rfl (uAc rfl gU) ?_;refine uAf ?_;refine ⟨k + 1,?_,?_,uAj (⟨⟨_,rfl,?_⟩,⟨⟨_,rfl,?_⟩,⟨sx rfl,sx rfl,trivial⟩⟩⟩) trivial (⟨rfl,trivial⟩)⟩
      all_goals first
       | rfl
       | omega
       | exact tx ((uB8 _ _).trans (by rw [uHl n hlt,g2]; simp [hGoal]))
     ·try simp only [nn,uAh,T.rows_len,Gl.rows_len,Fs.rows_len,Sp.rows_len] at hc6
      have hke : k=n.goals.length:=by omega
      subst hke
      have hj1:=uIA n
      have hj2 : (Lib.join n.lines [10]).length≤60000:=by
       have := hok.text_len
       simp only [Nar.text,List.length_append] at this; omega
      have hj3 : X.v (.c (.sl 1 (strR (n.rest n.steps.length n.goals.length)++[[C.s [125]]])))=xss n.lines:=by rw [← hj1]; exact uB8 _ _
      have hjn : Ctr sys 40 [.v (.c (.sl 1 (strR (n.rest n.steps.length n.goals.length)++[[C.s [125]]]))),xs [10]] [] (xs (Lib.join n.lines [10])) none []:=by
       rw [hj3]; exact uDl n.lines [10] (by have := hok.lines_len; omega) (by decide) (by omega)
      refine uAL ?_
      repeat (first | refine uAF ?_ | refine uAE ?_ | refine uAB rfl ?_)
      refine uAe (uAb ?_);refine uAu rfl (uAH (.inl rfl) rfl rfl rfl) ?_;refine uAK (xs:=[_]) rfl rfl rfl rfl rfl rfl rfl rfl rfl gU rfl ?_;refine uAu rfl (uAZ rfl rfl rfl rfl rfl rfl rfl (by first | omega | (simp only [List.length_append,List.length_singleton,uAh]; omega)) (by first | omega | (simp only [List.length_append,List.length_singleton,uAh]; omega))) ?_;refine uAw rfl rfl rfl rfl rfl rfl gU gU (hjn) rfl ?_;refine uAa rfl rfl rfl (uAD rfl rfl gU gU (by first | omega | (simp only [List.length_append,List.length_cons,List.length_nil]; omega))) ?_;refine uAa rfl rfl rfl (uAd rfl gU) ?_;refine uAa rfl rfl rfl (uAd rfl gU) ?_;refine uAf ?_;refine uAo ?_
      repeat (first | refine tR ?_ | refine bR ?_)
      refine uAq rfl ?_ trivial
      rfl
   ·try simp only [nn,uAh,T.rows_len,Gl.rows_len,Fs.rows_len,Sp.rows_len] at hc4
    have htg : n.tags=[]:=List.length_eq_zero_iff.1 (by omega)
    have e0 : n.rest 0 0=n.lk n.fresh.length:=by simp [Nar.rest,htg]
    refine uAp ?_;refine uAe ?_;refine uAe (uAb ?_);refine uAa rfl rfl rfl (uAg rfl gU rfl rfl) ?_;refine uAa rfl rfl rfl (uAm rfl gU rfl rfl rfl rfl) ?_;refine uAQ rfl rfl rfl rfl rfl gU rfl rfl ?_ (fun hh=>by simp at hh); intro hlen;refine uAa rfl rfl rfl (uAc rfl gU) ?_;refine uAf ?_;refine uAt ?_;refine uAW (ι:=Nat) { t:=[(1,_,_),(100,_,_),(101,_,_)],bx:=[(.l 1,_)],ow:=[(.t 5,_)] } (fun j=>[(102,true,xi (j : Int)),(5,true,xss (n.rest j 0))]) (fun j=>[]) (fun j=>j≤n.steps.length) (fun j=>n.steps.length - j) (0) (by simp) (uAj (⟨sx rfl,⟨⟨_,rfl,by rw [e0]⟩,⟨sx rfl,sx rfl,sx rfl,trivial⟩⟩⟩) (⟨sx rfl,trivial⟩) (⟨rfl,trivial⟩)) ?_
    intro j hokj
    dsimp only [List.cons_append,List.nil_append]
    have hm1:=uE0 hok j 0
    refine uAe (uAb ?_);refine uAa rfl rfl rfl (uAk rfl rfl gU gU rfl) ?_;refine uAf ?_;refine uAe ?_;refine uAl rfl (fun hc5=>?_) (fun hc5=>?_)
    ·try simp only [nn,uAh,T.rows_len,Gl.rows_len,Fs.rows_len,Sp.rows_len] at hc5
     have hlt : j < n.steps.length:=by omega
     obtain ⟨s1,s2,s3⟩:=hok.steps _ (uCq (d:=default) hlt)
     have s4:=uCn s1
     have s5:=uCn s2
     have s6:=s3.len
     refine uAp ?_;refine uAe ?_;refine uAt ?_;refine uAe (uAb ?_);refine uAa rfl rfl rfl (uAy rfl rfl gU gU rfl rfl rfl (fun hh=>Sp.rows_at (by first | omega | (simp at hh ⊢; omega)))) ?_;refine uAa rfl rfl rfl (uAJ rfl gU rfl rfl rfl rfl) ?_;refine uAu rfl (uAP rfl rfl rfl) ?_;refine uAu rfl (uAz rfl rfl rfl rfl rfl rfl rfl) ?_;refine uAf ?_;refine awp_drawn' (by kernel_rfl) ?_;refine uD8 rfl (.inl rfl) rfl rfl rfl rfl rfl ?_;refine uAi rfl rfl rfl rfl (uAg rfl gU rfl rfl) ?_;refine uAV rfl rfl rfl rfl rfl rfl rfl gU rfl rfl rfl rfl ?_;refine uAi rfl rfl rfl rfl (uAD rfl rfl gU gU (by first | omega | (simp only [List.length_append,List.length_cons,List.length_nil]; omega))) ?_;refine uAi rfl rfl rfl rfl (uAD rfl rfl gU gU (by first | omega | (simp only [List.length_append,List.length_cons,List.length_nil]; omega))) ?_;refine uAi rfl rfl rfl rfl (uAg rfl gU rfl rfl) ?_;refine uAV rfl rfl rfl rfl rfl rfl rfl gU rfl rfl rfl rfl ?_;refine uAi rfl rfl rfl rfl (uAD rfl rfl gU gU (by first | omega | (simp only [List.length_append,List.length_cons,List.length_nil]; omega))) ?_;refine uAi rfl rfl rfl rfl (uAD rfl rfl gU gU (by first | omega | (simp only [List.length_append,List.length_cons,List.length_nil]; omega))) ?_;refine uAi rfl rfl rfl rfl (uAg rfl gU rfl rfl) ?_;refine uBQ rfl rfl rfl rfl rfl rfl rfl gU rfl rfl rfl rfl rfl ?_
     refine uBa rfl rfl rfl rfl rfl rfl rfl gU gU (uDz (n.steps.getD j default).msg (by have := s3.size; omega) s3.ok) rfl ?_;refine uAi rfl rfl rfl rfl (uAD rfl rfl gU gU (by first | omega | (simp only [List.length_append,List.length_cons,List.length_nil]; omega))) ?_;refine uAi rfl rfl rfl rfl (uAD rfl rfl gU gU (by first | omega | (simp only [List.length_append,List.length_cons,List.length_nil]; omega))) ?_;refine uCp (xs := [_]) rfl rfl rfl rfl rfl rfl rfl rfl rfl rfl gU rfl ?_;refine uBT rfl rfl rfl rfl rfl (rko (ak2 rfl (ak rfl (ak rfl (ak rfl (ak rfl (ak rfl (ak rfl (ak rfl (ak rfl (ak rfl (ak rfl (ak rfl (ak rfl (ak rfl (rfl)))))))))))))))) rfl rfl rfl rfl rfl (by first | omega | (simp only [List.length_append,List.length_singleton,uAh]; omega)) (by first | omega | (simp only [List.length_append,List.length_singleton,uAh]; omega)) ?_;refine uD8 rfl (.inr rfl) rfl rfl rfl rfl rfl ?_;refine uBg (by kernel_rfl) ?_;refine uAn (s := ⟨[(1,_,_),(5,_,_),(100,_,_),(101,_,_),(102,_,_)],[(.l 1,_)],[(.t 5,_)],[]⟩) (uAj (⟨sx rfl,sx rfl,sx rfl,sx rfl,sx rfl,trivial⟩) (⟨sx rfl,trivial⟩) (⟨rfl,trivial⟩)) ?_;refine uAb ?_;refine uAa rfl rfl rfl (uAr rfl rfl gU gU rfl (IntWalk.i64_in _ (by omega))) ?_;refine uAa rfl rfl rfl (uAc rfl gU) ?_;refine uAf ?_;refine ⟨j + 1,?_,?_,uAj (⟨⟨_,rfl,?_⟩,⟨⟨_,rfl,?_⟩,⟨sx rfl,sx rfl,sx rfl,trivial⟩⟩⟩) (⟨sx rfl,trivial⟩) (⟨rfl,trivial⟩)⟩
     all_goals first
      | rfl
      | omega
      | exact tx ((uB8 _ _).trans (by rw [uHk n hlt]; simp [Itm.text,hMsg,arrow]))
    ·try simp only [nn,uAh,T.rows_len,Gl.rows_len,Fs.rows_len,Sp.rows_len] at hc5
     have hje : j=n.steps.length:=by omega
     subst hje
     refine uAL ?_
     repeat (first | refine uAF ?_ | refine uAE ?_ | refine uAB rfl ?_)
     refine uAe ?_;refine uAe (uAb ?_);refine uAa rfl rfl rfl (uAg rfl gU rfl rfl) ?_;refine uAa rfl rfl rfl (uAm rfl gU rfl rfl rfl rfl) ?_;refine uAQ rfl rfl rfl rfl rfl gU rfl rfl ?_ (fun hh=>by simp at hh); intro hlen;refine uAa rfl rfl rfl (uAc rfl gU) ?_;refine uAf ?_;refine uAn (s:=⟨[(5,_,_),(124,_,_),(125,_,_),(126,_,_)],[],[(.t 5,_)],[]⟩) (uAj (⟨sx rfl,sx rfl,sx rfl,sx rfl,trivial⟩) trivial (⟨rfl,trivial⟩)) ?_;refine uAt ?_;refine uAW (ι:=Nat) { t:=[(124,_,_),(125,_,_)],bx:=[],ow:=[(.t 5,_)] } (fun k=>[(126,true,xi (k : Int)),(5,true,xss (n.rest n.steps.length k))]) (fun k=>[]) (fun k=>k≤n.goals.length) (fun k=>n.goals.length - k) (0) (by simp) (uAj (⟨sx rfl,sx rfl,sx rfl,sx rfl,trivial⟩) trivial (⟨rfl,trivial⟩)) ?_
     intro k hokk2
     dsimp only [List.cons_append,List.nil_append]
     have hm2:=uE0 hok n.steps.length k
     refine uAe (uAb ?_);refine uAa rfl rfl rfl (uAk rfl rfl gU gU rfl) ?_;refine uAf ?_;refine uAe ?_;refine uAl rfl (fun hc6=>?_) (fun hc6=>?_)
     ·try simp only [nn,uAh,T.rows_len,Gl.rows_len,Fs.rows_len,Sp.rows_len] at hc6
      have hlt : k < n.goals.length:=by omega
      have hgk:=hok.goals _ (uCq (d:=default) hlt)
      have g1:=uFa hgk
      have g2:=uGk (n.goals.getD k default)
      have g3 : (uGP (n.goals.getD k default)).length≤4600:=by
       rw [g2] at g1; simp only [List.length_append] at g1; omega
      refine uAp ?_;refine uAe ?_;refine uAt ?_;refine uAe (uAb ?_);refine uAa rfl rfl rfl (uAy rfl rfl gU gU rfl rfl rfl (fun hh=>Gl.rows_at (by first | omega | (simp at hh ⊢; omega)))) ?_;refine uAa rfl rfl rfl (uAJ rfl gU rfl rfl rfl rfl) ?_;refine uAu rfl (uAP rfl rfl rfl) ?_;refine uAu rfl (uAz rfl rfl rfl rfl rfl rfl rfl) ?_;refine uAf ?_;refine uAb ?_;refine uAu rfl (uAH (.inl rfl) rfl rfl rfl) ?_;refine uAa rfl rfl rfl (uAs rfl gU rfl rfl rfl rfl rfl) ?_;refine uAw rfl rfl rfl rfl rfl rfl gU gU (uEp _ hgk) rfl ?_;refine uAa rfl rfl rfl (uAD rfl rfl gU gU (by first | omega | (simp only [List.length_append,List.length_cons,List.length_nil]; omega))) ?_;refine uAa rfl rfl rfl (uAD rfl rfl gU gU (by first | omega | (simp only [List.length_append,List.length_cons,List.length_nil]; omega))) ?_;refine uAK (xs:=[_]) rfl rfl rfl rfl rfl rfl rfl rfl rfl gU rfl ?_;refine uAu rfl (uAZ rfl rfl rfl rfl rfl rfl rfl (by first | omega | (simp only [List.length_append,List.length_singleton,uAh]; omega)) (by first | omega | (simp only [List.length_append,List.length_singleton,uAh]; omega))) ?_;refine uAu rfl (uAH (.inr rfl) rfl rfl rfl) ?_;refine uAf ?_;refine uAn (s:=⟨[(5,_,_),(124,_,_),(125,_,_),(126,_,_)],[],[(.t 5,_)],[]⟩) (uAj (⟨sx rfl,sx rfl,sx rfl,sx rfl,trivial⟩) trivial (⟨rfl,trivial⟩)) ?_
      refine uAb ?_;refine uAa rfl rfl rfl (uAr rfl rfl gU gU rfl (IntWalk.i64_in _ (by omega))) ?_;refine uAa rfl rfl rfl (uAc rfl gU) ?_;refine uAf ?_;refine ⟨k + 1,?_,?_,uAj (⟨⟨_,rfl,?_⟩,⟨⟨_,rfl,?_⟩,⟨sx rfl,sx rfl,trivial⟩⟩⟩) trivial (⟨rfl,trivial⟩)⟩
      all_goals first
       | rfl
       | omega
       | exact tx ((uB8 _ _).trans (by rw [uHl n hlt,g2]; simp [hGoal]))
     ·try simp only [nn,uAh,T.rows_len,Gl.rows_len,Fs.rows_len,Sp.rows_len] at hc6
      have hke : k=n.goals.length:=by omega
      subst hke
      have hj1:=uIA n
      have hj2 : (Lib.join n.lines [10]).length≤60000:=by
       have := hok.text_len
       simp only [Nar.text,List.length_append] at this; omega
      have hj3 : X.v (.c (.sl 1 (strR (n.rest n.steps.length n.goals.length)++[[C.s [125]]])))=xss n.lines:=by rw [← hj1]; exact uB8 _ _
      have hjn : Ctr sys 40 [.v (.c (.sl 1 (strR (n.rest n.steps.length n.goals.length)++[[C.s [125]]]))),xs [10]] [] (xs (Lib.join n.lines [10])) none []:=by
       rw [hj3]; exact uDl n.lines [10] (by have := hok.lines_len; omega) (by decide) (by omega)
      refine uAL ?_
      repeat (first | refine uAF ?_ | refine uAE ?_ | refine uAB rfl ?_)
      refine uAe (uAb ?_);refine uAu rfl (uAH (.inl rfl) rfl rfl rfl) ?_;refine uAK (xs:=[_]) rfl rfl rfl rfl rfl rfl rfl rfl rfl gU rfl ?_;refine uAu rfl (uAZ rfl rfl rfl rfl rfl rfl rfl (by first | omega | (simp only [List.length_append,List.length_singleton,uAh]; omega)) (by first | omega | (simp only [List.length_append,List.length_singleton,uAh]; omega))) ?_;refine uAw rfl rfl rfl rfl rfl rfl gU gU (hjn) rfl ?_;refine uAa rfl rfl rfl (uAD rfl rfl gU gU (by first | omega | (simp only [List.length_append,List.length_cons,List.length_nil]; omega))) ?_;refine uAa rfl rfl rfl (uAd rfl gU) ?_;refine uAa rfl rfl rfl (uAd rfl gU) ?_;refine uAf ?_;refine uAo ?_
      repeat (first | refine tR ?_ | refine bR ?_)
      refine uAq rfl ?_ trivial
      rfl
end Go.Proofs.YtnjjdbapadkomaaGreatDoor
namespace Go.Proofs.YtnjjdbapadkomaaGreatDoor
open Go Go.Abs
theorem uIm (s : List UInt8) : Ctr sys 53 [xs s] [] (xb (uAN s)) none []:=by rw [← uNG s]; exact uJV s
theorem uK9 : ∀ (n : Nat) (t : T),t.size≤n→n≤2000000→Ctr sys 122 [xm t] [] (xi (rawE uAN t)) none []:=by
 intro n
 induction n with
 | zero=>intro t h; have := t.size_pos; omega
 | succ n ih =>
  intro t ht hn
  have hse:=t.size_eq
  have hrl:=T.rows_len t.kids
  have hls:=T.len_sizes t.kids
  have he:=uKn uAN t
  rw [uED] at he
  refine uAv Tryz.func122 rfl rfl rfl rfl rfl rfl ?_;refine uAe (uAb ?_);refine uAu rfl (uAT rfl rfl rfl rfl) ?_;refine uAa rfl rfl rfl (uAd rfl gU) ?_;refine uAf ?_;refine uAe ?_;refine uAe (uAb ?_);refine uAa rfl rfl rfl (uAg rfl gU rfl rfl) ?_;refine uAa rfl rfl rfl (uAm rfl gU rfl rfl rfl rfl) ?_;refine uAa rfl rfl rfl (uAk rfl rfl gU gU rfl) ?_;refine uAa rfl rfl rfl (uAc rfl gU) ?_;refine uAa rfl rfl rfl (uAg rfl gU rfl rfl) ?_;refine uAa rfl rfl rfl (uAm rfl (fun hh=>hh) rfl rfl rfl rfl) ?_;refine uAa rfl rfl rfl (uAk rfl rfl (fun hh=>hh) gU rfl) ?_;refine uAa rfl rfl rfl (uAM rfl rfl gU (fun _ hi=>gP rfl hi)) ?_;refine uAf ?_;refine uAn (s:=⟨[(1,_,_),(12,_,_)],[(.l 1,_)],[],[]⟩) (uAj (⟨sx rfl,sx rfl,trivial⟩) (⟨sx rfl,trivial⟩) trivial) ?_;refine uAl rfl (fun hc=>?_) (fun hc=>?_)
  ·try simp only [nn,uAh,T.rows_len,Fs.rows_len,Sp.rows_len,Gl.rows_len] at hc
   refine uAe (uAb ?_);refine uAa rfl rfl rfl (uAd rfl gU) ?_;refine uAf ?_;refine uAo ?_
   repeat (first | refine tR ?_ | refine bR ?_)
   refine uAq rfl ?_ trivial
   (rw [he,if_pos (by grind)]; rfl)
  ·try simp only [nn,uAh,T.rows_len,Fs.rows_len,Sp.rows_len,Gl.rows_len] at hc
   rw [if_neg (by grind)] at he
   refine uAp ?_;refine uAe ?_;refine uAe (uAb ?_);refine uAa rfl rfl rfl (uAg rfl gU rfl rfl) ?_;refine uAa rfl rfl rfl (uAm rfl gU rfl rfl rfl rfl) ?_;refine uAw rfl rfl rfl rfl rfl rfl gU gU (uIm _) rfl ?_;refine uAa rfl rfl rfl (uA1 rfl gU) ?_;refine uAf ?_;refine uAl rfl (fun hc2=>?_) (fun hc2=>?_)
   ·try simp only [nn,uAh,T.rows_len,Fs.rows_len,Sp.rows_len,Gl.rows_len] at hc2
    refine uAe (uAb ?_);refine uAa rfl rfl rfl (uAd rfl gU) ?_;refine uAf ?_;refine uAo ?_
    repeat (first | refine tR ?_ | refine bR ?_)
    refine uAq rfl ?_ trivial
    (rw [he,if_pos hc2]; rfl)
   ·try simp only [nn,uAh,T.rows_len,Fs.rows_len,Sp.rows_len,Gl.rows_len] at hc2
    rw [if_neg (by rw [hc2]; simp)] at he
    refine uAp ?_;refine uAe ?_;refine uAe (uAb ?_);refine uAa rfl rfl rfl (uAd rfl gU) ?_;refine uAf ?_;refine uAn (s:=⟨[(1,_,_),(3,_,_)],[(.l 1,_)],[],[]⟩) (uAj (⟨sx rfl,sx rfl,trivial⟩) (⟨sx rfl,trivial⟩) trivial) ?_;refine uAt ?_;refine uAW (ι:=Nat) { t:=[(1,_,_)],bx:=[(.l 1,_)],ow:=[] } (fun k=>[(3,true,xi (k : Int))]) (fun k=>[]) (fun k=>k≤t.kids.length∧errs (rawE uAN) (t.kids.drop k)=rawE uAN t) (fun k=>t.kids.length - k) (0) (⟨by simp,by rw [he]; rfl⟩) (uAj (⟨sx rfl,sx rfl,trivial⟩) (⟨sx rfl,trivial⟩) trivial) ?_
    intro k hok
    dsimp only [List.cons_append,List.nil_append]
    obtain ⟨hk,hi⟩:=hok
    refine uAe ?_;refine uAe (uAb ?_);refine uAa rfl rfl rfl (uAc rfl gU) ?_;refine uAa rfl rfl rfl (uAg rfl gU rfl rfl) ?_;refine uAa rfl rfl rfl (uAm rfl gU rfl rfl rfl rfl) ?_;refine uAQ rfl rfl rfl rfl rfl gU rfl rfl ?_ (fun hh=>by simp at hh); intro hlen;refine uAa rfl rfl rfl (uAk rfl rfl gU gU rfl) ?_;refine uAf ?_;refine uAn (s:=⟨[(1,_,_),(3,_,_),(21,_,_)],[(.l 1,_)],[],[]⟩) (uAj (⟨sx rfl,sx rfl,sx rfl,trivial⟩) (⟨sx rfl,trivial⟩) trivial) ?_;refine uAl rfl (fun hc3=>?_) (fun hc3=>?_)
    ·try simp only [nn,uAh,T.rows_len,Fs.rows_len,Sp.rows_len,Gl.rows_len] at hc3
     have hlt : k < t.kids.length:=by omega
     have h2:=T.getD_size hlt
     have hd:=uCW (d:=default) hlt hi
     refine uAp ?_;refine uAe ?_;refine uAt ?_;refine uAe (uAb ?_);refine uAa rfl rfl rfl (uAg rfl gU rfl rfl) ?_;refine uAa rfl rfl rfl (uAm rfl gU rfl rfl rfl rfl) ?_;refine uAa rfl rfl rfl (uAc rfl gU) ?_;refine uAa rfl rfl rfl (uAy rfl rfl gU gU rfl rfl rfl (fun hh=>T.rows_at (by first | omega | (simp at hh ⊢; omega)))) ?_;refine uAa rfl rfl rfl (uAJ rfl gU rfl rfl rfl rfl) ?_;refine uAw rfl rfl rfl rfl rfl rfl gU gU (ih (t.kids.getD k default) (by omega) (by omega)) rfl ?_;refine uAa rfl rfl rfl (uAd rfl gU) ?_;refine uAf ?_;refine uAn (s:=⟨[(1,_,_),(3,_,_),(4,_,_)],[(.l 1,_)],[],[]⟩) (uAj (⟨sx rfl,sx rfl,sx rfl,trivial⟩) (⟨sx rfl,trivial⟩) trivial) ?_;refine uAe (uAb ?_);refine uAa rfl rfl rfl (uAc rfl gU) ?_;refine uAa rfl rfl rfl (uAk rfl rfl gU gU rfl) ?_;refine uAf ?_;refine uAl rfl (fun hc1=>?_) (fun hc1=>?_)
     ·try simp only [nn,uAh,T.rows_len,Fs.rows_len,Sp.rows_len,Gl.rows_len] at hc1
      refine uAe (uAb ?_);refine uAa rfl rfl rfl (uAc rfl gU) ?_;refine uAa rfl rfl rfl (uAd rfl gU) ?_;refine uAf ?_;refine uAo ?_
      repeat (first | refine tR ?_ | refine bR ?_)
      refine uAq rfl ?_ trivial;exact uA9 (hd.1 (by assumption)).symm
     ·try simp only [nn,uAh,T.rows_len,Fs.rows_len,Sp.rows_len,Gl.rows_len] at hc1
      refine uAp ?_;refine uAb ?_;refine uAa rfl rfl rfl (uAc rfl gU) ?_;refine uAa rfl rfl rfl (uAr rfl rfl gU gU rfl (IntWalk.i64_in _ (by omega))) ?_;refine uAa rfl rfl rfl (uAd rfl gU) ?_;refine uAf ?_;refine ⟨k + 1,?_,?_,uAj (⟨⟨_,rfl,?_⟩,⟨sx rfl,trivial⟩⟩) (⟨sx rfl,trivial⟩) trivial⟩
      all_goals (first | rfl | omega | exact ⟨by omega,hd.2 (by assumption)⟩)
    ·try simp only [nn,uAh,T.rows_len,Fs.rows_len,Sp.rows_len,Gl.rows_len] at hc3
     refine uAL ?_
     repeat (first | refine uAF ?_ | refine uAE ?_ | refine uAB rfl ?_)
     refine uAe (uAb ?_);refine uAa rfl rfl rfl (uAd rfl gU) ?_;refine uAf ?_;refine uAo ?_
     repeat (first | refine tR ?_ | refine bR ?_)
     refine uAq rfl ?_ trivial;exact uA9 (uDn (by omega) hi).symm
theorem uKZ (t : T) (ht : t.size≤900000) : Ctr sys 70 [xm t] [] (xi (uC0 uAN t)) none []:=by
 refine uAv Tryz.func70 rfl rfl rfl rfl rfl rfl ?_;refine uAe (uAb ?_);refine uAu rfl (uAT rfl rfl rfl rfl) ?_;refine uAa rfl rfl rfl (uAd rfl gU) ?_;refine uAf ?_;refine uAe ?_;refine uAe (uAb ?_);refine uAa rfl rfl rfl (uAs rfl gU rfl rfl rfl rfl rfl) ?_;refine uAw rfl rfl rfl rfl rfl rfl gU gU (uJD _ (by omega)) rfl ?_;refine uAa rfl rfl rfl (uAd rfl gU) ?_;refine uAf ?_;refine uAn (s:=⟨[(1,_,_),(3,_,_)],[(.l 1,_)],[],[]⟩) (uAj (⟨sx rfl,sx rfl,trivial⟩) (⟨sx rfl,trivial⟩) trivial) ?_;refine uAe (uAb ?_);refine uAa rfl rfl rfl (uAc rfl gU) ?_;refine uAa rfl rfl rfl (uAk rfl rfl gU gU rfl) ?_;refine uAf ?_;refine uAl rfl (fun hc=>?_) (fun hc=>?_)
 ·try simp only [nn,uAh,T.rows_len,Fs.rows_len,Sp.rows_len,Gl.rows_len] at hc
  refine uAe (uAb ?_);refine uAa rfl rfl rfl (uAc rfl gU) ?_;refine uAa rfl rfl rfl (uAd rfl gU) ?_;refine uAf ?_;refine uAo ?_
  repeat (first | refine tR ?_ | refine bR ?_)
  refine uAq rfl ?_ trivial
  (rw [uC0,if_pos hc]; rfl)
 ·try simp only [nn,uAh,T.rows_len,Fs.rows_len,Sp.rows_len,Gl.rows_len] at hc
  refine uAp ?_;refine uAe (uAb ?_);refine uAa rfl rfl rfl (uAs rfl gU rfl rfl rfl rfl rfl) ?_;refine uAw rfl rfl rfl rfl rfl rfl gU gU (uK9 _ _ (Nat.le_refl _) (by omega)) rfl ?_;refine uAa rfl rfl rfl (uAd rfl gU) ?_;refine uAf ?_;refine uAo ?_
  repeat (first | refine tR ?_ | refine bR ?_)
  refine uAq rfl ?_ trivial
  (rw [uC0,if_neg (by simpa using hc)]; rfl)
end Go.Proofs.YtnjjdbapadkomaaGreatDoor
namespace Go.Proofs.YtnjjdbapadkomaaGreatDoor
open Go Go.Abs
theorem uMh (t : T) (s : List UInt8) : Ctr sys 139 [xm t,xs s] [] (xb (decide (t.kind=3) && decide (t.name=s))) none []:=by
 refine uAv Tryz.func139 rfl rfl rfl rfl rfl rfl ?_;refine uAe (uAb ?_);refine uAu rfl (uAT rfl rfl rfl rfl) ?_;refine uAa rfl rfl rfl (uAd rfl gU) ?_;refine uAf ?_;refine uAe (uAb ?_);refine uAa rfl rfl rfl (uAg rfl gU rfl rfl) ?_;refine uAa rfl rfl rfl (uAm rfl gU rfl rfl rfl rfl) ?_;refine uAa rfl rfl rfl (uAk rfl rfl gU gU rfl) ?_;refine uAa rfl rfl rfl (uAc rfl gU) ?_;refine uAa rfl rfl rfl (uAg rfl gU rfl rfl) ?_;refine uAa rfl rfl rfl (uAm rfl (fun hh=>hh) rfl rfl rfl rfl) ?_;refine uAa rfl rfl rfl (uAc rfl gU) ?_;refine uAa rfl rfl rfl (uAY rfl rfl (fun hh=>hh) (fun hh=>hh) rfl) ?_;refine uAa rfl rfl rfl (uAO rfl rfl gU (fun _ hi=>gP rfl hi)) ?_;refine uAa rfl rfl rfl (uAd rfl gU) ?_;refine uAf ?_;refine uAo ?_
 repeat (first | refine tR ?_ | refine bR ?_)
 refine uAq rfl ?_ trivial;refine uCu ?_
 rw [Bool.eq_iff_iff]; simp
theorem uKJ : ∀ (n : Nat) (t : T),t.size≤n→n≤900000→Ctr sys 98 [xm t] [] (xl (untE t)) none []:=by
 intro n
 induction n with
 | zero=>intro t h; have := t.size_pos; omega
 | succ n ih =>
  intro t ht hn
  have hrl:=T.rows_len t.kids
  have hu:=uET t
  refine uAv Tryz.func98 rfl rfl rfl rfl rfl rfl ?_;refine uAe (uAb ?_);refine uAu rfl (uAT rfl rfl rfl rfl) ?_;refine uAu rfl (uBn (.inr rfl) rfl rfl) ?_;refine uAf ?_;refine uAe ?_;refine uAe (uAb ?_);refine uAa rfl rfl rfl (uAs rfl gU rfl rfl rfl rfl rfl) ?_;refine uAw rfl rfl rfl rfl rfl rfl gU gU (uMh _ _) rfl ?_;refine uAa rfl rfl rfl (uA1 rfl gU) ?_;refine uAa rfl rfl rfl (uAc rfl gU) ?_;refine uAa rfl rfl rfl (uAg rfl gU rfl rfl) ?_;refine uAa rfl rfl rfl (uAm rfl (fun hh=>hh) rfl rfl rfl rfl) ?_;refine uAa rfl rfl rfl (uBb rfl (fun hh=>hh) rfl rfl) ?_;refine uAa rfl rfl rfl (uAk rfl rfl (fun hh=>hh) gU rfl) ?_;refine uAa rfl rfl rfl (uAM rfl rfl gU (fun _ hi=>gP rfl hi)) ?_;refine uAf ?_;refine uAn (s:=⟨[(1,_,_),(11,_,_)],[(.l 1,_)],[],[]⟩) (uAj (⟨sx rfl,sx rfl,trivial⟩) (⟨sx rfl,trivial⟩) trivial) ?_;refine uAl rfl (fun hc=>?_) (fun hc=>?_)
  ·try simp only [nn,uAh,T.rows_len,Fs.rows_len,Sp.rows_len,Gl.rows_len] at hc
   have hp : ¬uCd t=true:=by simp only [uCd]; grind [wPair]
   rw [if_neg hp] at hu
   refine uAe (uAb ?_);refine uAa rfl rfl rfl (uAs rfl gU rfl rfl rfl rfl rfl) ?_;refine uAK (xs:=[_]) rfl rfl rfl rfl rfl rfl rfl rfl rfl gU rfl ?_;refine uAu rfl (uAH (.inr rfl) rfl rfl rfl) ?_;refine uAf ?_;refine uAo ?_
   repeat (first | refine tR ?_ | refine bR ?_)
   refine uAq rfl ?_ trivial
   (rw [hu]; exact congrArg (fun z=>X.v (.c (.sl 4 z))) (by simp [T.rows_eq,T.cells]))
  ·try simp only [nn,uAh,T.rows_len,Fs.rows_len,Sp.rows_len,Gl.rows_len] at hc
   have hp : uCd t=true:=by simp only [uCd]; grind [wPair]
   have hps:=uCk hp
   have h0:=(t.kids.getD 0 default).size_pos
   have h1:=(t.kids.getD 1 default).size_pos
   have hul:=(uF0 (t.kids.getD 1 default).size (t.kids.getD 1 default)).2
   have hul2:=T.rows_len (untE (t.kids.getD 1 default))
   have hul3 : (untE (t.kids.getD 1 default)).length≤900000:=by unfold untE; omega
   have hk : t.kids.length=2:=by grind
   rw [if_pos hp] at hu
   refine uAp ?_;refine uAe ?_;refine awp_drawn' (by kernel_rfl) ?_;refine uAi rfl rfl rfl rfl (uAg rfl gU rfl rfl) ?_;refine uAV rfl rfl rfl rfl rfl rfl rfl gU rfl rfl rfl rfl ?_;refine uAi rfl rfl rfl rfl (uAy (j:=0) rfl rfl gU gU rfl rfl (by first | omega | (simp at hh ⊢; omega)) (fun hh=>T.rows_at (by first | omega | (simp at hh ⊢; omega)))) ?_;refine uAi rfl rfl rfl rfl (uAJ rfl gU rfl rfl rfl rfl) ?_;refine uCp (xs:=[_]) rfl rfl rfl rfl rfl rfl rfl rfl rfl rfl gU rfl ?_;refine uAi rfl rfl rfl rfl (uAg rfl gU rfl rfl) ?_;refine uAV rfl rfl rfl rfl rfl rfl rfl gU rfl rfl rfl rfl ?_;refine uAi rfl rfl rfl rfl (uAy (j:=1) rfl rfl gU gU rfl rfl (by first | omega | (simp at hh ⊢; omega)) (fun hh=>T.rows_at (by first | omega | (simp at hh ⊢; omega)))) ?_;refine uAi rfl rfl rfl rfl (uAJ rfl gU rfl rfl rfl rfl) ?_;refine uBa rfl rfl rfl rfl rfl rfl rfl gU gU (ih (t.kids.getD 1 default) (by omega) (by omega)) rfl ?_;refine uBT rfl rfl rfl rfl rfl (rko (ak rfl (ak rfl (ak rfl (ak rfl (ak rfl (rfl))))))) rfl rfl rfl rfl rfl (by first | omega | (simp only [List.length_cons,List.length_nil]; omega)) (by first | omega | (simp only [List.length_cons,List.length_nil]; omega)) ?_;refine uD8 rfl (.inr rfl) rfl rfl rfl rfl rfl ?_;refine uBg (by kernel_rfl) ?_;refine uAo ?_
   repeat (first | refine tR ?_ | refine bR ?_)
   refine uAq rfl ?_ trivial
   rw [hu,xl]
   exact congrArg (fun z=>X.v (.c (.sl 4 z))) (by simp [T.rows_eq,T.cells])
theorem uLe {α : Type} (f : α→List UInt8) {l : List α} {d : α} {k : Nat} (h : k < l.length) : Lib.join ((l.take (k + 1)).map f) [44,32]=(if 0 < k then Lib.join ((l.take k).map f) [44,32]++[44,32] else Lib.join ((l.take k).map f) [44,32])++f (l.getD k d):=by
 rw [map_take (d:=d) f h]
 split
 ·rename_i hk
  rw [uHn _ _ _ (by intro q; have := congrArg List.length q; rw [List.length_map,List.length_take] at this; simp only [List.length_nil] at this; omega),List.append_assoc]
 ·rename_i hk
  obtain rfl : k=0:=by omega
  simp [uGi,Lib.join_nil]
theorem uIx (n : Nat) (ih : ∀ t : T,t.size≤n→okB t=true→Ctr sys 47 [xm t] [] (xs (uBI t)) none []) (l : List T) (hl : ∀ x ∈ l,x.size≤n) (ho : ∀ x ∈ l,okB x=true) (hs : T.sizes l≤900000) :
  Ctr sys 99 [xl l] [] (xs (uB4 l)) none []:=by
 have hrl:=T.rows_len l
 have hls:=T.len_sizes l
 have hte : ∀ k,(Lib.join ((l.take k).map uBI) [44,32]).length≤28 * 900000:=fun k=>by
  have h1:=uGx (l:=l.take k) fun x hx=>ho x (List.mem_of_mem_take hx)
  have h2:=T.sizes_take_le l k
  unfold uB4 at h1; omega
 refine uAv Tryz.func99 rfl rfl rfl rfl rfl rfl ?_;refine uAe (uAb ?_);refine uAa rfl rfl rfl (uAd rfl gU) ?_;refine uAf ?_;refine uAe (uAb ?_);refine uAa rfl rfl rfl (uAd rfl gU) ?_;refine uAf ?_;refine uAe ?_;refine uAe (uAb ?_);refine uAa rfl rfl rfl (uAd rfl gU) ?_;refine uAf ?_;refine uAt ?_;refine uAW (ι:=Nat) { t:=[(0,_,_)],bx:=[],ow:=[] } (fun k=>[(4,true,xi (k : Int)),(3,true,xs (Lib.join ((l.take k).map uBI) [44,32]))]) (fun k=>[]) (fun k=>k≤l.length) (fun k=>l.length - k) (0) (by simp) (uAj (⟨sx rfl,sx rfl,sx rfl,trivial⟩) trivial trivial) ?_
 intro k hok
 dsimp only [List.cons_append,List.nil_append]
 have hjk:=hte k
 refine uAe ?_;refine uAe (uAb ?_);refine uAa rfl rfl rfl (uAc rfl gU) ?_;refine uAa rfl rfl rfl (uAc rfl gU) ?_;refine uAQ rfl rfl rfl rfl rfl gU rfl rfl ?_ (fun hh=>by simp at hh); intro hlen;refine uAa rfl rfl rfl (uAk rfl rfl gU gU rfl) ?_;refine uAf ?_;refine uAl rfl (fun hc=>?_) (fun hc=>?_)
 ·try simp only [nn,uAh,T.rows_len,Fs.rows_len,Sp.rows_len,Gl.rows_len] at hc
  have hlt : k < l.length:=by omega
  have hm:=uCq (d:=default) hlt
  have hwk:=uES (ho _ hm)
  have hsk:=T.getD_size hlt
  have hs:=uLe uBI (d:=default) hlt
  refine uAp ?_;refine uAe ?_;refine uAt ?_;refine uAe ?_;refine uAe (uAb ?_);refine uAa rfl rfl rfl (uAc rfl gU) ?_;refine uAa rfl rfl rfl (uAk rfl rfl gU gU rfl) ?_;refine uAf ?_;refine uAn (s:=⟨[(0,_,_),(3,_,_),(4,_,_),(12,_,_)],[],[],[]⟩) (uAj (⟨sx rfl,sx rfl,sx rfl,sx rfl,trivial⟩) trivial trivial) ?_;refine uAl rfl (fun hc2=>?_) (fun hc2=>?_)
  ·try simp only [nn,uAh,T.rows_len,Fs.rows_len,Sp.rows_len,Gl.rows_len] at hc2
   rw [if_pos (by omega)] at hs
   refine uAb ?_;refine uAa rfl rfl rfl (uAc rfl gU) ?_;refine uAa rfl rfl rfl (uAD rfl rfl gU gU (by first | omega | (simp only [List.length_append,List.length_cons,List.length_nil]; omega))) ?_;refine uAa rfl rfl rfl (uAd rfl gU) ?_;refine uAf ?_;refine uAb ?_;refine uAa rfl rfl rfl (uAc rfl gU) ?_;refine uAa rfl rfl rfl (uAc rfl gU) ?_;refine uAa rfl rfl rfl (uAc rfl gU) ?_;refine uAa rfl rfl rfl (uAy rfl rfl gU gU rfl rfl rfl (fun hh=>T.rows_at (by first | omega | (simp at hh ⊢; omega)))) ?_;refine uAa rfl rfl rfl (uAJ rfl gU rfl rfl rfl rfl) ?_;refine uAw rfl rfl rfl rfl rfl rfl gU gU (ih (l.getD k default) (hl _ hm) (ho _ hm)) rfl ?_;refine uAa rfl rfl rfl (uAD rfl rfl gU gU (by first | omega | (simp only [List.length_append,List.length_cons,List.length_nil]; omega))) ?_;refine uAa rfl rfl rfl (uAd rfl gU) ?_;refine uAf ?_;refine uAn (s:=⟨[(0,_,_),(3,_,_),(4,_,_)],[],[],[]⟩) (uAj (⟨sx rfl,sx rfl,sx rfl,trivial⟩) trivial trivial) ?_;refine uAb ?_;refine uAa rfl rfl rfl (uAc rfl gU) ?_;refine uAa rfl rfl rfl (uAr rfl rfl gU gU rfl (IntWalk.i64_in _ (by omega))) ?_;refine uAa rfl rfl rfl (uAd rfl gU) ?_;refine uAf ?_;refine ⟨k + 1,?_,?_,uAj (⟨⟨_,rfl,?_⟩,⟨⟨_,rfl,?_⟩,⟨sx rfl,trivial⟩⟩⟩) trivial trivial⟩
   all_goals first | rfl | omega | exact tx (by rw [hs])
  ·try simp only [nn,uAh,T.rows_len,Fs.rows_len,Sp.rows_len,Gl.rows_len] at hc2
   rw [if_neg (by omega)] at hs
   refine uAp ?_;refine uAb ?_;refine uAa rfl rfl rfl (uAc rfl gU) ?_;refine uAa rfl rfl rfl (uAc rfl gU) ?_;refine uAa rfl rfl rfl (uAc rfl gU) ?_;refine uAa rfl rfl rfl (uAy rfl rfl gU gU rfl rfl rfl (fun hh=>T.rows_at (by first | omega | (simp at hh ⊢; omega)))) ?_;refine uAa rfl rfl rfl (uAJ rfl gU rfl rfl rfl rfl) ?_;refine uAw rfl rfl rfl rfl rfl rfl gU gU (ih (l.getD k default) (hl _ hm) (ho _ hm)) rfl ?_;refine uAa rfl rfl rfl (uAD rfl rfl gU gU (by first | omega | (simp only [List.length_append,List.length_cons,List.length_nil]; omega))) ?_;refine uAa rfl rfl rfl (uAd rfl gU) ?_;refine uAf ?_;refine uAn (s:=⟨[(0,_,_),(3,_,_),(4,_,_)],[],[],[]⟩) (uAj (⟨sx rfl,sx rfl,sx rfl,trivial⟩) trivial trivial) ?_;refine uAb ?_;refine uAa rfl rfl rfl (uAc rfl gU) ?_;refine uAa rfl rfl rfl (uAr rfl rfl gU gU rfl (IntWalk.i64_in _ (by omega))) ?_;refine uAa rfl rfl rfl (uAd rfl gU) ?_;refine uAf ?_;refine ⟨k + 1,?_,?_,uAj (⟨⟨_,rfl,?_⟩,⟨⟨_,rfl,?_⟩,⟨sx rfl,trivial⟩⟩⟩) trivial trivial⟩
   all_goals first | rfl | omega | exact tx (by rw [hs])
 ·try simp only [nn,uAh,T.rows_len,Fs.rows_len,Sp.rows_len,Gl.rows_len] at hc
  have hk : k=l.length:=by omega
  subst hk
  refine uAL ?_
  repeat (first | refine uAF ?_ | refine uAE ?_ | refine uAB rfl ?_)
  refine uAe (uAb ?_);refine uAa rfl rfl rfl (uAc rfl gU) ?_;refine uAa rfl rfl rfl (uAd rfl gU) ?_;refine uAf ?_;refine uAo ?_
  repeat (first | refine tR ?_ | refine bR ?_)
  refine uAq rfl ?_ trivial
  (rw [List.take_length]; rfl)
theorem unt_one {t : T} : 1 < (untE t).length ↔ uCd t=true:=by
 rw [uET]
 split
 ·rename_i h
  have := (uF0 (t.kids.getD 1 default).size (t.kids.getD 1 default)).1
  have h2 : 1≤(untE (t.kids.getD 1 default)).length:=this
  simp only [List.length_cons,h,iff_true]; omega
 ·rename_i h; simp [h]
theorem uLC : ∀ (n : Nat) (t : T),t.size≤n→n≤900000→okB t=true→Ctr sys 47 [xm t] [] (xs (uBI t)) none []:=by
 intro n
 induction n with
 | zero=>intro t h; have := t.size_pos; omega
 | succ n ih =>
  intro t ht hn ho
  have hse:=t.size_eq
  have hrl:=T.rows_len t.kids
  have hls:=T.len_sizes t.kids
  have hk:=(uD1 ho).1
  have hnl:=(uD1 ho).2
  have he:=uGf t
  have hle:=uES ho
  have hur:=T.rows_len (untE t)
  have ihh:=fun (x : T) (hx : x.size≤n) (hxo : okB x=true)=>ih x hx (by omega) hxo
  refine uAv Tryz.func47 rfl rfl rfl rfl rfl rfl ?_;refine uAe (uAb ?_);refine uAu rfl (uAT rfl rfl rfl rfl) ?_;refine uAa rfl rfl rfl (uAd rfl gU) ?_;refine uAf ?_;refine uAe ?_;refine uAe (uAb ?_);refine uAa rfl rfl rfl (uAg rfl gU rfl rfl) ?_;refine uAa rfl rfl rfl (uAm rfl gU rfl rfl rfl rfl) ?_;refine uAa rfl rfl rfl (uAk rfl rfl gU gU rfl) ?_;refine uAf ?_;refine uAn (s:=⟨[(1,_,_),(6,_,_)],[(.l 1,_)],[],[]⟩) (uAj (⟨sx rfl,sx rfl,trivial⟩) (⟨sx rfl,trivial⟩) trivial) ?_;refine uAl rfl (fun hc=>?_) (fun hc=>?_)
  ·try simp only [nn,uAh,T.rows_len,Fs.rows_len,Sp.rows_len,Gl.rows_len] at hc
   refine uAe (uAb ?_);refine uAa rfl rfl rfl (uAg rfl gU rfl rfl) ?_;refine uAa rfl rfl rfl (uAm rfl gU rfl rfl rfl rfl) ?_;refine uAa rfl rfl rfl (uAd rfl gU) ?_;refine uAf ?_;refine uAo ?_
   repeat (first | refine tR ?_ | refine bR ?_)
   refine uAq rfl ?_ trivial
   (rw [he,if_pos hc]; rfl)
  ·try simp only [nn,uAh,T.rows_len,Fs.rows_len,Sp.rows_len,Gl.rows_len] at hc
   rw [if_neg hc] at he
   refine uAp ?_;refine uAe ?_;refine uAe (uAb ?_);refine uAa rfl rfl rfl (uAs rfl gU rfl rfl rfl rfl rfl) ?_;refine uAw rfl rfl rfl rfl rfl rfl gU gU (uKJ _ _ (Nat.le_refl _) (by omega)) rfl ?_;refine uAa rfl rfl rfl (uAd rfl gU) ?_;refine uAf ?_;refine uAe (uAb ?_);refine uAa rfl rfl rfl (uAc rfl gU) ?_;refine uAQ rfl rfl rfl rfl rfl gU rfl rfl ?_ (fun hh=>by simp at hh); intro hlen;refine uAa rfl rfl rfl (uAk rfl rfl gU gU rfl) ?_;refine uAf ?_;refine uAn (s:=⟨[(1,_,_),(3,_,_),(13,_,_)],[(.l 1,_)],[],[]⟩) (uAj (⟨sx rfl,sx rfl,sx rfl,trivial⟩) (⟨sx rfl,trivial⟩) trivial) ?_;refine uAl rfl (fun hc2=>?_) (fun hc2=>?_)
   ·try simp only [nn,uAh,T.rows_len,Fs.rows_len,Sp.rows_len,Gl.rows_len] at hc2
    have hp : uCd t=true:=unt_one.1 (by omega)
    rw [if_pos hp] at he
    have hus:=uDE hp
    have htl : (uB4 (untE t)).length≤28 * t.size:=by rw [he] at hle; simp only [List.length_append,List.length_cons,List.length_nil] at hle; omega
    have htx := uIx n ihh (untE t) (fun x hx=>by have := uGV hp hx; omega) (uFZ _ ho) (by omega)
    refine uAe (uAb ?_);refine uAa rfl rfl rfl (uAc rfl gU) ?_;refine uAw rfl rfl rfl rfl rfl rfl gU gU (htx) rfl ?_;refine uAa rfl rfl rfl (uAD rfl rfl gU gU (by first | omega | (simp only [List.length_append,List.length_cons,List.length_nil]; omega))) ?_;refine uAa rfl rfl rfl (uAD rfl rfl gU gU (by first | omega | (simp only [List.length_append,List.length_cons,List.length_nil]; omega))) ?_;refine uAa rfl rfl rfl (uAd rfl gU) ?_;refine uAf ?_;refine uAo ?_
    repeat (first | refine tR ?_ | refine bR ?_)
    refine uAq rfl ?_ trivial
    (rw [he]; rfl)
   ·try simp only [nn,uAh,T.rows_len,Fs.rows_len,Sp.rows_len,Gl.rows_len] at hc2
    have hp : ¬uCd t=true := fun q=>hc2 (by have := unt_one.2 q; omega)
    rw [if_neg hp] at he
    have htl : (uB4 t.kids).length≤28 * t.size:=by rw [he] at hle; simp only [List.length_append,List.length_cons,List.length_nil] at hle; omega
    have htx := uIx n ihh t.kids (fun x hx=>by have := uDM hx; omega) (uFX ho) (by omega)
    refine uAp ?_;refine uAe ?_;refine awp_drawn' (by kernel_rfl) ?_;refine uAi rfl rfl rfl rfl (uAg rfl gU rfl rfl) ?_;refine uAV rfl rfl rfl rfl rfl rfl rfl gU rfl rfl rfl rfl ?_;refine uAi rfl rfl rfl rfl (uAD rfl rfl gU gU (by first | omega | (simp only [List.length_append,List.length_cons,List.length_nil]; omega))) ?_;refine uAi rfl rfl rfl rfl (uAg rfl gU rfl rfl) ?_;refine uAV rfl rfl rfl rfl rfl rfl rfl gU rfl rfl rfl rfl ?_;refine uBa rfl rfl rfl rfl rfl rfl rfl gU gU (htx) rfl ?_;refine uAi rfl rfl rfl rfl (uAD rfl rfl gU gU (by first | omega | (simp only [List.length_append,List.length_cons,List.length_nil]; omega))) ?_;refine uAi rfl rfl rfl rfl (uAD rfl rfl gU gU (by first | omega | (simp only [List.length_append,List.length_cons,List.length_nil]; omega))) ?_;refine uAi rfl rfl rfl rfl (uAd rfl gU) ?_;refine uBg (by kernel_rfl) ?_;refine uAo ?_
    repeat (first | refine tR ?_ | refine bR ?_)
    refine uAq rfl ?_ trivial
    (rw [he]; rfl)
theorem uJ6 (t : T) (ht : t.size≤900000) (ho : okB t=true) : Ctr sys 47 [xm t] [] (xs (uBI t)) none []:=uLC _ t (Nat.le_refl _) ht ho
theorem uFj (t : T) (ht : t.size≤900000) : Ctr sys 33 [xm t] [] (xse (ftE t)) none []:=by
 refine uAv Tryz.func33 rfl rfl rfl rfl rfl rfl ?_;refine uAe (uAb ?_);refine uAu rfl (uAT rfl rfl rfl rfl) ?_;refine uAa rfl rfl rfl (uAd rfl gU) ?_;refine uAa rfl rfl rfl (uAd rfl gU) ?_;refine uAf ?_;refine uAe ?_;refine uAe (uAb ?_);refine uAa rfl rfl rfl (uAs rfl gU rfl rfl rfl rfl rfl) ?_;refine uAw rfl rfl rfl rfl rfl rfl gU gU (uKZ _ (by omega)) rfl ?_;refine uAa rfl rfl rfl (uAd rfl gU) ?_;refine uAf ?_;refine uAn (s:=⟨[(1,_,_),(4,_,_)],[(.l 1,_)],[],[]⟩) (uAj (⟨sx rfl,sx rfl,trivial⟩) (⟨sx rfl,trivial⟩) trivial) ?_;refine uAe (uAb ?_);refine uAa rfl rfl rfl (uAc rfl gU) ?_;refine uAa rfl rfl rfl (uAk rfl rfl gU gU rfl) ?_;refine uAf ?_;refine uAl rfl (fun hc=>?_) (fun hc=>?_)
 ·try simp only [nn,uAh,T.rows_len,Fs.rows_len,Sp.rows_len,Gl.rows_len] at hc
  refine uAe (uAb ?_);refine uAa rfl rfl rfl (uAc rfl gU) ?_;refine uAa rfl rfl rfl (uAd rfl gU) ?_;refine uAa rfl rfl rfl (uAd rfl gU) ?_;refine uAf ?_;refine uAo ?_
  repeat (first | refine tR ?_ | refine bR ?_)
  refine uAq rfl ?_ trivial
  (rw [ftE,if_pos hc]; rfl)
 ·try simp only [nn,uAh,T.rows_len,Fs.rows_len,Sp.rows_len,Gl.rows_len] at hc
  have ho:=(uJA hc).1
  refine uAp ?_;refine uAe (uAb ?_);refine uAa rfl rfl rfl (uAs rfl gU rfl rfl rfl rfl rfl) ?_;refine uAw rfl rfl rfl rfl rfl rfl gU gU (uJ6 t ht ho) rfl ?_;refine uAa rfl rfl rfl (uAd rfl gU) ?_;refine uAa rfl rfl rfl (uAd rfl gU) ?_;refine uAf ?_;refine uAo ?_
  repeat (first | refine tR ?_ | refine bR ?_)
  refine uAq rfl ?_ trivial
  (rw [ftE,if_neg (by simpa using hc)]; rfl)
end Go.Proofs.YtnjjdbapadkomaaGreatDoor
namespace Go.Proofs.YtnjjdbapadkomaaGreatDoor
open Go Go.Abs
end Go.Proofs.YtnjjdbapadkomaaGreatDoor
namespace Go.Proofs.YtnjjdbapadkomaaGreatDoor
open Go Go.Abs
theorem uLg (s : List UInt8) (k : Int) : Ctr sys 38 [xs s,xi k] [] (xm ⟨2,s,k,[]⟩) none []:=by
 refine uAv Tryz.func38 rfl rfl rfl rfl rfl rfl ?_;refine uAe (uAb ?_);refine uAu rfl (uAP rfl rfl rfl) ?_;refine uAf ?_;refine uAe (uAb ?_);refine uAa rfl rfl rfl (uAc rfl gU) ?_;refine uAa rfl rfl rfl (uAc rfl gU) ?_;refine uAa rfl rfl rfl (uAU rfl Tryz.underlying39 rfl gU) ?_;refine uAu rfl (uAz rfl rfl rfl rfl rfl rfl rfl) ?_;refine uAf ?_;refine uAo ?_
 repeat (first | refine tR ?_ | refine bR ?_)
 refine uAq rfl ?_ trivial
 rfl
theorem uLX (s : List UInt8) (ks : List T) (hk : ks.length≤3000000) : Ctr sys 39 [xs s,xl ks] [] (xm ⟨3,s,0,ks⟩) none []:=by
 have hrl:=T.rows_len ks
 refine uAv Tryz.func39 rfl rfl rfl rfl rfl rfl ?_;refine uAe (uAb ?_);refine uAu rfl (uAP rfl rfl rfl) ?_;refine uAf ?_;refine uAe (uAb ?_);refine uAa rfl rfl rfl (uAc rfl gU) ?_;refine uAK (xs:=[]) rfl rfl rfl rfl rfl rfl rfl rfl rfl gU rfl ?_;refine uAa rfl rfl rfl (uAc rfl gU) ?_;refine uAu rfl (uAZ rfl rfl rfl rfl rfl rfl rfl (by first | omega | (simp only [List.length_nil]; omega)) (by first | omega | (simp only [List.length_nil]; omega))) ?_;refine uAa rfl rfl rfl (uAU rfl Tryz.underlying39 rfl gU) ?_;refine uAu rfl (uAz rfl rfl rfl rfl rfl rfl rfl) ?_;refine uAf ?_;refine uAo ?_
 repeat (first | refine tR ?_ | refine bR ?_)
 refine uAq rfl ?_ trivial
 rfl
theorem uFf (s : List UInt8) (rs : List (List C)) (ks : List T) (h : rs=T.rows ks) (hk : ks.length≤3000000) : Ctr sys 39 [xs s, .v (.c (.sl 4 rs))] [] (xm ⟨3,s,0,ks⟩) none []:=by
 subst h; exact uLX s ks hk
end Go.Proofs.YtnjjdbapadkomaaGreatDoor
namespace Go.Proofs.YtnjjdbapadkomaaGreatDoor
open Go Go.Abs
theorem uD7 (s : List UInt8) : Ctr sys 37 [xs s] [] (xm ⟨2,s,0,[]⟩) none []:=by
 refine uAv Tryz.func37 rfl rfl rfl rfl rfl rfl ?_;refine uAe (uAb ?_);refine uAu rfl (uAP rfl rfl rfl) ?_;refine uAf ?_;refine uAe (uAb ?_);refine uAa rfl rfl rfl (uAc rfl gU) ?_;refine uAw rfl rfl rfl rfl rfl rfl gU gU (uLg _ _) rfl ?_;refine uAu rfl (uAz rfl rfl rfl rfl rfl rfl rfl) ?_;refine uAf ?_;refine uAo ?_
 repeat (first | refine tR ?_ | refine bR ?_)
 refine uAq rfl ?_ trivial
 rfl
def exS : List UInt8:=[112,114,111,116,111,99,111,108,32,80,32,123,32,114,111,108,101,32,65,44,32,66,59,32,102,114,101,115,104,32,65,58,32,110,97,32,110,111,110,99,101,59,32,109,101,115,115,97,103,101,32,65,32,45,62,32,66,58,32,101,110,99,40,60,110,97,44,32,65,62,44,32,115,104,107,40,65,44,32,66,41,41,59,32,103,111,97,108,32,115,101,99,114,101,116,32,66,58,32,110,97,59,32,125]
def exM : T:=⟨3,[101,110,99],0,[⟨3,wPair,0,[⟨2,[110,97],0,[]⟩,⟨2,[65],0,[]⟩]⟩,⟨3,[115,104,107],0,[⟨2,[65],0,[]⟩,⟨2,[66],0,[]⟩]⟩]⟩
def exN : Nar:=⟨[80],[[65],[66]],[⟨[65],[110,97],2⟩],[],[⟨[65],[66],exM,1⟩],[⟨1,[66],[],[⟨2,[110,97],0,[]⟩],1⟩]⟩
def exV : List UInt8:=[60,97,44,32,60,98,44,32,99,62,62]
def exT : T:=⟨3,wPair,0,[⟨2,[97],0,[]⟩,⟨3,wPair,0,[⟨2,[98],0,[]⟩,⟨2,[99],0,[]⟩]⟩]⟩
set_option maxRecDepth 100000 in
theorem ex1 : uFd exS=(exN,0,0):=by kernel_rfl
set_option maxRecDepth 100000 in
theorem ex2 : narE uAN exN=0:=by decide +kernel
set_option maxRecDepth 100000 in
theorem ex3 : (lnsP exN.text).length=6∧exN.text.length≤1000:=by decide +kernel
set_option maxRecDepth 100000 in
theorem ex4 : uHL exV=(exT,0,0):=by kernel_rfl
set_option maxRecDepth 100000 in
theorem ex5 : ftE exT=([60,97,44,32,98,44,32,99,62],0):=by decide +kernel
theorem uGz : Ctr sys 10 [] [] (xb true) none []:=by
 have h1:=uJQ exS (by decide)
 rw [ex1] at h1
 have h2:=uIr exN (by decide) (by decide)
 rw [uEK,if_neg (by rw [ex2]; simp)] at h2
 have h3:=uKS exV (by decide)
 rw [ex4] at h3
 have h4:=uDJ exT (by decide)
 rw [ex5] at h4
 obtain ⟨x1,x2⟩:=ex3
 have h5:=uIC exN.text (by omega)
 have l5:=uAh (lnsP exN.text)
 have h6 : Ctr sys 20 [xm exM,xm exM] [] (xb true) none []:=by
  have := uLw exM exM (by decide) (by decide)
  rwa [T.cmp_self] at this
 refine uAv Tryz.func10 rfl rfl rfl rfl rfl rfl ?_;refine uAe (uAb ?_);refine uAa rfl rfl rfl (uAd rfl gU) ?_;refine uAf ?_;refine uAe (uAb ?_);refine uAw rfl rfl rfl rfl rfl rfl gU gU (h1) rfl ?_;refine uAa rfl rfl rfl (uAc rfl gU) ?_;refine uAa rfl rfl rfl (uAG rfl gU rfl) ?_;refine uAa rfl rfl rfl (uAG rfl gU rfl) ?_;refine uAa rfl rfl rfl (uAG rfl gU rfl) ?_;refine uAu rfl (uAP rfl rfl rfl) ?_;refine uAu rfl (uAz rfl rfl rfl rfl rfl rfl rfl) ?_;refine uAa rfl rfl rfl (uAd rfl gU) ?_;refine uAa rfl rfl rfl (uAd rfl gU) ?_;refine uAf ?_;refine uAn (s:=⟨[(1,_,_),(3,_,_)],[(.l 1,_)],[],[]⟩) (uAj (⟨sx rfl,sx rfl,trivial⟩) (⟨sx rfl,trivial⟩) trivial) ?_;refine uAe (uAb ?_);refine uAa rfl rfl rfl (uAs rfl gU rfl rfl rfl rfl rfl) ?_;refine uAw rfl rfl rfl rfl rfl rfl gU gU (h2) rfl ?_;refine uAa rfl rfl rfl (uAc rfl gU) ?_;refine uAa rfl rfl rfl (uAG rfl gU rfl) ?_;refine uAa rfl rfl rfl (uAG rfl gU rfl) ?_;refine uAa rfl rfl rfl (uAd rfl gU) ?_;refine uAa rfl rfl rfl (uAd rfl gU) ?_;refine uAf ?_;refine uAn (s:=⟨[(1,_,_),(3,_,_),(4,_,_),(5,_,_)],[(.l 1,_)],[],[]⟩) (uAj (⟨sx rfl,sx rfl,sx rfl,sx rfl,trivial⟩) (⟨sx rfl,trivial⟩) trivial) ?_;refine uAe (uAb ?_)
 refine uAw rfl rfl rfl rfl rfl rfl gU gU (h3) rfl ?_;refine uAa rfl rfl rfl (uAc rfl gU) ?_;refine uAa rfl rfl rfl (uAG rfl gU rfl) ?_;refine uAa rfl rfl rfl (uAG rfl gU rfl) ?_;refine uAa rfl rfl rfl (uAG rfl gU rfl) ?_;refine uAu rfl (uAP rfl rfl rfl) ?_;refine uAu rfl (uAz rfl rfl rfl rfl rfl rfl rfl) ?_;refine uAa rfl rfl rfl (uAd rfl gU) ?_;refine uAa rfl rfl rfl (uAd rfl gU) ?_;refine uAf ?_;refine uAn (s:=⟨[(1,_,_),(3,_,_),(4,_,_),(5,_,_),(6,_,_),(8,_,_)],[(.l 1,_),(.l 6,_)],[],[]⟩) (uAj (⟨sx rfl,sx rfl,sx rfl,sx rfl,sx rfl,sx rfl,trivial⟩) (⟨sx rfl,sx rfl,trivial⟩) trivial) ?_;refine uAe (uAb ?_);refine uAa rfl rfl rfl (uAs rfl gU rfl rfl rfl rfl rfl) ?_;refine uAw rfl rfl rfl rfl rfl rfl gU gU (h4) rfl ?_;refine uAa rfl rfl rfl (uAc rfl gU) ?_;refine uAa rfl rfl rfl (uAG rfl gU rfl) ?_;refine uAa rfl rfl rfl (uAG rfl gU rfl) ?_;refine uAa rfl rfl rfl (uAd rfl gU) ?_;refine uAa rfl rfl rfl (uAd rfl gU) ?_;refine uAf ?_;refine uAn (s:=⟨[(1,_,_),(3,_,_),(4,_,_),(5,_,_),(8,_,_),(9,_,_),(10,_,_)],[(.l 1,_)],[],[]⟩) (uAj (⟨sx rfl,sx rfl,sx rfl,sx rfl,sx rfl,sx rfl,sx rfl,trivial⟩) (⟨sx rfl,trivial⟩) trivial) ?_;refine uAe ?_;refine uAe (uAb ?_)
 refine uAa rfl rfl rfl (uAc rfl gU) ?_;refine uAa rfl rfl rfl (uAk rfl rfl gU gU rfl) ?_;refine uAa rfl rfl rfl (uAc rfl gU) ?_;refine uAa rfl rfl rfl (uAc rfl gU) ?_;refine uAa rfl rfl rfl (uAk rfl rfl (fun hh=>hh) gU rfl) ?_;refine uAa rfl rfl rfl (uAM rfl rfl gU (fun _ hi=>gP rfl hi)) ?_;refine uAa rfl rfl rfl (uAc rfl gU) ?_;refine uAa rfl rfl rfl (uAc rfl gU) ?_;refine uAa rfl rfl rfl (uAk rfl rfl (fun hh=>hh) gU rfl) ?_;refine uAa rfl rfl rfl (uAM rfl rfl gU (fun _ hi=>gP rfl hi)) ?_;refine uAa rfl rfl rfl (uAc rfl gU) ?_;refine uAa rfl rfl rfl (uAc rfl gU) ?_;refine uBq (s:=⟨[(1,_,_),(4,_,_),(9,_,_),(42,_,_),(43,_,_)],[(.l 1,_)],[],[]⟩) (uAj (⟨sx rfl,sx rfl,sx rfl,sx rfl,sx rfl,trivial⟩) (⟨sx rfl,trivial⟩) trivial) ?_;refine uAa rfl rfl rfl (uAk rfl rfl (fun hh=>hh) gU rfl) ?_;refine uAa rfl rfl rfl (uAM rfl rfl gU (fun _ hi=>gP rfl hi)) ?_;refine uAa rfl rfl rfl (uAc rfl gU) ?_;refine uAa rfl rfl rfl (uAc rfl gU) ?_;refine uAa rfl rfl rfl (uAY rfl rfl (fun hh=>hh) gU rfl) ?_;refine uAa rfl rfl rfl (uAM rfl rfl gU (fun _ hi=>gP rfl hi)) ?_;refine uAa rfl rfl rfl (uAc rfl gU) ?_;refine uAa rfl rfl rfl (uAg rfl gU rfl rfl) ?_;refine uAa rfl rfl rfl (uAm rfl (fun hh=>hh) rfl rfl rfl rfl) ?_;refine uAa rfl rfl rfl (uBb rfl (fun hh=>hh) rfl rfl) ?_
 refine uAa rfl rfl rfl (uAk rfl rfl (fun hh=>hh) gU rfl) ?_;refine uAa rfl rfl rfl (uAM rfl rfl gU (fun _ hi=>gP rfl hi)) ?_;refine uBq (s:=⟨[(1,_,_),(4,_,_),(55,_,_)],[(.l 1,_)],[],[]⟩) (uAj (⟨sx rfl,sx rfl,sx rfl,trivial⟩) (⟨sx rfl,trivial⟩) trivial) ?_;refine uAa rfl rfl rfl (uAc rfl gU) ?_;refine uAa rfl rfl rfl (uAc rfl gU) ?_;refine uAw rfl rfl rfl rfl rfl rfl gU (fun hh=>gA ((fun hh=>hh) hh) (rfl)) (h5) rfl ?_;refine uAa rfl rfl rfl (uBb rfl (fun hh=>hh) rfl rfl) ?_;refine uAa rfl rfl rfl (uAk rfl rfl (fun hh=>hh) gU rfl) ?_;refine uAa rfl rfl rfl (uAM rfl rfl gU (fun _ hi=>gP rfl hi)) ?_;refine uAf ?_;refine uAn (s:=⟨[(1,_,_),(61,_,_)],[(.l 1,_)],[],[]⟩) (uAj (⟨sx rfl,sx rfl,trivial⟩) (⟨sx rfl,trivial⟩) trivial) ?_;refine uAl rfl (fun hc=>?_) (fun hc=>?_)
 ·exfalso
  rw [l5,x1] at hc
  simp [exN,Sp.rows] at hc
 ·refine uAp ?_
  refine uAe (uAb ?_);refine uAa rfl rfl rfl (uAd rfl gU) ?_;refine uAf ?_;refine uAe ?_;refine awp_drawn' (by kernel_rfl) ?_;refine uAi rfl rfl rfl rfl (uAg rfl gU rfl rfl) ?_;refine uAV rfl rfl rfl rfl rfl rfl rfl gU rfl rfl rfl rfl ?_;refine uAi rfl rfl rfl rfl (uAy (j:=0) rfl rfl gU gU rfl rfl (by first | omega | (simp at hh ⊢; omega) | decide) (fun hh=>Sp.rows_at (by first | omega | (simp at hh ⊢; omega) | decide))) ?_;refine uAi rfl rfl rfl rfl (uA8 rfl gU rfl rfl) ?_;refine uAi rfl rfl rfl rfl (uAJ rfl gU rfl rfl rfl rfl) ?_;refine uAi rfl rfl rfl rfl (uAc rfl gU) ?_;refine uBa rfl rfl rfl rfl rfl rfl rfl gU gU (uD7 [110,97]) rfl ?_;refine uAi rfl rfl rfl rfl (uAc rfl gU) ?_;refine uBa rfl rfl rfl rfl rfl rfl rfl gU gU (uD7 [65]) rfl ?_;refine uCp (xs:=[_,_]) rfl rfl rfl rfl rfl rfl rfl rfl rfl rfl gU rfl ?_;refine uBa rfl rfl rfl rfl rfl rfl rfl gU gU (uFf _ _ [⟨2,[110,97],0,[]⟩,⟨2,[65],0,[]⟩] (by simp [T.rows_eq,T.cells]) (by simp)) rfl ?_;refine uAi rfl rfl rfl rfl (uAc rfl gU) ?_;refine uBa rfl rfl rfl rfl rfl rfl rfl gU gU (uD7 [65]) rfl ?_;refine uAi rfl rfl rfl rfl (uAc rfl gU) ?_;refine uBa rfl rfl rfl rfl rfl rfl rfl gU gU (uD7 [66]) rfl ?_;refine uCp (xs:=[_,_]) rfl rfl rfl rfl rfl rfl rfl rfl rfl rfl gU rfl ?_;refine uBa rfl rfl rfl rfl rfl rfl rfl gU gU (uFf _ _ [⟨2,[65],0,[]⟩,⟨2,[66],0,[]⟩] (by simp [T.rows_eq,T.cells]) (by simp)) rfl ?_
  refine uCp (xs:=[_,_]) rfl rfl rfl rfl rfl rfl rfl rfl rfl rfl gU rfl ?_;refine uBa rfl rfl rfl rfl rfl rfl rfl gU gU (uFf _ _ exM.kids (by rfl) (by decide)) rfl ?_;refine uBa rfl rfl rfl rfl rfl rfl rfl gU gU (h6) rfl ?_;refine uAi rfl rfl rfl rfl (uAd rfl gU) ?_;refine uBg (by kernel_rfl) ?_;refine uAo ?_
  repeat (first | refine tR ?_ | refine bR ?_)
  refine uAq rfl ?_ trivial
  rfl
end Go.Proofs.YtnjjdbapadkomaaGreatDoor
namespace Go.Proofs.YtnjjdbapadkomaaGreatDoor
open Go Go.Abs
namespace T
mutual
def bud : T→Int→Int
 | mk _ nm _ ks,m=>if m≤0∨40 < nm.length then -1 else buds ks (m - 1)
def buds : List T→Int→Int
 | [],m=>m
 | t :: ts,m=>if bud t m < 0 then -1 else buds ts (bud t m)
end
theorem bud_eq (t : T) (m : Int) : t.bud m=if m≤0∨40 < t.name.length then -1 else buds t.kids (m - 1):=by cases t; rw [bud]; rfl
mutual
theorem uNe : ∀ (t : T) (m : Int),0≤t.bud m→t.bud m + t.size≤m
 | mk _ nm _ ks,m,h=>by
  rw [bud] at h ⊢
  rw [size]
  split at h
  ·omega
  ·rename_i hn
   rw [if_neg hn]
   have := buds_le ks (m - 1) h
   omega
theorem buds_le : ∀ (ts : List T) (m : Int),0≤buds ts m→buds ts m + sizes ts≤m
 | [],m,_=>by rw [buds,sizes]; omega
 | t :: ts,m,h=>by
  rw [buds] at h ⊢
  rw [sizes]
  split at h
  ·omega
  ·rename_i hn
   rw [if_neg hn]
   have h1:=uNe t m (by omega)
   have h2:=buds_le ts (t.bud m) h
   omega
end
theorem buds_step : ∀ (ts : List T) (k : Nat) (x : T) (m : Int),ts[k]? = some x→0≤buds (ts.take k) m→0≤x.bud (buds (ts.take k) m)→buds (ts.take (k + 1)) m=x.bud (buds (ts.take k) m)
 | [],k,x,m,h,_,_=>by simp at h
 | t :: ts,0,x,m,h,h0,hx=>by
  simp at h; subst h
  simp only [List.take_zero,buds] at hx ⊢
  simp only [List.take_succ_cons,List.take_zero,buds]
  rw [if_neg (by omega)]
 | t :: ts,k + 1,x,m,h,h0,hx=>by
  rw [List.take_succ_cons,buds] at h0 hx ⊢
  rw [List.take_succ_cons,buds]
  split at h0
  ·omega
  ·rename_i hn
   rw [if_neg hn] at hx ⊢
   rw [if_neg hn]
   exact buds_step ts k x _ (by simpa using h) h0 hx
theorem buds_hit : ∀ (ts : List T) (k : Nat) (x : T) (m : Int),ts[k]? = some x→0≤buds (ts.take k) m→x.bud (buds (ts.take k) m) < 0→buds ts m = -1
 | [],k,x,m,h,_,_=>by simp at h
 | t :: ts,0,x,m,h,h0,hx=>by
  simp at h; subst h
  simp only [List.take_zero,buds] at hx
  rw [buds,if_pos hx]
 | t :: ts,k + 1,x,m,h,h0,hx=>by
  rw [List.take_succ_cons,buds] at h0 hx
  rw [buds]
  split at h0
  ·omega
  ·rename_i hn
   rw [if_neg hn] at hx ⊢
   exact buds_hit ts k x _ (by simpa using h) h0 hx
end T
def fewB (l : List T) (n : Nat) (m : Int) : Bool:=decide (l.length≤n) && decide (0≤T.buds l m)
theorem uJL {l : List T} {n : Nat} {m : Int} (h : fewB l n m=true) : l.length≤n∧T.sizes l≤m:=by
 simp only [fewB,Bool.and_eq_true,decide_eq_true_eq] at h
 have := T.buds_le l m h.2
 exact ⟨h.1,by omega⟩
def budS (t : T) (m : Int) (k : Nat) : St:={ t:=[(1,true,xi (T.buds (t.kids.take k) (m - 1))),(2,true, .v (.ptr (.l 2) 0)),(5,true,xi k)],bx:=[(.l 2,t.cells)],ow:=[] }
theorem uIX : ∀ (n : Nat) (t : T) (m : Int),m≤n→n≤2000000 → -2000000≤m→Ctr sys 83 [xm t,xi m] [] (xi (t.bud m)) none []:=by
 intro n
 induction n with
 | zero =>
  intro t m hm _ _
  refine uAv Tryz.func83 rfl rfl rfl rfl rfl rfl ?_;refine uAe (uAb ?_);refine uAu rfl (uAT rfl rfl rfl rfl) ?_;refine uAa rfl rfl rfl (uAd rfl gU) ?_;refine uAf ?_;refine uAe ?_;refine uAe (uAb ?_);refine uAa rfl rfl rfl (uAc rfl gU) ?_;refine uAa rfl rfl rfl (uAk rfl rfl gU gU rfl) ?_;refine uAa rfl rfl rfl (uAc rfl gU) ?_;refine uAa rfl rfl rfl (uAg rfl gU rfl rfl) ?_;refine uAa rfl rfl rfl (uAm rfl (fun hh=>hh) rfl rfl rfl rfl) ?_;refine uAa rfl rfl rfl (uBK rfl (fun hh=>hh) (Tryz.underlying9)) ?_;refine uAa rfl rfl rfl (uAk rfl rfl (fun hh=>hh) gU rfl) ?_;refine uAa rfl rfl rfl (uAM rfl rfl gU (fun _ hi=>gP rfl hi)) ?_;refine uAf ?_;refine uAn (s:=⟨[(1,_,_),(2,_,_),(13,_,_)],[(.l 2,_)],[],[]⟩) (uAj (⟨sx rfl,sx rfl,sx rfl,trivial⟩) (⟨sx rfl,trivial⟩) trivial) ?_;refine uAl rfl (fun hc=>?_) (fun hc=>?_)
  ·refine uAe (uAb ?_)
   refine uAa rfl rfl rfl (uAd rfl gU) ?_;refine uAf ?_;refine uAo ?_
   repeat (first | refine tR ?_ | refine bR ?_)
   refine uAq rfl ?_ trivial;refine uA9 ?_
   rw [T.bud_eq,if_pos (by omega)]
  ·simp only [Bool.or_eq_false_iff,decide_eq_false_iff_not] at hc
   omega
 | succ n ih =>
  intro t m hm hn hm2
  refine uAv Tryz.func83 rfl rfl rfl rfl rfl rfl ?_;refine uAe (uAb ?_);refine uAu rfl (uAT rfl rfl rfl rfl) ?_;refine uAa rfl rfl rfl (uAd rfl gU) ?_;refine uAf ?_;refine uAe ?_;refine uAe (uAb ?_);refine uAa rfl rfl rfl (uAc rfl gU) ?_;refine uAa rfl rfl rfl (uAk rfl rfl gU gU rfl) ?_;refine uAa rfl rfl rfl (uAc rfl gU) ?_;refine uAa rfl rfl rfl (uAg rfl gU rfl rfl) ?_;refine uAa rfl rfl rfl (uAm rfl (fun hh=>hh) rfl rfl rfl rfl) ?_;refine uAa rfl rfl rfl (uBK rfl (fun hh=>hh) (Tryz.underlying9)) ?_;refine uAa rfl rfl rfl (uAk rfl rfl (fun hh=>hh) gU rfl) ?_;refine uAa rfl rfl rfl (uAM rfl rfl gU (fun _ hi=>gP rfl hi)) ?_;refine uAf ?_;refine uAn (s:=⟨[(1,_,_),(2,_,_),(13,_,_)],[(.l 2,_)],[],[]⟩) (uAj (⟨sx rfl,sx rfl,sx rfl,trivial⟩) (⟨sx rfl,trivial⟩) trivial) ?_;refine uAl rfl (fun hc=>?_) (fun hc=>?_)
  ·refine uAe (uAb ?_)
   refine uAa rfl rfl rfl (uAd rfl gU) ?_;refine uAf ?_;refine uAo ?_
   repeat (first | refine tR ?_ | refine bR ?_)
   refine uAq rfl ?_ trivial;refine uA9 ?_
   simp only [Bool.or_eq_true,decide_eq_true_eq] at hc
   rw [T.bud_eq,if_pos (by omega)]
  ·simp only [Bool.or_eq_false_iff,decide_eq_false_iff_not] at hc
   have hB : t.bud m=T.buds t.kids (m - 1):=by rw [T.bud_eq,if_neg (by omega)]
   refine uAp ?_;refine uAe (uAb ?_);refine uAa rfl rfl rfl (uAc rfl gU) ?_;refine uAa rfl rfl rfl (uAr rfl rfl gU gU rfl (IntWalk.i64_in _ (by omega))) ?_;refine uAa rfl rfl rfl (uAd rfl gU) ?_;refine uAf ?_;refine uAe ?_;refine uAe (uAb ?_);refine uAa rfl rfl rfl (uAd rfl gU) ?_;refine uAf ?_;refine uAt ?_;refine uCA (budS t m) (fun k=>k≤t.kids.length∧0≤T.buds (t.kids.take k) (m - 1)) (fun k=>t.kids.length - k) 0 ⟨Nat.zero_le _,by simp [T.buds]; omega⟩ ?_ ?_
   ·refine uAj ⟨⟨_,rfl,rfl⟩,⟨_,rfl,rfl⟩,⟨_,rfl,rfl⟩,trivial⟩ ⟨⟨_,rfl,rfl⟩,trivial⟩ trivial
   ·rintro k ⟨hk,hz⟩
    have hbl:=T.buds_le _ _ hz
    refine uAe ?_;refine uAe (uAb ?_);refine uAa rfl rfl rfl (uAc rfl gU) ?_;refine uAa rfl rfl rfl (uAg rfl gU rfl rfl) ?_;refine uAa rfl rfl rfl (uAm rfl gU rfl rfl rfl rfl) ?_;refine uAQ rfl rfl rfl rfl rfl gU rfl rfl ?_ (fun hh=>by simp at hh); intro hlen;refine uAa rfl rfl rfl (uAk rfl rfl gU gU rfl) ?_;refine uAf ?_;refine uAn (s:=⟨[(1,_,_),(2,_,_),(5,_,_),(20,_,_)],[(.l 2,_)],[],[]⟩) (uAj (⟨sx rfl,sx rfl,sx rfl,sx rfl,trivial⟩) (⟨sx rfl,trivial⟩) trivial) ?_;refine uAl rfl (fun hc2=>?_) (fun hc2=>?_)
    ·rw [T.rows_len] at hlen hc2
     have hlt : k < t.kids.length:=by simpa using hc2
     obtain ⟨x,hx⟩ : ∃ x,t.kids[k]? = some x:=⟨_,List.getElem?_eq_getElem hlt⟩
     refine uAp ?_;refine uAe ?_;refine uAt ?_;refine uAe (uAb ?_);refine uAa rfl rfl rfl (uAg rfl gU rfl rfl) ?_;refine uAa rfl rfl rfl (uAm rfl gU rfl rfl rfl rfl) ?_;refine uAa rfl rfl rfl (uAc rfl gU) ?_;refine uAa rfl rfl rfl (uAy rfl rfl gU gU rfl rfl rfl (fun _=>T.rows_get hx)) ?_;refine uAa rfl rfl rfl (uAJ rfl gU rfl rfl rfl rfl) ?_;refine uAa rfl rfl rfl (uAc rfl gU) ?_;refine uAw rfl rfl rfl rfl rfl rfl gU gU (ih x _ (by omega) (by omega) (by omega)) rfl ?_;refine uAa rfl rfl rfl (uAd rfl gU) ?_;refine uAf ?_;refine uAn (s:=⟨[(1,_,_),(2,_,_),(5,_,_)],[(.l 2,_)],[],[]⟩) (uAj (⟨sx rfl,sx rfl,sx rfl,trivial⟩) (⟨sx rfl,trivial⟩) trivial) ?_;refine uAe (uAb ?_);refine uAa rfl rfl rfl (uAc rfl gU) ?_;refine uAa rfl rfl rfl (uAk rfl rfl gU gU rfl) ?_;refine uAf ?_;refine uAl rfl (fun hc3=>?_) (fun hc3=>?_)
     ·refine uAe (uAb ?_)
      refine uAa rfl rfl rfl (uAd rfl gU) ?_;refine uAf ?_;refine uAo ?_
      repeat (first | refine tR ?_ | refine bR ?_)
      refine uAq rfl ?_ trivial;refine uA9 ?_
      simp only [decide_eq_true_eq] at hc3
      rw [hB,T.buds_hit _ _ _ _ hx hz hc3]
     ·simp only [decide_eq_false_iff_not] at hc3
      have hst:=T.buds_step _ _ _ _ hx hz (by omega)
      refine uAp ?_;refine uAb ?_;refine uAa rfl rfl rfl (uAc rfl gU) ?_;refine uAa rfl rfl rfl (uAr rfl rfl gU gU rfl (IntWalk.i64_in _ (by omega))) ?_;refine uAa rfl rfl rfl (uAd rfl gU) ?_;refine uAf ?_;refine ⟨k + 1,⟨by omega,by rw [hst]; omega⟩,by omega,?_⟩;refine uAj ⟨⟨_,rfl,by rw [hst]⟩,⟨_,rfl,rfl⟩,⟨_,rfl,rfl⟩,trivial⟩ ⟨⟨_,rfl,rfl⟩,trivial⟩ trivial
    ·refine uAL ?_
     repeat (first | refine uAF ?_ | refine uAE ?_ | refine uAB rfl ?_)
     refine uAe (uAb ?_);refine uAa rfl rfl rfl (uAc rfl gU) ?_;refine uAa rfl rfl rfl (uAd rfl gU) ?_;refine uAf ?_;refine uAo ?_
     repeat (first | refine tR ?_ | refine bR ?_)
     refine uAq rfl ?_ trivial
     rw [T.rows_len] at hc2
     have : k=t.kids.length:=by simp at hc2; omega
     subst this
     exact uA9 (by rw [hB,List.take_length])
def fewS (l : List T) (n : Nat) (m : Int) (k : Nat) : St:={ t:=[(0,true,xl l),(2,true,xi (T.buds (l.take k) m)),(7,true,xi k)],bx:=[],ow:=[] }
theorem uLJ (l : List T) (n : Nat) (m : Nat) (hm : m≤2000000) : Ctr sys 32 [xl l,xi n,xi m] [] (xb (fewB l n m)) none []:=by
 refine uAv Tryz.func32 rfl rfl rfl rfl rfl rfl ?_;refine uAe (uAb ?_);refine uAa rfl rfl rfl (uAd rfl gU) ?_;refine uAf ?_;refine uAe ?_;refine uAe (uAb ?_);refine uAa rfl rfl rfl (uAc rfl gU) ?_;refine uAQ rfl rfl rfl rfl rfl gU rfl rfl ?_ (fun hh=>by simp at hh); intro hlen;refine uAa rfl rfl rfl (uAc rfl gU) ?_;refine uAa rfl rfl rfl (uAk rfl rfl gU gU rfl) ?_;refine uAf ?_;refine uAn (s:=⟨[(0,_,_),(2,_,_),(11,_,_)],[],[],[]⟩) (uAj (⟨sx rfl,sx rfl,sx rfl,trivial⟩) trivial trivial) ?_;refine uAl rfl (fun hc=>?_) (fun hc=>?_)
 ·refine uAe (uAb ?_)
  refine uAa rfl rfl rfl (uAd rfl gU) ?_;refine uAf ?_;refine uAo ?_
  repeat (first | refine tR ?_ | refine bR ?_)
  refine uAq rfl ?_ trivial;refine uCu ?_
  simp only [T.rows_len,decide_eq_true_eq] at hc
  have : ¬ l.length≤n:=by omega
  simp [fewB,this]
 ·simp only [T.rows_len,decide_eq_false_iff_not] at hc
  have hn : l.length≤n:=by omega
  refine uAp ?_;refine uAe ?_;refine uAe (uAb ?_);refine uAa rfl rfl rfl (uAd rfl gU) ?_;refine uAf ?_;refine uAt ?_;refine uCA (fewS l n m) (fun k=>k≤l.length∧0≤T.buds (l.take k) m) (fun k=>l.length - k) 0 ⟨Nat.zero_le _,by simp [T.buds]⟩ ?_ ?_
  ·refine uAj ⟨⟨_,rfl,rfl⟩,⟨_,rfl,rfl⟩,⟨_,rfl,rfl⟩,trivial⟩ trivial trivial
  ·rintro k ⟨hk,hz⟩
   have hbl:=T.buds_le _ _ hz
   refine uAe ?_;refine uAe (uAb ?_);refine uAa rfl rfl rfl (uAc rfl gU) ?_;refine uAa rfl rfl rfl (uAc rfl gU) ?_;refine uAQ rfl rfl rfl rfl rfl gU rfl rfl ?_ (fun hh=>by simp at hh); intro hlen;refine uAa rfl rfl rfl (uAk rfl rfl gU gU rfl) ?_;refine uAf ?_;refine uAl rfl (fun hc2=>?_) (fun hc2=>?_)
   ·rw [T.rows_len] at hlen hc2
    have hlt : k < l.length:=by simpa using hc2
    obtain ⟨x,hx⟩ : ∃ x,l[k]? = some x:=⟨_,List.getElem?_eq_getElem hlt⟩
    refine uAp ?_;refine uAe ?_;refine uAt ?_;refine uAe (uAb ?_);refine uAa rfl rfl rfl (uAc rfl gU) ?_;refine uAa rfl rfl rfl (uAc rfl gU) ?_;refine uAa rfl rfl rfl (uAy rfl rfl gU gU rfl rfl rfl (fun _=>T.rows_get hx)) ?_;refine uAa rfl rfl rfl (uAJ rfl gU rfl rfl rfl rfl) ?_;refine uAa rfl rfl rfl (uAc rfl gU) ?_;refine uAw rfl rfl rfl rfl rfl rfl gU gU (uIX m x _ (by omega) (by omega) (by omega)) rfl ?_;refine uAa rfl rfl rfl (uAd rfl gU) ?_;refine uAf ?_;refine uAn (s:=⟨[(0,_,_),(2,_,_),(7,_,_)],[],[],[]⟩) (uAj (⟨sx rfl,sx rfl,sx rfl,trivial⟩) trivial trivial) ?_;refine uAe (uAb ?_);refine uAa rfl rfl rfl (uAc rfl gU) ?_;refine uAa rfl rfl rfl (uAk rfl rfl gU gU rfl) ?_;refine uAf ?_;refine uAl rfl (fun hc3=>?_) (fun hc3=>?_)
    ·refine uAe (uAb ?_)
     refine uAa rfl rfl rfl (uAd rfl gU) ?_;refine uAf ?_;refine uAo ?_
     repeat (first | refine tR ?_ | refine bR ?_)
     refine uAq rfl ?_ trivial;refine uCu ?_
     simp only [decide_eq_true_eq] at hc3
     simp [fewB,T.buds_hit _ _ _ _ hx hz hc3]
    ·simp only [decide_eq_false_iff_not] at hc3
     have hst:=T.buds_step _ _ _ _ hx hz (by omega)
     refine uAp ?_;refine uAb ?_;refine uAa rfl rfl rfl (uAc rfl gU) ?_;refine uAa rfl rfl rfl (uAr rfl rfl gU gU rfl (IntWalk.i64_in _ (by omega))) ?_;refine uAa rfl rfl rfl (uAd rfl gU) ?_;refine uAf ?_;refine ⟨k + 1,⟨by omega,by rw [hst]; omega⟩,by omega,?_⟩;refine uAj ⟨⟨_,rfl,rfl⟩,⟨_,rfl,by rw [hst]⟩,⟨_,rfl,rfl⟩,trivial⟩ trivial trivial
   ·refine uAL ?_
    repeat (first | refine uAF ?_ | refine uAE ?_ | refine uAB rfl ?_)
    refine uAe (uAb ?_);refine uAa rfl rfl rfl (uAd rfl gU) ?_;refine uAf ?_;refine uAo ?_
    repeat (first | refine tR ?_ | refine bR ?_)
    refine uAq rfl ?_ trivial
    rw [T.rows_len] at hc2
    have : k=l.length:=by simp at hc2; omega
    subst this
    rw [List.take_length] at hz
    exact uCu (by simp [fewB,hn,hz])
end Go.Proofs.YtnjjdbapadkomaaGreatDoor
namespace Go.Proofs.YtnjjdbapadkomaaGreatDoor
open Go Go.Abs
theorem uNq (l r : List T) : X.v (.c (.sl 4 (T.rows l++T.rows r)))=xl (l++r):=by simp [xl,T.rows_eq]
namespace T
mutual
def all : T→List T
 | mk k n s ks=>mk k n s ks :: alls ks
def alls : List T→List T
 | []=>[]
 | t :: ts=>all t++alls ts
end
theorem all_eq (t : T) : t.all=t :: alls t.kids:=by cases t; rw [all]; rfl
theorem uFc : ∀ ts : List T,alls ts=(ts.map all).flatten
 | []=>by rw [alls]; rfl
 | t :: ts=>by rw [alls,uFc ts]; rfl
mutual
theorem all_len : ∀ t : T,t.all.length=t.size
 | mk k n s ks=>by rw [all,size,List.length_cons,alls_len ks]; omega
theorem alls_len : ∀ ts : List T,(alls ts).length=sizes ts
 | []=>by rw [alls,sizes]; rfl
 | t :: ts=>by rw [alls,sizes,List.length_append,all_len t,alls_len ts]
end
theorem alls_take {ts : List T} {k : Nat} (h : k < ts.length) : alls (ts.take (k + 1))=alls (ts.take k)++(ts.getD k default).all:=by
 rw [uFc,uFc,uEk (d:=default) h]; simp
end T
theorem uKX : ∀ (n : Nat) (t : T),t.size≤n→n≤2000000→Ctr sys 86 [xm t] [] (xl t.all) none []:=by
 intro n
 induction n with
 | zero=>intro t h; have := t.size_pos; omega
 | succ n ih =>
  intro t ht hn
  have hse:=t.size_eq
  have hr:=T.rows_len t.kids
  have hls:=T.len_sizes t.kids
  have e4 : t.cells.take 4=t.cells:=by cases t; rfl
  refine uAv Tryz.func86 rfl rfl rfl rfl rfl rfl ?_;refine uAe (uAb ?_);refine uAu rfl (uAT rfl rfl rfl rfl) ?_;refine uAu rfl (uBn (.inr rfl) rfl rfl) ?_;refine uAf ?_;refine uAe (uAb ?_);refine uAa rfl rfl rfl (uAs rfl gU rfl rfl rfl rfl rfl) ?_;refine uAK (xs:=[_]) rfl rfl rfl rfl rfl rfl rfl rfl rfl gU rfl ?_;refine uAu rfl (uAH (.inr rfl) rfl rfl rfl) ?_;refine uAf ?_;refine uAn (s:=⟨[(1,_,_),(3,_,_)],[(.l 1,_)],[(.t 3,_)],[]⟩) (uAj (⟨sx rfl,sx rfl,trivial⟩) (⟨sx rfl,trivial⟩) (⟨rfl,trivial⟩)) ?_;refine uAe ?_;refine uAe (uAb ?_);refine uAa rfl rfl rfl (uAd rfl gU) ?_;refine uAf ?_;refine uAt ?_;refine uAW (ι:=Nat) { t:=[(1,_,_)],bx:=[(.l 1,_)],ow:=[(.t 3,_)] } (fun k=>[(4,true,xi (k : Int)),(3,true,xl (t :: T.alls (t.kids.take k)))]) (fun k=>[]) (fun k=>k≤t.kids.length) (fun k=>t.kids.length - k) (0) (by simp) (uAj (⟨sx rfl,⟨⟨_,rfl,by exact tx (by simp [T.alls,T.rows_eq,e4])⟩,⟨sx rfl,trivial⟩⟩⟩) (⟨sx rfl,trivial⟩) (⟨rfl,trivial⟩)) ?_
  intro k hok
  dsimp only [List.cons_append,List.nil_append]
  have htk:=T.sizes_take_le t.kids k
  refine uAe ?_;refine uAe (uAb ?_);refine uAa rfl rfl rfl (uAc rfl gU) ?_;refine uAa rfl rfl rfl (uAg rfl gU rfl rfl) ?_;refine uAa rfl rfl rfl (uAm rfl gU rfl rfl rfl rfl) ?_;refine uAQ rfl rfl rfl rfl rfl gU rfl rfl ?_ (fun hh=>by simp at hh); intro hlen;refine uAa rfl rfl rfl (uAk rfl rfl gU gU rfl) ?_;refine uAf ?_;refine uAn (s:=⟨[(1,_,_),(3,_,_),(4,_,_),(11,_,_)],[(.l 1,_)],[(.t 3,_)],[]⟩) (uAj (⟨sx rfl,sx rfl,sx rfl,sx rfl,trivial⟩) (⟨sx rfl,trivial⟩) (⟨rfl,trivial⟩)) ?_;refine uAl rfl (fun hc=>?_) (fun hc=>?_)
  ·try simp only [nn,uAh,T.rows_len,Gl.rows_len,Fs.rows_len,Sp.rows_len] at hc
   have hlt : k < t.kids.length:=by omega
   have hgs:=T.getD_size hlt
   have hT:=T.alls_take hlt
   refine uAp ?_;refine uAe ?_;refine uAt ?_;refine uAb ?_;refine uAu rfl (uAH (.inl rfl) rfl rfl rfl) ?_;refine uAa rfl rfl rfl (uAg rfl gU rfl rfl) ?_;refine uAa rfl rfl rfl (uAm rfl gU rfl rfl rfl rfl) ?_;refine uAa rfl rfl rfl (uAc rfl gU) ?_;refine uAa rfl rfl rfl (uAy rfl rfl gU gU rfl rfl rfl (fun hh=>T.rows_at (by first | omega | (simp at hh ⊢; omega)))) ?_;refine uAa rfl rfl rfl (uAJ rfl gU rfl rfl rfl rfl) ?_;refine uAw rfl rfl rfl rfl rfl rfl gU gU (ih _ (by omega) (by omega)) rfl ?_;refine uAu rfl (uAZ rfl rfl rfl rfl rfl rfl rfl (by first | omega | (simp only [List.length_append,List.length_singleton,List.length_cons,T.rows_len,T.alls_len,T.all_len]; omega)) (by first | omega | (simp only [List.length_append,List.length_singleton,List.length_cons,T.rows_len,T.alls_len,T.all_len]; omega))) ?_;refine uAu rfl (uAH (.inr rfl) rfl rfl rfl) ?_;refine uAf ?_;refine uAn (s:=⟨[(1,_,_),(3,_,_),(4,_,_)],[(.l 1,_)],[(.t 3,_)],[]⟩) (uAj (⟨sx rfl,sx rfl,sx rfl,trivial⟩) (⟨sx rfl,trivial⟩) (⟨rfl,trivial⟩)) ?_;refine uAb ?_;refine uAa rfl rfl rfl (uAc rfl gU) ?_;refine uAa rfl rfl rfl (uAr rfl rfl gU gU rfl (IntWalk.i64_in _ (by omega))) ?_;refine uAa rfl rfl rfl (uAd rfl gU) ?_;refine uAf ?_;refine ⟨k + 1,?_,?_,uAj (⟨⟨_,rfl,?_⟩,⟨⟨_,rfl,?_⟩,⟨sx rfl,trivial⟩⟩⟩) (⟨sx rfl,trivial⟩) (⟨rfl,trivial⟩)⟩
   all_goals (first | rfl | omega | exact tx ((uNq _ _).trans (by rw [hT]; rfl)))
  ·try simp only [nn,uAh,T.rows_len,Gl.rows_len,Fs.rows_len,Sp.rows_len] at hc
   have hk : k=t.kids.length:=by omega
   subst hk
   refine uAL ?_
   repeat (first | refine uAF ?_ | refine uAE ?_ | refine uAB rfl ?_)
   refine uAe (uAb ?_);refine uAu rfl (uAH (.inl rfl) rfl rfl rfl) ?_;refine uAu rfl (uAH (.inr rfl) rfl rfl rfl) ?_;refine uAf ?_;refine uAo ?_
   repeat (first | refine tR ?_ | refine bR ?_)
   refine uAq rfl ?_ trivial
   (rw [T.all_eq,List.take_length]; rfl)
def uBf (out : List (List UInt8)) (t : T) : List (List UInt8):=if (t.kind=1∨t.kind=2)∧out.contains t.name=false then out++[t.name] else out
def nmsE (l : List T) : List (List UInt8):=l.foldl uBf []
theorem uLZ {l : List T} {k : Nat} (h : k < l.length) : nmsE (l.take (k + 1))=uBf (nmsE (l.take k)) (l.getD k default):=by
 rw [uEk (d:=default) h]; simp [nmsE,List.foldl_append]
theorem uHX (l : List T) : ∀ out : List (List UInt8),(l.foldl uBf out).length≤out.length + l.length:=by
 induction l with
 | nil=>intro out; simp
 | cons t l ih =>
  intro out
  have := ih (uBf out t)
  have h2 : (uBf out t).length≤out.length + 1:=by
   unfold uBf; split <;> simp
  simp only [List.foldl_cons,List.length_cons]; omega
def uIg (t : T) : List (List UInt8):=nmsE t.all
theorem uI4 (t : T) (ht : t.size≤900000) : Ctr sys 35 [xm t] [] (xss (uIg t)) none []:=by
 have hl:=T.all_len t
 have hr:=T.rows_len t.all
 refine uAv Tryz.func35 rfl rfl rfl rfl rfl rfl ?_;refine uAe (uAb ?_);refine uAu rfl (uAT rfl rfl rfl rfl) ?_;refine uAu rfl (uBn (.inr rfl) rfl rfl) ?_;refine uAf ?_;refine uAe (uAb ?_);refine uAu rfl (uBn (.inr rfl) rfl rfl) ?_;refine uAf ?_;refine uAe (uAb ?_);refine uAa rfl rfl rfl (uAs rfl gU rfl rfl rfl rfl rfl) ?_;refine uAw rfl rfl rfl rfl rfl rfl gU gU (uKX _ t (Nat.le_refl _) (by omega)) rfl ?_;refine uAa rfl rfl rfl (uAd rfl gU) ?_;refine uAf ?_;refine uAn (s:=⟨[(3,_,_),(4,_,_)],[],[(.t 3,_)],[]⟩) (uAj (⟨sx rfl,sx rfl,trivial⟩) trivial (⟨rfl,trivial⟩)) ?_;refine uAe ?_;refine uAe (uAb ?_);refine uAa rfl rfl rfl (uAd rfl gU) ?_;refine uAf ?_;refine uAt ?_;refine uAW (ι:=Nat) { t:=[(4,_,_)],bx:=[],ow:=[(.t 3,_)] } (fun k=>[(5,true,xi (k : Int)),(3,true,xss (nmsE (t.all.take k)))]) (fun k=>[]) (fun k=>k≤t.all.length) (fun k=>t.all.length - k) (0) (by simp) (uAj (⟨sx rfl,sx rfl,sx rfl,trivial⟩) trivial (⟨rfl,trivial⟩)) ?_
 intro k hok
 dsimp only [List.cons_append,List.nil_append]
 have hnl:=uHX (t.all.take k) []
 rw [List.length_take,List.length_nil] at hnl
 change (nmsE (t.all.take k)).length≤_ at hnl
 refine uAe ?_;refine uAe (uAb ?_);refine uAa rfl rfl rfl (uAc rfl gU) ?_;refine uAa rfl rfl rfl (uAc rfl gU) ?_;refine uAQ rfl rfl rfl rfl rfl gU rfl rfl ?_ (fun hh=>by simp at hh); intro hlen;refine uAa rfl rfl rfl (uAk rfl rfl gU gU rfl) ?_;refine uAf ?_;refine uAl rfl (fun hc=>?_) (fun hc=>?_)
 ·try simp only [nn,uAh,T.rows_len,Gl.rows_len,Fs.rows_len,Sp.rows_len] at hc
  have hlt : k < t.all.length:=by omega
  have hT:=uLZ hlt
  refine uAp ?_;refine uAe ?_;refine uAt ?_;refine uAe (uAb ?_);refine uAa rfl rfl rfl (uAc rfl gU) ?_;refine uAa rfl rfl rfl (uAc rfl gU) ?_;refine uAa rfl rfl rfl (uAy rfl rfl gU gU rfl rfl rfl (fun hh=>T.rows_at (by first | omega | (simp at hh ⊢; omega)))) ?_;refine uAa rfl rfl rfl (uA8 rfl gU rfl rfl) ?_;refine uAa rfl rfl rfl (uAX rfl gU rfl rfl rfl) ?_;refine uAa rfl rfl rfl (uAk rfl rfl gU gU rfl) ?_;refine uAa rfl rfl rfl (uAc rfl gU) ?_;refine uAa rfl rfl rfl (uAc rfl gU) ?_;refine uBq (s:=⟨[(3,_,_),(4,_,_),(5,_,_),(20,_,_),(21,_,_)],[],[(.t 3,_)],[]⟩) (uAj (⟨sx rfl,sx rfl,sx rfl,sx rfl,sx rfl,trivial⟩) trivial (⟨rfl,trivial⟩)) ?_;refine uAa rfl rfl rfl (uAc rfl gU) ?_;refine uAa rfl rfl rfl (uAy rfl rfl (fun hh=>hh) (fun hh=>hh) rfl rfl rfl (fun hh=>T.rows_at (by first | omega | (simp at hh ⊢; omega)))) ?_;refine uAa rfl rfl rfl (uA8 rfl (fun hh=>hh) rfl rfl) ?_;refine uAa rfl rfl rfl (uAX rfl (fun hh=>hh) rfl rfl rfl) ?_;refine uAa rfl rfl rfl (uAk rfl rfl (fun hh=>hh) gU rfl) ?_;refine uAa rfl rfl rfl (uAM rfl rfl gU (fun _ hi=>gP rfl hi)) ?_;refine uAa rfl rfl rfl (uAc rfl gU) ?_;refine uAa rfl rfl rfl (uAc rfl gU) ?_;refine uAa rfl rfl rfl (uAc rfl gU) ?_;refine uAa rfl rfl rfl (uAc rfl gU) ?_
  refine uAa rfl rfl rfl (uAy rfl rfl (fun hh=>hh) (fun hh=>hh) rfl rfl rfl (fun hh=>T.rows_at (by first | omega | (simp at hh ⊢; omega)))) ?_;refine uAa rfl rfl rfl (uA8 rfl (fun hh=>hh) rfl rfl) ?_;refine uBq (s:=⟨[(3,_,_),(4,_,_),(5,_,_),(28,_,_),(29,_,_),(33,_,_)],[],[(.t 3,_)],[]⟩) (uAj (⟨sx rfl,sx rfl,sx rfl,sx rfl,sx rfl,sx rfl,trivial⟩) trivial (⟨rfl,trivial⟩)) ?_;refine uAa rfl rfl rfl (uAX rfl (fun hh=>hh) rfl rfl rfl) ?_;refine uAw rfl rfl rfl rfl rfl rfl gU (fun hh=>gA ((fun hh=>hh) hh) (gA ((fun hh=>hh) hh) (rfl))) (uLq _ _) rfl ?_;refine uAa rfl rfl rfl (uA1 rfl (fun hh=>hh)) ?_;refine uAa rfl rfl rfl (uAO rfl rfl gU (fun _ hi=>gP rfl hi)) ?_;refine uAf ?_;refine uAl rfl (fun hc2=>?_) (fun hc2=>?_)
  ·try simp only [nn,uAh,T.rows_len,Gl.rows_len,Fs.rows_len,Sp.rows_len] at hc2
   rw [uBf,if_pos ⟨by omega,by simpa using hc2.2⟩] at hT
   refine uAb ?_;refine uAu rfl (uAH (.inl rfl) rfl rfl rfl) ?_;refine uAa rfl rfl rfl (uAc rfl gU) ?_;refine uAa rfl rfl rfl (uAc rfl gU) ?_;refine uAa rfl rfl rfl (uAy rfl rfl gU gU rfl rfl rfl (fun hh=>T.rows_at (by first | omega | (simp at hh ⊢; omega)))) ?_;refine uAa rfl rfl rfl (uA8 rfl gU rfl rfl) ?_;refine uAa rfl rfl rfl (uAX rfl gU rfl rfl rfl) ?_;refine uAK (xs:=[_]) rfl rfl rfl rfl rfl rfl rfl rfl rfl gU rfl ?_;refine uAu rfl (uAZ rfl rfl rfl rfl rfl rfl rfl (by first | omega | (simp only [List.length_append,List.length_singleton,uAh]; omega)) (by first | omega | (simp only [List.length_append,List.length_singleton,uAh]; omega))) ?_;refine uBq (s:=⟨[(4,_,_),(5,_,_),(45,_,_)],[],[(.t 45,_)],[]⟩) (uAj (⟨sx rfl,sx rfl,sx rfl,trivial⟩) trivial (⟨rfl,trivial⟩)) ?_;refine uAu rfl (uAH (.inr rfl) rfl rfl rfl) ?_;refine uAf ?_;refine uAb ?_;refine uAa rfl rfl rfl (uAc rfl gU) ?_;refine uAa rfl rfl rfl (uAr rfl rfl gU gU rfl (IntWalk.i64_in _ (by omega))) ?_;refine uAa rfl rfl rfl (uAd rfl gU) ?_;refine uAf ?_;refine ⟨k + 1,?_,?_,uAj (⟨⟨_,rfl,?_⟩,⟨⟨_,rfl,?_⟩,⟨sx rfl,trivial⟩⟩⟩) trivial (⟨rfl,trivial⟩)⟩
   all_goals (first | rfl | omega | exact tx ((uB8 _ _).trans (by rw [hT])))
  ·try simp only [nn,uAh,T.rows_len,Gl.rows_len,Fs.rows_len,Sp.rows_len] at hc2
   rw [uBf,if_neg (by rintro ⟨q1,q2⟩; rcases hc2 with z | z; { omega }; { rw [z] at q2; cases q2 })] at hT
   refine uAp ?_;refine uAb ?_;refine uAa rfl rfl rfl (uAc rfl gU) ?_;refine uAa rfl rfl rfl (uAr rfl rfl gU gU rfl (IntWalk.i64_in _ (by omega))) ?_;refine uAa rfl rfl rfl (uAd rfl gU) ?_;refine uAf ?_;refine ⟨k + 1,?_,?_,uAj (⟨⟨_,rfl,?_⟩,⟨⟨_,rfl,?_⟩,⟨sx rfl,trivial⟩⟩⟩) trivial (⟨rfl,trivial⟩)⟩
   all_goals (first | rfl | omega | exact tx (by rw [hT]))
 ·try simp only [nn,uAh,T.rows_len,Gl.rows_len,Fs.rows_len,Sp.rows_len] at hc
  have hk : k=t.all.length:=by omega
  subst hk
  refine uAL ?_
  repeat (first | refine uAF ?_ | refine uAE ?_ | refine uAB rfl ?_)
  refine uAe (uAb ?_);refine uAu rfl (uAH (.inl rfl) rfl rfl rfl) ?_;refine uAu rfl (uAH (.inr rfl) rfl rfl rfl) ?_;refine uAf ?_;refine uAo ?_
  repeat (first | refine tR ?_ | refine bR ?_)
  refine uAq rfl ?_ trivial
  (rw [uIg,List.take_length]; rfl)
end Go.Proofs.YtnjjdbapadkomaaGreatDoor
namespace Go.Abs
end Go.Abs
namespace Go.Abs
variable {Z : Pg}
theorem All2.app {α β : Type} {R : α→β→Prop} : ∀ {us : List α} {bs : List β} {cs : List α} {ds : List β},All2 R us bs→All2 R cs ds→All2 R (us++cs) (bs++ds)
 | [],[],_,_,_,k=>k
 | _ :: _,_ :: _,_,_,h,k=>⟨h.1,All2.app h.2 k⟩
 | [],_ :: _,_,_,h,_=>h.elim
 | _ :: _,[],_,_,h,_=>h.elim
theorem uIB {w : World} {G : Gh} : ∀ {ys : List Y} {vs : List Value},All2 (YRep w G) ys vs→All2 (XRep w G) (ys.map X.v) vs
 | [],[],_=>trivial
 | _ :: _,_ :: _,h=>⟨h.1,uIB h.2⟩
 | [],_ :: _,h=>h.elim
 | _ :: _,[],h=>h.elim
def uE3 (fv : Value) (f : FuncId) (k : Nat) (vs : List Value) : Prop:=fv = .func (.func f) #[] (vs.drop k).toArray
theorem uHA {Z' : Pg} {N : Nat} {ops : Array Oper} {st : St} {o : Oper} {d : Nat} {fo : Operand} {args : Array Operand} {ts : Array TypeId} {f : FuncId} {caps : List Y} {xs cxs : List X} {res : X} {ps : List Pass} {os : OS} {fv : Value} {H : List Value→Prop}
  (hP : Z'.P=Z.P) (hgv : ∀ (E : Env) (G : Gh) (a : Act) (w : World),Rel E G st a w→GlOk Z w (G.passedO ps os)→GlOk Z' w (G.passedO ps os))
  (ho : o.op = .call { callee:=.value fo,args:=args,argTypes:=ts }) (hg : uA3 ops st o=some true)
  (ha : uBV Z.T st ts.toList args.toList=some (true,xs)) (htr : cxs.map (X.tr ps)=xs++caps.map X.v) (htrok : uDI ps cxs=true)
  (hps : ∀ p ∈ ps,st.box p.n=some p.cs) (hnd : uB1 st ps=true) (hosb : osB ps os st=true)
  (hs : CtrX Z' H f cxs (ps.map Pass.old) os res (ps.map Pass.ds) .box) (hc : res.clean=true) (hd : o.dst=some d) (hN : Nat.ble (d + 1) N=true)
  (E : Env) (G : Gh) (a : Act) (w : World) (hr : Rel E G st a w) (hE : EOk Z N E) (hfe : a.eval fo=fv) {cvs : List Value} (hfn : fv = .func (.func f) #[] cvs.toArray) (hcv : All2 (YRep w G) caps cvs)
  (hH : ∀ us : List Value,us.length=xs.length→H (us++cvs))
  (K' : Act→World→Prop) (Q' : Exit→Act→World→Prop) (hK : ∀ G' v w',Rel E G' (({ st.stores ps with ow:=osPl ps os++(st.stores ps).ow } : St).put d (true,res)) (a.put o.dst v) w'→K' (a.put o.dst v) w') :
  if Region.wanted o (yielded ops a.tmps) then o.wp Z.P a w K' Q' else K' (a.put o.dst undef) w:=by
 rw [uBs hr hg]
 simp only [if_true]
 have hav:=uCI hr ha rfl
 have hal:=hav.len
 have hav2:=hav.app (uIB hcv)
 rw [← htr] at hav2
 obtain ⟨hen,hsp⟩:=hs
 have hen2 : Enters Z f:=by unfold Enters at hen ⊢; rw [hP] at hen; exact hen
 unfold Oper.wp
 rw [uDm (caps:=cvs) ho (by rw [hfe,hfn]) hen2,Oper.upon_enter]
 have hos:=uLR hosb
 obtain ⟨p1,p2,p3,p4,p5,p6,p7,p8⟩:=uHg hr hE hav2 htrok hps hnd hos
 have p8' : GlOk Z' w (G.passedO ps os):=hgv E G a w hr p8
 have hcall:=hsp E.C w _ _ p1 (hH (args.toList.map a.eval) hal.symm) p2 p3 p4 p5 p6 p7 p8'
 rw [hP] at hcall
 refine hcall.mono ?_
 rintro e w' ⟨v,G',rfl,hfr,h1,h2,h3,h4,h5,h6,h7,h8⟩
 dsimp only
 obtain ⟨hrel,hS2,hown,hbx⟩:=uGF hr hps hnd hos hfr h1 h2 h3 h5 h6 h8
 have hX : XRep w' (G.backO G' w.heap.size ps os) res v:=h4.mono hS2 (fun _ _ _=>rfl) (fun n hn=>by rw [X.clean_has hc n] at hn; simp at hn)
 rw [hd] at hK ⊢
 have hdN : d < E.nt:=by rw [hE.nt]; exact Nat.le_of_ble_eq_true hN
 refine hK _ v w' ((hrel.addOwns (l:=osPl ps os) ?_).put hdN (g:=true) (fun _=>hX) (fun hf=>by simp at hf))
 intro x hx
 obtain ⟨e,he,hex⟩:=List.mem_filterMap.1 hx
 obtain ⟨q,hq,hlt,hqo⟩:=hos e he
 rw [hq] at hex
 simp only [Option.map_some,Option.some.injEq] at hex
 subst hex
 obtain ⟨u,hu,huo⟩:=h7 e he
 have hA : (G.passedO ps os).A (.o e.1)=((G.A q.n).1,(G.A q.n).2 + q.off):=by simp [Gh.passedO,Gh.passed,hq]
 have hu2 : w'.cell? ⟨(G'.A (.o e.1)).1,(G'.A (.o e.1)).2 + e.2.1,none⟩=some u:=hu
 rw [h5,hA] at hu2
 dsimp only at hu2
 rw [Nat.add_assoc] at hu2
 obtain ⟨u0,hu0,_⟩:=hr.ow _ _ hqo
 exact ⟨u,⟨hu2,hbx _ _ _ hu0.2⟩,hown _ u e q hq (uDU hnd q (List.mem_of_getElem? hq)) huo⟩
def uLP (fv : Value) (f : FuncId) : (Nat→Nat × Nat)→Prop:=fun A=>fv = .func (.func f) #[] #[.pointer (some ⟨(A 0).1,(A 0).2 + 0,none⟩), .pointer (some ⟨(A 1).1,(A 1).2 + 0,none⟩)]
theorem uFN {N : Nat} {ops : Array Oper} {rest : List Oper} {K : St→Prop} {st : St} {o : Oper} {d : Nat} {fo : Operand} {args : Array Operand} {ts : Array TypeId} {f : FuncId} {xs cxs : List X} {res : X} {fv : Value} (ps : List Pass) (os : OS)
  (hex : Z.ex=uLP fv f)
  (ho : o.op = .call { callee:=.value fo,args:=args,argTypes:=ts }) (hg : uA3 ops st o=some true)
  (hf : lk Z.T st 0 fo=some (true, .v (.c (.o fv)))) (ha : uBV Z.T st ts.toList args.toList=some (true,xs)) (htr : cxs.map (X.tr ps)=xs++[.v (.ptr (.o 0) 0), .v (.ptr (.o 1) 0)]) (htrok : uDI ps cxs=true)
  (hps : ∀ p ∈ ps,st.box p.n=some p.cs) (hnd : uB1 st ps=true) (hosb : osB ps os st=true)
  (hs : CtrX Z (uE3 fv f xs.length) f cxs (ps.map Pass.old) os res (ps.map Pass.ds) .box) (hc : res.clean=true) (hd : o.dst=some d) (hN : Nat.ble (d + 1) N=true)
  (h : AL Z N ops rest K (({ st.stores ps with ow:=osPl ps os++(st.stores ps).ow } : St).put d (true,res))) : AL Z N ops (o :: rest) K st:=by
 refine uCS (fun E G a w hr hE K' Q' hK=>?_) h
 have hfe : a.eval fo=fv:=by
  have h1 : CRep w G.S (.o fv) (a.eval fo):=uAS hr hf rfl
  cases h1; rfl
 have hx:=hE.ex
 rw [hex] at hx
 refine uHA (caps:=[.ptr (.o 0) 0, .ptr (.o 1) 0]) rfl (fun _ _ _ _ _ h=>h) ho hg ha htr htrok hps hnd hosb hs hc hd hN E G a w hr hE hfe hx ⟨?_,?_,trivial⟩ (fun us hu=>?_) K' Q' hK
 ·show _=_
  rw [hr.oA 0]
 ·show _=_
  rw [hr.oA 1]
 ·unfold uE3
  rw [← hu,List.drop_left]
  exact hx
def ALv (V V' : Act→Prop) (Z : Pg) (N : Nat) (ops : Array Oper) (rest : List Oper) (K : St→Prop) (st : St) : Prop :=
 ∀ (E : Env) (G : Gh) (a : Act) (w : World),Rel E G st a w→EOk Z N E→V a → ∀ K' : Act→World→Prop,(∀ st' G' a' w',K st'→Rel E G' st' a' w'→V' a'→K' a' w')→wpList Z.P ops (Qn K') rest a w
def AWPv (V : Act→Prop) (Z : Pg) (N : Nat) (c : Code) (Q : Exit→St→Prop) (st : St) : Prop :=
 ∀ (E : Env) (G : Gh) (a : Act) (w : World),Rel E G st a w→EOk Z N E→V a→c.wp Z.P (fun e a' w'=>∃ G' st',Q e st'∧Rel E G' st' a' w') a w
section
variable {N : Nat} {V V' : Act→Prop} {ops : Array Oper} {rest : List Oper} {K : St→Prop} {st st' : St} {o : Oper}
theorem uKA (h : K st) (hV : ∀ a,V a→V' a) : ALv V V' Z N ops [] K st:=fun _ G a w hr _ hv _ hK=>hK st G a w h hr (hV a hv)
theorem uGM {V1 : Act→Prop} (hp : ∀ (E : Env) (G : Gh) (a : Act) (w : World),Rel E G st a w→EOk Z N E→V a → ∀ (K : Act→World→Prop) (Q : Exit→Act→World→Prop),(∀ G' v w',Rel E G' st' (a.put o.dst v) w'→V1 (a.put o.dst v)→K (a.put o.dst v) w') →
  if Region.wanted o (yielded ops a.tmps) then o.wp Z.P a w K Q else K (a.put o.dst undef) w) (h : ALv V1 V' Z N ops rest K st') : ALv V V' Z N ops (o :: rest) K st:=by
 intro E G a w hr hE hv K' hK
 have := hp E G a w hr hE hv (wpList Z.P ops (Qn K') rest) (Qn K') fun G' v w' hr' hv'=>h E G' _ w' hr' hE hv' K' hK
 unfold wpList
 split at this
 ·rename_i hw; rw [if_pos hw]; exact .inl this
 ·rename_i hw; rw [if_neg hw]; exact this
theorem uH9 (hp : Op1 Z N ops o st st') (hV : ∀ a v,V a→V (a.put o.dst v)) (h : ALv V V' Z N ops rest K st') : ALv V V' Z N ops (o :: rest) K st :=
 uGM (V1:=V) (fun E G a w hr hE hv K Q hK=>hp E G a w hr hE K Q fun G' v w' hr'=>hK G' v w' hr' (hV a v hv)) h
theorem uFv {id : Nat} {ops : List Oper} {y : Code} {Q : Exit→St→Prop} (h : ALv V V' Z N ops.toArray ops (AWPv V' Z N y Q) st) : AWPv V Z N (.seq (.region id ops.toArray false) y) Q st:=by
 intro E G a w hr hE hv
 refine wp_seq (wp_mono (wp_region_lit (h E G a w hr hE hv (fun a' w'=>∃ G' st',AWPv V' Z N y Q st'∧Rel E G' st' a' w'∧V' a') fun st' G' a' w' hq hr' hv'=>⟨G',st',hq,hr',hv'⟩)) ?_)
 intro e a' w' hq
 cases e <;> first
  | (obtain ⟨G',st',h1,h2,h3⟩:=hq; exact h1 E G' a' w' h2 hE h3)
  | exact hq.elim
theorem uMH {c : Code} {Q : Exit→St→Prop} (h : AWP Z N c Q st) : AWPv V Z N c Q st:=fun E G a w hr hE _=>h E G a w hr hE
def Caps (fv : Value) (f : FuncId) (i j : Nat) (a : Act) : Prop:=∃ p q,a.tmps[i]? = some p∧a.tmps[j]? = some q∧fv = .func (.func f) #[] #[p,q]
theorem uGO {fv : Value} {f : FuncId} {i j d : Nat} (hi : d≠i) (hj : d≠j) (a : Act) (v : Value) (h : Caps fv f i j a) : Caps fv f i j (a.put (some d) v):=by
 obtain ⟨p,q,h1,h2,h3⟩:=h
 refine ⟨p,q,?_,?_,h3⟩
 ·show (a.tmps.setIfInBounds d v)[i]? = _
  rw [Array.getElem?_setIfInBounds_ne hi]; exact h1
 ·show (a.tmps.setIfInBounds d v)[j]? = _
  rw [Array.getElem?_setIfInBounds_ne hj]; exact h2
theorem uL5 {c : Code} {Q : Exit→St→Prop} {f : FuncId} {i j : Nat} {x y : X} (hi : st.get i=some (true,x)) (hj : st.get j=some (true,y)) (h : ∀ fv,AWPv (Caps fv f i j) Z N c Q st) : AWP Z N c Q st:=by
 intro E G a w hr hE
 obtain ⟨p,hp,_⟩:=hr.tm _ _ _ hi
 obtain ⟨q,hq,_⟩:=hr.tm _ _ _ hj
 exact h _ E G a w hr hE ⟨p,q,hp,hq,rfl⟩
theorem uL8 {f : FuncId} {i j d : Nat} {fv : Value} (hg : uA3 ops st o=some true) (hd : o.dst=some d) (hN : Nat.ble (d + 1) N=true) (hi : d≠i) (hj : d≠j) (ho : o.op = .makeFunc (.func f) #[] #[.tmp i, .tmp j])
  (h : ALv (Caps fv f i j) V' Z N ops rest K (st.put d (true, .v (.c (.o fv))))) : ALv (Caps fv f i j) V' Z N ops (o :: rest) K st:=by
 refine uGM (V1:=Caps fv f i j) (fun E G a w hr hE hv K Q hK=>?_) h
 have hdN : d < E.nt:=by rw [hE.nt]; exact Nat.le_of_ble_eq_true hN
 rw [uBs hr hg]
 simp only [if_true]
 obtain ⟨p,q,h1,h2,h3⟩:=hv
 have hrun : (execOp a.eval o).run Z.P w = .ok (.value fv) w:=by
  have e1 : a.eval (.tmp i)=p:=by simp [Act.eval,h1]
  have e2 : a.eval (.tmp j)=q:=by simp [Act.eval,h2]
  simp [execOp,ho,Instr.makeFunc,e1,e2,h3]
 unfold Oper.wp
 rw [hrun,Oper.upon_value,hd]
 rw [hd] at hK
 exact hK G fv w (hr.put hdN (fun _=>.o fv (by rw [h3]; rfl)) (fun hf=>by simp at hf)) (uGO hi hj a fv ⟨p,q,h1,h2,h3⟩)
theorem uMi {Z' : Pg} {d i j : Nat} {ni nj : Nm} {fo : Operand} {args : Array Operand} {ts : Array TypeId} {f : FuncId} {xs cxs : List X} {res : X} {fv : Value} (ps : List Pass) (os : OS)
  (hP : Z'.P=Z.P) (hgv : Z'.gv=Z.gv)
  (ho : o.op = .call { callee:=.value fo,args:=args,argTypes:=ts }) (hg : uA3 ops st o=some true)
  (hf : lk Z.T st 0 fo=some (true, .v (.c (.o fv)))) (hi : st.get i=some (true, .v (.ptr ni 0))) (hj : st.get j=some (true, .v (.ptr nj 0)))
  (ha : uBV Z.T st ts.toList args.toList=some (true,xs)) (htr : cxs.map (X.tr ps)=xs++[.v (.ptr ni 0), .v (.ptr nj 0)]) (htrok : uDI ps cxs=true)
  (hps : ∀ p ∈ ps,st.box p.n=some p.cs) (hnd : uB1 st ps=true) (hosb : osB ps os st=true)
  (hs : CtrX Z' (uE3 fv f xs.length) f cxs (ps.map Pass.old) os res (ps.map Pass.ds) .box) (hc : res.clean=true) (hd : o.dst=some d) (hN : Nat.ble (d + 1) N=true)
  (hV : ∀ a v,Caps fv f i j a→V' (a.put (some d) v)) (h : K (({ st.stores ps with ow:=osPl ps os++(st.stores ps).ow } : St).put d (true,res))) : ALv (Caps fv f i j) V' Z N ops [o] K st:=by
 refine uGM (V1:=V') (fun E G a w hr hE hv K' Q' hK=>?_) (uKA h fun _ hv=>hv)
 have hfe : a.eval fo=fv:=by
  have h1 : CRep w G.S (.o fv) (a.eval fo):=uAS hr hf rfl
  cases h1; rfl
 obtain ⟨p,q,h1,h2,h3⟩:=hv
 obtain ⟨p',hp',hp'',_⟩:=hr.tm _ _ _ hi
 obtain ⟨q',hq',hq'',_⟩:=hr.tm _ _ _ hj
 rw [h1] at hp'
 rw [h2] at hq'
 simp only [Option.some.injEq] at hp' hq'
 subst hp' hq'
 refine uHA (caps:=[.ptr ni 0, .ptr nj 0]) (cvs:=[p,q]) hP (fun _ _ _ _ _ h=>by unfold GlOk at h ⊢; rw [hgv]; exact h) ho hg ha htr htrok hps hnd hosb hs hc hd hN E G a w hr hE hfe h3 ⟨hp'' rfl,hq'' rfl,trivial⟩ (fun us hu=>?_) K' Q' fun G' v w' hr'=>?_
 ·unfold uE3
  rw [← hu,List.drop_left]
  exact h3
 ·refine hK G' v w' hr' ?_
  rw [hd]
  exact hV a v ⟨p,q,h1,h2,h3⟩
end
theorem uLH {fv : Value} {f : FuncId} {x : X} {w : World} {G : Gh} {vs : List Value} (hH : uE3 fv f 1 vs) (hvs : All2 (XRep w G) [x, .v (.ptr (.o 0) 0), .v (.ptr (.o 1) 0)] vs) : uLP fv f fun j=>G.A (.o j):=by
 match vs,hvs with
 | [a,b,c],⟨_,h1,h2,_⟩ =>
  have h1 : b = .pointer (some ⟨(G.A (.o 0)).1,(G.A (.o 0)).2 + 0,none⟩):=h1
  have h2 : c = .pointer (some ⟨(G.A (.o 1)).1,(G.A (.o 1)).2 + 0,none⟩):=h2
  subst h1 h2
  exact hH
end Go.Abs
