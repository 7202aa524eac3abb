/- Our abstract program logic and contracts of this seat's functions, part 5: no statement of its own (long names of ours are shortened by a program). -/
import Derived.Test.YtnjjdbapadkomaaGreatDoorM4
import Derived.RangeFuncNested
import Derived.RangeFuncLeaves
import Derived.Shelf.Abstract
import Derived.WalkKit
import Derived.OwnWalkIn
import Derived.TacticsInMore
import Derived.LoopNIn
import Derived.LoopIn
import Derived.KernelRfl
set_option linter.unusedVariables false
set_option linter.unusedSimpArgs false
namespace Go.Proofs.YtnjjdbapadkomaaGreatDoor
open Go Go.Proofs Go.RowKit Go.Shelf
attribute [local go_sem] Oper.semAt_some
set_option maxHeartbeats 2000000 in
theorem uMH (F : Fence) (n : Nat) (hf : F.fn 152) (hro : F.round=none) (a : Option Addr) (len cap : Nat) (w : World) :
  CallsIn F n Tryz.prog 152 #[.slice a len cap] w fun e w'=>e = .returned (.func (.func 168) #[] #[.pointer (some ⟨w.heap.size,0,none⟩)])∧w'=w.alloc (.cells #[.slice a len cap] 37):=by
 refine callsIn_of_wp Tryz.func152 rfl hf ?_ hro
 simp only [Tryz.ntmps152,List.size_toArray,List.length_cons,List.length_nil,Nat.reduceAdd,Nat.reduceSub,Array.replicate_succ,Array.replicate_zero,List.push_toArray,List.append_toArray,List.nil_append,List.cons_append]
 gi_wp2
 go_ret
 exact ⟨rfl,rfl⟩
def uDe {α : Type} (el : Nat→α) (len k : Nat) : List α:=(List.range (len - k)).map fun j=>el (len - 1 - j)
theorem uGF {α : Type} (el : Nat→α) {len k : Nat} (h : k < len) : uDe el len k=uDe el len (k + 1)++[el k]:=by
 unfold uDe
 rw [show len - k=(len - (k + 1)) + 1 by omega,List.range_succ,List.map_append]
 simp only [List.map_cons,List.map_nil]
 rw [show len - 1 - (len - (k + 1))=k by omega]
theorem uKO {α : Type} (el : Nat→α) (len k : Nat) : (uDe el len k).length=len - k:=by simp [uDe]
theorem uHJ {α : Type} (el : Nat→α) (len : Nat) : uDe el len len=[]:=by simp [uDe]
def KeepB (n₀ Bo : Nat) (W W' : World) : Prop:=∀ b,b < n₀→b≠Bo→W'.heap[b]? = W.heap[b]?
theorem KeepB.refl (n₀ Bo : Nat) (W : World) : KeepB n₀ Bo W W:=fun _ _ _=>rfl
theorem KeepB.trans {n₀ Bo : Nat} {A B C : World} (h : KeepB n₀ Bo A B) (k : KeepB n₀ Bo B C) : KeepB n₀ Bo A C:=fun b h1 h2=>(k b h1 h2).trans (h b h1 h2)
theorem KeepB.cell {n₀ Bo : Nat} {A B : World} (h : KeepB n₀ Bo A B) {b : Nat} (o : Nat) (h1 : b < n₀) (h2 : b≠Bo) : B.cell? ⟨b,o,none⟩=A.cell? ⟨b,o,none⟩:=by
 unfold World.cell?; dsimp only; rw [h b h1 h2]
theorem KeepB.alloc {n₀ Bo : Nat} (W : World) (ob : Obj) (h : n₀≤W.heap.size) : KeepB n₀ Bo W (W.alloc ob):=fun b h1 _=>Below.heap_alloc W ob b (by omega)
theorem KeepB.putObj {n₀ Bo : Nat} (W : World) (l : Nat) (o' : Obj) (h : n₀≤l) : KeepB n₀ Bo W (W.putObj l o'):=fun b h1 _=>World.putObj_heap_other (by omega)
set_option maxRecDepth 100000 in
set_option maxHeartbeats 2000000 in
theorem uLH (F : Fence) (n : Nat) (hf : F.fn 168) (hro : F.round=none) (hn : 1≤n) (l Bs n₀ Bo b off len cap : Nat) (hlen : len≤3000000) (hb : b < n₀) (hbo : b≠Bo) (hBo : Bs≠Bo) {α : Type} (ix : α→Nat) (v0 v1 v2 v3 : α→Value) (el : Nat→α) (hix : ∀ k,ix (el k)=k)
  (J Jx : List α→World→Prop)
  (hY : ∀ pre x W,J pre W→pre.length < len→YieldAt F (n - 1) Tryz.prog l #[.int .i64 (ix x : Int), .agg #[v0 x,v1 x,v2 x,v3 x]] W fun e W' =>
   (e = .returned (.bool true)∧J (pre++[x]) W'∧KeepB n₀ Bo W W')∨(e = .returned (.bool false)∧Jx (pre++[x]) W'))
  (W : World) (hBs : W.cell? ⟨Bs,0,none⟩=some (.slice (some ⟨b,off,none⟩) len cap))
  (hc : ∀ j,j < len→W.cell? ⟨b,off + j * 4,none⟩=some (v0 (el j))∧W.cell? ⟨b,off + j * 4 + 1,none⟩=some (v1 (el j))∧W.cell? ⟨b,off + j * 4 + 2,none⟩=some (v2 (el j))∧W.cell? ⟨b,off + j * 4 + 3,none⟩=some (v3 (el j)))
  (hBn : Bs < n₀) (h0 : J [] W) :
  CallsIn F n Tryz.prog 168 #[.func (.yield l) #[] #[], .pointer (some ⟨Bs,0,none⟩)] W fun e W'=>(∃ v,e = .returned v) ∧
   ((∃ ys,ys=uDe el len 0∧J ys W')∨(∃ pre,True∧Jx pre W')):=by
 refine callsIn_of_wp Tryz.func168 rfl hf ?_ hro
 simp only [Tryz.ntmps168,List.size_toArray,List.length_cons,List.length_nil,Nat.reduceAdd,Nat.reduceSub,Array.replicate_succ,Array.replicate_zero,List.push_toArray,List.append_toArray,List.nil_append,List.cons_append]
 gi_wp2
 gi_loopw [3] (fun i wr=>∃ k : Nat,k≤len∧i = .int .i64 ((k : Int) - 1)∧J (uDe el len k) wr∧KeepB n₀ Bo W wr)
  (fun i _=>(intOf i + 1).toNat)
 case atStart=>exact ⟨len,Nat.le_refl _,by simp,by rw [uHJ]; exact h0,KeepB.refl _ _ _⟩
 case round =>
  obtain ⟨k,hk,rfl,hJs,hnx⟩:=hrel
  cases k with
  | zero =>
   gi_wp2
   go_end0
   exact ⟨⟨_,rfl⟩, .inl ⟨_,rfl,hJs⟩⟩
  | succ k =>
   have hlt : k < len:=by omega
   obtain ⟨c0,c1,c2,c3⟩:=hc k hlt
   replace c0:=(hnx.cell (off + k * 4) hb hbo).trans c0
   replace c1:=(hnx.cell (off + k * 4 + 1) hb hbo).trans c1
   replace c2:=(hnx.cell (off + k * 4 + 2) hb hbo).trans c2
   replace c3:=(hnx.cell (off + k * 4 + 3) hb hbo).trans c3
   have cB:=(hnx.cell 0 hBn hBo).trans hBs
   obtain ⟨fn,tmps,assign,body,hy,hR⟩:=hY _ (el k) wr hJs (by rw [uKO]; omega)
   rw [hix] at hy
   have ek : ((k + 1 : Nat) : Int) - 1=(k : Int):=by omega
   rw [ek]
   gi_wp2
   refine hR.mono ?_
   rintro e W3 (⟨rfl,hJ3,hk3⟩ | ⟨rfl,hJx3⟩)
   ·gi_wp2
    go_roundw
    case rel=>exact ⟨k,by omega,by simp,by rw [uGF el hlt]; exact hJ3,hnx.trans hk3⟩
    case measure=>simp [intOf]
   ·gi_wp2
    refine bodyPost_ret (results_none rfl _ _ _) rfl ?_;exact ⟨⟨_,rfl⟩, .inr ⟨_,trivial,hJx3⟩⟩
theorem uJE (F : Fence) (n : Nat) (hf : F.fn 168) (hro : F.round=none) (hn : 1≤n) (Bs Bo b off len cap : Nat) (hlen : len≤3000000) {α : Type} (ix : α→Nat) (v0 v1 v2 v3 : α→Value) (el : Nat→α) (hix : ∀ k,ix (el k)=k) (w : World)
  (hb : b < w.heap.size) (hbo : b≠Bo) (hBo : Bs≠Bo) (hBn : Bs < w.heap.size) (hBs : w.cell? ⟨Bs,0,none⟩=some (.slice (some ⟨b,off,none⟩) len cap))
  (hc : ∀ j,j < len→w.cell? ⟨b,off + j * 4,none⟩=some (v0 (el j))∧w.cell? ⟨b,off + j * 4 + 1,none⟩=some (v1 (el j))∧w.cell? ⟨b,off + j * 4 + 2,none⟩=some (v2 (el j))∧w.cell? ⟨b,off + j * 4 + 3,none⟩=some (v3 (el j))) :
  SeqStopsK F n Tryz.prog 168 #[.pointer (some ⟨Bs,0,none⟩)] (fun x=>#[.int .i64 (ix x : Int), .agg #[v0 x,v1 x,v2 x,v3 x]]) (KeepB w.heap.size Bo) (fun ys=>ys=uDe el len 0) (fun _=>True) len w:=fun l J Jx W hW _ _ hY h0=>by
 have kc : ∀ {b' : Nat} (o : Nat),b' < w.heap.size→W.cell? ⟨b',o,none⟩=w.cell? ⟨b',o,none⟩:=fun o h=>hW.cell (p:=⟨_,o,none⟩) h
 exact uLH F n hf hro hn l Bs w.heap.size Bo b off len cap hlen hb hbo hBo ix v0 v1 v2 v3 el hix J Jx hY W ((kc 0 hBn).trans hBs) (fun j hj=>by
  obtain ⟨c0,c1,c2,c3⟩:=hc j hj
  exact ⟨(kc _ hb).trans c0,(kc _ hb).trans c1,(kc _ hb).trans c2,(kc _ hb).trans c3⟩) hBn h0
abbrev tInt (n : Int) : Value:=.int .i64 n
abbrev tStr (l : List UInt8) : Value:=.string ⟨l.toArray⟩
abbrev Elm (w : World) (S : Nat→Nat→Prop):={ x : Nat × T × Option Addr × Nat × Nat // Abs.CRep w S (.sl 4 (T.rows x.2.1.kids)) (.slice x.2.2.1 x.2.2.2.1 x.2.2.2.2)∧x.2.1.name.length≤9223372036854775807 }
def uBN (t : T) {w : World} {S : Nat→Nat→Prop} (l : List (Elm w S)) : T:=l.foldl (fun out x=>uHz x.1.2.1 out) t
theorem uDt (t : T) {w : World} {S : Nat→Nat→Prop} (l : List (Elm w S)) (x : Elm w S) : uBN t (l++[x])=uHz x.1.2.1 (uBN t l):=by simp [uBN]
theorem uKK {w : World} {S : Nat→Nat→Prop} {t : T} {a b c d : Value} (h0 : Abs.CRep w S (.i .i64 t.kind) a) (h1 : Abs.CRep w S (.s t.name) b) (h2 : Abs.CRep w S (.i .i64 t.sort) c) (h3 : Abs.CRep w S (.sl 4 (T.rows t.kids)) d) :
  a=tInt t.kind∧b=tStr t.name∧c=tInt t.sort∧(∃ p l k,d = .slice p l k)∧t.name.length≤9223372036854775807:=by
 cases h0; cases h2
 cases h1 with
 | s _ hm =>
 refine ⟨rfl,rfl,rfl,?_,hm⟩
 generalize T.rows t.kids=es at h3
 cases h3 <;> exact ⟨_,_,_,rfl⟩
theorem uFH {W : World} {B : Nat} {t : TypeId} {a b c d : Value} (h : W.heap[B]? = some (.cells #[a,b,c,d] t (0,0))) (a' b' c' d' : Value) :
  ((((W.setCell ⟨B,0,none⟩ a').setCell ⟨B,1,none⟩ b').setCell ⟨B,2,none⟩ c').setCell ⟨B,3,none⟩ d').heap[B]? = some (.cells #[a',b',c',d'] t (0,0)):=by
 have h1:=heap_setCell_same W B 0 _ t a' h
 have h2:=heap_setCell_same _ B 1 _ t b' h1
 have h3:=heap_setCell_same _ B 2 _ t c' h2
 exact heap_setCell_same _ B 3 _ t d' h3
theorem heap_cells4' (W : World) {B k : Nat} (hk : k≠B) (a' b' c' d' : Value) :
  ((((W.setCell ⟨B,0,none⟩ a').setCell ⟨B,1,none⟩ b').setCell ⟨B,2,none⟩ c').setCell ⟨B,3,none⟩ d').heap[k]? = W.heap[k]? := by
 rw [Below.heap_setCell _ _ _ _ hk,Below.heap_setCell _ _ _ _ hk,Below.heap_setCell _ _ _ _ hk,Below.heap_setCell _ _ _ _ hk]
theorem uDu {W W' : World} {b : Nat} (h : W'.heap[b]? = W.heap[b]?) (o : Nat) : W'.cell? ⟨b,o,none⟩=W.cell? ⟨b,o,none⟩:=by
 unfold World.cell?; dsimp only; rw [h]
def TupI (w : World) (S : Nat→Nat→Prop) (z : Array Value) (last : T) (pre : List (Elm w S)) (W : World) : Prop :=
 (∃ (S' : Nat→Nat→Prop) (p : Option Addr) (l k : Nat),W.heap[w.heap.size + 1]? = some (.cells #[tInt (uBN last pre).kind,tStr (uBN last pre).name,tInt (uBN last pre).sort, .slice p l k] 39 (0,0))∧W.heap[w.heap.size]? = some (.cells z 39 (0,0)) ∧
  Abs.CRep W S' (.sl 4 (T.rows (uBN last pre).kids)) (.slice p l k)∧(uBN last pre).name.length≤9223372036854775807∧(∀ b o,S b o→S' b o) ∧ ∀ b o,S' b o→S b o∨(w.heap.size + 2≤b ∧ ∃ v,W.cell? ⟨b,o,none⟩=some v))∧Below w.heap.size w W∧w.heap.size + 3≤W.heap.size
theorem uIy (w : World) (S : Nat→Nat→Prop) (hS : ∀ b o,S b o→b < w.heap.size) (z : Array Value) (last : T) (B : Nat) (hB : w.heap.size≤B) : OwnFrom B (TupI w S z last):=by
 rintro pre X Y row ⟨⟨S',p,l,k,h1,h2,h3,hn,h4,h5⟩,h6,h7⟩ hg hr
 have hkeep : ∀ (k : Nat) (o : Obj),X.heap[k]? = some o→o.isCells=true→Y.heap[k]? = some o:=by
  intro k o hk ho
  refine (hg.block k (Array.getElem?_eq_some_iff.1 hk).1 fun e=>?_).trans hk
  obtain ⟨_,o',h7,h8⟩:=hr k e.symm
  rw [hk] at h7; cases h7; rw [ho] at h8; cases h8
 have hcell : ∀ (b o : Nat) (v : Value),X.cell? ⟨b,o,none⟩=some v→Y.cell? ⟨b,o,none⟩=some v:=by
  intro b o v hv
  obtain ⟨x,hx,hxc⟩:=cells_of_cell hv
  unfold World.cell? at hv ⊢
  dsimp only at hv hx ⊢
  rw [hkeep b x hx hxc]; rw [hx] at hv; exact hv
 have hbl : Below w.heap.size w Y:=h6.grown hg h6.size (fun k e=>Nat.le_trans hB (hr k e).1)
 refine ⟨⟨S',p,l,k,hkeep _ _ h1 rfl,hkeep _ _ h2 rfl,Abs.CRep.mono (fun _ _ h=>h) (fun b o hs=>?_) h3,hn,h4,fun b o hs=>?_⟩,hbl,Nat.le_trans h7 hg.size⟩
 ·rcases h5 b o hs with q | ⟨_,v,q⟩
  ·rw [hbl.cell (p:=⟨b,o,none⟩) (hS b o q),h6.cell (p:=⟨b,o,none⟩) (hS b o q)]
  ·rw [q,hcell b o v q]
 ·rcases h5 b o hs with q | ⟨q1,v,q⟩
  ·exact .inl q
  ·exact .inr ⟨q1,v,hcell b o v q⟩
theorem tupT_cons' (t : T) (ts : List T) (h : ts≠[]) : tupT (t :: ts)=uHz t (tupT ts):=by
 cases ts with
 | nil=>exact absurd rfl h
 | cons u l=>rfl
theorem uFy {w : World} {S : Nat→Nat→Prop} (el : Nat→Elm w S) (ts : List T) (m : Nat) (hm : ts.length=m + 1) (he : ∀ k,k < m→(el k).1.2.1=ts.getD k default) : ∀ d j,j + d=m→uBN (ts.getD m default) (uDe el m j)=tupT (ts.drop j)
 | 0,j,h=>by
  have : j=m:=by omega
  subst this
  rw [uHJ,List.drop_eq_getElem_cons (by omega),List.drop_of_length_le (by omega)]
  show ts.getD j default=ts[j]
  rw [List.getD_eq_getElem?_getD,List.getElem?_eq_getElem (by omega)]; rfl
 | d + 1,j,h=>by
  rw [uGF el (by omega),uDt,uFy el ts m hm he d (j + 1) (by omega),he j (by omega),List.drop_eq_getElem_cons (i := j) (by omega),tupT_cons' _ _ (by intro q; have := congrArg List.length q; simp at this; omega),List.getD_eq_getElem?_getD,List.getElem?_eq_getElem (by omega)]
  rfl
abbrev elV0 {w : World} {S : Nat→Nat→Prop} (x : Elm w S) : Value:=tInt x.1.2.1.kind
abbrev elV1 {w : World} {S : Nat→Nat→Prop} (x : Elm w S) : Value:=tStr x.1.2.1.name
abbrev elV2 {w : World} {S : Nat→Nat→Prop} (x : Elm w S) : Value:=tInt x.1.2.1.sort
abbrev elV3 {w : World} {S : Nat→Nat→Prop} (x : Elm w S) : Value:=.slice x.1.2.2.1 x.1.2.2.2.1 x.1.2.2.2.2
set_option maxRecDepth 100000 in
set_option maxHeartbeats 4000000 in
theorem uNq (F : Fence) (n : Nat) (h1f : F.fn 115) (h2f : F.fn 152) (h3f : F.fn 168) (hro : F.round=none) (hn : 3≤n)
  (w : World) (S : Nat→Nat→Prop) (hS : ∀ b o,S b o→b < w.heap.size) (ts : List T) (hts : 0 < ts.length) (hmax : ts.length≤3000000) (v : Value) (hv : Abs.CRep w S (.sl 4 (T.rows ts)) v) :
  CallsIn F n Tryz.prog 115 #[v] w fun e W'=>∃ (vs : List Value) (S' : Nat→Nat→Prop),e = .returned (.agg vs.toArray)∧Abs.All2 (Abs.CRep W' S') (tupT ts).cells vs∧Below w.heap.size w W'∧(∀ b o,S b o→S' b o) ∧ ∀ b o,S' b o→S b o∨(w.heap.size≤b∧b < W'.heap.size):=by
 have h1 : 1≤n:=by omega
 have hrl:=T.rows_len ts
 generalize hes : T.rows ts=es at hv hrl
 cases hv with
 | emp=>simp at hrl; omega
 | sl _ _ b off len cap vals hl hc hm hsz hcell hrep =>
 have hlen : len=ts.length:=by omega
 subst hlen
 have hrow : ∀ i,i < ts.length→es[i]? = some (ts.getD i default).cells:=fun i hi=>by rw [← hes]; exact T.rows_at hi
 have hb : b < w.heap.size:=hS _ _ (hcell 0 0 hts (by omega)).1
 have hel : ∀ i,i < ts.length → ∃ p l k,Abs.CRep w S (.sl 4 (T.rows (ts.getD i default).kids)) (.slice p l k)∧(ts.getD i default).name.length≤9223372036854775807 ∧
   w.cell? ⟨b,off + i * 4,none⟩=some (tInt (ts.getD i default).kind)∧w.cell? ⟨b,off + i * 4 + 1,none⟩=some (tStr (ts.getD i default).name)∧w.cell? ⟨b,off + i * 4 + 2,none⟩=some (tInt (ts.getD i default).sort)∧w.cell? ⟨b,off + i * 4 + 3,none⟩=some (.slice p l k):=by
  intro i hi
  have hr:=hrow i hi
  have r0:=hrep _ _ 0 _ hr rfl
  have r1:=hrep _ _ 1 _ hr rfl
  have r2:=hrep _ _ 2 _ hr rfl
  have r3:=hrep _ _ 3 _ hr rfl
  obtain ⟨q0,q1,q2,⟨p,l,k,q3⟩,q4⟩:=uKK r0 r1 r2 r3
  have c0:=(hcell i 0 hi (by omega)).2
  have c1:=(hcell i 1 hi (by omega)).2
  have c2:=(hcell i 2 hi (by omega)).2
  have c3:=(hcell i 3 hi (by omega)).2
  rw [q0] at c0; rw [q1] at c1; rw [q2] at c2; rw [q3] at c3 r3
  exact ⟨p,l,k,r3,q4,c0,c1,c2,c3⟩
 obtain ⟨m,hm1⟩ : ∃ m,ts.length=m + 1:=⟨ts.length - 1,by omega⟩
 have hex : ∀ i,∃ x : Elm w S,x.1.1=i∧(i < m→x.1.2.1=ts.getD i default∧w.cell? ⟨b,off + i * 4,none⟩=some (elV0 x)∧w.cell? ⟨b,off + i * 4 + 1,none⟩=some (elV1 x)∧w.cell? ⟨b,off + i * 4 + 2,none⟩=some (elV2 x)∧w.cell? ⟨b,off + i * 4 + 3,none⟩=some (elV3 x)):=by
  intro i
  by_cases hi : i < m
  ·obtain ⟨p,l,k,r,hnl,q0,q1,q2,q3⟩:=hel i (by omega)
   exact ⟨⟨(i,ts.getD i default,p,l,k),r,hnl⟩,rfl,fun _=>⟨rfl,q0,q1,q2,q3⟩⟩
  ·obtain ⟨p,l,k,r,hnl,q0,q1,q2,q3⟩:=hel m (by omega)
   exact ⟨⟨(i,ts.getD m default,p,l,k),r,hnl⟩,rfl,fun q=>absurd q hi⟩
 obtain ⟨el,hel1⟩ : ∃ el : Nat→Elm w S,∀ i,(el i).1.1=i∧(i < m→(el i).1.2.1=ts.getD i default∧w.cell? ⟨b,off + i * 4,none⟩=some (elV0 (el i))∧w.cell? ⟨b,off + i * 4 + 1,none⟩=some (elV1 (el i))∧w.cell? ⟨b,off + i * 4 + 2,none⟩=some (elV2 (el i))∧w.cell? ⟨b,off + i * 4 + 3,none⟩=some (elV3 (el i))) :=
  ⟨fun i=>Classical.choose (hex i),fun i=>Classical.choose_spec (hex i)⟩
 obtain ⟨lp,ll,lk,lr,ln,c0,c1,c2,c3⟩:=hel m (by omega)
 have hfold:=uFy el ts m hm1 (fun k hk=>((hel1 k).2 hk).1) m 0 (by omega)
 clear hel hex hcell hrep hsz hrow
 rw [List.drop_zero] at hfold
 generalize hlast : ts.getD m default=last at *
 have e1 : ((m + 1 : Nat) : Int) - 1=(m : Int):=by omega
 rw [hm1]
 rw [hm1] at hc hm
 refine callsIn_of_wp_marks Tryz.func115 rfl h1f ?_ hro
 simp only [Tryz.ntmps115,List.size_toArray,List.length_cons,List.length_nil,Nat.reduceAdd,Nat.reduceSub,Array.replicate_succ,Array.replicate_zero,List.push_toArray,List.append_toArray,List.nil_append,List.cons_append]
 gi_wp2_with (gi_at_call 152; refine (uMH F (n - 1) h2f hro _ _ _ _).mono ?_; rintro e w' ⟨rfl,rfl⟩)
 have hB0 : Below w.heap.size w (((w.alloc (.cells #[tInt 0, .string ⟨#[]⟩,tInt 0, .slice none 0 0] 39)).alloc (.cells #[tInt last.kind,tStr last.name,tInt last.sort, .slice lp ll lk] 39)).alloc (.cells #[.slice (some ⟨b,off,none⟩) m cap] 37)):=(((Below.refl _ w).alloc (Nat.le_refl _) _).alloc (by simp) _).alloc (by simp; omega) _
 obtain ⟨W0,hW0⟩ : ∃ W0,(((w.alloc (.cells #[tInt 0, .string ⟨#[]⟩,tInt 0, .slice none 0 0] 39)).alloc (.cells #[tInt last.kind,tStr last.name,tInt last.sort, .slice lp ll lk] 39)).alloc (.cells #[.slice (some ⟨b,off,none⟩) m cap] 37))=W0:=⟨_,rfl⟩
 have hsz : W0.heap.size=w.heap.size + 3:=by rw [← hW0]; simp
 have hR : W0.heap[w.heap.size]? = some (.cells #[tInt 0, .string ⟨#[]⟩,tInt 0, .slice none 0 0] 39 (0,0)):=by
  rw [← hW0]; exact ((Below.heap_alloc _ _ _ (by simp; omega)).trans (Below.heap_alloc _ _ _ (by simp))).trans (World.alloc_heap_new w _)
 have hO : W0.heap[w.heap.size + 1]? = some (.cells #[tInt last.kind,tStr last.name,tInt last.sort, .slice lp ll lk] 39 (0,0)):=by
  rw [← hW0]; refine (Below.heap_alloc _ _ _ (by simp)).trans ?_
  have := World.alloc_heap_new (w.alloc (.cells #[tInt 0, .string ⟨#[]⟩,tInt 0, .slice none 0 0] 39)) (.cells #[tInt last.kind,tStr last.name,tInt last.sort, .slice lp ll lk] 39); rwa [World.size_alloc] at this
 have hN : W0.heap[w.heap.size + 1 + 1]? = some (.cells #[.slice (some ⟨b,off,none⟩) m cap] 37 (0,0)):=by
  rw [← hW0]; have := World.alloc_heap_new ((w.alloc (.cells #[tInt 0, .string ⟨#[]⟩,tInt 0, .slice none 0 0] 39)).alloc (.cells #[tInt last.kind,tStr last.name,tInt last.sort, .slice lp ll lk] 39)) (.cells #[.slice (some ⟨b,off,none⟩) m cap] 37); rwa [World.size_alloc,World.size_alloc] at this
 rw [hW0] at hB0
 have hW0' : (((w.alloc (.cells #[.int .i64 0, .string ⟨#[]⟩, .int .i64 0, .slice none 0 0] 39)).alloc (.cells #[.int .i64 last.kind, .string ⟨last.name.toArray⟩, .int .i64 last.sort, .slice lp ll lk] 39)).alloc (.cells #[.slice (some ⟨b,off,none⟩) m cap] 37))=W0:=hW0
 simp only [hW0']
 clear hW0 hW0'
 refine wpIn_rangeFunc_ownH hro h1 (gf:=168) (lb:=#[.pointer (some ⟨w.heap.size + 1 + 1,0,none⟩)]) rfl h3f (enters_of Tryz.func168 (by kernel_rfl) rfl)
  (uJE F (n - 1) h3f hro (by omega) (w.heap.size + 1 + 1) (w.heap.size + 1) b off m cap (by omega) (fun x : Elm w S=>x.1.1) elV0 elV1 elV2 elV3 el (fun k=>(hel1 k).1) W0 (by omega) (by omega) (by omega) (by omega)
   (by unfold World.cell?; rw [hN]; rfl)
   (fun j hj=>by
    obtain ⟨_,q⟩:=hel1 j
    obtain ⟨_,q0,q1,q2,q3⟩:=q hj
    exact ⟨(hB0.cell (p:=⟨b,_,none⟩) hb).trans q0,(hB0.cell (p:=⟨b,_,none⟩) hb).trans q1,(hB0.cell (p:=⟨b,_,none⟩) hb).trans q2,(hB0.cell (p:=⟨b,_,none⟩) hb).trans q3⟩))
  KeepB.trans (fun W l o o' hl _ _ _=>KeepB.putObj W l o' hl) (Below.refl _ _) (fun _=>rfl)
  (TupI w S #[tInt 0, .string ⟨#[]⟩,tInt 0, .slice none 0 0] last) (fun _ _ _=>False) (uIy w S hS _ last _ (by omega)) (fun _ _ _ _ _ hs _ _=>hs)
  ?start
  (fun x a' W=>∃ Bx,w.heap.size + 2 < Bx∧W.heap[Bx]? = some (.cells #[elV0 x,elV1 x,elV2 x,elV3 x] 39 (0,0))∧a' = { tmps:=#[Value.slice (some { block:=b,off:=off }) (m + 1) cap,undef,Value.pointer (some { block:=w.heap.size,off:=0 }),Value.pointer (some { block:=w.heap.size + 1,off:=0 }),undef,Value.pointer (some { block:=Bx,off:=0 }),Value.slice (some { block:=b,off:=off }) (m + 1) cap,Value.slice (some { block:=b,off:=off }) (m + 1) cap,Value.int IntKind.i64 ((m : Int) + 1),Value.int IntKind.i64 ↑m,Value.pointer (some { block:=b,off:=off + m * 4 }),Value.agg #[tInt last.kind,tStr last.name,tInt last.sort,Value.slice lp ll lk],Value.slice (some { block:=b,off:=off }) (m + 1) cap,Value.slice (some { block:=b,off:=off }) (m + 1) cap,Value.int IntKind.i64 ((m : Int) + 1),Value.int IntKind.i64 ↑m,Value.slice (some { block:=b,off:=off }) m cap,Value.func (Fn.func 168) #[] #[Value.pointer (some { block:=w.heap.size + 1 + 1,off:=0 })], .int .i64 x.1.1, .agg #[elV0 x,elV1 x,elV2 x,elV3 x],undef,undef,undef,undef,undef],defers:=[] })
  ?axOwn ?assign ?body ?done ?stop
 case start=>exact ⟨⟨S,lp,ll,lk,hO,hR,Abs.CRep.mono (fun _ _ h=>h) (fun b o hs=>hB0.cell (p:=⟨b,o,none⟩) (hS b o hs)) lr,ln,fun _ _ h=>h,fun _ _ h=>.inl h⟩,hB0,by omega⟩
 case axOwn =>
  rintro x a' _ X Y row ⟨Bx,q1,q2,q3⟩ hg hr
  refine ⟨Bx,q1,(hg.block Bx (Array.getElem?_eq_some_iff.1 q2).1 fun e=>?_).trans q2,q3⟩
  obtain ⟨_,o',h7,h8⟩:=hr Bx e.symm
  rw [q2] at h7; cases h7; cases h8
 case assign =>
  rintro l pre x W K hI hK
  have hsW:=hI.2.2
  gi_wp2
  exact hK _ _ ((KeepsOthers.alloc _ _).from _) (KeepB.alloc W _ (by omega)) ((uIy w S hS _ last w.heap.size (Nat.le_refl _)).alloc _ hI) ⟨W.heap.size,by omega,World.alloc_heap_new W _,rfl⟩
 case body =>
  rintro l pre x a' W hl hrr ⟨⟨S',p,l',k,h1,h2,h3,hn',h4,h5⟩,h6,h7⟩ ⟨Bx,hBx,bX,rfl⟩ hlt
  have cO0 : W.cell? ⟨w.heap.size + 1,0,none⟩=some (tInt (uBN last pre).kind):=by unfold World.cell?; rw [h1]; rfl
  have cO1 : W.cell? ⟨w.heap.size + 1,1,none⟩=some (tStr (uBN last pre).name):=by unfold World.cell?; rw [h1]; rfl
  have cO2 : W.cell? ⟨w.heap.size + 1,2,none⟩=some (tInt (uBN last pre).sort):=by unfold World.cell?; rw [h1]; rfl
  have cO3 : W.cell? ⟨w.heap.size + 1,3,none⟩=some (.slice p l' k):=by unfold World.cell?; rw [h1]; rfl
  have cX0 : W.cell? ⟨Bx,0,none⟩=some (elV0 x):=by unfold World.cell?; rw [bX]; rfl
  have cX1 : W.cell? ⟨Bx,1,none⟩=some (elV1 x):=by unfold World.cell?; rw [bX]; rfl
  have cX2 : W.cell? ⟨Bx,2,none⟩=some (elV2 x):=by unfold World.cell?; rw [bX]; rfl
  have cX3 : W.cell? ⟨Bx,3,none⟩=some (elV3 x):=by unfold World.cell?; rw [bX]; rfl
  have f0 : W.frozen? ⟨w.heap.size + 1,0,none⟩=false:=by unfold World.frozen?; rw [h1]; rfl
  have f1 : W.frozen? ⟨w.heap.size + 1,1,none⟩=false:=by unfold World.frozen?; rw [h1]; rfl
  have f2 : W.frozen? ⟨w.heap.size + 1,2,none⟩=false:=by unfold World.frozen?; rw [h1]; rfl
  have f3 : W.frozen? ⟨w.heap.size + 1,3,none⟩=false:=by unfold World.frozen?; rw [h1]; rfl
  have hltW : w.heap.size + 1 < W.heap.size:=(Array.getElem?_eq_some_iff.1 h1).1
  have hA : ∀ (ob : Obj),(W.alloc ob).heap[w.heap.size + 1]? = some (.cells #[tInt (uBN last pre).kind,tStr (uBN last pre).name,tInt (uBN last pre).sort, .slice p l' k] 39 (0,0)):=fun ob=>(Below.heap_alloc W ob _ hltW).trans h1
  have gO0 : ∀ ob : Obj,(W.alloc ob).cell? ⟨w.heap.size + 1,0,none⟩=some (tInt (uBN last pre).kind):=fun ob=>by unfold World.cell?; rw [hA]; rfl
  have gO1 : ∀ ob : Obj,(W.alloc ob).cell? ⟨w.heap.size + 1,1,none⟩=some (tStr (uBN last pre).name):=fun ob=>by unfold World.cell?; rw [hA]; rfl
  have gO2 : ∀ ob : Obj,(W.alloc ob).cell? ⟨w.heap.size + 1,2,none⟩=some (tInt (uBN last pre).sort):=fun ob=>by unfold World.cell?; rw [hA]; rfl
  have gO3 : ∀ ob : Obj,(W.alloc ob).cell? ⟨w.heap.size + 1,3,none⟩=some (.slice p l' k):=fun ob=>by unfold World.cell?; rw [hA]; rfl
  have e0 : ∀ ob : Obj,(W.alloc ob).frozen? ⟨w.heap.size + 1,0,none⟩=false:=fun ob=>by unfold World.frozen?; rw [hA]; rfl
  have e1 : ∀ ob : Obj,(W.alloc ob).frozen? ⟨w.heap.size + 1,1,none⟩=false:=fun ob=>by unfold World.frozen?; rw [hA]; rfl
  have e2 : ∀ ob : Obj,(W.alloc ob).frozen? ⟨w.heap.size + 1,2,none⟩=false:=fun ob=>by unfold World.frozen?; rw [hA]; rfl
  have e3 : ∀ ob : Obj,(W.alloc ob).frozen? ⟨w.heap.size + 1,3,none⟩=false:=fun ob=>by unfold World.frozen?; rw [hA]; rfl
  clear hA
  gi_wp2
  clear gO0 gO1 gO2 gO3 e0 e1 e2 e3 cO0 cO1 cO2 cO3 cX0 cX1 cX2 cX3 f0 f1 f2 f3
  obtain ⟨W1,hW1⟩ : ∃ W1,((((W.setCell ⟨w.heap.size + 1,0,none⟩ (.int .i64 3)).setCell ⟨w.heap.size + 1,1,none⟩ (.string ⟨#[112,97,105,114]⟩)).setCell ⟨w.heap.size + 1,2,none⟩ (.int .i64 0)).setCell ⟨w.heap.size + 1,3,none⟩ (.slice (some ⟨W.heap.size,0,none⟩) 2 2))=W1:=⟨_,rfl⟩
  have hs1 : W1.heap.size=W.heap.size:=by rw [← hW1]; simp [World.setCell]
  have k1 : W1.heap[w.heap.size + 1]? = some (.cells #[tInt 3, .string ⟨#[112,97,105,114]⟩,tInt 0, .slice (some ⟨W.heap.size,0,none⟩) 2 2] 39 (0,0)):=by rw [← hW1]; exact uFH h1 _ _ _ _
  have k2 : ∀ j,j≠w.heap.size + 1→W1.heap[j]? = W.heap[j]? := fun j hj=>by rw [← hW1]; exact heap_cells4' W hj _ _ _ _
  have ko : KeepsOthers W W1:=by rw [← hW1]; exact (((KeepsOthers.setCell _ _ _).trans (KeepsOthers.setCell _ _ _)).trans (KeepsOthers.setCell _ _ _)).trans (KeepsOthers.setCell _ _ _)
  have kb : Below w.heap.size W W1:=by rw [← hW1]; exact ((((Below.refl _ W).setCell (p:=⟨w.heap.size + 1,0,none⟩) (by simp) _).setCell (p:=⟨w.heap.size + 1,1,none⟩) (by simp) _).setCell (p:=⟨w.heap.size + 1,2,none⟩) (by simp) _).setCell (p:=⟨w.heap.size + 1,3,none⟩) (by simp) _
  rw [hW1]
  clear hW1
  obtain ⟨ob,hob⟩ : ∃ ob : Obj,Obj.cells #[elV0 x,elV1 x,elV2 x,elV3 x,tInt (uBN last pre).kind,tStr (uBN last pre).name,tInt (uBN last pre).sort,Value.slice p l' k] 39 (0,0)=ob:=⟨_,rfl⟩
  have knew:=World.alloc_heap_new W1 ob
  rw [hs1] at knew
  have kold : ∀ j,j < W.heap.size→j≠w.heap.size + 1→(W1.alloc ob).heap[j]? = W.heap[j]? := fun j hj hne=>(Below.heap_alloc W1 ob j (by omega)).trans (k2 j hne)
  have hb1 : Below w.heap.size W (W1.alloc ob):=kb.alloc (by omega) ob
  rw [hob]
  refine ⟨(ko.trans (KeepsOthers.alloc W1 ob)).from _,fun j hj hne=>kold j (by omega) hne,⟨fun b o=>S' b o∨(b=W.heap.size∧o < 8),some ⟨W.heap.size,0,none⟩,2,2,?_,?_,?_,?_,fun b o hs=>.inl (h4 b o hs),?_⟩,h6.trans hb1,by rw [World.size_alloc]; omega⟩
  ·rw [uDt]
   exact (Below.heap_alloc W1 ob _ (by omega)).trans k1
  ·exact (kold _ (by omega) (by omega)).trans h2
  ·have hS' : ∀ b o,S' b o→(W1.alloc ob).cell? ⟨b,o,none⟩=W.cell? ⟨b,o,none⟩:=fun b o hs=>by
    rcases h5 b o hs with q | ⟨q1,v,q⟩
    ·exact hb1.cell (p:=⟨b,o,none⟩) (hS b o q)
    ·exact uDu (kold b (World.block_lt_of_cell? (a:=⟨b,o,none⟩) W q) (by omega)) o
   have hSS : ∀ b o,S b o→(W1.alloc ob).cell? ⟨b,o,none⟩=w.cell? ⟨b,o,none⟩:=fun b o hs=>(h6.trans hb1).cell (p:=⟨b,o,none⟩) (hS b o hs)
   have r1:=Abs.CRep.mono (S':=fun b o=>S' b o∨(b=W.heap.size∧o < 8)) (fun b o hs=>.inl (h4 b o hs)) hSS x.2.1
   have r2:=Abs.CRep.mono (S':=fun b o=>S' b o∨(b=W.heap.size∧o < 8)) (fun b o hs=>.inl hs) hS' h3
   rw [uDt]
   have hc8 : ∀ o,(W1.alloc ob).cell? ⟨W.heap.size,o,none⟩ = #[elV0 x,elV1 x,elV2 x,elV3 x,tInt (uBN last pre).kind,tStr (uBN last pre).name,tInt (uBN last pre).sort,Value.slice p l' k][o]? := fun o=>by
    unfold World.cell?; dsimp only; rw [knew,← hob]; rfl
   refine Abs.CRep.mk_sl (by rw [T.rows_len]; rfl) (Nat.le_refl _) (by omega) fun i row hi=>?_
   have hrr : T.rows (uHz x.1.2.1 (uBN last pre)).kids=[x.1.2.1.cells,(uBN last pre).cells]:=by rw [T.rows_eq]; rfl
   rw [hrr] at hi
   match i,hi with
   | 0,hi =>
    simp only [List.getElem?_cons_zero,Option.some.injEq] at hi
    subst hi
    refine ⟨rfl,fun j c hj=>?_⟩
    match j,hj with
    | 0,hj=>simp [T.cells] at hj; subst hj; exact ⟨.inr ⟨rfl,by omega⟩,_,(hc8 _).trans rfl, .i _ _⟩
    | 1,hj=>simp [T.cells] at hj; subst hj; exact ⟨.inr ⟨rfl,by omega⟩,_,(hc8 _).trans rfl, .s _ x.2.2⟩
    | 2,hj=>simp [T.cells] at hj; subst hj; exact ⟨.inr ⟨rfl,by omega⟩,_,(hc8 _).trans rfl, .i _ _⟩
    | 3,hj=>simp [T.cells] at hj; subst hj; exact ⟨.inr ⟨rfl,by omega⟩,_,(hc8 _).trans rfl,r1⟩
    | j + 4,hj=>simp [T.cells] at hj
   | 1,hi =>
    simp only [List.getElem?_cons_succ,List.getElem?_cons_zero,Option.some.injEq] at hi
    subst hi
    refine ⟨rfl,fun j c hj=>?_⟩
    match j,hj with
    | 0,hj=>simp [T.cells] at hj; subst hj; exact ⟨.inr ⟨rfl,by omega⟩,_,(hc8 _).trans rfl, .i _ _⟩
    | 1,hj=>simp [T.cells] at hj; subst hj; exact ⟨.inr ⟨rfl,by omega⟩,_,(hc8 _).trans rfl, .s _ hn'⟩
    | 2,hj=>simp [T.cells] at hj; subst hj; exact ⟨.inr ⟨rfl,by omega⟩,_,(hc8 _).trans rfl, .i _ _⟩
    | 3,hj=>simp [T.cells] at hj; subst hj; exact ⟨.inr ⟨rfl,by omega⟩,_,(hc8 _).trans rfl,r2⟩
    | j + 4,hj=>simp [T.cells] at hj
   | i + 2,hi=>simp at hi
  ·rw [uDt]; show wPair.length≤_; decide
  ·rintro b o (hs | ⟨rfl,ho⟩)
   ·rcases h5 b o hs with q | ⟨q1,v,q⟩
    ·exact .inl q
    ·exact .inr ⟨q1,v,(uDu (kold b (World.block_lt_of_cell? (a:=⟨b,o,none⟩) W q) (by omega)) o).trans q⟩
   ·refine .inr ⟨by omega,?_⟩
    unfold World.cell?
    dsimp only
    rw [knew,← hob]
    exact ⟨_,Array.getElem?_eq_getElem (by simpa using ho)⟩
 case done =>
  rintro D ys W hD rfl ⟨⟨S',p,l',k,h1,h2,h3,hn',h4,h5⟩,h6,h7⟩ hK
  have cO0 : W.cell? ⟨w.heap.size + 1,0,none⟩=some (tInt (uBN last (uDe el m 0)).kind):=by unfold World.cell?; rw [h1]; rfl
  have cO1 : W.cell? ⟨w.heap.size + 1,1,none⟩=some (tStr (uBN last (uDe el m 0)).name):=by unfold World.cell?; rw [h1]; rfl
  have cO2 : W.cell? ⟨w.heap.size + 1,2,none⟩=some (tInt (uBN last (uDe el m 0)).sort):=by unfold World.cell?; rw [h1]; rfl
  have cO3 : W.cell? ⟨w.heap.size + 1,3,none⟩=some (.slice p l' k):=by unfold World.cell?; rw [h1]; rfl
  have cR0 : W.cell? ⟨w.heap.size,0,none⟩=some (tInt 0):=by unfold World.cell?; rw [h2]; rfl
  have cR1 : W.cell? ⟨w.heap.size,1,none⟩=some (.string ⟨#[]⟩):=by unfold World.cell?; rw [h2]; rfl
  have cR2 : W.cell? ⟨w.heap.size,2,none⟩=some (tInt 0):=by unfold World.cell?; rw [h2]; rfl
  have cR3 : W.cell? ⟨w.heap.size,3,none⟩=some (.slice none 0 0):=by unfold World.cell?; rw [h2]; rfl
  have f0 : W.frozen? ⟨w.heap.size,0,none⟩=false:=by unfold World.frozen?; rw [h2]; rfl
  have f1 : W.frozen? ⟨w.heap.size,1,none⟩=false:=by unfold World.frozen?; rw [h2]; rfl
  have f2 : W.frozen? ⟨w.heap.size,2,none⟩=false:=by unfold World.frozen?; rw [h2]; rfl
  have f3 : W.frozen? ⟨w.heap.size,3,none⟩=false:=by unfold World.frozen?; rw [h2]; rfl
  gi_wp2
  clear cO0 cO1 cO2 cO3 cR0 cR1 cR2 cR3 f0 f1 f2 f3
  rw [hfold] at h1 h3 hn'
  obtain ⟨W1,hW1⟩ : ∃ W1,((((W.setCell ⟨w.heap.size,0,none⟩ (.int .i64 (tupT ts).kind)).setCell ⟨w.heap.size,1,none⟩ (.string ⟨(tupT ts).name.toArray⟩)).setCell ⟨w.heap.size,2,none⟩ (.int .i64 (tupT ts).sort)).setCell ⟨w.heap.size,3,none⟩ (.slice p l' k))=W1:=⟨_,rfl⟩
  have hs1 : W1.heap.size=W.heap.size:=by rw [← hW1]; simp [World.setCell]
  have k1 : W1.heap[w.heap.size]? = some (.cells #[tInt (tupT ts).kind,tStr (tupT ts).name,tInt (tupT ts).sort, .slice p l' k] 39 (0,0)):=by rw [← hW1]; exact uFH h2 _ _ _ _
  have k2 : ∀ j,j≠w.heap.size→W1.heap[j]? = W.heap[j]? := fun j hj=>by rw [← hW1]; exact heap_cells4' W hj _ _ _ _
  have kb : Below w.heap.size W W1:=by rw [← hW1]; exact ((((Below.refl _ W).setCell (p:=⟨w.heap.size,0,none⟩) (by simp) _).setCell (p:=⟨w.heap.size,1,none⟩) (by simp) _).setCell (p:=⟨w.heap.size,2,none⟩) (by simp) _).setCell (p:=⟨w.heap.size,3,none⟩) (by simp) _
  rw [hW1]
  clear hW1
  have hDne : D≠w.heap.size:=by omega
  have hK' : W1.heap[D]? = some (.deferred (some [])):=(k2 D hDne).trans hK
  refine ⟨by simp, .inl ⟨_,_,rfl,run_takeDeferred hK',?_⟩⟩
  have k3 : (W1.putObj D (.deferred none)).heap[w.heap.size]? = some (.cells #[tInt (tupT ts).kind,tStr (tupT ts).name,tInt (tupT ts).sort, .slice p l' k] 39 (0,0)):=(World.putObj_heap_other hDne.symm).trans k1
  have hb1 : Below w.heap.size W (W1.putObj D (.deferred none)):=kb.trans (belowK_b (w:=w) (Nat.le_refl _) W1 D _ _ (by omega) hK' rfl rfl)
  have hold : ∀ b o,S' b o→(W1.putObj D (.deferred none)).cell? ⟨b,o,none⟩=W.cell? ⟨b,o,none⟩:=fun b o hs=>by
   rcases h5 b o hs with q | ⟨q1,v,q⟩
   ·exact hb1.cell (p:=⟨b,o,none⟩) (hS b o q)
   ·have hbD : b≠D:=by
     rintro rfl
     obtain ⟨y,hy,hyc⟩:=cells_of_cell q
     rw [show W.heap[b]? = _ from hK] at hy
     cases hy; cases hyc
    exact uDu ((World.putObj_heap_other hbD).trans (k2 b (by omega))) o
  have z0 : (W1.putObj D (.deferred none)).cell? ⟨w.heap.size,0,none⟩=some (tInt (tupT ts).kind):=by unfold World.cell?; rw [k3]; rfl
  have z1 : (W1.putObj D (.deferred none)).cell? ⟨w.heap.size,1,none⟩=some (tStr (tupT ts).name):=by unfold World.cell?; rw [k3]; rfl
  have z2 : (W1.putObj D (.deferred none)).cell? ⟨w.heap.size,2,none⟩=some (tInt (tupT ts).sort):=by unfold World.cell?; rw [k3]; rfl
  have z3 : (W1.putObj D (.deferred none)).cell? ⟨w.heap.size,3,none⟩=some (.slice p l' k):=by unfold World.cell?; rw [k3]; rfl
  refine ⟨.agg #[tInt (tupT ts).kind,tStr (tupT ts).name,tInt (tupT ts).sort, .slice p l' k],?_,[tInt (tupT ts).kind,tStr (tupT ts).name,tInt (tupT ts).sort, .slice p l' k],S',rfl,⟨.i _ _, .s _ hn', .i _ _,Abs.CRep.mono (fun _ _ h=>h) hold h3,trivial⟩,h6.trans hb1,h4,fun b o hs=>?_⟩
  ·simp [results,Tryz.f115,go_sem,z0,z1,z2,z3]
  ·rcases h5 b o hs with q | ⟨q1,v,q⟩
   ·exact .inl q
   ·have := World.block_lt_of_cell? (a := ⟨b,o,none⟩) W q
    have hsz5:=hb1.size
    exact .inr ⟨by omega,Nat.lt_of_lt_of_le this hsz5⟩
 case stop=>rintro D c pre W _ _ h _; exact h.elim
theorem uKa (ts : List T) (hts : 0 < ts.length) (hmax : ts.length≤3000000) : Abs.Ctr sys 115 [xl ts] [] (xm (tupT ts)) none []:=by
 refine ⟨⟨_,Tryz.func115,by kernel_rfl,by kernel_rfl⟩,fun w G vs hvs hwf hbx hbox hown _=>?_⟩
 match vs,hvs with
 | [v],⟨hv,_⟩ =>
  have hv : Abs.CRep w G.S (.sl 4 (T.rows ts)) v:=hv
  have hS : ∀ b o,G.S b o→b < w.heap.size:=fun b o hs=>hwf b o (by rw [show G.W b o = .imm from hs]; simp)
  refine (callsIn_wide.1 (uNq Fence.wide 3 trivial trivial trivial rfl (Nat.le_refl _) w G.S hS ts hts hmax v hv)).mono ?_
  rintro e W' ⟨us,S',rfl,h1,h2,h3,h4⟩
  open Classical in
  let G' : Abs.Gh:={ G with W:=fun b o=>if S' b o then .imm else G.W b o }
  have hI : ∀ b o,G'.W b o = .imm→S' b o:=fun b o h=>by
   by_cases hs : S' b o
   ·exact hs
   ·have h : (if S' b o then Abs.Who.imm else G.W b o) = .imm:=h
    rw [if_neg hs] at h
    exact h3 b o h
  have hO : ∀ b o p,G'.W b o ≠ .own p:=fun b o p h=>by
   have h : (if S' b o then Abs.Who.imm else G.W b o) = .own p:=h
   split at h
   ·cases h
   ·exact hown b o p h
  refine ⟨_,G',rfl,Abs.Fr.ofBelow h2,fun b o h=>if_pos (h3 b o h),fun b o hb h=>?_,fun b o h=>?_,⟨us,rfl,h1.mono fun c v hc=>hc.mono (fun b o hs=>if_pos hs) (fun _ _ _=>rfl)⟩,fun _=>rfl,fun j cs h=>by simp at h,fun sz h=>by simp at h,fun b o h=>absurd h (hO b o _)⟩
  ·rcases h4 b o (hI b o h) with q | ⟨q,_⟩
   ·exact q
   ·omega
  ·by_cases hs : S' b o
   ·rcases h4 b o hs with q | ⟨_,q⟩
    ·exact Nat.lt_of_lt_of_le (hS b o q) h2.size
    ·exact q
   ·have h : (if S' b o then Abs.Who.imm else G.W b o) ≠ .none:=h
    rw [if_neg hs] at h
    exact Nat.lt_of_lt_of_le (hwf b o h) h2.size
theorem uFp (l : List Tk) (hl : l.length≤2000000) (n : Nat) (p : PS) (hp : p.at'≤l.length) (hn : l.length - p.at' < n) : Abs.Ctr sys 66 [xpp] [pbx l p] (xm (uAT l n p).1) none [pbx l (uAT l n p).2] :=
 uMI l hl (fun ts h1 h2=>uKa ts h1 h2) n p hp hn
end Go.Proofs.YtnjjdbapadkomaaGreatDoor
namespace Go.Abs
def uNI (s : St) (os : OS) : Bool:=os.all fun e=>match s.own (.b (.o e.1) e.2.1) with
 | some z=>Nat.beq z e.2.2
 | none=>false
theorem uBA {T : List (Option TyI)} {rs : List ResultVar} {res x : X} {bs' : List (List C)} {os : OS} {s : St} (h : resX T s rs=some x) (hx : x=res) (hb : subB s (uDa 0 bs')) (ho : uNI s os=true) : retO T rs res bs' os .box .normal s:=by
 have h1 : retS T rs res none bs' .ret s:=uAq h hx hb
 refine ⟨h1.1,h1.2.2,fun e he=>?_⟩
 have := List.all_eq_true.1 ho e he
 split at this
 ·rename_i z hz; rw [hz,Nat.eq_of_beq_eq_true this]
 ·simp at this
end Go.Abs
namespace Go.Proofs.YtnjjdbapadkomaaGreatDoor
open Go Go.Abs
noncomputable def sysO : Pg:={ P:=Tryz.prog,T:=tab,ok:=uMd,mix:=uL9,gv:=[(0,intAt)],old:=true }
theorem up {f : FuncId} {args : List X} {bs bs' : List (List C)} {res : X} {ro : Option Nat} (h : Ctr sys f args bs res ro bs') : Ctr sysO f args bs res ro bs':=h.wk rfl fun _ hg=>hg
def osN : OS:=[(1,1,1),(1,2,3),(1,3,1),(1,4,7),(1,5,5)]
abbrev xnn : X:=.v (.ptr (.o 1) 0)
theorem uBr {l : List Tk} {c : List UInt8} {p : PS} (h : p.at'≤l.length) : (uA9 l c p).at'≤l.length:=(uBq l c p).2 h
theorem uBo {l : List Tk} {ws : List (List UInt8)} {p : PS} (h : p.at'≤l.length) : (uAz l ws p).2.at'≤l.length:=(uA4 l ws p).2 h
theorem le3 {l : List Tk} {x : Nat} (hl : l.length≤2000000) (h : x≤l.length) : x≤3000000:=by omega
theorem uML (l : List Tk) (p : PS) (n : Nar) (line : Int) (hl : l.length≤2000000) (hp : p.at'≤l.length) (hn : n.steps.length≤3000000)
  (hterm : ∀ p : PS,p.at'≤l.length→Ctr sys 66 [xpp] [pbx l p] (xm (uAT l (l.length + 1) p).1) none [pbx l (uAT l (l.length + 1) p).2]) :
  CtrO sysO 111 [xpp,xnn,xi line] [pbx l p,n.cells] osN (.tup []) [pbx l (uCP l line p).2,({ n with steps:=n.steps++[(uCP l line p).1] } : Nar).cells] .box:=by
 have hrs:=Sp.rows_len n.steps
 have hrl:=Tk.rows_len l
 refine uDi Tryz.func111 rfl rfl rfl rfl rfl rfl rfl ?_;refine uAe (uAb ?_);refine uAa rfl rfl rfl (uAc rfl gU) ?_;refine uAJ (.o 0) rfl rfl rfl rfl rfl rfl (up (uBx l _ [] (by omega) (le3 hl (by repeat (first | exact hp | refine uBr ?_ | refine uBo ?_))))) rfl (by rfl) (by rfl) rfl rfl rfl ?_;refine uAa rfl rfl rfl (uAc rfl gU) ?_;refine uAa rfl rfl rfl (uAV rfl Tryz.underlying67 rfl gU) ?_;refine uAu rfl (uAQ rfl rfl rfl) ?_;refine uAu rfl (uAA rfl rfl rfl rfl rfl rfl rfl) ?_;refine uAf ?_;refine uAn (s:=⟨[(0,_,_),(1,_,_),(6,_,_)],[(.l 6,_),(.o 0,_),(.o 1,_)],[(.b (.o 1) 1,_),(.b (.o 1) 2,_),(.b (.o 1) 3,_),(.b (.o 1) 4,_),(.b (.o 1) 5,_)],[]⟩) (uAj (⟨sx rfl,sx rfl,sx rfl,trivial⟩) (⟨sx rfl,sx rfl,sx rfl,trivial⟩) (⟨rfl,rfl,rfl,rfl,rfl,trivial⟩)) ?_;refine uAe (uAb ?_);refine uAa rfl rfl rfl (uAc rfl gU) ?_;refine uAJ (.o 0) rfl rfl rfl rfl rfl rfl (up (uBc l _ _ (by omega) (le3 hl (by repeat (first | exact hp | refine uBr ?_ | refine uBo ?_))))) rfl (by rfl) (by rfl) rfl rfl rfl ?_;refine uAf ?_;refine uAe (uAb ?_);refine uAa rfl rfl rfl (uAc rfl gU) ?_;refine uAJ (.o 0) rfl rfl rfl rfl rfl rfl (up (uBc l _ _ (by omega) (le3 hl (by repeat (first | exact hp | refine uBr ?_ | refine uBo ?_))))) rfl (by rfl) (by rfl) rfl rfl rfl ?_
 refine uAf ?_;refine uAe (uAb ?_);refine uAa rfl rfl rfl (uAc rfl gU) ?_;refine uAJ (.o 0) rfl rfl rfl rfl rfl rfl (up (uBx l _ [] (by omega) (le3 hl (by repeat (first | exact hp | refine uBr ?_ | refine uBo ?_))))) rfl (by rfl) (by rfl) rfl rfl rfl ?_;refine uAa rfl rfl rfl (uAg rfl gU rfl rfl) ?_;refine uAu rfl (uAA rfl rfl rfl rfl rfl rfl rfl) ?_;refine uAf ?_;refine uAn (s:=⟨[(0,_,_),(1,_,_),(6,_,_)],[(.l 6,_),(.o 0,_),(.o 1,_)],[(.b (.o 1) 1,_),(.b (.o 1) 2,_),(.b (.o 1) 3,_),(.b (.o 1) 4,_),(.b (.o 1) 5,_)],[]⟩) (uAj (⟨sx rfl,sx rfl,sx rfl,trivial⟩) (⟨sx rfl,sx rfl,sx rfl,trivial⟩) (⟨rfl,rfl,rfl,rfl,rfl,trivial⟩)) ?_;refine uAe (uAb ?_);refine uAa rfl rfl rfl (uAc rfl gU) ?_;refine uAJ (.o 0) rfl rfl rfl rfl rfl rfl (up (uBc l _ _ (by omega) (le3 hl (by repeat (first | exact hp | refine uBr ?_ | refine uBo ?_))))) rfl (by rfl) (by rfl) rfl rfl rfl ?_;refine uAf ?_;refine uAe (uAb ?_);refine uAa rfl rfl rfl (uAc rfl gU) ?_;refine uAJ (.o 0) rfl rfl rfl rfl rfl rfl (up (hterm _ (by repeat (first | exact hp | refine uBr ?_ | refine uBo ?_)))) rfl (by rfl) (by rfl) rfl rfl rfl ?_;refine uAa rfl rfl rfl (uAg rfl gU rfl rfl) ?_;refine uAu rfl (uAA rfl rfl rfl rfl rfl rfl rfl) ?_;refine uAf ?_;refine uAn (s:=⟨[(1,_,_),(6,_,_)],[(.l 6,_),(.o 0,_),(.o 1,_)],[(.b (.o 1) 1,_),(.b (.o 1) 2,_),(.b (.o 1) 3,_),(.b (.o 1) 4,_),(.b (.o 1) 5,_)],[]⟩) (uAj (⟨sx rfl,sx rfl,trivial⟩) (⟨sx rfl,sx rfl,sx rfl,trivial⟩) (⟨rfl,rfl,rfl,rfl,rfl,trivial⟩)) ?_
 refine awp_drawn' (by kernel_rfl) ?_;refine uAk rfl rfl rfl rfl (uAc rfl gU) ?_;refine uAk rfl rfl rfl rfl (uAc rfl gU) ?_;refine uAk rfl rfl rfl rfl (uAy rfl gU) ?_;refine uAk rfl rfl rfl rfl (uAg rfl gU rfl rfl) ?_;refine uBZ rfl rfl rfl rfl rfl rfl rfl rfl rfl rfl rfl rfl ?_;refine uBR rfl rfl rfl rfl rfl rfl rfl gU rfl rfl rfl rfl rfl ?_;refine uCk (xs:=[_]) rfl rfl rfl rfl rfl rfl rfl rfl rfl rfl gU rfl ?_;refine uBT rfl rfl rfl rfl rfl rfl rfl rfl rfl rfl rfl (by first | omega | (simp only [List.length_append,List.length_singleton,Sp.rows_len]; omega)) (by first | omega | (simp only [List.length_append,List.length_singleton,Sp.rows_len]; omega)) ?_;refine uAk rfl rfl rfl rfl (uAy rfl gU) ?_;refine uAk rfl rfl rfl rfl (uAg rfl gU rfl rfl) ?_;refine uB1 rfl rfl rfl rfl rfl rfl rfl rfl rfl rfl rfl rfl ?_;refine uBf (by kernel_rfl) ?_;refine uBA rfl ?_ (⟨⟨_,rfl,?_⟩,⟨⟨_,rfl,?_⟩,trivial⟩⟩) (by kernel_rfl)
 all_goals first | rfl | (simp only [Nar.cells,Sp.rows_app]; rfl)
end Go.Proofs.YtnjjdbapadkomaaGreatDoor
namespace Go.Proofs.YtnjjdbapadkomaaGreatDoor
open Go Go.Abs
theorem uGe (s : List UInt8) : ∀ l : List (List UInt8),uBz l s=idxF (fun x=>decide (s=x)) l
 | []=>rfl
 | x :: l=>by
  rw [uBz,idxF,uGe s l]
  by_cases h : x=s
  ·rw [if_pos h,if_pos (by simp [h])]
  ·have h' : ¬decide (s=x)=true:=by rw [decide_eq_true_eq]; exact fun e=>h (Eq.symm e)
   rw [if_neg h,if_neg h']
theorem uEA (s : List UInt8) : ∀ l : List (List UInt8),-1≤uBz l s∧uBz l s < l.length
 | []=>by simp [uBz]
 | x :: l=>by
  have := uEA s l
  rw [uBz]
  simp only [List.length_cons]
  split
  ·omega
  ·split <;> omega
theorem uEI : Ctr sys 95 [] [] (xss kindW) none []:=by
 refine uAw Tryz.func95 rfl rfl rfl rfl rfl rfl ?_;refine uAe (uAb ?_);refine uAa rfl rfl rfl (uAd rfl gU) ?_;refine uAf ?_;refine uAe (uAb ?_);refine uAM (xs:=[_,_,_,_,_]) rfl rfl rfl rfl rfl rfl rfl rfl rfl gU rfl ?_;refine uAa rfl rfl rfl (uAd rfl gU) ?_;refine uAf ?_;refine uAo ?_
 repeat (first | refine tR ?_ | refine bR ?_)
 refine uAq rfl ?_ trivial
 rfl
theorem uEz : Ctr sys 41 [] [] (xss sortW) none []:=by
 refine uAw Tryz.func41 rfl rfl rfl rfl rfl rfl ?_;refine uAe (uAb ?_);refine uAa rfl rfl rfl (uAd rfl gU) ?_;refine uAf ?_;refine uAe (uAb ?_);refine uAM (xs:=[_,_,_]) rfl rfl rfl rfl rfl rfl rfl rfl rfl gU rfl ?_;refine uAa rfl rfl rfl (uAd rfl gU) ?_;refine uAf ?_;refine uAo ?_
 repeat (first | refine tR ?_ | refine bR ?_)
 refine uAq rfl ?_ trivial
 rfl
set_option maxHeartbeats 2000000 in
theorem uLL (l : List Tk) (p : PS) (n : Nar) (line : Int) (hl : l.length≤2000000) (hp : p.at'≤l.length) (hn : n.goals.length≤3000000)
  (hterms : ∀ p : PS,p.at'≤l.length→Ctr sys 116 [xpp] [pbx l p] (xl (uBl l (uAT l (l.length + 1)) p).1) none [pbx l (uBl l (uAT l (l.length + 1)) p).2]) :
  CtrO sysO 112 [xpp,xnn,xi line] [pbx l p,n.cells] osN (.tup []) [pbx l (uCr l line p).2,({ n with goals:=n.goals++[(uCr l line p).1] } : Nar).cells] .box:=by
 have hrs:=Gl.rows_len n.goals
 have hrl:=Tk.rows_len l
 have hix:=uEA (uAz l kindW p).1 kindW
 have hkl : (kindW.length : Int)=5:=rfl
 have hixs:=uEJ kindW (uAz l kindW p).1
 rw [← uGe] at hixs
 refine uDi Tryz.func112 rfl rfl rfl rfl rfl rfl rfl ?_;refine uAe (uAb ?_);refine uAa rfl rfl rfl (uAc rfl gU) ?_;refine uAa rfl rfl rfl (uAV rfl Tryz.underlying70 rfl gU) ?_;refine uAu rfl (uAQ rfl rfl rfl) ?_;refine uAu rfl (uAA rfl rfl rfl rfl rfl rfl rfl) ?_;refine uAf ?_;refine uAe (uAb ?_);refine uAv rfl rfl rfl rfl rfl rfl gU gU (up uEI) rfl ?_;refine uAa rfl rfl rfl (uAc rfl gU) ?_;refine uAv rfl rfl rfl rfl rfl rfl gU gU (up uEI) rfl ?_;refine uAJ (.o 0) rfl rfl rfl rfl rfl rfl (up (uBx l _ kindW (by omega) (le3 hl (by repeat (first | exact hp | refine uBr ?_ | refine uBo ?_))))) rfl (by rfl) (by rfl) rfl rfl rfl ?_;refine uAv rfl rfl rfl rfl rfl rfl gU gU (up hixs) rfl ?_;refine uAa rfl rfl rfl (uAr rfl rfl gU gU rfl (IntWalk.i64_in _ (by omega))) ?_;refine uAa rfl rfl rfl (uAg rfl gU rfl rfl) ?_;refine uAu rfl (uAA rfl rfl rfl rfl rfl rfl rfl) ?_;refine uAf ?_;refine uAn (s:=⟨[(0,_,_),(1,_,_),(6,_,_)],[(.l 6,_),(.o 0,_),(.o 1,_)],[(.b (.o 1) 1,_),(.b (.o 1) 2,_),(.b (.o 1) 3,_),(.b (.o 1) 4,_),(.b (.o 1) 5,_)],[]⟩) (uAj (⟨sx rfl,sx rfl,sx rfl,trivial⟩) (⟨sx rfl,sx rfl,sx rfl,trivial⟩) (⟨rfl,rfl,rfl,rfl,rfl,trivial⟩)) ?_;refine uAe (uAb ?_);refine uAa rfl rfl rfl (uAc rfl gU) ?_;refine uAJ (.o 0) rfl rfl rfl rfl rfl rfl (up (uBx l _ [] (by omega) (le3 hl (by repeat (first | exact hp | refine uBr ?_ | refine uBo ?_))))) rfl (by rfl) (by rfl) rfl rfl rfl ?_
 refine uAa rfl rfl rfl (uAg rfl gU rfl rfl) ?_;refine uAu rfl (uAA rfl rfl rfl rfl rfl rfl rfl) ?_;refine uAf ?_;refine uAe ?_;refine uAe (uAb ?_);refine uAa rfl rfl rfl (uAt rfl gU rfl rfl rfl rfl rfl) ?_;refine uAv rfl rfl rfl rfl rfl rfl gU gU (up (uBV ⟨1 + uBz kindW (uAz l kindW p).1,(uAz l [] (uAz l kindW p).2).1,[],[],line⟩)) rfl ?_;refine uAf ?_;refine uAn (s:=⟨[(0,_,_),(1,_,_),(6,_,_),(20,_,_)],[(.l 6,_),(.o 0,_),(.o 1,_)],[(.b (.o 1) 1,_),(.b (.o 1) 2,_),(.b (.o 1) 3,_),(.b (.o 1) 4,_),(.b (.o 1) 5,_)],[]⟩) (uAj (⟨sx rfl,sx rfl,sx rfl,sx rfl,trivial⟩) (⟨sx rfl,sx rfl,sx rfl,trivial⟩) (⟨rfl,rfl,rfl,rfl,rfl,trivial⟩)) ?_;refine uAm rfl (fun hc=>?_) (fun hc=>?_)
 ·have h : uBt (1 + uBz kindW (uAz l kindW p).1)=true:=hc
  refine uAb ?_;refine uAa rfl rfl rfl (uAc rfl gU) ?_;refine uAJ (.o 0) rfl rfl rfl rfl rfl rfl (up (uBx l _ [] (by omega) (le3 hl (by repeat (first | exact hp | refine uBr ?_ | refine uBo ?_))))) rfl (by rfl) (by rfl) rfl rfl rfl ?_;refine uAa rfl rfl rfl (uAg rfl gU rfl rfl) ?_;refine uAu rfl (uAA rfl rfl rfl rfl rfl rfl rfl) ?_;refine uAf ?_;refine uAe (uAb ?_);refine uAa rfl rfl rfl (uAc rfl gU) ?_;refine uAJ (.o 0) rfl rfl rfl rfl rfl rfl (up (uBc l _ _ (by omega) (le3 hl (by repeat (first | exact hp | refine uBr ?_ | refine uBo ?_))))) rfl (by rfl) (by rfl) rfl rfl rfl ?_;refine uAf ?_;refine uAn (s:=⟨[(0,_,_),(1,_,_),(6,_,_)],[(.l 6,_),(.o 0,_),(.o 1,_)],[(.b (.o 1) 1,_),(.b (.o 1) 2,_),(.b (.o 1) 3,_),(.b (.o 1) 4,_),(.b (.o 1) 5,_)],[]⟩) (uAj (⟨sx rfl,sx rfl,sx rfl,trivial⟩) (⟨sx rfl,sx rfl,sx rfl,trivial⟩) (⟨rfl,rfl,rfl,rfl,rfl,trivial⟩)) ?_;refine uAe (uAb ?_);refine uAa rfl rfl rfl (uAc rfl gU) ?_;refine uAJ (.o 0) rfl rfl rfl rfl rfl rfl (up (hterms _ (by repeat (first | exact hp | refine uBr ?_ | refine uBo ?_)))) rfl (by rfl) (by rfl) rfl rfl rfl ?_;refine uAa rfl rfl rfl (uAg rfl gU rfl rfl) ?_;refine uAu rfl (uAA rfl rfl rfl rfl rfl rfl rfl) ?_;refine uAf ?_;refine awp_drawn' (by kernel_rfl) ?_;refine uAk rfl rfl rfl rfl (uAc rfl gU) ?_
  refine uAk rfl rfl rfl rfl (uAc rfl gU) ?_;refine uAk rfl rfl rfl rfl (uAy rfl gU) ?_;refine uAk rfl rfl rfl rfl (uAg rfl gU rfl rfl) ?_;refine uBZ rfl rfl rfl rfl rfl rfl rfl rfl rfl rfl rfl rfl ?_;refine uBR rfl rfl rfl rfl rfl rfl rfl gU rfl rfl rfl rfl rfl ?_;refine uCk (xs:=[_]) rfl rfl rfl rfl rfl rfl rfl rfl rfl rfl gU rfl ?_;refine uBT rfl rfl rfl rfl rfl rfl rfl rfl rfl rfl rfl (by first | omega | (simp only [List.length_append,List.length_singleton,Gl.rows_len]; omega)) (by first | omega | (simp only [List.length_append,List.length_singleton,Gl.rows_len]; omega)) ?_;refine uAk rfl rfl rfl rfl (uAy rfl gU) ?_;refine uAk rfl rfl rfl rfl (uAg rfl gU rfl rfl) ?_;refine uB1 rfl rfl rfl rfl rfl rfl rfl rfl rfl rfl rfl rfl ?_;refine uBf (by kernel_rfl) ?_;refine uBA rfl ?_ (⟨⟨_,rfl,?_⟩,⟨⟨_,rfl,?_⟩,trivial⟩⟩) (by kernel_rfl)
  all_goals first | rfl | (simp only [Nar.cells,Gl.rows_app,uCr,h,if_true]; done) | (simp only [Nar.cells,Gl.rows_app,uCr,h,if_true]; rfl)
 ·have h : uBt (1 + uBz kindW (uAz l kindW p).1)=false:=hc
  refine uAp ?_;refine uAe (uAb ?_);refine uAa rfl rfl rfl (uAc rfl gU) ?_;refine uAJ (.o 0) rfl rfl rfl rfl rfl rfl (up (uBc l _ _ (by omega) (le3 hl (by repeat (first | exact hp | refine uBr ?_ | refine uBo ?_))))) rfl (by rfl) (by rfl) rfl rfl rfl ?_;refine uAf ?_;refine uAe (uAb ?_);refine uAa rfl rfl rfl (uAc rfl gU) ?_;refine uAJ (.o 0) rfl rfl rfl rfl rfl rfl (up (hterms _ (by repeat (first | exact hp | refine uBr ?_ | refine uBo ?_)))) rfl (by rfl) (by rfl) rfl rfl rfl ?_;refine uAa rfl rfl rfl (uAg rfl gU rfl rfl) ?_;refine uAu rfl (uAA rfl rfl rfl rfl rfl rfl rfl) ?_;refine uAf ?_;refine uAn (s:=⟨[(1,_,_),(6,_,_)],[(.l 6,_),(.o 0,_),(.o 1,_)],[(.b (.o 1) 1,_),(.b (.o 1) 2,_),(.b (.o 1) 3,_),(.b (.o 1) 4,_),(.b (.o 1) 5,_)],[]⟩) (uAj (⟨sx rfl,sx rfl,trivial⟩) (⟨sx rfl,sx rfl,sx rfl,trivial⟩) (⟨rfl,rfl,rfl,rfl,rfl,trivial⟩)) ?_;refine awp_drawn' (by kernel_rfl) ?_;refine uAk rfl rfl rfl rfl (uAc rfl gU) ?_;refine uAk rfl rfl rfl rfl (uAc rfl gU) ?_;refine uAk rfl rfl rfl rfl (uAy rfl gU) ?_;refine uAk rfl rfl rfl rfl (uAg rfl gU rfl rfl) ?_;refine uBZ rfl rfl rfl rfl rfl rfl rfl rfl rfl rfl rfl rfl ?_;refine uBR rfl rfl rfl rfl rfl rfl rfl gU rfl rfl rfl rfl rfl ?_;refine uCk (xs:=[_]) rfl rfl rfl rfl rfl rfl rfl rfl rfl rfl gU rfl ?_
  refine uBT rfl rfl rfl rfl rfl rfl rfl rfl rfl rfl rfl (by first | omega | (simp only [List.length_append,List.length_singleton,Gl.rows_len]; omega)) (by first | omega | (simp only [List.length_append,List.length_singleton,Gl.rows_len]; omega)) ?_;refine uAk rfl rfl rfl rfl (uAy rfl gU) ?_;refine uAk rfl rfl rfl rfl (uAg rfl gU rfl rfl) ?_;refine uB1 rfl rfl rfl rfl rfl rfl rfl rfl rfl rfl rfl rfl ?_;refine uBf (by kernel_rfl) ?_;refine uBA rfl ?_ (⟨⟨_,rfl,?_⟩,⟨⟨_,rfl,?_⟩,trivial⟩⟩) (by kernel_rfl)
  all_goals first | rfl | (simp only [Nar.cells,Gl.rows_app,uCr,h,Bool.false_eq_true,if_false]; done) | (simp only [Nar.cells,Gl.rows_app,uCr,h,Bool.false_eq_true,if_false]; rfl)
end Go.Proofs.YtnjjdbapadkomaaGreatDoor
namespace Go.Proofs.YtnjjdbapadkomaaGreatDoor
open Go Go.Abs
set_option maxHeartbeats 2000000 in
theorem uFE (l : List Tk) (p : PS) (n : Nar) (hl : l.length≤2000000) (hp : p.at'≤l.length) (hn : n.fresh.length≤3000000) :
  CtrO sysO 110 [xpp,xnn] [pbx l p,n.cells] osN (.tup []) [pbx l (uB3 l p n.fresh).2,({ n with fresh:=(uB3 l p n.fresh).1 } : Nar).cells] .box:=by
 have hrl:=Tk.rows_len l
 have a1:=uA4 l [] p
 have a2:=uBq l [58] (uAz l [] p).2
 have a3 : (uA9 l [58] (uAz l [] p).2).at'≤l.length:=uBr (uBo hp)
 have hrole : ∃ r,(uAz l [] p).1=r:=⟨_,rfl⟩
 obtain ⟨role,hrole⟩:=hrole
 refine uDi Tryz.func110 rfl rfl rfl rfl rfl rfl rfl ?_;refine uAe (uAb ?_);refine uAa rfl rfl rfl (uAc rfl gU) ?_;refine uAJ (.o 0) rfl rfl rfl rfl rfl rfl (up (uBx l _ [] (by omega) (le3 hl (by repeat (first | assumption | refine uBr ?_ | refine uBo ?_))))) rfl (by rfl) (by rfl) rfl rfl rfl ?_;refine uAa rfl rfl rfl (uAd rfl gU) ?_;refine uAf ?_;refine uAe (uAb ?_);refine uAa rfl rfl rfl (uAc rfl gU) ?_;refine uAJ (.o 0) rfl rfl rfl rfl rfl rfl (up (uBc l _ _ (by omega) (le3 hl (by repeat (first | assumption | refine uBr ?_ | refine uBo ?_))))) rfl (by rfl) (by rfl) rfl rfl rfl ?_;refine uAf ?_;refine uAn (s:=⟨[(0,_,_),(1,_,_),(4,_,_)],[(.o 0,_),(.o 1,_)],[(.b (.o 1) 1,_),(.b (.o 1) 2,_),(.b (.o 1) 3,_),(.b (.o 1) 4,_),(.b (.o 1) 5,_)],[]⟩) (uAj (⟨sx rfl,sx rfl,sx rfl,trivial⟩) (⟨sx rfl,sx rfl,trivial⟩) (⟨rfl,rfl,rfl,rfl,rfl,trivial⟩)) ?_;refine uAe (uAb ?_);refine uAa rfl rfl rfl (uAd rfl gU) ?_;refine uAf ?_;refine uAs ?_
 rw [hrole]
 refine uAX (ι:=PS × Bool × List Fs) { t:=[(0,_,_),(1,_,_),(4,_,_)],bx:=[],ow:=[(.b (.o 1) 1,_),(.b (.o 1) 2,_),(.b (.o 1) 3,_),(.b (.o 1) 4,_),(.b (.o 1) 5,_)] } (fun q=>[(5,true,xb q.2.1)]) (fun q=>[((.o 0),pbx l q.1),((.o 1),({ n with fresh:=q.2.2 } : Nar).cells)]) (fun q=>q.1.at'≤l.length∧q.2.2.length≤n.fresh.length + q.1.at' + (if q.2.1=true then 0 else 1) ∧ ∃ k,l.length + 1≤k + q.1.at'∧(if q.2.1=true then uCc l role k q.1 q.2.2 else (q.2.2,q.1))=uB3 l p n.fresh) (fun q=>(if q.2.1=true∧q.1.bad=false then 1 else 0) + (l.length - q.1.at')) ((uA9 l [58] (uAz l [] p).2,true,n.fresh)) (⟨a3,by simp,l.length + 1,by dsimp only; omega,by dsimp only; rw [← hrole]; rfl⟩) (uAj (⟨sx rfl,sx rfl,sx rfl,sx rfl,trivial⟩) (⟨sx rfl,sx rfl,trivial⟩) (⟨rfl,rfl,rfl,rfl,rfl,trivial⟩)) ?_
 intro q hok
 dsimp only [List.cons_append,List.nil_append] at *
 obtain ⟨q,more,out⟩:=q
 dsimp only at hok ⊢
 obtain ⟨hq,ho,k,hk,hi⟩:=hok
 have hro:=Fs.rows_len out
 refine uAe ?_;refine uAe (uAb ?_);refine uAa rfl rfl rfl (uAc rfl gU) ?_;refine uAa rfl rfl rfl (uAc rfl gU) ?_;refine uAa rfl rfl rfl (uAc rfl gU) ?_;refine uAa rfl rfl rfl (uAy rfl (fun hh=>hh)) ?_;refine uAa rfl rfl rfl (uAg rfl (fun hh=>hh) rfl rfl) ?_;refine uAa rfl rfl rfl (uAl rfl (fun hh=>hh) rfl rfl rfl rfl) ?_;refine uAa rfl rfl rfl (uAU rfl (fun hh=>hh)) ?_;refine uAa rfl rfl rfl (uAP rfl rfl gU (fun _ hi=>gP rfl hi)) ?_;refine uAf ?_;refine uAn (s:=⟨[(0,_,_),(1,_,_),(4,_,_),(19,_,_)],[(.o 0,_),(.o 1,_)],[(.b (.o 1) 1,_),(.b (.o 1) 2,_),(.b (.o 1) 3,_),(.b (.o 1) 4,_),(.b (.o 1) 5,_)],[]⟩) (uAj (⟨sx rfl,sx rfl,sx rfl,sx rfl,trivial⟩) (⟨sx rfl,sx rfl,trivial⟩) (⟨rfl,rfl,rfl,rfl,rfl,trivial⟩)) ?_;refine uAm rfl (fun hc=>?_) (fun hc=>?_)
 ·try simp only [nn,uAh,T.rows_len,Tk.rows_len] at hc
  obtain ⟨hm,hb⟩:=hc
  rw [if_pos hm] at hi ho
  obtain ⟨k,rfl⟩ : ∃ j,k=j + 1:=⟨k - 1,by omega⟩
  rw [uCc,if_neg (by rw [hb]; simp)] at hi
  have b1:=uA4 l [] q
  have b2:=uA4 l sortW (uAz l [] q).2
  have hix:=uEA (uAz l sortW (uAz l [] q).2).1 sortW
  have hsl : (sortW.length : Int)=3:=rfl
  have hixs:=uEJ sortW (uAz l sortW (uAz l [] q).2).1
  rw [← uGe] at hixs
  refine uAp ?_;refine uAe ?_;refine uAs ?_;refine uAe (uAb ?_);refine uAa rfl rfl rfl (uAc rfl gU) ?_;refine uAJ (.o 0) rfl rfl rfl rfl rfl rfl (up (uBx l _ [] (by omega) (le3 hl (by repeat (first | assumption | refine uBr ?_ | refine uBo ?_))))) rfl (by rfl) (by rfl) rfl rfl rfl ?_;refine uAa rfl rfl rfl (uAd rfl gU) ?_;refine uAf ?_;refine uAe (uAb ?_);refine uAv rfl rfl rfl rfl rfl rfl gU gU (up uEz) rfl ?_;refine uAa rfl rfl rfl (uAc rfl gU) ?_;refine uAv rfl rfl rfl rfl rfl rfl gU gU (up uEz) rfl ?_;refine uAJ (.o 0) rfl rfl rfl rfl rfl rfl (up (uBx l _ sortW (by omega) (le3 hl (by repeat (first | assumption | refine uBr ?_ | refine uBo ?_))))) rfl (by rfl) (by rfl) rfl rfl rfl ?_;refine uAv rfl rfl rfl rfl rfl rfl gU gU (up hixs) rfl ?_;refine uAa rfl rfl rfl (uAr rfl rfl gU gU rfl (IntWalk.i64_in _ (by omega))) ?_;refine uAa rfl rfl rfl (uAd rfl gU) ?_;refine uAf ?_;refine uAn (s:=⟨[(0,_,_),(1,_,_),(4,_,_),(6,_,_),(7,_,_)],[(.o 0,_),(.o 1,_)],[(.b (.o 1) 1,_),(.b (.o 1) 2,_),(.b (.o 1) 3,_),(.b (.o 1) 4,_),(.b (.o 1) 5,_)],[]⟩) (uAj (⟨sx rfl,sx rfl,sx rfl,sx rfl,sx rfl,trivial⟩) (⟨sx rfl,sx rfl,trivial⟩) (⟨rfl,rfl,rfl,rfl,rfl,trivial⟩)) ?_;refine uAb ?_;refine uAa rfl rfl rfl (uAc rfl gU) ?_;refine uAa rfl rfl rfl (uAc rfl gU) ?_
  refine uAa rfl rfl rfl (uAy rfl gU) ?_;refine uAa rfl rfl rfl (uAg rfl gU rfl rfl) ?_;refine uAu rfl (uEr rfl rfl rfl rfl rfl rfl rfl) ?_;refine uAa rfl rfl rfl (uAc rfl gU) ?_;refine uAa rfl rfl rfl (uAc rfl gU) ?_;refine uAa rfl rfl rfl (uAc rfl gU) ?_;refine uAa rfl rfl rfl (uAV rfl Tryz.underlying73 rfl gU) ?_;refine uAM (xs:=[_]) rfl rfl rfl rfl rfl rfl rfl rfl rfl gU rfl ?_;refine uAu rfl (uA0 rfl rfl rfl rfl rfl rfl rfl (by first | omega | (simp only [List.length_append,List.length_singleton,Fs.rows_len]; omega)) (by first | omega | (simp only [List.length_append,List.length_singleton,Fs.rows_len]; omega))) ?_;refine uAa rfl rfl rfl (uAy rfl gU) ?_;refine uBn (s:=⟨[(0,_,_),(1,_,_),(4,_,_),(40,_,_),(41,_,_)],[(.o 0,_),(.o 1,_)],[(.b (.o 1) 1,_),(.b (.o 1) 3,_),(.b (.o 1) 4,_),(.b (.o 1) 5,_),(.t 40,_)],[]⟩) (uAj (⟨sx rfl,sx rfl,sx rfl,sx rfl,sx rfl,trivial⟩) (⟨sx rfl,sx rfl,trivial⟩) (⟨rfl,rfl,rfl,rfl,rfl,trivial⟩)) ?_;refine uAa rfl rfl rfl (uAg rfl gU rfl rfl) ?_;refine uAu rfl (uEs rfl rfl rfl rfl rfl rfl rfl) ?_;refine uAf ?_;refine uAb ?_;refine uAa rfl rfl rfl (uAc rfl gU) ?_;refine uAJ (.o 0) rfl rfl rfl rfl rfl rfl (up (uBQ l _ _ (by omega) (le3 hl (by repeat (first | assumption | refine uBr ?_ | refine uBo ?_))))) rfl (by rfl) (by rfl) rfl rfl rfl ?_
  refine uAa rfl rfl rfl (uAd rfl gU) ?_;refine uAf ?_
  generalize hq2 : (uAz l sortW (uAz l [] q).2).2=q2 at *
  refine ⟨(symP l q2 [44],symQ l q2 [44],out++[⟨role,(uAz l [] q).1,2 + uBz sortW (uAz l sortW (uAz l [] q).2).1⟩]),?_,?_,uAj (⟨⟨_,rfl,?_⟩,⟨sx rfl,sx rfl,sx rfl,trivial⟩⟩) (⟨⟨_,rfl,?_⟩,⟨⟨_,rfl,?_⟩,trivial⟩⟩) (⟨rfl,rfl,rfl,rfl,rfl,trivial⟩)⟩
  ·by_cases hz : symQ l q2 [44]=true
   ·have hlt:=(uCn hz).1
    have hs : symP l q2 [44]=q2.go:=by rw [symP,if_pos hz]
    have hg : q2.go.at'=q2.at' + 1:=rfl
    rw [if_pos hz] at hi
    dsimp only
    rw [hs,hz,if_pos rfl]
    refine ⟨by omega,by simp only [List.length_append,List.length_singleton]; omega,k,by omega,by rw [if_pos rfl]; exact hi⟩
   ·have hz' : symQ l q2 [44]=false:=by simpa using hz
    have hs : symP l q2 [44]=q2:=by rw [symP,hz']; rfl
    rw [if_neg hz] at hi
    dsimp only
    rw [hs,hz',if_neg (by simp)]
    refine ⟨by omega,by simp only [List.length_append,List.length_singleton]; omega,k + 1,by omega,by rw [if_neg (by simp)]; exact hi⟩
  ·dsimp only
   rw [if_pos (c:=more=true∧q.bad=false) ⟨hm,hb⟩]
   by_cases hz : symQ l q2 [44]=true
   ·have hlt:=(uCn hz).1
    have hs : symP l q2 [44]=q2.go:=by rw [symP,if_pos hz]
    have hg : q2.go.at'=q2.at' + 1:=rfl
    rw [hs]
    split <;> omega
   ·rw [if_neg (fun q=>hz q.1)]
    have hs : symP l q2 [44]=q2:=by rw [symP,if_neg hz]
    rw [hs]; omega
  ·rfl
  ·rfl
  ·simp only [Nar.cells,Fs.rows_app]; rfl
 ·try simp only [nn,uAh,T.rows_len,Tk.rows_len] at hc
  have hfin : (out,q)=uB3 l p n.fresh:=by
   cases more with
   | false=>simpa using hi
   | true =>
    obtain ⟨k,rfl⟩ : ∃ j,k=j + 1:=⟨k - 1,by omega⟩
    rw [if_pos rfl,uCc,if_pos (by simpa using hc)] at hi
    exact hi
  rw [← hfin]
  refine uAN ?_
  repeat (first | refine uAE ?_ | refine uAF ?_ | refine uAB rfl ?_)
  refine uBA rfl ?_ (⟨⟨_,rfl,?_⟩,⟨⟨_,rfl,?_⟩,trivial⟩⟩) (by kernel_rfl)
  all_goals rfl
end Go.Proofs.YtnjjdbapadkomaaGreatDoor
namespace Go.Proofs.YtnjjdbapadkomaaGreatDoor
open Go Go.Abs
theorem ps2 {st : St} {a b : Pass} (ha : st.box a.n=some a.cs) (hb : st.box b.n=some b.cs) : ∀ p ∈ [a,b],st.box p.n=some p.cs:=by
 intro p hp
 rcases List.mem_cons.1 hp with q | q
 ·subst q; exact ha
 ·simp at q; subst q; exact hb
theorem uJJ (l : List Tk) (hl : l.length≤2000000) (p : PS) (hp : p.at'≤l.length) : Ctr sys 116 [xpp] [pbx l p] (xl (uBl l (uAT l (l.length + 1)) p).1) none [pbx l (uBl l (uAT l (l.length + 1)) p).2] :=
 uIA l (l.length + 1) hl (fun q h1 h2=>uFp l hl _ q h1 h2) p hp (by omega)
theorem uHl (l : List Tk) (p : PS) (n : Nar) (line : Int) (hl : l.length≤2000000) (hp : p.at'≤l.length) (hn : n.steps.length≤3000000) :
  CtrO sysO 111 [xpp,xnn,xi line] [pbx l p,n.cells] osN (.tup []) [pbx l (uCP l line p).2,({ n with steps:=n.steps++[(uCP l line p).1] } : Nar).cells] .box :=
 uML l p n line hl hp hn fun q hq=>uFp l hl _ q hq (by omega)
theorem uGG (l : List Tk) (p : PS) (n : Nar) (line : Int) (hl : l.length≤2000000) (hp : p.at'≤l.length) (hn : n.goals.length≤3000000) :
  CtrO sysO 112 [xpp,xnn,xi line] [pbx l p,n.cells] osN (.tup []) [pbx l (uCr l line p).2,({ n with goals:=n.goals++[(uCr l line p).1] } : Nar).cells] .box :=
 uLL l p n line hl hp hn fun q hq=>uJJ l hl q hq
theorem uA3 {l : List Tk} {n n' : Nar} {p q : PS} {line : Int} {w : List UInt8} (hw : uAz l uB7 p=(w,q)) (hl : uCJ l p=line) {r : PS} (h : uB0 l n line w q=(n',r)) : uCp l n p=(n',uA9 l [59] r):=by
 unfold uCp; rw [hl,hw]; dsimp only; rw [h]
theorem uD9 (l : List Tk) (n : Nar) (line : Int) (q : PS) : uB0 l n line uFG q=({ n with roles:=n.roles++(uBJ l q).1 },(uBJ l q).2):=by rw [uB0,if_pos rfl]
theorem uEk (l : List Tk) (n : Nar) (line : Int) (q : PS) : uB0 l n line uDU q=({ n with fresh:=(uB3 l q n.fresh).1 },(uB3 l q n.fresh).2):=by rw [uB0,if_neg (by decide),if_pos rfl]
theorem uD7 (l : List Tk) (n : Nar) (line : Int) (q : PS) : uB0 l n line uFK q=({ n with tags:=n.tags++(uBJ l q).1 },(uBJ l q).2):=by rw [uB0,if_neg (by decide),if_neg (by decide),if_pos rfl]
theorem uEi (l : List Tk) (n : Nar) (line : Int) (q : PS) : uB0 l n line wMsg q=({ n with steps:=n.steps++[(uCP l line q).1] },(uCP l line q).2):=by rw [uB0,if_neg (by decide),if_neg (by decide),if_neg (by decide),if_pos rfl]
theorem uEe (l : List Tk) (n : Nar) (line : Int) (q : PS) : uB0 l n line uFO q=({ n with goals:=n.goals++[(uCr l line q).1] },(uCr l line q).2):=by rw [uB0,if_neg (by decide),if_neg (by decide),if_neg (by decide),if_neg (by decide),if_pos rfl]
theorem uF3 (l : List Tk) (n : Nar) (line : Int) (q : PS) {w : List UInt8} (h1 : w≠uFG) (h2 : w≠uDU) (h3 : w≠uFK) (h4 : w≠wMsg) (h5 : w≠uFO) : uB0 l n line w q=(n,q):=by rw [uB0,if_neg h1,if_neg h2,if_neg h3,if_neg h4,if_neg h5]
set_option maxHeartbeats 4000000 in
theorem uLp (l : List Tk) (p : PS) (n : Nar) (hl : l.length≤2000000) (hp : p.at'≤l.length) (hn : n.Le 2000000) :
  CtrO sysO 62 [xpp,xnn] [pbx l p,n.cells] osN (.tup []) [pbx l (uCp l n p).2,(uCp l n p).1.cells] .box:=by
 have hrl:=Tk.rows_len l
 have hr1:=uAh n.roles
 have hr2:=uAh n.tags
 have hq1:=uBo (ws:=uB7) hp
 obtain ⟨b1,b2,b3,b4,b5⟩:=hn
 obtain ⟨w,q,hw⟩ : ∃ w q,uAz l uB7 p=(w,q):=⟨_,_,rfl⟩
 have hns:=uBx l p uB7 (by omega) (by omega)
 rw [hw] at hns hq1
 dsimp only at hns hq1
 have hnl : (uBJ l q).1.length≤2000001:=by
  have h1:=uFa (uA4 l []) q
  have h2:=(uCS (uA4 l []) q).2 hq1
  unfold uBJ; omega
 have hnr:=uAh (uBJ l q).1
 have hq2 : (uBJ l q).2.at'≤l.length:=(uCS (uA4 l []) q).2 hq1
 have hq3 : (uB3 l q n.fresh).2.at'≤l.length:=(uHI l n.fresh q).2 hq1
 have hq4 : ∀ line,(uCP l line q).2.at'≤l.length:=fun line=>(uGM l line q).2 hq1
 have hq5 : ∀ line,(uCr l line q).2.at'≤l.length:=fun line=>(uGb l line q).2 hq1
 refine uDi Tryz.func62 rfl rfl rfl rfl rfl rfl rfl ?_;refine uAe (uAb ?_);refine uAa rfl rfl rfl (uAd rfl gU) ?_;refine uAf ?_;refine uAe ?_;refine uAe ?_;refine awp_drawn' (by kernel_rfl) ?_;refine uAk rfl rfl rfl rfl (uAc rfl gU) ?_;refine uAk rfl rfl rfl rfl (uAy rfl gU) ?_;refine uAk rfl rfl rfl rfl (uAg rfl gU rfl rfl) ?_;refine uAS rfl rfl rfl rfl rfl rfl rfl gU rfl rfl rfl rfl ?_;refine uAk rfl rfl rfl rfl (uAc rfl gU) ?_;refine uAk rfl rfl rfl rfl (uAy rfl gU) ?_;refine uAk rfl rfl rfl rfl (uAg rfl gU rfl rfl) ?_;refine uAS rfl rfl rfl rfl rfl rfl rfl gU rfl rfl rfl rfl ?_;refine uAk rfl rfl rfl rfl (uAY rfl gU rfl rfl) ?_;refine uAk rfl rfl rfl rfl (uAi rfl rfl gU gU rfl) ?_;refine uBf (by kernel_rfl) ?_;refine uAn (s:=⟨[(0,_,_),(1,_,_),(4,_,_),(14,_,_)],[(.o 0,_),(.o 1,_)],[(.b (.o 1) 1,_),(.b (.o 1) 2,_),(.b (.o 1) 3,_),(.b (.o 1) 4,_),(.b (.o 1) 5,_)],[]⟩) (uAj (⟨sx rfl,sx rfl,sx rfl,sx rfl,trivial⟩) (⟨sx rfl,sx rfl,trivial⟩) (⟨(ak rfl (ak rfl (ak rfl (ak rfl (ak rfl (ak rfl (ak rfl (ak rfl (ak rfl (ak rfl (rfl))))))))))),(ak rfl (ak rfl (ak rfl (ak rfl (ak rfl (ak rfl (ak rfl (ak rfl (ak rfl (ak rfl (rfl))))))))))),(ak rfl (ak rfl (ak rfl (ak rfl (ak rfl (ak rfl (ak rfl (ak rfl (ak rfl (ak rfl (rfl))))))))))),(ak rfl (ak rfl (ak rfl (ak rfl (ak rfl (ak rfl (ak rfl (ak rfl (ak rfl (ak rfl (rfl))))))))))),(ak rfl (ak rfl (ak rfl (ak rfl (ak rfl (ak rfl (ak rfl (ak rfl (ak rfl (ak rfl (rfl))))))))))),trivial⟩)) ?_
 refine uAm rfl (fun hcx=>?_) (fun hcx=>?_)
 ·try simp only [nn,uAh,T.rows_len,Tk.rows_len] at hcx
  have hline : uCJ l p=(l.getD p.at' tk0).line:=by rw [uCJ,if_pos (by omega)]
  refine awp_drawn' (by kernel_rfl) ?_;refine uAk rfl rfl rfl rfl (uAc rfl gU) ?_;refine uAk rfl rfl rfl rfl (uAy rfl gU) ?_;refine uAk rfl rfl rfl rfl (uAg rfl gU rfl rfl) ?_;refine uAS rfl rfl rfl rfl rfl rfl rfl gU rfl rfl rfl rfl ?_;refine uAk rfl rfl rfl rfl (uAc rfl gU) ?_;refine uAk rfl rfl rfl rfl (uAy rfl gU) ?_;refine uAk rfl rfl rfl rfl (uAg rfl gU rfl rfl) ?_;refine uAS rfl rfl rfl rfl rfl rfl rfl gU rfl rfl rfl rfl ?_;refine uAk rfl rfl rfl rfl (uAx (j:=p.at') rfl rfl gU gU rfl rfl (by first | omega | (simp at hh ⊢; omega)) (fun hh=>Tk.rows_at (by first | omega | (simp at hh ⊢; omega)))) ?_;refine uAk rfl rfl rfl rfl (uBb rfl gU rfl rfl) ?_;refine uAk rfl rfl rfl rfl (uAZ rfl gU rfl rfl rfl) ?_;refine uAk rfl rfl rfl rfl (uAd rfl gU) ?_;refine uBf (by kernel_rfl) ?_;refine uAn (s:=⟨[(0,_,_),(1,_,_),(4,_,_)],[(.o 0,_),(.o 1,_)],[(.b (.o 1) 1,_),(.b (.o 1) 2,_),(.b (.o 1) 3,_),(.b (.o 1) 4,_),(.b (.o 1) 5,_)],[]⟩) (uAj (⟨sx rfl,sx rfl,sx rfl,trivial⟩) (⟨sx rfl,sx rfl,trivial⟩) (⟨(ak rfl (ak rfl (ak rfl (ak rfl (ak rfl (ak rfl (ak rfl (ak rfl (ak rfl (ak rfl (ak rfl (ak rfl (rfl))))))))))))),(ak rfl (ak rfl (ak rfl (ak rfl (ak rfl (ak rfl (ak rfl (ak rfl (ak rfl (ak rfl (ak rfl (ak rfl (rfl))))))))))))),(ak rfl (ak rfl (ak rfl (ak rfl (ak rfl (ak rfl (ak rfl (ak rfl (ak rfl (ak rfl (ak rfl (ak rfl (rfl))))))))))))),(ak rfl (ak rfl (ak rfl (ak rfl (ak rfl (ak rfl (ak rfl (ak rfl (ak rfl (ak rfl (ak rfl (ak rfl (rfl))))))))))))),(ak rfl (ak rfl (ak rfl (ak rfl (ak rfl (ak rfl (ak rfl (ak rfl (ak rfl (ak rfl (ak rfl (ak rfl (rfl))))))))))))),trivial⟩)) ?_
  refine uAe ?_;refine uAe (uAb ?_);refine uAa rfl rfl rfl (uAc rfl gU) ?_;refine uAM (xs:=[_,_,_,_,_]) rfl rfl rfl rfl rfl rfl rfl rfl rfl gU rfl ?_;refine uAJ (.o 0) rfl rfl rfl rfl rfl rfl (up hns) rfl (by rfl) (by rfl) rfl rfl rfl ?_;refine uAf ?_;refine uAs ?_;refine uAe (uAb ?_);refine uAa rfl rfl rfl (uA2 rfl rfl gU gU rfl) ?_;refine uAa rfl rfl rfl (uAd rfl gU) ?_;refine uAf ?_;refine uAn (s:=⟨[(0,_,_),(1,_,_),(4,_,_),(28,_,_),(29,_,_)],[(.o 0,_),(.o 1,_)],[(.b (.o 1) 1,_),(.b (.o 1) 2,_),(.b (.o 1) 3,_),(.b (.o 1) 4,_),(.b (.o 1) 5,_)],[]⟩) (uAj (⟨sx rfl,sx rfl,sx rfl,sx rfl,sx rfl,trivial⟩) (⟨sx rfl,sx rfl,trivial⟩) (⟨rfl,rfl,rfl,rfl,rfl,trivial⟩)) ?_;refine uAm rfl (fun hcu0=>?_) (fun hcu0=>?_)
  ·try simp only [nn,uAh,T.rows_len,Tk.rows_len] at hcu0
   have hwe : w=uFG:=hcu0
   subst hwe
   refine awp_drawn' (by kernel_rfl) ?_;refine uAk rfl rfl rfl rfl (uAc rfl gU) ?_;refine uAk rfl rfl rfl rfl (uAc rfl gU) ?_;refine uAk rfl rfl rfl rfl (uAy rfl gU) ?_;refine uAk rfl rfl rfl rfl (uAg rfl gU rfl rfl) ?_;refine uBZ rfl rfl rfl rfl rfl rfl rfl rfl rfl rfl rfl rfl ?_;refine uAk rfl rfl rfl rfl (uAc rfl gU) ?_;refine uEc (.o 0) rfl rfl rfl rfl rfl rfl rfl (up (uDJ l q (by omega) hq1)) rfl (by rfl) (by rfl) rfl rfl rfl ?_;refine uBT rfl rfl rfl rfl rfl rfl rfl rfl rfl rfl rfl (by first | omega | (simp only [List.length_append,List.length_singleton,uAh]; omega)) (by first | omega | (simp only [List.length_append,List.length_singleton,uAh]; omega)) ?_;refine uAk rfl rfl rfl rfl (uAy rfl gU) ?_;refine uAk rfl rfl rfl rfl (uAg rfl gU rfl rfl) ?_;refine uB1 rfl rfl rfl rfl rfl rfl rfl rfl rfl rfl rfl rfl ?_;refine uBf (by kernel_rfl) ?_;refine uAn (s:=⟨[(0,_,_)],[(.o 0,_),(.o 1,_)],[(.b (.o 1) 1,_),(.b (.o 1) 2,_),(.b (.o 1) 3,_),(.b (.o 1) 4,_),(.b (.o 1) 5,_)],[]⟩) (uAj (⟨sx rfl,trivial⟩) (⟨sx rfl,sx rfl,trivial⟩) (⟨rfl,(ak2 rfl (ak rfl (ak rfl (ak2 rfl (ak rfl (ak rfl (ak2 rfl (ak rfl (ak rfl (ak rfl (ak rfl (rfl)))))))))))),(ak2 rfl (ak rfl (ak rfl (ak2 rfl (ak rfl (ak rfl (ak2 rfl (ak rfl (ak rfl (ak rfl (ak rfl (rfl)))))))))))),(ak2 rfl (ak rfl (ak rfl (ak2 rfl (ak rfl (ak rfl (ak2 rfl (ak rfl (ak rfl (ak rfl (ak rfl (rfl)))))))))))),(ak2 rfl (ak rfl (ak rfl (ak2 rfl (ak rfl (ak rfl (ak2 rfl (ak rfl (ak rfl (ak rfl (ak rfl (rfl)))))))))))),trivial⟩)) ?_
   refine uAb ?_;refine uAa rfl rfl rfl (uAc rfl gU) ?_;refine uAJ (.o 0) rfl rfl rfl rfl rfl rfl (up (uBc l _ _ (by omega) (le3 hl (by first | assumption | exact hq4 _ | exact hq5 _)))) rfl (by rfl) (by rfl) rfl rfl rfl ?_;refine uAf ?_;refine uBA rfl ?_ (⟨⟨_,rfl,?_⟩,⟨⟨_,rfl,?_⟩,trivial⟩⟩) (by kernel_rfl)
   all_goals first | exact (rfl : uCm []=X.tup []) | (rw [uA3 hw hline (uD9 l n (l.getD p.at' tk0).line q)]; done) | (rw [uA3 hw hline (uD9 l n (l.getD p.at' tk0).line q)]; rfl) | (rw [uA3 hw hline (uD9 l n (l.getD p.at' tk0).line q)]; simp only [Nar.cells,strR,List.map_append]; rfl)
  ·try simp only [nn,uAh,T.rows_len,Tk.rows_len] at hcu0
   have hn0 : w≠uFG:=hcu0
   refine uAe (uAb ?_);refine uAa rfl rfl rfl (uA2 rfl rfl gU gU rfl) ?_;refine uAa rfl rfl rfl (uAd rfl gU) ?_;refine uAf ?_;refine uAm rfl (fun hcu1=>?_) (fun hcu1=>?_)
   ·try simp only [nn,uAh,T.rows_len,Tk.rows_len] at hcu1
    have hwe : w=uDU:=hcu1
    subst hwe
    refine uAb ?_;refine uAa rfl rfl rfl (uAc rfl gU) ?_;refine uAa rfl rfl rfl (uAc rfl gU) ?_;refine uC5 [⟨.o 0,0,pbx l q,pbx l (uB3 l q n.fresh).2⟩,⟨.o 1,0,n.cells,({ n with fresh:=(uB3 l q n.fresh).1 } : Nar).cells⟩] osN rfl rfl rfl rfl rfl rfl (ps2 rfl rfl) rfl rfl (uFE l q n hl hq1 (by omega)) rfl rfl rfl ?_;refine uAf ?_;refine uAn (s:=⟨[(0,_,_)],[(.o 0,_),(.o 1,_)],[(.b (.o 1) 1,_),(.b (.o 1) 2,_),(.b (.o 1) 3,_),(.b (.o 1) 4,_),(.b (.o 1) 5,_)],[]⟩) (uAj (⟨sx rfl,trivial⟩) (⟨sx rfl,sx rfl,trivial⟩) (⟨rfl,rfl,rfl,rfl,rfl,trivial⟩)) ?_;refine uAb ?_;refine uAa rfl rfl rfl (uAc rfl gU) ?_;refine uAJ (.o 0) rfl rfl rfl rfl rfl rfl (up (uBc l _ _ (by omega) (le3 hl (by first | assumption | exact hq4 _ | exact hq5 _)))) rfl (by rfl) (by rfl) rfl rfl rfl ?_;refine uAf ?_;refine uBA rfl ?_ (⟨⟨_,rfl,?_⟩,⟨⟨_,rfl,?_⟩,trivial⟩⟩) (by kernel_rfl)
    all_goals first | exact (rfl : uCm []=X.tup []) | (rw [uA3 hw hline (uEk l n (l.getD p.at' tk0).line q)]; done) | (rw [uA3 hw hline (uEk l n (l.getD p.at' tk0).line q)]; rfl) | (rw [uA3 hw hline (uEk l n (l.getD p.at' tk0).line q)]; simp only [Nar.cells,strR,List.map_append]; rfl)
   ·try simp only [nn,uAh,T.rows_len,Tk.rows_len] at hcu1
    have hn1 : w≠uDU:=hcu1
    refine uAe (uAb ?_);refine uAa rfl rfl rfl (uA2 rfl rfl gU gU rfl) ?_;refine uAa rfl rfl rfl (uAd rfl gU) ?_;refine uAf ?_;refine uAm rfl (fun hcu2=>?_) (fun hcu2=>?_)
    ·try simp only [nn,uAh,T.rows_len,Tk.rows_len] at hcu2
     have hwe : w=uFK:=hcu2
     subst hwe
     refine awp_drawn' (by kernel_rfl) ?_;refine uAk rfl rfl rfl rfl (uAc rfl gU) ?_;refine uAk rfl rfl rfl rfl (uAc rfl gU) ?_;refine uAk rfl rfl rfl rfl (uAy rfl gU) ?_;refine uAk rfl rfl rfl rfl (uAg rfl gU rfl rfl) ?_;refine uBZ rfl rfl rfl rfl rfl rfl rfl rfl rfl rfl rfl rfl ?_;refine uAk rfl rfl rfl rfl (uAc rfl gU) ?_;refine uEc (.o 0) rfl rfl rfl rfl rfl rfl rfl (up (uDJ l q (by omega) hq1)) rfl (by rfl) (by rfl) rfl rfl rfl ?_;refine uBT rfl rfl rfl rfl rfl rfl rfl rfl rfl rfl rfl (by first | omega | (simp only [List.length_append,List.length_singleton,uAh]; omega)) (by first | omega | (simp only [List.length_append,List.length_singleton,uAh]; omega)) ?_;refine uAk rfl rfl rfl rfl (uAy rfl gU) ?_;refine uAk rfl rfl rfl rfl (uAg rfl gU rfl rfl) ?_;refine uB1 rfl rfl rfl rfl rfl rfl rfl rfl rfl rfl rfl rfl ?_;refine uBf (by kernel_rfl) ?_;refine uAn (s:=⟨[(0,_,_)],[(.o 0,_),(.o 1,_)],[(.b (.o 1) 1,_),(.b (.o 1) 2,_),(.b (.o 1) 3,_),(.b (.o 1) 4,_),(.b (.o 1) 5,_)],[]⟩) (uAj (⟨sx rfl,trivial⟩) (⟨sx rfl,sx rfl,trivial⟩) (⟨(ak2 rfl (ak rfl (ak rfl (ak2 rfl (ak rfl (ak rfl (ak2 rfl (ak rfl (ak rfl (ak rfl (ak rfl (rfl)))))))))))),(ak2 rfl (ak rfl (ak rfl (ak2 rfl (ak rfl (ak rfl (ak2 rfl (ak rfl (ak rfl (ak rfl (ak rfl (rfl)))))))))))),rfl,(ak2 rfl (ak rfl (ak rfl (ak2 rfl (ak rfl (ak rfl (ak2 rfl (ak rfl (ak rfl (ak rfl (ak rfl (rfl)))))))))))),(ak2 rfl (ak rfl (ak rfl (ak2 rfl (ak rfl (ak rfl (ak2 rfl (ak rfl (ak rfl (ak rfl (ak rfl (rfl)))))))))))),trivial⟩)) ?_
     refine uAb ?_;refine uAa rfl rfl rfl (uAc rfl gU) ?_;refine uAJ (.o 0) rfl rfl rfl rfl rfl rfl (up (uBc l _ _ (by omega) (le3 hl (by first | assumption | exact hq4 _ | exact hq5 _)))) rfl (by rfl) (by rfl) rfl rfl rfl ?_;refine uAf ?_;refine uBA rfl ?_ (⟨⟨_,rfl,?_⟩,⟨⟨_,rfl,?_⟩,trivial⟩⟩) (by kernel_rfl)
     all_goals first | exact (rfl : uCm []=X.tup []) | (rw [uA3 hw hline (uD7 l n (l.getD p.at' tk0).line q)]; done) | (rw [uA3 hw hline (uD7 l n (l.getD p.at' tk0).line q)]; rfl) | (rw [uA3 hw hline (uD7 l n (l.getD p.at' tk0).line q)]; simp only [Nar.cells,strR,List.map_append]; rfl)
    ·try simp only [nn,uAh,T.rows_len,Tk.rows_len] at hcu2
     have hn2 : w≠uFK:=hcu2
     refine uAe (uAb ?_);refine uAa rfl rfl rfl (uA2 rfl rfl gU gU rfl) ?_;refine uAa rfl rfl rfl (uAd rfl gU) ?_;refine uAf ?_;refine uAn (s:=⟨[(0,_,_),(1,_,_),(4,_,_),(28,_,_),(58,_,_)],[(.o 0,_),(.o 1,_)],[(.b (.o 1) 1,_),(.b (.o 1) 2,_),(.b (.o 1) 3,_),(.b (.o 1) 4,_),(.b (.o 1) 5,_)],[]⟩) (uAj (⟨sx rfl,sx rfl,sx rfl,sx rfl,sx rfl,trivial⟩) (⟨sx rfl,sx rfl,trivial⟩) (⟨rfl,rfl,rfl,rfl,rfl,trivial⟩)) ?_;refine uAm rfl (fun hcu3=>?_) (fun hcu3=>?_)
     ·try simp only [nn,uAh,T.rows_len,Tk.rows_len] at hcu3
      have hwe : w=wMsg:=hcu3
      subst hwe
      refine uAb ?_;refine uAa rfl rfl rfl (uAc rfl gU) ?_;refine uAa rfl rfl rfl (uAc rfl gU) ?_;refine uAa rfl rfl rfl (uAc rfl gU) ?_;refine uC5 [⟨.o 0,0,pbx l q,pbx l (uCP l ((l.getD p.at' tk0).line) q).2⟩,⟨.o 1,0,n.cells,({ n with steps:=n.steps++[(uCP l ((l.getD p.at' tk0).line) q).1] } : Nar).cells⟩] osN rfl rfl rfl rfl rfl rfl (ps2 rfl rfl) rfl rfl (uHl l q n ((l.getD p.at' tk0).line) hl hq1 (by omega)) rfl rfl rfl ?_;refine uAf ?_;refine uAb ?_;refine uAa rfl rfl rfl (uAc rfl gU) ?_;refine uAJ (.o 0) rfl rfl rfl rfl rfl rfl (up (uBc l _ _ (by omega) (le3 hl (by first | assumption | exact hq4 _ | exact hq5 _)))) rfl (by rfl) (by rfl) rfl rfl rfl ?_;refine uAf ?_;refine uBA rfl ?_ (⟨⟨_,rfl,?_⟩,⟨⟨_,rfl,?_⟩,trivial⟩⟩) (by kernel_rfl)
      all_goals first | exact (rfl : uCm []=X.tup []) | (rw [uA3 hw hline (uEi l n (l.getD p.at' tk0).line q)]; done) | (rw [uA3 hw hline (uEi l n (l.getD p.at' tk0).line q)]; rfl) | (rw [uA3 hw hline (uEi l n (l.getD p.at' tk0).line q)]; simp only [Nar.cells,strR,List.map_append]; rfl)
     ·try simp only [nn,uAh,T.rows_len,Tk.rows_len] at hcu3
      have hn3 : w≠wMsg:=hcu3
      refine uAe (uAb ?_);refine uAa rfl rfl rfl (uA2 rfl rfl gU gU rfl) ?_;refine uAa rfl rfl rfl (uAd rfl gU) ?_;refine uAf ?_;refine uAm rfl (fun hcu4=>?_) (fun hcu4=>?_)
      ·try simp only [nn,uAh,T.rows_len,Tk.rows_len] at hcu4
       have hwe : w=uFO:=hcu4
       subst hwe
       refine uAb ?_;refine uAa rfl rfl rfl (uAc rfl gU) ?_;refine uAa rfl rfl rfl (uAc rfl gU) ?_;refine uAa rfl rfl rfl (uAc rfl gU) ?_;refine uC5 [⟨.o 0,0,pbx l q,pbx l (uCr l ((l.getD p.at' tk0).line) q).2⟩,⟨.o 1,0,n.cells,({ n with goals:=n.goals++[(uCr l ((l.getD p.at' tk0).line) q).1] } : Nar).cells⟩] osN rfl rfl rfl rfl rfl rfl (ps2 rfl rfl) rfl rfl (uGG l q n ((l.getD p.at' tk0).line) hl hq1 (by omega)) rfl rfl rfl ?_;refine uAf ?_;refine uAn (s:=⟨[(0,_,_)],[(.o 0,_),(.o 1,_)],[(.b (.o 1) 1,_),(.b (.o 1) 2,_),(.b (.o 1) 3,_),(.b (.o 1) 4,_),(.b (.o 1) 5,_)],[]⟩) (uAj (⟨sx rfl,trivial⟩) (⟨sx rfl,sx rfl,trivial⟩) (⟨rfl,rfl,rfl,rfl,rfl,trivial⟩)) ?_;refine uAb ?_;refine uAa rfl rfl rfl (uAc rfl gU) ?_;refine uAJ (.o 0) rfl rfl rfl rfl rfl rfl (up (uBc l _ _ (by omega) (le3 hl (by first | assumption | exact hq4 _ | exact hq5 _)))) rfl (by rfl) (by rfl) rfl rfl rfl ?_;refine uAf ?_;refine uBA rfl ?_ (⟨⟨_,rfl,?_⟩,⟨⟨_,rfl,?_⟩,trivial⟩⟩) (by kernel_rfl)
       all_goals first | exact (rfl : uCm []=X.tup []) | (rw [uA3 hw hline (uEe l n (l.getD p.at' tk0).line q)]; done) | (rw [uA3 hw hline (uEe l n (l.getD p.at' tk0).line q)]; rfl) | (rw [uA3 hw hline (uEe l n (l.getD p.at' tk0).line q)]; simp only [Nar.cells,strR,List.map_append]; rfl)
      ·try simp only [nn,uAh,T.rows_len,Tk.rows_len] at hcu4
       have hn4 : w≠uFO:=hcu4
       refine uAp ?_;refine uAb ?_;refine uAa rfl rfl rfl (uAc rfl gU) ?_;refine uAJ (.o 0) rfl rfl rfl rfl rfl rfl (up (uBc l _ _ (by omega) (le3 hl (by first | assumption | exact hq4 _ | exact hq5 _)))) rfl (by rfl) (by rfl) rfl rfl rfl ?_;refine uAf ?_;refine uBA rfl ?_ (⟨⟨_,rfl,?_⟩,⟨⟨_,rfl,?_⟩,trivial⟩⟩) (by kernel_rfl)
       all_goals first | exact (rfl : uCm []=X.tup []) | (rw [uA3 hw hline (uF3 l n (l.getD p.at' tk0).line q hn0 hn1 hn2 hn3 hn4)]; done) | (rw [uA3 hw hline (uF3 l n (l.getD p.at' tk0).line q hn0 hn1 hn2 hn3 hn4)]; rfl)
 ·try simp only [nn,uAh,T.rows_len,Tk.rows_len] at hcx
  have hline : uCJ l p=0:=by rw [uCJ,if_neg (by omega)]
  refine uAp ?_;refine uAe ?_;refine uAe (uAb ?_);refine uAa rfl rfl rfl (uAc rfl gU) ?_;refine uAM (xs:=[_,_,_,_,_]) rfl rfl rfl rfl rfl rfl rfl rfl rfl gU rfl ?_;refine uAJ (.o 0) rfl rfl rfl rfl rfl rfl (up hns) rfl (by rfl) (by rfl) rfl rfl rfl ?_;refine uAf ?_;refine uAs ?_;refine uAe (uAb ?_);refine uAa rfl rfl rfl (uA2 rfl rfl gU gU rfl) ?_;refine uAa rfl rfl rfl (uAd rfl gU) ?_;refine uAf ?_;refine uAn (s:=⟨[(0,_,_),(1,_,_),(4,_,_),(28,_,_),(29,_,_)],[(.o 0,_),(.o 1,_)],[(.b (.o 1) 1,_),(.b (.o 1) 2,_),(.b (.o 1) 3,_),(.b (.o 1) 4,_),(.b (.o 1) 5,_)],[]⟩) (uAj (⟨sx rfl,sx rfl,sx rfl,sx rfl,sx rfl,trivial⟩) (⟨sx rfl,sx rfl,trivial⟩) (⟨rfl,rfl,rfl,rfl,rfl,trivial⟩)) ?_;refine uAm rfl (fun hcv0=>?_) (fun hcv0=>?_)
  ·try simp only [nn,uAh,T.rows_len,Tk.rows_len] at hcv0
   have hwe : w=uFG:=hcv0
   subst hwe
   refine awp_drawn' (by kernel_rfl) ?_;refine uAk rfl rfl rfl rfl (uAc rfl gU) ?_;refine uAk rfl rfl rfl rfl (uAc rfl gU) ?_;refine uAk rfl rfl rfl rfl (uAy rfl gU) ?_;refine uAk rfl rfl rfl rfl (uAg rfl gU rfl rfl) ?_;refine uBZ rfl rfl rfl rfl rfl rfl rfl rfl rfl rfl rfl rfl ?_;refine uAk rfl rfl rfl rfl (uAc rfl gU) ?_;refine uEc (.o 0) rfl rfl rfl rfl rfl rfl rfl (up (uDJ l q (by omega) hq1)) rfl (by rfl) (by rfl) rfl rfl rfl ?_;refine uBT rfl rfl rfl rfl rfl rfl rfl rfl rfl rfl rfl (by first | omega | (simp only [List.length_append,List.length_singleton,uAh]; omega)) (by first | omega | (simp only [List.length_append,List.length_singleton,uAh]; omega)) ?_;refine uAk rfl rfl rfl rfl (uAy rfl gU) ?_;refine uAk rfl rfl rfl rfl (uAg rfl gU rfl rfl) ?_;refine uB1 rfl rfl rfl rfl rfl rfl rfl rfl rfl rfl rfl rfl ?_;refine uBf (by kernel_rfl) ?_;refine uAn (s:=⟨[(0,_,_)],[(.o 0,_),(.o 1,_)],[(.b (.o 1) 1,_),(.b (.o 1) 2,_),(.b (.o 1) 3,_),(.b (.o 1) 4,_),(.b (.o 1) 5,_)],[]⟩) (uAj (⟨sx rfl,trivial⟩) (⟨sx rfl,sx rfl,trivial⟩) (⟨rfl,(ak2 rfl (ak rfl (ak rfl (ak2 rfl (ak rfl (ak rfl (ak2 rfl (ak rfl (ak rfl (ak rfl (ak rfl (rfl)))))))))))),(ak2 rfl (ak rfl (ak rfl (ak2 rfl (ak rfl (ak rfl (ak2 rfl (ak rfl (ak rfl (ak rfl (ak rfl (rfl)))))))))))),(ak2 rfl (ak rfl (ak rfl (ak2 rfl (ak rfl (ak rfl (ak2 rfl (ak rfl (ak rfl (ak rfl (ak rfl (rfl)))))))))))),(ak2 rfl (ak rfl (ak rfl (ak2 rfl (ak rfl (ak rfl (ak2 rfl (ak rfl (ak rfl (ak rfl (ak rfl (rfl)))))))))))),trivial⟩)) ?_
   refine uAb ?_;refine uAa rfl rfl rfl (uAc rfl gU) ?_;refine uAJ (.o 0) rfl rfl rfl rfl rfl rfl (up (uBc l _ _ (by omega) (le3 hl (by first | assumption | exact hq4 _ | exact hq5 _)))) rfl (by rfl) (by rfl) rfl rfl rfl ?_;refine uAf ?_;refine uBA rfl ?_ (⟨⟨_,rfl,?_⟩,⟨⟨_,rfl,?_⟩,trivial⟩⟩) (by kernel_rfl)
   all_goals first | exact (rfl : uCm []=X.tup []) | (rw [uA3 hw hline (uD9 l n 0 q)]; done) | (rw [uA3 hw hline (uD9 l n 0 q)]; rfl) | (rw [uA3 hw hline (uD9 l n 0 q)]; simp only [Nar.cells,strR,List.map_append]; rfl)
  ·try simp only [nn,uAh,T.rows_len,Tk.rows_len] at hcv0
   have hn0 : w≠uFG:=hcv0
   refine uAe (uAb ?_);refine uAa rfl rfl rfl (uA2 rfl rfl gU gU rfl) ?_;refine uAa rfl rfl rfl (uAd rfl gU) ?_;refine uAf ?_;refine uAm rfl (fun hcv1=>?_) (fun hcv1=>?_)
   ·try simp only [nn,uAh,T.rows_len,Tk.rows_len] at hcv1
    have hwe : w=uDU:=hcv1
    subst hwe
    refine uAb ?_;refine uAa rfl rfl rfl (uAc rfl gU) ?_;refine uAa rfl rfl rfl (uAc rfl gU) ?_;refine uC5 [⟨.o 0,0,pbx l q,pbx l (uB3 l q n.fresh).2⟩,⟨.o 1,0,n.cells,({ n with fresh:=(uB3 l q n.fresh).1 } : Nar).cells⟩] osN rfl rfl rfl rfl rfl rfl (ps2 rfl rfl) rfl rfl (uFE l q n hl hq1 (by omega)) rfl rfl rfl ?_;refine uAf ?_;refine uAn (s:=⟨[(0,_,_)],[(.o 0,_),(.o 1,_)],[(.b (.o 1) 1,_),(.b (.o 1) 2,_),(.b (.o 1) 3,_),(.b (.o 1) 4,_),(.b (.o 1) 5,_)],[]⟩) (uAj (⟨sx rfl,trivial⟩) (⟨sx rfl,sx rfl,trivial⟩) (⟨rfl,rfl,rfl,rfl,rfl,trivial⟩)) ?_;refine uAb ?_;refine uAa rfl rfl rfl (uAc rfl gU) ?_;refine uAJ (.o 0) rfl rfl rfl rfl rfl rfl (up (uBc l _ _ (by omega) (le3 hl (by first | assumption | exact hq4 _ | exact hq5 _)))) rfl (by rfl) (by rfl) rfl rfl rfl ?_;refine uAf ?_;refine uBA rfl ?_ (⟨⟨_,rfl,?_⟩,⟨⟨_,rfl,?_⟩,trivial⟩⟩) (by kernel_rfl)
    all_goals first | exact (rfl : uCm []=X.tup []) | (rw [uA3 hw hline (uEk l n 0 q)]; done) | (rw [uA3 hw hline (uEk l n 0 q)]; rfl) | (rw [uA3 hw hline (uEk l n 0 q)]; simp only [Nar.cells,strR,List.map_append]; rfl)
   ·try simp only [nn,uAh,T.rows_len,Tk.rows_len] at hcv1
    have hn1 : w≠uDU:=hcv1
    refine uAe (uAb ?_);refine uAa rfl rfl rfl (uA2 rfl rfl gU gU rfl) ?_;refine uAa rfl rfl rfl (uAd rfl gU) ?_;refine uAf ?_;refine uAm rfl (fun hcv2=>?_) (fun hcv2=>?_)
    ·try simp only [nn,uAh,T.rows_len,Tk.rows_len] at hcv2
     have hwe : w=uFK:=hcv2
     subst hwe
     refine awp_drawn' (by kernel_rfl) ?_;refine uAk rfl rfl rfl rfl (uAc rfl gU) ?_;refine uAk rfl rfl rfl rfl (uAc rfl gU) ?_;refine uAk rfl rfl rfl rfl (uAy rfl gU) ?_;refine uAk rfl rfl rfl rfl (uAg rfl gU rfl rfl) ?_;refine uBZ rfl rfl rfl rfl rfl rfl rfl rfl rfl rfl rfl rfl ?_;refine uAk rfl rfl rfl rfl (uAc rfl gU) ?_;refine uEc (.o 0) rfl rfl rfl rfl rfl rfl rfl (up (uDJ l q (by omega) hq1)) rfl (by rfl) (by rfl) rfl rfl rfl ?_;refine uBT rfl rfl rfl rfl rfl rfl rfl rfl rfl rfl rfl (by first | omega | (simp only [List.length_append,List.length_singleton,uAh]; omega)) (by first | omega | (simp only [List.length_append,List.length_singleton,uAh]; omega)) ?_;refine uAk rfl rfl rfl rfl (uAy rfl gU) ?_;refine uAk rfl rfl rfl rfl (uAg rfl gU rfl rfl) ?_;refine uB1 rfl rfl rfl rfl rfl rfl rfl rfl rfl rfl rfl rfl ?_;refine uBf (by kernel_rfl) ?_;refine uAn (s:=⟨[(0,_,_)],[(.o 0,_),(.o 1,_)],[(.b (.o 1) 1,_),(.b (.o 1) 2,_),(.b (.o 1) 3,_),(.b (.o 1) 4,_),(.b (.o 1) 5,_)],[]⟩) (uAj (⟨sx rfl,trivial⟩) (⟨sx rfl,sx rfl,trivial⟩) (⟨(ak2 rfl (ak rfl (ak rfl (ak2 rfl (ak rfl (ak rfl (ak2 rfl (ak rfl (ak rfl (ak rfl (ak rfl (rfl)))))))))))),(ak2 rfl (ak rfl (ak rfl (ak2 rfl (ak rfl (ak rfl (ak2 rfl (ak rfl (ak rfl (ak rfl (ak rfl (rfl)))))))))))),rfl,(ak2 rfl (ak rfl (ak rfl (ak2 rfl (ak rfl (ak rfl (ak2 rfl (ak rfl (ak rfl (ak rfl (ak rfl (rfl)))))))))))),(ak2 rfl (ak rfl (ak rfl (ak2 rfl (ak rfl (ak rfl (ak2 rfl (ak rfl (ak rfl (ak rfl (ak rfl (rfl)))))))))))),trivial⟩)) ?_
     refine uAb ?_;refine uAa rfl rfl rfl (uAc rfl gU) ?_;refine uAJ (.o 0) rfl rfl rfl rfl rfl rfl (up (uBc l _ _ (by omega) (le3 hl (by first | assumption | exact hq4 _ | exact hq5 _)))) rfl (by rfl) (by rfl) rfl rfl rfl ?_;refine uAf ?_;refine uBA rfl ?_ (⟨⟨_,rfl,?_⟩,⟨⟨_,rfl,?_⟩,trivial⟩⟩) (by kernel_rfl)
     all_goals first | exact (rfl : uCm []=X.tup []) | (rw [uA3 hw hline (uD7 l n 0 q)]; done) | (rw [uA3 hw hline (uD7 l n 0 q)]; rfl) | (rw [uA3 hw hline (uD7 l n 0 q)]; simp only [Nar.cells,strR,List.map_append]; rfl)
    ·try simp only [nn,uAh,T.rows_len,Tk.rows_len] at hcv2
     have hn2 : w≠uFK:=hcv2
     refine uAe (uAb ?_);refine uAa rfl rfl rfl (uA2 rfl rfl gU gU rfl) ?_;refine uAa rfl rfl rfl (uAd rfl gU) ?_;refine uAf ?_;refine uAn (s:=⟨[(0,_,_),(1,_,_),(4,_,_),(28,_,_),(58,_,_)],[(.o 0,_),(.o 1,_)],[(.b (.o 1) 1,_),(.b (.o 1) 2,_),(.b (.o 1) 3,_),(.b (.o 1) 4,_),(.b (.o 1) 5,_)],[]⟩) (uAj (⟨sx rfl,sx rfl,sx rfl,sx rfl,sx rfl,trivial⟩) (⟨sx rfl,sx rfl,trivial⟩) (⟨rfl,rfl,rfl,rfl,rfl,trivial⟩)) ?_;refine uAm rfl (fun hcv3=>?_) (fun hcv3=>?_)
     ·try simp only [nn,uAh,T.rows_len,Tk.rows_len] at hcv3
      have hwe : w=wMsg:=hcv3
      subst hwe
      refine uAb ?_;refine uAa rfl rfl rfl (uAc rfl gU) ?_;refine uAa rfl rfl rfl (uAc rfl gU) ?_;refine uAa rfl rfl rfl (uAc rfl gU) ?_;refine uC5 [⟨.o 0,0,pbx l q,pbx l (uCP l (0) q).2⟩,⟨.o 1,0,n.cells,({ n with steps:=n.steps++[(uCP l (0) q).1] } : Nar).cells⟩] osN rfl rfl rfl rfl rfl rfl (ps2 rfl rfl) rfl rfl (uHl l q n (0) hl hq1 (by omega)) rfl rfl rfl ?_;refine uAf ?_;refine uAb ?_;refine uAa rfl rfl rfl (uAc rfl gU) ?_;refine uAJ (.o 0) rfl rfl rfl rfl rfl rfl (up (uBc l _ _ (by omega) (le3 hl (by first | assumption | exact hq4 _ | exact hq5 _)))) rfl (by rfl) (by rfl) rfl rfl rfl ?_;refine uAf ?_;refine uBA rfl ?_ (⟨⟨_,rfl,?_⟩,⟨⟨_,rfl,?_⟩,trivial⟩⟩) (by kernel_rfl)
      all_goals first | exact (rfl : uCm []=X.tup []) | (rw [uA3 hw hline (uEi l n 0 q)]; done) | (rw [uA3 hw hline (uEi l n 0 q)]; rfl) | (rw [uA3 hw hline (uEi l n 0 q)]; simp only [Nar.cells,strR,List.map_append]; rfl)
     ·try simp only [nn,uAh,T.rows_len,Tk.rows_len] at hcv3
      have hn3 : w≠wMsg:=hcv3
      refine uAe (uAb ?_);refine uAa rfl rfl rfl (uA2 rfl rfl gU gU rfl) ?_;refine uAa rfl rfl rfl (uAd rfl gU) ?_;refine uAf ?_;refine uAm rfl (fun hcv4=>?_) (fun hcv4=>?_)
      ·try simp only [nn,uAh,T.rows_len,Tk.rows_len] at hcv4
       have hwe : w=uFO:=hcv4
       subst hwe
       refine uAb ?_;refine uAa rfl rfl rfl (uAc rfl gU) ?_;refine uAa rfl rfl rfl (uAc rfl gU) ?_;refine uAa rfl rfl rfl (uAc rfl gU) ?_;refine uC5 [⟨.o 0,0,pbx l q,pbx l (uCr l (0) q).2⟩,⟨.o 1,0,n.cells,({ n with goals:=n.goals++[(uCr l (0) q).1] } : Nar).cells⟩] osN rfl rfl rfl rfl rfl rfl (ps2 rfl rfl) rfl rfl (uGG l q n (0) hl hq1 (by omega)) rfl rfl rfl ?_;refine uAf ?_;refine uAn (s:=⟨[(0,_,_)],[(.o 0,_),(.o 1,_)],[(.b (.o 1) 1,_),(.b (.o 1) 2,_),(.b (.o 1) 3,_),(.b (.o 1) 4,_),(.b (.o 1) 5,_)],[]⟩) (uAj (⟨sx rfl,trivial⟩) (⟨sx rfl,sx rfl,trivial⟩) (⟨rfl,rfl,rfl,rfl,rfl,trivial⟩)) ?_;refine uAb ?_;refine uAa rfl rfl rfl (uAc rfl gU) ?_;refine uAJ (.o 0) rfl rfl rfl rfl rfl rfl (up (uBc l _ _ (by omega) (le3 hl (by first | assumption | exact hq4 _ | exact hq5 _)))) rfl (by rfl) (by rfl) rfl rfl rfl ?_;refine uAf ?_;refine uBA rfl ?_ (⟨⟨_,rfl,?_⟩,⟨⟨_,rfl,?_⟩,trivial⟩⟩) (by kernel_rfl)
       all_goals first | exact (rfl : uCm []=X.tup []) | (rw [uA3 hw hline (uEe l n 0 q)]; done) | (rw [uA3 hw hline (uEe l n 0 q)]; rfl) | (rw [uA3 hw hline (uEe l n 0 q)]; simp only [Nar.cells,strR,List.map_append]; rfl)
      ·try simp only [nn,uAh,T.rows_len,Tk.rows_len] at hcv4
       have hn4 : w≠uFO:=hcv4
       refine uAp ?_;refine uAb ?_;refine uAa rfl rfl rfl (uAc rfl gU) ?_;refine uAJ (.o 0) rfl rfl rfl rfl rfl rfl (up (uBc l _ _ (by omega) (le3 hl (by first | assumption | exact hq4 _ | exact hq5 _)))) rfl (by rfl) (by rfl) rfl rfl rfl ?_;refine uAf ?_;refine uBA rfl ?_ (⟨⟨_,rfl,?_⟩,⟨⟨_,rfl,?_⟩,trivial⟩⟩) (by kernel_rfl)
       all_goals first | exact (rfl : uCm []=X.tup []) | (rw [uA3 hw hline (uF3 l n 0 q hn0 hn1 hn2 hn3 hn4)]; done) | (rw [uA3 hw hline (uF3 l n 0 q hn0 hn1 hn2 hn3 hn4)]; rfl)
end Go.Proofs.YtnjjdbapadkomaaGreatDoor
namespace Go.Proofs.YtnjjdbapadkomaaGreatDoor
open Go Go.Abs
def t0T : T:=⟨0,[],0,[]⟩
abbrev xtie (r : T × Int × Int) : X:=.tup [.agg r.1.cells, .c (.i .i64 r.2.1), .c (.i .i64 r.2.2)]
def uHp (s : List UInt8) : T × Int × Int :=
 if (tokP s).2.2≠0 then (t0T,(tokP s).2.1,(tokP s).2.2)
 else if (endE (tokP s).1 (uAT (tokP s).1 ((tokP s).1.length + 1) ⟨0,false⟩).2).2≠0 then (t0T,(endE (tokP s).1 (uAT (tokP s).1 ((tokP s).1.length + 1) ⟨0,false⟩).2).1,(endE (tokP s).1 (uAT (tokP s).1 ((tokP s).1.length + 1) ⟨0,false⟩).2).2)
 else if uDb uAH (uAT (tokP s).1 ((tokP s).1.length + 1) ⟨0,false⟩).1≠0 then (t0T,0,uDb uAH (uAT (tokP s).1 ((tokP s).1.length + 1) ⟨0,false⟩).1)
 else ((uAT (tokP s).1 ((tokP s).1.length + 1) ⟨0,false⟩).1,0,0)
theorem uLr (s : List UInt8) (hs : s.length≤100000) : Ctr sys 18 [xs s] [] (xtie (uHp s)) none []:=by
 have hcnt:=uGT s
 have htl:=Tk.rows_len (tokP s).1
 have hsz:=uDr (tokP s).1 ((tokP s).1.length + 1) ⟨0,false⟩
 have hat:=(uCs (tokP s).1 ((tokP s).1.length + 1) ⟨0,false⟩).2 (Nat.zero_le _)
 dsimp only at hsz
 refine uAw Tryz.func18 rfl rfl rfl rfl rfl rfl ?_;refine uAe (uAb ?_);refine uAu rfl (uAQ rfl rfl rfl) ?_;refine uAa rfl rfl rfl (uAd rfl gU) ?_;refine uAa rfl rfl rfl (uAd rfl gU) ?_;refine uAf ?_;refine uAe (uAb ?_);refine uAa rfl rfl rfl (uAc rfl gU) ?_;refine uAv rfl rfl rfl rfl rfl rfl gU gU (uFx _ (by omega)) rfl ?_;refine uAa rfl rfl rfl (uAc rfl gU) ?_;refine uAa rfl rfl rfl (uAK rfl gU rfl) ?_;refine uAa rfl rfl rfl (uAK rfl gU rfl) ?_;refine uAa rfl rfl rfl (uAK rfl gU rfl) ?_;refine uAa rfl rfl rfl (uAd rfl gU) ?_;refine uAa rfl rfl rfl (uAd rfl gU) ?_;refine uAa rfl rfl rfl (uAd rfl gU) ?_;refine uAf ?_;refine uAn (s:=⟨[(2,_,_),(5,_,_),(6,_,_),(7,_,_)],[(.l 2,_)],[],[]⟩) (uAj (⟨sx rfl,sx rfl,sx rfl,sx rfl,trivial⟩) (⟨sx rfl,trivial⟩) trivial) ?_;refine uAe ?_;refine uAe (uAb ?_);refine uAa rfl rfl rfl (uAc rfl gU) ?_;refine uAa rfl rfl rfl (uAi rfl rfl gU gU rfl) ?_;refine uAf ?_;refine uAm rfl (fun hc=>?_) (fun hc=>?_)
 ·try simp only [nn,uAh,T.rows_len,Tk.rows_len] at hc
  refine uAe (uAb ?_);refine uAa rfl rfl rfl (uAV rfl Tryz.underlying39 rfl gU) ?_;refine uAa rfl rfl rfl (uAc rfl gU) ?_;refine uAa rfl rfl rfl (uAc rfl gU) ?_;refine uAu rfl (uAA rfl rfl rfl rfl rfl rfl rfl) ?_;refine uAa rfl rfl rfl (uAd rfl gU) ?_;refine uAa rfl rfl rfl (uAd rfl gU) ?_;refine uAf ?_;refine uAo ?_
  repeat (first | refine tR ?_ | refine bR ?_)
  refine uAq rfl ?_ trivial
  (rw [uHp,if_pos hc]; rfl)
 ·try simp only [nn,uAh,T.rows_len,Tk.rows_len] at hc
  refine uAp ?_;refine uAe (uAb ?_);refine uAa rfl rfl rfl (uAc rfl gU) ?_;refine uAa rfl rfl rfl (uAV rfl Tryz.underlying86 rfl gU) ?_;refine uAu rfl (uAR rfl rfl rfl rfl) ?_;refine uAa rfl rfl rfl (uAd rfl gU) ?_;refine uAf ?_;refine uAn (s:=⟨[(2,_,_),(8,_,_)],[(.l 2,_),(.l 26,_)],[],[]⟩) (uAj (⟨sx rfl,sx rfl,trivial⟩) (⟨sx rfl,sx rfl,trivial⟩) trivial) ?_;refine uAe (uAb ?_);refine uAa rfl rfl rfl (uAc rfl gU) ?_;refine uAJ (.l 26) rfl rfl rfl rfl rfl rfl (uFp (tokP s).1 (by omega) ((tokP s).1.length + 1) ⟨0,false⟩ (Nat.zero_le _) (by dsimp only; omega)) rfl (by rfl) (by rfl) rfl rfl rfl ?_;refine uAu rfl (uAQ rfl rfl rfl) ?_;refine uAu rfl (uAA rfl rfl rfl rfl rfl rfl rfl) ?_;refine uAf ?_;refine uAe ?_;refine uAe (uAb ?_);refine uAa rfl rfl rfl (uAc rfl gU) ?_;refine uAJ (.l 26) rfl rfl rfl rfl rfl rfl (uFg _ _ (by omega)) rfl (by rfl) (by rfl) rfl rfl rfl ?_;refine uAa rfl rfl rfl (uAc rfl gU) ?_;refine uAa rfl rfl rfl (uAK rfl gU rfl) ?_;refine uAa rfl rfl rfl (uAK rfl gU rfl) ?_;refine uAa rfl rfl rfl (uAd rfl gU) ?_;refine uAa rfl rfl rfl (uAd rfl gU) ?_;refine uAf ?_;refine uAn (s:=⟨[(2,_,_),(9,_,_),(10,_,_),(11,_,_)],[(.l 2,_),(.l 9,_)],[],[]⟩) (uAj (⟨sx rfl,sx rfl,sx rfl,sx rfl,trivial⟩) (⟨sx rfl,sx rfl,trivial⟩) trivial) ?_
  refine uAe (uAb ?_);refine uAa rfl rfl rfl (uAc rfl gU) ?_;refine uAa rfl rfl rfl (uAi rfl rfl gU gU rfl) ?_;refine uAf ?_;refine uAm rfl (fun hc2=>?_) (fun hc2=>?_)
  ·try simp only [nn,uAh,T.rows_len,Tk.rows_len] at hc2
   refine uAe (uAb ?_);refine uAa rfl rfl rfl (uAV rfl Tryz.underlying39 rfl gU) ?_;refine uAa rfl rfl rfl (uAc rfl gU) ?_;refine uAa rfl rfl rfl (uAc rfl gU) ?_;refine uAu rfl (uAA rfl rfl rfl rfl rfl rfl rfl) ?_;refine uAa rfl rfl rfl (uAd rfl gU) ?_;refine uAa rfl rfl rfl (uAd rfl gU) ?_;refine uAf ?_;refine uAo ?_
   repeat (first | refine tR ?_ | refine bR ?_)
   refine uAq rfl ?_ trivial
   (rw [uHp,if_neg (by simpa using hc),if_pos hc2]; rfl)
  ·try simp only [nn,uAh,T.rows_len,Tk.rows_len] at hc2
   refine uAp ?_;refine uAe ?_;refine uAe (uAb ?_);refine uAa rfl rfl rfl (uAt rfl gU rfl rfl rfl rfl rfl) ?_;refine uAv rfl rfl rfl rfl rfl rfl gU gU (uDs _ (by omega)) rfl ?_;refine uAa rfl rfl rfl (uAd rfl gU) ?_;refine uAf ?_;refine uAn (s:=⟨[(2,_,_),(9,_,_),(12,_,_)],[(.l 2,_),(.l 9,_)],[],[]⟩) (uAj (⟨sx rfl,sx rfl,sx rfl,trivial⟩) (⟨sx rfl,sx rfl,trivial⟩) trivial) ?_;refine uAe (uAb ?_);refine uAa rfl rfl rfl (uAc rfl gU) ?_;refine uAa rfl rfl rfl (uAi rfl rfl gU gU rfl) ?_;refine uAf ?_;refine uAm rfl (fun hc3=>?_) (fun hc3=>?_)
   ·try simp only [nn,uAh,T.rows_len,Tk.rows_len] at hc3
    refine uAe (uAb ?_);refine uAa rfl rfl rfl (uAV rfl Tryz.underlying39 rfl gU) ?_;refine uAa rfl rfl rfl (uAc rfl gU) ?_;refine uAu rfl (uAA rfl rfl rfl rfl rfl rfl rfl) ?_;refine uAa rfl rfl rfl (uAd rfl gU) ?_;refine uAa rfl rfl rfl (uAd rfl gU) ?_;refine uAf ?_;refine uAo ?_
    repeat (first | refine tR ?_ | refine bR ?_)
    refine uAq rfl ?_ trivial
    (rw [uHp,if_neg (by simpa using hc),if_neg (by simpa using hc2),if_pos hc3]; rfl)
   ·try simp only [nn,uAh,T.rows_len,Tk.rows_len] at hc3
    refine uAp ?_;refine uAe (uAb ?_);refine uAa rfl rfl rfl (uAt rfl gU rfl rfl rfl rfl rfl) ?_;refine uAu rfl (uAA rfl rfl rfl rfl rfl rfl rfl) ?_;refine uAa rfl rfl rfl (uAd rfl gU) ?_;refine uAa rfl rfl rfl (uAd rfl gU) ?_;refine uAf ?_;refine uAo ?_
    repeat (first | refine tR ?_ | refine bR ?_)
    refine uAq rfl ?_ trivial
    (rw [uHp,if_neg (by simpa using hc),if_neg (by simpa using hc2),if_neg (by simpa using hc3)]; rfl)
abbrev xnie (r : Nar × Int × Int) : X:=.tup [.agg r.1.cells, .c (.i .i64 r.2.1), .c (.i .i64 r.2.2)]
def uDO (l : List Tk) : Nar × Int × Int :=
 if (endE l (uDX l).2).2≠0 then (nar0,(endE l (uDX l).2).1,(endE l (uDX l).2).2)
 else if narE uAH (uDX l).1≠0 then (nar0,0,narE uAH (uDX l).1)
 else ((uDX l).1,0,0)
def uFn (s : List UInt8) : Nar × Int × Int:=if (tokP s).2.2≠0 then (nar0,(tokP s).2.1,(tokP s).2.2) else uDO (tokP s).1
theorem uJy {l : List Tk} {m : Nat} {n : Nar} {p : PS} (h : p.bad=true) : uDl l m n p=(n,p):=by
 cases m with
 | zero=>rfl
 | succ m=>rw [uDl,if_pos h]
theorem uIB {l : List Tk} {m : Nat} {n : Nar} {p : PS} (h : p.bad=false) (hq : symQ l p [125]=true) : uDl l (m + 1) n p=(n,p.go):=by
 rw [uDl,if_neg (by rw [h]; simp),if_pos hq]
theorem uKJ {l : List Tk} {m : Nat} {n : Nar} {p : PS} (h : p.bad=false) (hq : symQ l p [125]=false) : uDl l (m + 1) n p=uDl l m (uCp l n p).1 (uCp l n p).2:=by
 rw [uDl,if_neg (by rw [h]; simp),if_neg (by rw [hq]; simp)]
theorem uLA (l : List Tk) (n : Nar) (p : PS) : p.at'≤(uCp l n p).2.at':=Nat.le_trans (uA4 l uB7 p).1 (Nat.le_trans (uGD l n (uCJ l p) (uAz l uB7 p).1 (uAz l uB7 p).2).1 (uBq l [59] _).1)
theorem uKp {l : List Tk} {n : Nar} {p : PS} (h : (n,p)=uDX l) (he : (endE l p).2≠0) : uDO l=(nar0,(endE l p).1,(endE l p).2):=by
 unfold uDO; rw [← h,if_pos he]
theorem uKg {l : List Tk} {n : Nar} {p : PS} (h : (n,p)=uDX l) (he : (endE l p).2=0) (hv : narE uAH n≠0) : uDO l=(nar0,0,narE uAH n):=by
 unfold uDO; rw [← h,if_neg (by simpa using he),if_pos hv]
theorem uKn {l : List Tk} {n : Nar} {p : PS} (h : (n,p)=uDX l) (he : (endE l p).2=0) (hv : narE uAH n=0) : uDO l=(n,0,0):=by
 unfold uDO; rw [← h,if_neg (by simpa using he),if_neg (by simpa using hv)]
set_option maxHeartbeats 4000000 in
theorem uI4 (s : List UInt8) (hs : s.length≤100000) : Ctr sysO 16 [xs s] [] (xnie (uFn s)) none []:=by
 have hcnt:=uGT s
 have htl:=Tk.rows_len (tokP s).1
 obtain ⟨l,hl⟩ : ∃ l,(tokP s).1=l:=⟨_,rfl⟩
 have hll : l.length≤100000:=by rw [← hl]; omega
 have a1:=(uA4 l [uFL] ⟨0,false⟩).2 (Nat.zero_le _)
 have a2:=(uA4 l [] (uAz l [uFL] ⟨0,false⟩).2).2 a1
 have a3:=(uBq l [123] (uAz l [] (uAz l [uFL] ⟨0,false⟩).2).2).2 a2
 have hn1:=uBx l ⟨0,false⟩ [uFL] (by omega) (by dsimp only; omega)
 have hn2:=uBx l (uAz l [uFL] ⟨0,false⟩).2 [] (by omega) (by omega)
 refine uAw Tryz.func16 rfl rfl rfl rfl rfl rfl ?_;refine uAe (uAb ?_);refine uAu rfl (uAQ rfl rfl rfl) ?_;refine uAa rfl rfl rfl (uAd rfl gU) ?_;refine uAa rfl rfl rfl (uAd rfl gU) ?_;refine uAf ?_;refine uAe (uAb ?_);refine uAa rfl rfl rfl (uAc rfl gU) ?_;refine uAv rfl rfl rfl rfl rfl rfl gU gU (up (uFx _ (by omega))) rfl ?_;refine uAa rfl rfl rfl (uAc rfl gU) ?_;refine uAa rfl rfl rfl (uAK rfl gU rfl) ?_;refine uAa rfl rfl rfl (uAK rfl gU rfl) ?_;refine uAa rfl rfl rfl (uAK rfl gU rfl) ?_;refine uAa rfl rfl rfl (uAd rfl gU) ?_;refine uAa rfl rfl rfl (uAd rfl gU) ?_;refine uAa rfl rfl rfl (uAd rfl gU) ?_;refine uAf ?_;refine uAn (s:=⟨[(2,_,_),(5,_,_),(6,_,_),(7,_,_)],[(.l 2,_)],[],[]⟩) (uAj (⟨sx rfl,sx rfl,sx rfl,sx rfl,trivial⟩) (⟨sx rfl,trivial⟩) trivial) ?_;refine uAe ?_;refine uAe (uAb ?_);refine uAa rfl rfl rfl (uAc rfl gU) ?_;refine uAa rfl rfl rfl (uAi rfl rfl gU gU rfl) ?_;refine uAf ?_;refine uAm rfl (fun hc=>?_) (fun hc=>?_)
 ·try simp only [nn,uAh,T.rows_len,Tk.rows_len] at hc
  refine uAe (uAb ?_);refine uAa rfl rfl rfl (uAV rfl Tryz.underlying27 rfl gU) ?_;refine uAa rfl rfl rfl (uAc rfl gU) ?_;refine uAa rfl rfl rfl (uAc rfl gU) ?_;refine uAu rfl (uAA rfl rfl rfl rfl rfl rfl rfl) ?_;refine uAa rfl rfl rfl (uAd rfl gU) ?_;refine uAa rfl rfl rfl (uAd rfl gU) ?_;refine uAf ?_;refine uAo ?_
  repeat (first | refine tR ?_ | refine bR ?_)
  refine uAq rfl ?_ trivial
  (rw [uFn,if_pos hc]; rfl)
 ·try simp only [nn,uAh,T.rows_len,Tk.rows_len] at hc
  have hpe : uFn s=uDO l:=by rw [uFn,if_neg (by simpa using hc),hl]
  rw [hpe]
  rw [hl]
  refine uAp ?_;refine uAe (uAb ?_);refine uAa rfl rfl rfl (uAc rfl gU) ?_;refine uAa rfl rfl rfl (uAV rfl Tryz.underlying86 rfl gU) ?_;refine uAu rfl (uAR rfl rfl rfl rfl) ?_;refine uAa rfl rfl rfl (uAd rfl gU) ?_;refine uAf ?_;refine uAn (s:=⟨[(2,_,_),(8,_,_)],[(.l 2,_),(.l 26,_)],[],[]⟩) (uAj (⟨sx rfl,sx rfl,trivial⟩) (⟨sx rfl,sx rfl,trivial⟩) trivial) ?_;refine uAe (uAb ?_);refine uAu rfl (uJi rfl rfl rfl rfl) ?_;refine uAf ?_;refine uAe (uAb ?_);refine uAa rfl rfl rfl (uAc rfl gU) ?_;refine uAM (xs:=[_]) rfl rfl rfl rfl rfl rfl rfl rfl rfl gU rfl ?_;refine uAJ (.l 26) rfl rfl rfl rfl rfl rfl (up hn1) rfl (by rfl) (by rfl) rfl rfl rfl ?_;refine uAf ?_;refine uAe (uAb ?_);refine uAa rfl rfl rfl (uAc rfl gU) ?_;refine uAJ (.l 26) rfl rfl rfl rfl rfl rfl (up hn2) rfl (by rfl) (by rfl) rfl rfl rfl ?_;refine uAa rfl rfl rfl (uAg rfl gU rfl rfl) ?_;refine uAu rfl (uAA rfl rfl rfl rfl rfl rfl rfl) ?_;refine uAf ?_;refine uAn (s:=⟨[(2,_,_),(8,_,_),(9,_,_)],[(.l 2,_),(.l 26,_),(.l 9,_)],[],[]⟩) (uAj (⟨sx rfl,sx rfl,sx rfl,trivial⟩) (⟨sx rfl,sx rfl,sx rfl,trivial⟩) trivial) ?_;refine uAe (uAb ?_);refine uAa rfl rfl rfl (uAc rfl gU) ?_;refine uAJ (.l 26) rfl rfl rfl rfl rfl rfl (up (uBc l _ _ (by omega) (by omega))) rfl (by rfl) (by rfl) rfl rfl rfl ?_
  refine uAf ?_;refine uAe ?_;refine uAs ?_;refine uES (.l 9) 1 1 rfl rfl rfl ?_;refine uES (.l 9) 2 3 rfl rfl rfl ?_;refine uES (.l 9) 3 1 rfl rfl rfl ?_;refine uES (.l 9) 4 7 rfl rfl rfl ?_;refine uES (.l 9) 5 5 rfl rfl rfl ?_;refine uAX (ι:=PS × Nar) { t:=[(2,_,_),(8,_,_),(9,_,_)],bx:=[(.l 2,_)],ow:=[(.b (.l 9) 1,_),(.b (.l 9) 2,_),(.b (.l 9) 3,_),(.b (.l 9) 4,_),(.b (.l 9) 5,_)] } (fun q=>[]) (fun q=>[((.l 26),pbx l q.1),((.l 9),q.2.cells)]) (fun q=>q.1.at'≤l.length∧q.2.Le q.1.at'∧q.2.Sm (2 * l.length + 2) ∧ ∃ m,(q.1.bad=true∨l.length < m + q.1.at')∧uDl l m q.2 q.1=uDX l) (fun q=>(l.length - q.1.at') + (if q.1.bad=true then 0 else 1)) ((uA9 l [123] (uAz l [] (uAz l [uFL] ⟨0,false⟩).2).2,{ nar0 with name:=(uAz l [] (uAz l [uFL] ⟨0,false⟩).2).1 })) (⟨a3,⟨Nat.zero_le _,Nat.zero_le _,Nat.zero_le _,Nat.zero_le _,Nat.zero_le _⟩,⟨fun s hs=>by simp [nar0] at hs,fun s hs=>by simp [nar0] at hs⟩,l.length + 2, .inr (by omega),rfl⟩) (uAj (⟨sx rfl,sx rfl,sx rfl,trivial⟩) (⟨sx rfl,sx rfl,sx rfl,trivial⟩) (⟨rfl,rfl,rfl,rfl,rfl,trivial⟩)) ?_
  intro q hok
  dsimp only [List.cons_append,List.nil_append] at *
  obtain ⟨⟨at1,bad1⟩,n⟩:=q
  dsimp only at hok ⊢
  obtain ⟨hq,hle,hsm,m,hm,hi⟩:=hok
  have hle2:=hle.mono (j:=2000000) (by omega)
  cases bad1
  ·skip
   refine uAe ?_;refine uAe (uAb ?_);refine uAa rfl rfl rfl (uAc rfl gU) ?_;refine uAa rfl rfl rfl (uAy rfl gU) ?_;refine uAa rfl rfl rfl (uAg rfl gU rfl rfl) ?_;refine uAa rfl rfl rfl (uAl rfl gU rfl rfl rfl rfl) ?_;refine uAa rfl rfl rfl (uAU rfl gU) ?_;refine uAa rfl rfl rfl (uAc rfl gU) ?_;refine uAa rfl rfl rfl (uAc rfl gU) ?_;refine uAJ (.l 26) rfl rfl rfl rfl rfl rfl (up (uBQ l ⟨at1,false⟩ _ (by omega) (by dsimp only; omega))) rfl (by rfl) (by rfl) rfl rfl rfl ?_;refine uAa rfl rfl rfl (uAU rfl (fun hh=>hh)) ?_;refine uAa rfl rfl rfl (uAP rfl rfl gU (fun _ hi=>gP rfl hi)) ?_;refine uAf ?_;refine uAn (s:=⟨[(2,_,_),(8,_,_),(9,_,_),(44,_,_)],[(.l 2,_),(.l 26,_),(.l 9,_)],[(.b (.l 9) 1,_),(.b (.l 9) 2,_),(.b (.l 9) 3,_),(.b (.l 9) 4,_),(.b (.l 9) 5,_)],[]⟩) (uAj (⟨sx rfl,sx rfl,sx rfl,sx rfl,trivial⟩) (⟨sx rfl,sx rfl,sx rfl,trivial⟩) (⟨rfl,rfl,rfl,rfl,rfl,trivial⟩)) ?_;refine uAm rfl (fun hc2=>?_) (fun hc2=>?_)
   ·try simp only [nn,uAh,T.rows_len,Tk.rows_len] at hc2
    have hz : symQ l ⟨at1,false⟩ [125]=false:=by simpa using hc2
    have hs2 : symP l ⟨at1,false⟩ [125]=⟨at1,false⟩:=by rw [symP,hz]; rfl
    have hm : l.length < m + at1:=hm.resolve_left (by simp)
    obtain ⟨m,rfl⟩ : ∃ j,m=j + 1:=⟨m - 1,by omega⟩
    rw [uKJ rfl hz] at hi
    rw [hs2]
    obtain ⟨i1,i2⟩:=uMr l n ⟨at1,false⟩ hq
    have i5:=uLA l n ⟨at1,false⟩
    dsimp only at i5
    have i3:=uMk (l:=l) (p:=⟨at1,false⟩) hle
    have i4:=uMn (l:=l) (p:=⟨at1,false⟩) hsm hq
    refine uAp ?_;refine uAs ?_;refine uAb ?_;refine uAa rfl rfl rfl (uAc rfl gU) ?_;refine uC5 [⟨.l 26,0,pbx l ⟨at1,false⟩,pbx l (uCp l n ⟨at1,false⟩).2⟩,⟨.l 9,0,n.cells,(uCp l n ⟨at1,false⟩).1.cells⟩] osN rfl rfl rfl rfl rfl rfl (ps2 rfl rfl) rfl rfl (uLp l ⟨at1,false⟩ n (by omega) hq hle2) rfl rfl rfl ?_;refine uAf ?_;refine ⟨((uCp l n ⟨at1,false⟩).2,(uCp l n ⟨at1,false⟩).1),?_,?_,uAj (⟨sx rfl,sx rfl,sx rfl,trivial⟩) (⟨⟨_,rfl,?_⟩,⟨⟨_,rfl,?_⟩,⟨sx rfl,trivial⟩⟩⟩) (⟨rfl,rfl,rfl,rfl,rfl,trivial⟩)⟩
    ·refine ⟨i1,i3,i4,m,?_,hi⟩
     cases hz2 : (uCp l n ⟨at1,false⟩).2.bad with
     | true=>exact .inl rfl
     | false=>exact .inr (by have := i2 hz2; dsimp only at this ⊢; omega)
    ·dsimp only
     cases hz2 : (uCp l n ⟨at1,false⟩).2.bad with
     | true=>simp; omega
     | false=>have := i2 hz2; dsimp only at this; simp; omega
    all_goals rfl
   ·try simp only [nn,uAh,T.rows_len,Tk.rows_len] at hc2
    have hz : symQ l ⟨at1,false⟩ [125]=true:=by simpa using hc2
    have hs2 : symP l ⟨at1,false⟩ [125]=⟨at1 + 1,false⟩:=by rw [symP,if_pos hz]; rfl
    have hm : l.length < m + at1:=hm.resolve_left (by simp)
    obtain ⟨m,rfl⟩ : ∃ j,m=j + 1:=⟨m - 1,by omega⟩
    rw [uIB rfl hz] at hi
    have hi : (n,(⟨at1 + 1,false⟩ : PS))=uDX l:=hi
    rw [hs2]
    refine uAN ?_
    repeat (first | refine uAE ?_ | refine uAF ?_ | refine uAB rfl ?_)
    refine uAe ?_;refine uAe (uAb ?_);refine uAa rfl rfl rfl (uAc rfl gU) ?_;refine uAJ (.l 26) rfl rfl rfl rfl rfl rfl (up (uFg _ _ (by omega))) rfl (by rfl) (by rfl) rfl rfl rfl ?_;refine uAa rfl rfl rfl (uAc rfl gU) ?_;refine uAa rfl rfl rfl (uAK rfl gU rfl) ?_;refine uAa rfl rfl rfl (uAK rfl gU rfl) ?_;refine uAa rfl rfl rfl (uAd rfl gU) ?_;refine uAa rfl rfl rfl (uAd rfl gU) ?_;refine uAf ?_;refine uAn (s:=⟨[(2,_,_),(9,_,_),(10,_,_),(11,_,_)],[(.l 2,_),(.l 9,_)],[(.b (.l 9) 1,_),(.b (.l 9) 2,_),(.b (.l 9) 3,_),(.b (.l 9) 4,_),(.b (.l 9) 5,_)],[]⟩) (uAj (⟨sx rfl,sx rfl,sx rfl,sx rfl,trivial⟩) (⟨sx rfl,sx rfl,trivial⟩) (⟨rfl,rfl,rfl,rfl,rfl,trivial⟩)) ?_;refine uAe (uAb ?_);refine uAa rfl rfl rfl (uAc rfl gU) ?_;refine uAa rfl rfl rfl (uAi rfl rfl gU gU rfl) ?_;refine uAf ?_;refine uAm rfl (fun hc3=>?_) (fun hc3=>?_)
    ·try simp only [nn,uAh,T.rows_len,Tk.rows_len] at hc3
     refine uAe (uAb ?_);refine uAa rfl rfl rfl (uAV rfl Tryz.underlying27 rfl gU) ?_;refine uAa rfl rfl rfl (uAc rfl gU) ?_;refine uAa rfl rfl rfl (uAc rfl gU) ?_;refine uAu rfl (uAA rfl rfl rfl rfl rfl rfl rfl) ?_;refine uAa rfl rfl rfl (uAd rfl gU) ?_;refine uAa rfl rfl rfl (uAd rfl gU) ?_;refine uAf ?_;refine uAo ?_
     repeat (first | refine tR ?_ | refine bR ?_)
     refine uAq rfl ?_ trivial
     (rw [uKp hi hc3]; rfl)
    ·try simp only [nn,uAh,T.rows_len,Tk.rows_len] at hc3
     refine uAp ?_;refine uAe ?_;refine uAe (uAb ?_);refine uAa rfl rfl rfl (uAt rfl gU rfl rfl rfl rfl rfl) ?_;refine uAv rfl rfl rfl rfl rfl rfl gU gU (up (uDC n (fun s hs=>Nat.le_trans (hsm.steps s hs) (by omega)) (fun g hg=>Nat.le_trans (hsm.goals g hg) (by omega)))) rfl ?_;refine uAa rfl rfl rfl (uAd rfl gU) ?_;refine uAf ?_;refine uAn (s:=⟨[(2,_,_),(9,_,_),(12,_,_)],[(.l 2,_),(.l 9,_)],[(.b (.l 9) 1,_),(.b (.l 9) 2,_),(.b (.l 9) 3,_),(.b (.l 9) 4,_),(.b (.l 9) 5,_)],[]⟩) (uAj (⟨sx rfl,sx rfl,sx rfl,trivial⟩) (⟨sx rfl,sx rfl,trivial⟩) (⟨rfl,rfl,rfl,rfl,rfl,trivial⟩)) ?_;refine uAe (uAb ?_);refine uAa rfl rfl rfl (uAc rfl gU) ?_;refine uAa rfl rfl rfl (uAi rfl rfl gU gU rfl) ?_;refine uAf ?_;refine uAm rfl (fun hc4=>?_) (fun hc4=>?_)
     ·try simp only [nn,uAh,T.rows_len,Tk.rows_len] at hc4
      refine uAe (uAb ?_);refine uAa rfl rfl rfl (uAV rfl Tryz.underlying27 rfl gU) ?_;refine uAa rfl rfl rfl (uAc rfl gU) ?_;refine uAu rfl (uAA rfl rfl rfl rfl rfl rfl rfl) ?_;refine uAa rfl rfl rfl (uAd rfl gU) ?_;refine uAa rfl rfl rfl (uAd rfl gU) ?_;refine uAf ?_;refine uAo ?_
      repeat (first | refine tR ?_ | refine bR ?_)
      refine uAq rfl ?_ trivial
      (rw [uKg hi (by simpa using hc3) hc4]; rfl)
     ·try simp only [nn,uAh,T.rows_len,Tk.rows_len] at hc4
      refine uAp ?_;refine uAe (uAb ?_);refine uAa rfl rfl rfl (uAt rfl gU rfl rfl rfl rfl rfl) ?_;refine uAu rfl (uAA rfl rfl rfl rfl rfl rfl rfl) ?_;refine uAa rfl rfl rfl (uAd rfl gU) ?_;refine uAa rfl rfl rfl (uAd rfl gU) ?_;refine uAf ?_;refine uAo ?_
      repeat (first | refine tR ?_ | refine bR ?_)
      refine uAq rfl ?_ trivial
      (rw [uKn hi (by simpa using hc3) (by simpa using hc4)]; rfl)
  ·skip
   refine uAe ?_;refine uAe (uAb ?_);refine uAa rfl rfl rfl (uAc rfl gU) ?_;refine uAa rfl rfl rfl (uAy rfl gU) ?_;refine uAa rfl rfl rfl (uAg rfl gU rfl rfl) ?_;refine uAa rfl rfl rfl (uAl rfl gU rfl rfl rfl rfl) ?_;refine uAa rfl rfl rfl (uAU rfl gU) ?_;refine uAa rfl rfl rfl (uAc rfl gU) ?_;refine uAa rfl rfl rfl (uAc rfl gU) ?_;refine uKD (xb false) rfl rfl rfl ?_;refine uAa rfl rfl rfl (uAU rfl (fun hh=>hh)) ?_;refine uAa rfl rfl rfl (uAP rfl rfl gU (fun _ hi=>gP rfl hi)) ?_;refine uAf ?_;refine uAn (s:=⟨[(2,_,_),(8,_,_),(9,_,_),(44,_,_)],[(.l 2,_),(.l 26,_),(.l 9,_)],[(.b (.l 9) 1,_),(.b (.l 9) 2,_),(.b (.l 9) 3,_),(.b (.l 9) 4,_),(.b (.l 9) 5,_)],[]⟩) (uAj (⟨sx rfl,sx rfl,sx rfl,sx rfl,trivial⟩) (⟨sx rfl,sx rfl,sx rfl,trivial⟩) (⟨rfl,rfl,rfl,rfl,rfl,trivial⟩)) ?_;refine uAm rfl (fun hc2=>?_) (fun hc2=>?_)
   ·exfalso
    simp at hc2
   ·rw [uJy rfl] at hi
    refine uAN ?_
    repeat (first | refine uAE ?_ | refine uAF ?_ | refine uAB rfl ?_)
    refine uAe ?_;refine uAe (uAb ?_);refine uAa rfl rfl rfl (uAc rfl gU) ?_;refine uAJ (.l 26) rfl rfl rfl rfl rfl rfl (up (uFg _ _ (by omega))) rfl (by rfl) (by rfl) rfl rfl rfl ?_;refine uAa rfl rfl rfl (uAc rfl gU) ?_;refine uAa rfl rfl rfl (uAK rfl gU rfl) ?_;refine uAa rfl rfl rfl (uAK rfl gU rfl) ?_;refine uAa rfl rfl rfl (uAd rfl gU) ?_;refine uAa rfl rfl rfl (uAd rfl gU) ?_;refine uAf ?_;refine uAn (s:=⟨[(2,_,_),(9,_,_),(10,_,_),(11,_,_)],[(.l 2,_),(.l 9,_)],[(.b (.l 9) 1,_),(.b (.l 9) 2,_),(.b (.l 9) 3,_),(.b (.l 9) 4,_),(.b (.l 9) 5,_)],[]⟩) (uAj (⟨sx rfl,sx rfl,sx rfl,sx rfl,trivial⟩) (⟨sx rfl,sx rfl,trivial⟩) (⟨rfl,rfl,rfl,rfl,rfl,trivial⟩)) ?_;refine uAe (uAb ?_);refine uAa rfl rfl rfl (uAc rfl gU) ?_;refine uAa rfl rfl rfl (uAi rfl rfl gU gU rfl) ?_;refine uAf ?_;refine uAm rfl (fun hc3=>?_) (fun hc3=>?_)
    ·try simp only [nn,uAh,T.rows_len,Tk.rows_len] at hc3
     refine uAe (uAb ?_);refine uAa rfl rfl rfl (uAV rfl Tryz.underlying27 rfl gU) ?_;refine uAa rfl rfl rfl (uAc rfl gU) ?_;refine uAa rfl rfl rfl (uAc rfl gU) ?_;refine uAu rfl (uAA rfl rfl rfl rfl rfl rfl rfl) ?_;refine uAa rfl rfl rfl (uAd rfl gU) ?_;refine uAa rfl rfl rfl (uAd rfl gU) ?_;refine uAf ?_;refine uAo ?_
     repeat (first | refine tR ?_ | refine bR ?_)
     refine uAq rfl ?_ trivial
     (rw [uKp hi hc3]; rfl)
    ·try simp only [nn,uAh,T.rows_len,Tk.rows_len] at hc3
     refine uAp ?_;refine uAe ?_;refine uAe (uAb ?_);refine uAa rfl rfl rfl (uAt rfl gU rfl rfl rfl rfl rfl) ?_;refine uAv rfl rfl rfl rfl rfl rfl gU gU (up (uDC n (fun s hs=>Nat.le_trans (hsm.steps s hs) (by omega)) (fun g hg=>Nat.le_trans (hsm.goals g hg) (by omega)))) rfl ?_;refine uAa rfl rfl rfl (uAd rfl gU) ?_;refine uAf ?_;refine uAn (s:=⟨[(2,_,_),(9,_,_),(12,_,_)],[(.l 2,_),(.l 9,_)],[(.b (.l 9) 1,_),(.b (.l 9) 2,_),(.b (.l 9) 3,_),(.b (.l 9) 4,_),(.b (.l 9) 5,_)],[]⟩) (uAj (⟨sx rfl,sx rfl,sx rfl,trivial⟩) (⟨sx rfl,sx rfl,trivial⟩) (⟨rfl,rfl,rfl,rfl,rfl,trivial⟩)) ?_;refine uAe (uAb ?_);refine uAa rfl rfl rfl (uAc rfl gU) ?_;refine uAa rfl rfl rfl (uAi rfl rfl gU gU rfl) ?_;refine uAf ?_;refine uAm rfl (fun hc4=>?_) (fun hc4=>?_)
     ·try simp only [nn,uAh,T.rows_len,Tk.rows_len] at hc4
      refine uAe (uAb ?_);refine uAa rfl rfl rfl (uAV rfl Tryz.underlying27 rfl gU) ?_;refine uAa rfl rfl rfl (uAc rfl gU) ?_;refine uAu rfl (uAA rfl rfl rfl rfl rfl rfl rfl) ?_;refine uAa rfl rfl rfl (uAd rfl gU) ?_;refine uAa rfl rfl rfl (uAd rfl gU) ?_;refine uAf ?_;refine uAo ?_
      repeat (first | refine tR ?_ | refine bR ?_)
      refine uAq rfl ?_ trivial
      (rw [uKg hi (by simpa using hc3) hc4]; rfl)
     ·try simp only [nn,uAh,T.rows_len,Tk.rows_len] at hc4
      refine uAp ?_;refine uAe (uAb ?_);refine uAa rfl rfl rfl (uAt rfl gU rfl rfl rfl rfl rfl) ?_;refine uAu rfl (uAA rfl rfl rfl rfl rfl rfl rfl) ?_;refine uAa rfl rfl rfl (uAd rfl gU) ?_;refine uAa rfl rfl rfl (uAd rfl gU) ?_;refine uAf ?_;refine uAo ?_
      repeat (first | refine tR ?_ | refine bR ?_)
      refine uAq rfl ?_ trivial
      (rw [uKn hi (by simpa using hc3) (by simpa using hc4)]; rfl)
theorem uJA (s : List UInt8) (hs : s.length≤100000) : Ctr sys 16 [xs s] [] (xnie (uFn s)) none []:=(uI4 s hs).wk rfl fun _ h=>h
end Go.Proofs.YtnjjdbapadkomaaGreatDoor
namespace Go.Proofs.YtnjjdbapadkomaaGreatDoor
open Go Go.Abs
theorem uID (k : Int) : (uFS k).length≤7:=by
 unfold uFS
 have : ∀ j : Nat,(kindW.getD j []).length≤7:=by
  intro j
  match j with
  | 0=>decide
  | 1=>decide
  | 2=>decide
  | 3=>decide
  | 4=>decide
  | j + 5=>simp [kindW,List.getD_eq_getElem?_getD]
 exact this _
theorem uL4 (k : Int) : (uHT k).length≤5:=by
 unfold uHT
 have : ∀ j : Nat,(sortW.getD j []).length≤5:=by
  intro j
  match j with
  | 0=>decide
  | 1=>decide
  | 2=>decide
  | j + 3=>simp [sortW,List.getD_eq_getElem?_getD]
 exact this _
theorem uDo (g : Gl) (hg : GlOk g) : Ctr sys 44 [xg g] [] (xs (uC4 g)) none []:=by
 have h1:=hg.k1
 have h2:=hg.k2
 have h3:=uCh hg.role
 have h4:=hg.wth
 have h5:=hg.len
 have h6:=uID g.kind
 have hkl : kindW.length=5:=rfl
 have hkb : kindW.getD (g.kind - 1).toNat []=uFS g.kind:=rfl
 refine uAw Tryz.func44 rfl rfl rfl rfl rfl rfl ?_;refine uAe (uAb ?_);refine uAu rfl (uAR rfl rfl rfl rfl) ?_;refine uAa rfl rfl rfl (uAd rfl gU) ?_;refine uAf ?_;refine uAe ?_;refine awp_drawn' (by kernel_rfl) ?_;refine uBa rfl rfl rfl rfl rfl rfl rfl gU gU (uEI) rfl ?_;refine uAk rfl rfl rfl rfl (uAg rfl gU rfl rfl) ?_;refine uAS rfl rfl rfl rfl rfl rfl rfl gU rfl rfl rfl rfl ?_;refine uAk rfl rfl rfl rfl (uAr rfl rfl gU gU rfl (IntWalk.i64_in _ (by omega))) ?_;refine uAk rfl rfl rfl rfl (uAx (j:=(g.kind - 1).toNat) rfl rfl gU gU rfl rfl (by first | omega | (simp at hh ⊢; omega)) (fun hh=>uCC (by first | omega | (simp at hh ⊢; omega)))) ?_;refine uAk rfl rfl rfl rfl (uAZ rfl gU rfl rfl rfl) ?_
 rw [hkb]
 refine uAk rfl rfl rfl rfl (uAC rfl rfl gU gU (by first | omega | (simp only [List.length_append,List.length_cons,List.length_nil]; omega))) ?_;refine uAk rfl rfl rfl rfl (uAg rfl gU rfl rfl) ?_;refine uAS rfl rfl rfl rfl rfl rfl rfl gU rfl rfl rfl rfl ?_;refine uAk rfl rfl rfl rfl (uAC rfl rfl gU gU (by first | omega | (simp only [List.length_append,List.length_cons,List.length_nil]; omega))) ?_;refine uAk rfl rfl rfl rfl (uAd rfl gU) ?_;refine uBf (by kernel_rfl) ?_;refine uAn (s:=⟨[(1,_,_),(3,_,_)],[(.l 1,_)],[],[]⟩) (uAj (⟨sx rfl,sx rfl,trivial⟩) (⟨sx rfl,trivial⟩) trivial) ?_;refine uAe ?_;refine uAe (uAb ?_);refine uAa rfl rfl rfl (uAt rfl gU rfl rfl rfl rfl rfl) ?_;refine uAv rfl rfl rfl rfl rfl rfl gU gU (uBV g) rfl ?_;refine uAf ?_;refine uAm rfl (fun hc=>?_) (fun hc=>?_)
 ·try simp only [nn,uAh,T.rows_len,Gl.rows_len,Fs.rows_len,Sp.rows_len] at hc
  refine uAb ?_;refine uAa rfl rfl rfl (uAc rfl gU) ?_;refine uAa rfl rfl rfl (uAg rfl gU rfl rfl) ?_;refine uAa rfl rfl rfl (uAl rfl gU rfl rfl rfl rfl) ?_;refine uAa rfl rfl rfl (uAC rfl rfl gU gU (by first | omega | (simp only [List.length_append,List.length_cons,List.length_nil]; omega))) ?_;refine uAa rfl rfl rfl (uAC rfl rfl gU gU (by first | omega | (simp only [List.length_append,List.length_cons,List.length_nil]; omega))) ?_;refine uAa rfl rfl rfl (uAd rfl gU) ?_;refine uAf ?_;refine uAn (s := ⟨[(1,_,_),(3,_,_)],[(.l 1,_)],[],[]⟩) (uAj (⟨sx rfl,sx rfl,trivial⟩) (⟨sx rfl,trivial⟩) trivial) ?_;refine uAe (uAb ?_);refine uAa rfl rfl rfl (uAc rfl gU) ?_;refine uAa rfl rfl rfl (uAC rfl rfl gU gU (by first | omega | (simp only [List.length_append,List.length_cons,List.length_nil]; omega))) ?_;refine uAa rfl rfl rfl (uAg rfl gU rfl rfl) ?_;refine uAa rfl rfl rfl (uAl rfl gU rfl rfl rfl rfl) ?_;refine uAv rfl rfl rfl rfl rfl rfl gU gU (uGs g.data (by have := hg.sizes; omega) hg.oks) rfl ?_;refine uAa rfl rfl rfl (uAC rfl rfl gU gU (by first | omega | (simp only [List.length_append,List.length_cons,List.length_nil]; omega))) ?_;refine uAa rfl rfl rfl (uAd rfl gU) ?_;refine uAf ?_;refine uAo ?_
  repeat (first | refine tR ?_ | refine bR ?_)
  refine uAq rfl ?_ trivial
  (rw [uC4,if_pos hc,hkb]; simp only [List.append_assoc]; rfl)
 ·try simp only [nn,uAh,T.rows_len,Gl.rows_len,Fs.rows_len,Sp.rows_len] at hc
  refine uAp ?_;refine uAe (uAb ?_);refine uAa rfl rfl rfl (uAc rfl gU) ?_;refine uAa rfl rfl rfl (uAC rfl rfl gU gU (by first | omega | (simp only [List.length_append,List.length_cons,List.length_nil]; omega))) ?_;refine uAa rfl rfl rfl (uAg rfl gU rfl rfl) ?_;refine uAa rfl rfl rfl (uAl rfl gU rfl rfl rfl rfl) ?_;refine uAv rfl rfl rfl rfl rfl rfl gU gU (uGs g.data (by have := hg.sizes; omega) hg.oks) rfl ?_;refine uAa rfl rfl rfl (uAC rfl rfl gU gU (by first | omega | (simp only [List.length_append,List.length_cons,List.length_nil]; omega))) ?_;refine uAa rfl rfl rfl (uAd rfl gU) ?_;refine uAf ?_;refine uAo ?_
  repeat (first | refine tR ?_ | refine bR ?_)
  refine uAq rfl ?_ trivial
  (rw [uC4,if_neg (by rw [hc]; simp),hkb]; simp only [List.append_assoc,List.nil_append]; rfl)
def uFq (n : Nar) : List (List UInt8):=if narE uAH n≠0 then [] else n.goals.map uC4
theorem map_take {α β : Type} (f : α→β) {l : List α} {d : α} {k : Nat} (h : k < l.length) : (l.take (k + 1)).map f=(l.take k).map f++[f (l.getD k d)]:=by rw [uEm (d:=d) h,List.map_append]; rfl
theorem uKb (n : Nar) (hs : ∀ s ∈ n.steps,s.msg.size≤900000) (hg : ∀ g ∈ n.goals,T.sizes g.data≤900000) : Ctr sys 30 [xn n] [] (xss (uFq n)) none []:=by
 have hrl:=Gl.rows_len n.goals
 refine uAw Tryz.func30 rfl rfl rfl rfl rfl rfl ?_;refine uAe (uAb ?_);refine uAu rfl (uAR rfl rfl rfl rfl) ?_;refine uAu rfl (uBh (.inr rfl) rfl rfl) ?_;refine uAf ?_;refine uAe ?_;refine uAe (uAb ?_);refine uAa rfl rfl rfl (uAt rfl gU rfl rfl rfl rfl rfl) ?_;refine uAv rfl rfl rfl rfl rfl rfl gU gU (uDC n hs hg) rfl ?_;refine uAa rfl rfl rfl (uAi rfl rfl gU gU rfl) ?_;refine uAf ?_;refine uAn (s:=⟨[(1,_,_),(8,_,_)],[(.l 1,_)],[],[]⟩) (uAj (⟨sx rfl,sx rfl,trivial⟩) (⟨sx rfl,trivial⟩) trivial) ?_;refine uAm rfl (fun hc=>?_) (fun hc=>?_)
 ·try simp only [nn,uAh,T.rows_len,Gl.rows_len,Fs.rows_len,Sp.rows_len] at hc
  refine uAe (uAb ?_);refine uAu rfl (uBh (.inr rfl) rfl rfl) ?_;refine uAf ?_;refine uAo ?_
  repeat (first | refine tR ?_ | refine bR ?_)
  refine uAq rfl ?_ trivial
  (rw [uFq,if_pos hc]; rfl)
 ·try simp only [nn,uAh,T.rows_len,Gl.rows_len,Fs.rows_len,Sp.rows_len] at hc
  have hok:=uJz (n:=n) (by simpa using hc)
  have hg2:=hok.g2
  refine uAp ?_;refine uAe (uAb ?_);refine uAu rfl (uBh (.inr rfl) rfl rfl) ?_;refine uAf ?_;refine uAe ?_;refine uAe (uAb ?_);refine uAa rfl rfl rfl (uAg rfl gU rfl rfl) ?_;refine uAa rfl rfl rfl (uAl rfl gU rfl rfl rfl rfl) ?_;refine uAO rfl rfl rfl rfl rfl gU rfl rfl ?_ (fun hh=>by simp at hh); intro hlen;refine uAa rfl rfl rfl (uAc rfl gU) ?_;refine uAf ?_;refine uAn (s:=⟨[(3,_,_),(10,_,_),(11,_,_),(12,_,_)],[],[(.t 3,_)],[]⟩) (uAj (⟨sx rfl,sx rfl,sx rfl,sx rfl,trivial⟩) trivial (⟨rfl,trivial⟩)) ?_;refine uAs ?_;refine uAX (ι:=Nat) { t:=[(10,_,_),(11,_,_)],bx:=[],ow:=[(.t 3,_)] } (fun k=>[(12,true,xi (k : Int)),(3,true,xss ((n.goals.take k).map uC4))]) (fun k=>[]) (fun k=>k≤n.goals.length) (fun k=>n.goals.length - k) (0) (by simp) (uAj (⟨sx rfl,sx rfl,sx rfl,sx rfl,trivial⟩) trivial (⟨rfl,trivial⟩)) ?_
  intro k hokk
  dsimp only [List.cons_append,List.nil_append]
  refine uAe (uAb ?_);refine uAa rfl rfl rfl (uAi rfl rfl gU gU rfl) ?_;refine uAf ?_;refine uAe ?_;refine uAm rfl (fun hc2=>?_) (fun hc2=>?_)
  ·try simp only [nn,uAh,T.rows_len,Gl.rows_len,Fs.rows_len,Sp.rows_len] at hc2
   have hlt : k < n.goals.length:=by omega
   have hgk:=hok.goals _ (uBP (d:=default) hlt)
   refine uAp ?_;refine uAe ?_;refine uAs ?_;refine uAe (uAb ?_);refine uAa rfl rfl rfl (uAx rfl rfl gU gU rfl rfl rfl (fun hh=>Gl.rows_at (by first | omega | (simp at hh ⊢; omega)))) ?_;refine uAa rfl rfl rfl (uAI rfl gU rfl rfl rfl rfl) ?_;refine uAu rfl (uAQ rfl rfl rfl) ?_;refine uAu rfl (uAA rfl rfl rfl rfl rfl rfl rfl) ?_;refine uAf ?_;refine uAb ?_;refine uAu rfl (uAG (.inl rfl) rfl rfl rfl) ?_;refine uAa rfl rfl rfl (uAt rfl gU rfl rfl rfl rfl rfl) ?_;refine uAv rfl rfl rfl rfl rfl rfl gU gU (uDo _ (by assumption)) rfl ?_;refine uAM (xs:=[_]) rfl rfl rfl rfl rfl rfl rfl rfl rfl gU rfl ?_;refine uAu rfl (uA0 rfl rfl rfl rfl rfl rfl rfl (by first | omega | (simp only [List.length_append,List.length_singleton,uAh,List.length_map,List.length_take]; omega)) (by first | omega | (simp only [List.length_append,List.length_singleton,uAh,List.length_map,List.length_take]; omega))) ?_;refine uAu rfl (uAG (.inr rfl) rfl rfl rfl) ?_;refine uAf ?_;refine uAn (s:=⟨[(3,_,_),(10,_,_),(11,_,_),(12,_,_)],[],[(.t 3,_)],[]⟩) (uAj (⟨sx rfl,sx rfl,sx rfl,sx rfl,trivial⟩) trivial (⟨rfl,trivial⟩)) ?_;refine uAb ?_;refine uAa rfl rfl rfl (uAr rfl rfl gU gU rfl (IntWalk.i64_in _ (by omega))) ?_;refine uAa rfl rfl rfl (uAc rfl gU) ?_;refine uAf ?_
   refine ⟨k + 1,?_,?_,uAj (⟨⟨_,rfl,?_⟩,⟨⟨_,rfl,?_⟩,⟨sx rfl,sx rfl,trivial⟩⟩⟩) trivial (⟨rfl,trivial⟩)⟩
   all_goals first | rfl | omega | exact tx ((uBS _ _).trans (by rw [map_take (d:=default) uC4 hlt]))
  ·try simp only [nn,uAh,T.rows_len,Gl.rows_len,Fs.rows_len,Sp.rows_len] at hc2
   have : k=n.goals.length:=by omega
   subst this
   rw [List.take_length]
   refine uAN ?_
   repeat (first | refine uAE ?_ | refine uAF ?_ | refine uAB rfl ?_)
   refine uAe (uAb ?_);refine uAu rfl (uAG (.inl rfl) rfl rfl rfl) ?_;refine uAu rfl (uAG (.inr rfl) rfl rfl rfl) ?_;refine uAf ?_;refine uAo ?_
   repeat (first | refine tR ?_ | refine bR ?_)
   refine uAq rfl ?_ trivial
   (rw [uFq,if_neg (by simpa using hc)]; rfl)
theorem uIY (x : List UInt8) (c : UInt8) (hx : x.length≤2000000) : Ctr sys 136 [xs (x++[c]),xs [c]] [] (xb true) none []:=by
 have hl : (x++[c]).length=x.length + 1:=by simp
 refine uAw Tryz.func136 rfl rfl rfl rfl rfl rfl ?_;refine uAe (uAb ?_);refine uAa rfl rfl rfl (uAd rfl gU) ?_;refine uAf ?_;refine uAe (uAb ?_);refine uAa rfl rfl rfl (uAc rfl gU) ?_;refine uBk rfl rfl rfl rfl rfl gU (Tryz.underlying9) ?_ (fun hh=>by simp at hh); intro hlen;refine uAa rfl rfl rfl (uAc rfl gU) ?_;refine uBk rfl rfl rfl rfl rfl gU (Tryz.underlying9) ?_ (fun hh=>by simp at hh); intro hlen;refine uAa rfl rfl rfl (uAi rfl rfl gU gU rfl) ?_;refine uAa rfl rfl rfl (uAc rfl gU) ?_;refine uAa rfl rfl rfl (uAc rfl gU) ?_;refine uAa rfl rfl rfl (uAc rfl gU) ?_;refine uAa rfl rfl rfl (uBK rfl (fun hh=>hh) (Tryz.underlying9)) ?_;refine uAa rfl rfl rfl (uAc rfl gU) ?_;refine uAa rfl rfl rfl (uBK rfl (fun hh=>hh) (Tryz.underlying9)) ?_;refine uBn (s:=⟨[(1,_,_),(10,_,_),(11,_,_),(13,_,_),(15,_,_)],[],[],[]⟩) (uAj (⟨sx rfl,sx rfl,sx rfl,sx rfl,sx rfl,trivial⟩) trivial trivial) ?_;refine uAa rfl rfl rfl (uAr rfl rfl (fun hh=>hh) (fun hh=>hh) rfl (IntWalk.i64_in _ (by omega))) ?_;refine uAa rfl rfl rfl (uBg (l:=x.length) rfl (fun hh=>hh) Tryz.underlying9 (fun _=>⟨_,_,_,rfl,(fun hh=>hh),by first | omega | (simp only [hl,List.length_cons,List.length_nil]; omega) | (simp only [hl,List.length_cons,List.length_nil] at *; omega)⟩) (fun _=>rfl) (fun hh=>by first | omega | (simp only [hl,List.length_cons,List.length_nil]; omega) | (simp only [hl,List.length_cons,List.length_nil] at *; omega)) (fun hh=>by first | omega | (simp only [hl,List.length_cons,List.length_nil]; omega) | (simp only [hl,List.length_cons,List.length_nil] at *; omega))) ?_
 refine uAa rfl rfl rfl (uAc rfl gU) ?_;refine uAa rfl rfl rfl (uA2 rfl rfl (fun hh=>hh) (fun hh=>hh) rfl) ?_;refine uAa rfl rfl rfl (uAP rfl rfl gU (fun _ hi=>gP rfl hi)) ?_;refine uAa rfl rfl rfl (uAd rfl gU) ?_;refine uAf ?_;refine uAo ?_
 repeat (first | refine tR ?_ | refine bR ?_)
 refine uAq rfl ?_ trivial;refine uCx ?_
 simp [List.take_of_length_le]
 omega
theorem uG5 (x : List UInt8) (c : UInt8) (hx : x.length≤2000000) : Ctr sys 92 [xs (x++[c]),xs [c]] [] (xs x) none []:=by
 have hl : (x++[c]).length=x.length + 1:=by simp
 refine uAw Tryz.func92 rfl rfl rfl rfl rfl rfl ?_;refine uAe (uAb ?_);refine uAa rfl rfl rfl (uAd rfl gU) ?_;refine uAf ?_;refine uAe ?_;refine uAe (uAb ?_);refine uAa rfl rfl rfl (uAc rfl gU) ?_;refine uAa rfl rfl rfl (uAc rfl gU) ?_;refine uAv rfl rfl rfl rfl rfl rfl gU gU (uIY _ _ (by omega)) rfl ?_;refine uAf ?_;refine uAm rfl (fun hc=>?_) (fun hc=>?_)
 ·refine uAe (uAb ?_)
  refine uAa rfl rfl rfl (uAc rfl gU) ?_;refine uAa rfl rfl rfl (uAc rfl gU) ?_;refine uBk rfl rfl rfl rfl rfl gU (Tryz.underlying9) ?_ (fun hh=>by simp at hh); intro hlen;refine uAa rfl rfl rfl (uAc rfl gU) ?_;refine uBk rfl rfl rfl rfl rfl gU (Tryz.underlying9) ?_ (fun hh=>by simp at hh); intro hlen;refine uAa rfl rfl rfl (uAr rfl rfl gU gU rfl (IntWalk.i64_in _ (by omega))) ?_;refine uAa rfl rfl rfl (uBg (h':=x.length) rfl gU Tryz.underlying9 (fun _=>rfl) (fun _=>⟨_,_,_,rfl,gU,by first | omega | (simp only [hl,List.length_cons,List.length_nil]; omega) | (simp only [hl,List.length_cons,List.length_nil] at *; omega)⟩) (fun hh=>by first | omega | (simp only [hl,List.length_cons,List.length_nil]; omega) | (simp only [hl,List.length_cons,List.length_nil] at *; omega)) (fun hh=>by first | omega | (simp only [hl,List.length_cons,List.length_nil]; omega) | (simp only [hl,List.length_cons,List.length_nil] at *; omega))) ?_;refine uAa rfl rfl rfl (uAd rfl gU) ?_;refine uAf ?_;refine uAo ?_
  repeat (first | refine tR ?_ | refine bR ?_)
  refine uAq rfl ?_ trivial;exact congrArg xs (by simp)
 ·exfalso
  simp at hc
theorem uHY (x : List UInt8) (c : UInt8) (hx : x.length≤2000000) : Ctr sys 42 [xs (x++[c]),xs [c]] [] (xs x) none []:=by
 refine uAw Tryz.func42 rfl rfl rfl rfl rfl rfl ?_;refine uAe (uAb ?_);refine uAa rfl rfl rfl (uAd rfl gU) ?_;refine uAf ?_;refine uAe (uAb ?_);refine uAa rfl rfl rfl (uAc rfl gU) ?_;refine uAa rfl rfl rfl (uAc rfl gU) ?_;refine uAv rfl rfl rfl rfl rfl rfl gU gU (uG5 _ _ (by omega)) rfl ?_;refine uAa rfl rfl rfl (uAd rfl gU) ?_;refine uAf ?_;refine uAo ?_
 repeat (first | refine tR ?_ | refine bR ?_)
 refine uAq rfl ?_ trivial
 rfl
end Go.Proofs.YtnjjdbapadkomaaGreatDoor
namespace Go.Abs
variable {Z : Pg}
theorem Rel.rowBox {E : Env} {G : Gh} {st : St} {a : Act} {w : World} (h : Rel E G st a w) {j' : Nat} (hfr : FreshG st (.l j',true)) {cells : Array Value} {e : TypeId} {cs : List C}
  (hrep : ∀ (j : Nat) (c : C),cs[j]? = some c → ∃ v,cells[j]? = some v∧CRep w G.S c v) :
  ∃ G1,Rel E G1 (st.addBox (.l j') cs) a (w.alloc (.cells cells e))∧G1.A (.l j')=(w.heap.size,0):=by
 let f : Nat→Who:=fun o=>if o < cs.length then .box (.l j') else .none
 have hfr' : Fr (fun _ _=>False) w.heap.size w (w.alloc (.cells cells e)):=uCR w (.cells cells e)
 refine ⟨(G.push w.heap.size f).name (.l j') (w.heap.size,0),?_,by simp [Gh.name]⟩;refine Rel.addBox ?_ ?_ rfl
 ·refine (h.sub (St.drop_sub _ (.l j'))).grow hfr' ?_ (St.drop_same (st:=st) rfl (fun k g x hk=>hfr.1 rfl k g x hk) _ _) ?_
  ·intro b o hb
   have : ¬ b=w.heap.size:=by omega
   simp [Gh.name,Gh.push,this]
  ·intro b o hne
   simp only [Gh.name,Gh.push] at hne
   split at hne
   ·rename_i hb; subst hb; simp
   ·have := h.wf b o hne; simp; omega
 ·intro j c hj
  have hjl : j < cs.length:=(List.getElem?_eq_some_iff.1 hj).1
  obtain ⟨v,hv',hr⟩:=hrep j c hj
  refine ⟨by simp [Gh.name,Gh.push,f,hjl],by simp only [Gh.name,if_true]; exact World.frozen?_alloc_new w cells e _,v,?_,?_⟩
  ·simp only [Gh.name,if_true]
   rw [Nat.zero_add]
   exact (World.cell?_alloc_new w cells e j).trans hv'
  ·refine hr.mono ?_ ?_
   ·intro b o hs
    have hb:=h.wf b o (by unfold Gh.S at hs; rw [hs]; simp)
    have : ¬ b=w.heap.size:=by omega
    simpa [Gh.S,Gh.name,Gh.push,this] using hs
   ·intro b o hs
    have hb:=h.wf b o (by unfold Gh.S at hs; rw [hs]; simp)
    exact hfr'.cell b o hb (fun x=>x)
abbrev Eff.bms (d j' sz L : Nat) (cs : List C) : Eff:={ d:=some (d,true, .v (.ms (.l j') sz 0 L)),b:=some (.l j',cs),drop:=[.t d],gain:=some (.t d,sz) }
theorem uJm (j' : Nat) {N : Nat} {st : St} {ops : Array Oper} {o : Oper} {g : Bool} {d : Nat} {t : TypeId} {len : Nat} {parts : Array (Nat × Operand)} {xs : List Operand} {ti : TyI} {e sz by' : Nat} {rs : List (List C)}
  (ho : o.op = .buildSlice t len parts) (hg : uA8 ops st o=some true) (hd : o.dst=some d) (hN : Nat.ble (d + 1) N=true) (ht : tyAt Z.T t=some ti) (hel : ti.el=some (e,sz,by')) (hp : parts.toList=uDV 0 xs) (hx : Nat.beq xs.length len=true)
  (hrs : uCB Z.T st e sz xs=some (g,rs)) (hga : g=true) (hbig : Nat.ble (len * sz) 10000=true) (hfr : FreshG st (.l j',true)) : Op1 Z N ops o st (ap (.bms d j' sz len rs.flatten) st):=by
 intro E G a w hr hE K' Q' hK
 have hdN : d < E.nt:=by rw [hE.nt]; exact Nat.le_of_ble_eq_true hN
 rw [uBC hr hg,hd]
 rw [hd] at hK
 simp only [if_true]
 have hxl : xs.length=len:=Nat.eq_of_beq_eq_true hx
 have hbig' : len * sz≤10000:=Nat.le_of_ble_eq_true hbig
 have hrep:=uEB hr hrs hga
 have hrl : rs.length=xs.length:=hrep.len
 obtain ⟨hu,jf,ze,hinfo,hsz,_,hsz0,hze,hzec⟩:=(Z.tyOk ht).sl e sz by' hel
 have hsz' : ∀ x ∈ xs,(a.eval x).cells.size=sz:=by
  intro x hx
  obtain ⟨j,hj⟩:=List.getElem?_of_mem hx
  have hjl : j < rs.length:=by rw [hrl]; exact (List.getElem?_eq_some_iff.1 hj).1
  obtain ⟨x',hx',h1,h2⟩:=hrep.get j _ (List.getElem?_eq_getElem hjl)
  rw [hj] at hx'; simp at hx'; subst hx'
  rw [← Array.length_toList,← h2.len,h1]
 let zc : Array Value:=if len * sz=0 then #[] else ze.cells
 let cells0 : Array Value:=(Array.range (len * sz)).map (zc[· % zc.size]!)
 obtain ⟨cells,hf1,hf2,_,hf4⟩:=uGd sz a.eval xs 0 cells0 hsz' (by simp [cells0,hxl])
 have hfsz : cells.size=len * sz:=by rw [hf2]; simp [cells0]
 have hrun : (execOp a.eval o).run Z.P w = .ok (.value (.slice (some ⟨w.heap.size,0,none⟩) len len)) (w.alloc (.cells cells e)):=by
  have hmap : (parts.map fun (i,x)=>(i,a.eval x)).toList=(uDV 0 xs).map fun (i,x)=>(i,a.eval x):=by
   rw [Array.toList_map,hp]
  have hnb : ¬ (len * sz > 2 ^ 24):=by omega
  simp only [execOp,ho,Instr.buildSlice,underlying,Sem.run_bind,run_program,Result.andThen_ok,hu,Sem.run_pure,sizeOf,typeInfo,hinfo,hsz,Sem.run_ite,if_neg hnb]
  by_cases hz : len * sz=0
  ·simp only [hz,if_true]
   have hc0 : (Array.range 0).map ((#[] : Array Value)[· % (#[] : Array Value).size]!)=cells0:=by simp [cells0,hz]
   rw [hmap,hc0,hf1]
   simp [newRow]
  ·simp only [if_neg hz,zeroValue,typeInfo,Sem.run_bind,run_program,Result.andThen_ok,hinfo,Sem.run_pure,hze]
   have hc0 : (Array.range (len * sz)).map (ze.cells[· % ze.cells.size]!)=cells0:=by simp only [cells0,zc,if_neg hz]
   rw [hmap,hc0,hf1]
   simp [newRow]
 unfold Oper.wp
 rw [hrun,Oper.upon_value,hd]
 have hrow : ∀ (i : Nat) (row : List C),rs[i]? = some row→row.length=sz:=fun i row hi=>by
  obtain ⟨x,hx1,hx2,hx3⟩:=hrep.get i row hi
  exact hx2
 obtain ⟨G1,hG,hA⟩:=hr.rowBox (j':=j') hfr (cells:=cells) (e:=e) (cs:=rs.flatten) (fun m c hm=>by
  obtain ⟨i,j,row,hmi,_,hi,hj⟩:=uGC hrow hm
  subst hmi
  obtain ⟨x,hx1,hx2,hx3⟩:=hrep.get i row hi
  obtain ⟨v,hv,hcr⟩:=hx3.get j c hj
  have hjl : j < sz:=by rw [← hx2]; exact (List.getElem?_eq_some_iff.1 hj).1
  have := hf4 i x j hx1 hjl
  rw [Nat.zero_add] at this
  exact ⟨v,by rw [this]; simpa using hv,hcr⟩)
 have hput:=hG.put hdN (g:=true) (x:=.v (.ms (.l j') sz 0 len)) (v:=.slice (some ⟨w.heap.size,0,none⟩) len len) (fun _=>.inr ⟨len,Nat.le_refl _,by rw [hA]⟩) (fun hf=>by simp at hf)
 have hown:=hput.addOwn (p:=.t d) (sz:=sz) (v:=.slice (some ⟨w.heap.size,0,none⟩) len len) (by
  show (a.put (some d) _).tmps[d]? = _
  rw [uBw (by rw [hr.nt]; exact hdN)]; simp) (by
  refine .inr ⟨w.heap.size,len,len,e,rfl,⟨Nat.le_refl _,Nat.le_trans E.C_le (Nat.le_trans hr.hB hr.fr.size),fun _ _ _ hh=>by simp at hh⟩,⟨?_,uD8 w cells e _⟩,fun o' h1 h2=>by omega⟩
  unfold World.shape?
  rw [show (w.alloc (.cells cells e)).heap[w.heap.size]? = some (.cells cells e) from Array.getElem?_push_size]
  simp [hfsz])
 have hsub : Sub (ap (.bms d j' sz len rs.flatten) st) (((st.addBox (.l j') rs.flatten).put d (true, .v (.ms (.l j') sz 0 len))).addOwn (.t d) sz):=by
  refine ⟨fun k x hk=>?_,fun n cs hn=>?_,fun p s hp=>?_, .inr rfl⟩
  ·rw [uCq] at hk
   show ((st.addBox (.l j') rs.flatten).put d (true, .v (.ms (.l j') sz 0 len))).get k=_
   rw [St.put_get]
   simp only [Eff.gt] at hk
   by_cases h : d=k
   ·subst h; simpa using hk
   ·have h' : ¬ k=d:=fun e=>h e.symm
    rw [if_neg h']
    have hk' : st.get k=some x:=by simpa [h] using hk
    exact hk'
  ·rw [uCu] at hn
   show getB ((.l j',rs.flatten) :: (st.drop (.l j')).bx) n=_
   rw [uA1]
   simp only [Eff.gb] at hn
   split
   ·rename_i he; rw [if_pos he] at hn; exact hn
   ·rename_i he
    rw [if_neg he] at hn
    show (st.drop (.l j')).box n=_
    rw [St.drop_box,if_neg (fun q=>he q.symm)]
    exact hn
  ·rw [uCb] at hp
   rw [St.addOwn_own]
   simp only [Eff.go,List.mem_singleton] at hp
   split
   ·rename_i he; rw [if_pos he] at hp; exact hp
   ·rename_i he
    rw [if_neg he] at hp
    rw [St.put_own]
    split
    ·rename_i h2; rw [if_pos h2] at hp; exact hp
    ·rename_i h2
     rw [if_neg h2] at hp
     show (st.drop (.l j')).own p=_
     rw [St.drop_own]
     have hp : st.own p=some s:=hp
     rw [hfr.2 p s hp]
     simpa using hp
 exact hK G1 _ _ (hown.sub hsub)
section
variable {N : Nat} {st s0 : St} {ops : Array Oper} {B : List Nat} {q : Nat} {rest : List Oper} {acc : List Lnk} {o : Oper} {Q : St→Prop} {d : Nat}
theorem uJV (j' : Nat) {g : Bool} {t : TypeId} {len : Nat} {parts : Array (Nat × Operand)} {xs : List Operand} {ti : TyI} {e sz by' : Nat} {rws : List (List C)} (hk : ops[q]? = some o)
  (ho : o.op = .buildSlice t len parts) (hg : uA8 ops (rs (foot ops o [] []) st) o=some true) (hd : o.dst=some d) (hN : Nat.ble (d + 1) N=true) (ht : tyAt Z.T t=some ti) (hel : ti.el=some (e,sz,by')) (hp : parts.toList=uDV 0 xs) (hx : Nat.beq xs.length len=true)
  (hrs : uCB Z.T (rs (foot ops o [] []) st) e sz xs=some (g,rws)) (hga : g=true) (hbig : Nat.ble (len * sz) 10000=true) (hf1 : s0.freshO (.l j',true)=true)
  (hr : Draw Z N s0 ops B (q + 1) rest (acc++[(q, .bms d j' sz len rws.flatten,{ foot ops o [] [] with rn:=[(.l j',true)] })]) (ap (.bms d j' sz len rws.flatten) st) Q) : Draw Z N s0 ops B q (o :: rest) acc st Q:=by
 refine uCy hk (R:={ foot ops o [] [] with rn:=[(.l j',true)] }) ?_ hr (by
  intro m hm
  simp only [List.mem_cons,List.not_mem_nil,or_false] at hm
  subst hm
  exact hf1)
 intro s2 hag hfr
 have hsub : Sub (rs (foot ops o [] []) st) s2:=hag.sub
 exact uJm j' ho (uB4 hsub hg) hd hN ht hel hp hx (uED hsub hrs) hga hbig (hfr _ (by simp))
end
theorem uFU {st : St} {ty : TypeId} {x i : Operand} {t : TypeId} {g gi gate : Bool} {k : IntKind} {m : Int} {j sz : Nat} {es : List (List C)} {row : List C} {ti : TyI} {e by' : Nat} (h : lk Z.T st ty x=some (g, .v (.c (.sl sz es)))) (hi : lk Z.T st ty i=some (gi, .v (.c (.i k m))))
  (hg : gate=true→g=true) (hgi : gate=true→gi=true) (ht : tyAt Z.T t=some ti) (hel : ti.el=some (e,sz,by')) (hn : gate=true→m=(j : Int)) (hj : gate=true→es[j]? = some row) : PureOk Z st (.indexAddr t x i) ty gate (.v (.ro row)) :=
 fun o E G a w h1 h2 h3 h4=>uAx h hi hg hgi ht hel (hn h4) hj o E G a w h1 h2 h3 h4
theorem uI2 (j' : Nat) {N : Nat} {ops : Array Oper} {rest : List Oper} {K : St→Prop} {st : St} {o : Oper} {d k : Nat} {x : Operand} {t : TypeId} {sz e by' L m0 : Nat} {cs : List C} {xs : List (List C)} {ti : TyI}
  (ho : o.op = .call { callee:=.builtin .append,args:=#[.tmp k,x],argTypes:=#[t,t] }) (hg : uA8 ops st o=some true) (hd : o.dst=some d)
  (hs : st.get k=some (true, .v (.ms (.l m0) sz 0 L))) (hw : st.own (.t k)=some sz) (hb : st.box (.l m0)=some cs) (hx : lk Z.T st t x=some (true, .v (.c (.sl sz xs))))
  (ht : tyAt Z.T t=some ti) (hel : ti.el=some (e,sz,by')) (hN : Nat.ble (d + 1) N=true) (hkd : Nat.beq k d=false) (hf1 : st.freshO (.l j',true)=true) (hf2 : st.freshO (.l m0,false)=true) (hcl : cs.length=L * sz) (hx1 : 1≤xs.length)
  (hbig : (L + xs.length) * by'≤140737488355328) (hmax : L + xs.length≤9223372036854775807)
  (h : AL Z N ops rest K (st.msApp d k j' (.l m0) sz (L + xs.length) (cs++xs.flatten))) (hz : Z.old=false:=by rfl) : AL Z N ops (o :: rest) K st :=
 uDm (uFs hg (by
  rw [hd,ho]
  exact uJF hs hw hx ht hel hN hkd ⟨_,rfl⟩ (St.freshO_ok hf1) (St.freshO_ok hf2) hcl hx1 hbig hmax (uNG hb hcl) (hz:=hz))) h
end Go.Abs
namespace Go.Proofs.YtnjjdbapadkomaaGreatDoor
open Go Go.Abs
def strC (L : List (List UInt8)) : List C:=L.map .s
theorem uHS : ∀ L : List (List UInt8),(strR L).flatten=strC L
 | []=>rfl
 | x :: L=>by
  show ([[C.s x]]++strR L).flatten=_
  rw [List.flatten_append,uHS L]; rfl
theorem uEK (L : List (List UInt8)) : (strC L).length=L.length:=by simp [strC]
theorem uGZ (a b : List (List UInt8)) : strC (a++b)=strC a++strC b:=by simp [strC]
theorem uLI (L : List (List UInt8)) : ∀ (i : Nat) (row : List C),(strR L)[i]? = some row→row.length=1:=by
 intro i row h
 rw [strR,List.getElem?_map,Option.map_eq_some_iff] at h
 obtain ⟨x,_,rfl⟩:=h
 rfl
theorem uKM (L : List (List UInt8)) (x : List UInt8) {j : Nat} (hj : j=L.length) : (strC (L++[x]))[0 + j * 1]? = some (.s x):=by
 subst hj; simp [strC]
theorem uIv (L : List (List UInt8)) (x y : List UInt8) {j : Nat} (hj : j=L.length) : uBB (strC (L++[x])) (0 + j * 1) [.s y]=strC (L++[y]):=by
 subst hj
 rw [uGZ,uGZ,Nat.zero_add,Nat.mul_one]
 have := uHn [C.s y] (strC L) [C.s x] [] rfl
 rw [uEK,List.append_nil,List.append_nil] at this
 exact this
theorem uNy {a b : Nat} (h : a≤b) : Nat.ble a b=true:=Nat.ble_eq_true_of_le h
def Nar.lk (n : Nar) (k : Nat) : List (List UInt8):=[uGW n,(Itm.roles n.roles).text]++(frI n.fresh k).map Itm.text
theorem uJH (n : Nar) (k : Nat) : (n.lk k).length=2 + (frI n.fresh k).length:=by simp [Nar.lk]; omega
theorem uNi (f : Fs) : fsW f.pr=f.name++[32]++sortW.getD (f.sort - 2).toNat []:=by simp [fsW,Fs.pr,uHT]
theorem uMR {n : Nar} {k : Nat} (hs : uD4 n.fresh k) : ∃ L x,n.lk k=L++[x++[59]]∧n.lk (k + 1)=L++[x++[44,32]++fsW (n.fresh.getD k default).pr++[59]] ∧ ∃ l,(Itm.fresh (n.fresh.getD k default).role l) ∈ frI n.fresh k∧x++[59]=(Itm.fresh (n.fresh.getD k default).role l).text:=by
 obtain ⟨I,l,h1,h2,h3⟩:=uGo hs
 obtain ⟨x,hx⟩:=uK7 (n.fresh.getD k default).role l
 refine ⟨[uGW n,(Itm.roles n.roles).text]++I.map Itm.text,x,?_,?_,l,by rw [h2]; simp,hx.symm⟩
 ·rw [Nar.lk,h2,← hx]; simp
 ·rw [Nar.lk,h3,List.map_append,List.map_cons,List.map_nil,uKX _ h1,hx,List.dropLast_concat]; simp
theorem uNp {n : Nar} {k : Nat} (hs : ¬uD4 n.fresh k) : n.lk (k + 1)=n.lk k++[hFresh++(n.fresh.getD k default).role++[58,32]++fsW (n.fresh.getD k default).pr++[59]]:=by
 rw [Nar.lk,uH5 hs,Nar.lk]
 simp [Itm.text,uGz]
def uEU (n : Nar) : List UInt8 × Int:=if narE uAH n≠0 then ([],narE uAH n) else (n.text,0)
def Nar.rest (n : Nar) (j k : Nat) : List (List UInt8):=n.lk n.fresh.length++((if n.tags=[] then [] else [(Itm.tags n.tags).text])++((n.steps.take j).map (fun s=>(Itm.step s).text)++(n.goals.take k).map fun g=>(Itm.goal g).text))
theorem uIK (n : Nar) : n.rest n.steps.length n.goals.length++[[125]]=n.lines:=by
 simp only [Nar.rest,List.take_length,Nar.lk,Nar.lines,Nar.itms]
 split <;> simp [List.map_map,Function.comp_def]
theorem uHR (n : Nar) {j : Nat} (h : j < n.steps.length) : n.rest (j + 1) 0=n.rest j 0++[(Itm.step (n.steps.getD j default)).text]:=by
 simp only [Nar.rest,map_take (d:=default) (fun s=>(Itm.step s).text) h]
 simp
theorem uHf (n : Nar) {k : Nat} (h : k < n.goals.length) : n.rest n.steps.length (k + 1)=n.rest n.steps.length k++[(Itm.goal (n.goals.getD k default)).text]:=by
 simp only [Nar.rest,map_take (d:=default) (fun g=>(Itm.goal g).text) h]
 simp
theorem uMq (n : Nar) (j k : Nat) : (n.rest j k).length≤2 + n.fresh.length + 1 + n.steps.length + n.goals.length:=by
 have := uEP n.fresh n.fresh.length
 have := List.length_take_le j n.steps
 have := List.length_take_le k n.goals
 simp only [Nar.rest,List.length_append,List.length_map,uJH]
 split <;> simp <;> omega
theorem uNr {n : Nar} (h : NarOk n) {k : Nat} (hk : k≤n.fresh.length) : (n.lk k).length≤14:=by
 have := uEP n.fresh k
 have := h.f2
 rw [uJH]; omega
theorem uE1 {n : Nar} (h : NarOk n) (j k : Nat) : (n.rest j k).length≤31:=by
 have := uMq n j k
 have := h.f2
 have := h.s2
 have := h.g2
 omega
set_option maxHeartbeats 8000000 in
theorem uII (n : Nar) (hs : ∀ s ∈ n.steps,s.msg.size≤900000) (hg : ∀ g ∈ n.goals,T.sizes g.data≤900000) : Ctr sys 12 [xn n] [] (xse (uEU n)) none []:=by
 have hr1:=uAh n.roles
 have hr2:=Fs.rows_len n.fresh
 have hr3:=uAh n.tags
 have hr4:=Sp.rows_len n.steps
 have hr5:=Gl.rows_len n.goals
 refine uAw Tryz.func12 rfl rfl rfl rfl rfl rfl ?_;refine uAe (uAb ?_);refine uAu rfl (uAR rfl rfl rfl rfl) ?_;refine uAa rfl rfl rfl (uAd rfl gU) ?_;refine uAa rfl rfl rfl (uAd rfl gU) ?_;refine uAf ?_;refine uAe ?_;refine uAe (uAb ?_);refine uAa rfl rfl rfl (uAt rfl gU rfl rfl rfl rfl rfl) ?_;refine uAv rfl rfl rfl rfl rfl rfl gU gU (uDC n hs hg) rfl ?_;refine uAa rfl rfl rfl (uAd rfl gU) ?_;refine uAf ?_;refine uAn (s:=⟨[(1,_,_),(4,_,_)],[(.l 1,_)],[],[]⟩) (uAj (⟨sx rfl,sx rfl,trivial⟩) (⟨sx rfl,trivial⟩) trivial) ?_;refine uAe (uAb ?_);refine uAa rfl rfl rfl (uAc rfl gU) ?_;refine uAa rfl rfl rfl (uAi rfl rfl gU gU rfl) ?_;refine uAf ?_;refine uAm rfl (fun hc=>?_) (fun hc=>?_)
 ·try simp only [nn,uAh,T.rows_len,Gl.rows_len,Fs.rows_len,Sp.rows_len] at hc
  refine uAe (uAb ?_);refine uAa rfl rfl rfl (uAc rfl gU) ?_;refine uAa rfl rfl rfl (uAd rfl gU) ?_;refine uAa rfl rfl rfl (uAd rfl gU) ?_;refine uAf ?_;refine uAo ?_
  repeat (first | refine tR ?_ | refine bR ?_)
  refine uAq rfl ?_ trivial
  (rw [uEU,if_pos hc]; rfl)
 ·try simp only [nn,uAh,T.rows_len,Gl.rows_len,Fs.rows_len,Sp.rows_len] at hc
  have hE : uEU n=(n.text,0):=by rw [uEU,if_neg (by simpa using hc)]
  have hok:=uJz (n:=n) (by simpa using hc)
  have b1:=uCh hok.name
  have b2:=uDF hok.roles
  have b3:=hok.r2
  have b4:=uDF hok.tags
  have b5:=hok.t2
  have b6:=hok.f2
  have b7:=hok.s2
  have b8:=hok.g2
  rw [hE]
  refine uAp ?_;refine uAe ?_;refine awp_drawn' (by kernel_rfl) ?_;refine uAk rfl rfl rfl rfl (uAg rfl gU rfl rfl) ?_;refine uAS rfl rfl rfl rfl rfl rfl rfl gU rfl rfl rfl rfl ?_;refine uAk rfl rfl rfl rfl (uAC rfl rfl gU gU (by first | omega | (simp only [List.length_append,List.length_cons,List.length_nil]; omega))) ?_;refine uAk rfl rfl rfl rfl (uAC rfl rfl gU gU (by first | omega | (simp only [List.length_append,List.length_cons,List.length_nil]; omega))) ?_;refine uAk rfl rfl rfl rfl (uAg rfl gU rfl rfl) ?_;refine uAS rfl rfl rfl rfl rfl rfl rfl gU rfl rfl rfl rfl ?_;refine uBa rfl rfl rfl rfl rfl rfl rfl gU gU (uDq n.roles [44,32] (by omega) (by decide) (by omega)) rfl ?_;refine uAk rfl rfl rfl rfl (uAC rfl rfl gU gU (by first | omega | (simp only [List.length_append,List.length_cons,List.length_nil]; omega))) ?_;refine uAk rfl rfl rfl rfl (uAC rfl rfl gU gU (by first | omega | (simp only [List.length_append,List.length_cons,List.length_nil]; omega))) ?_;refine uJV 28 (xs:=[_,_]) rfl rfl rfl rfl rfl rfl rfl rfl rfl rfl rfl rfl rfl ?_;refine uD6 rfl (.inr rfl) rfl rfl rfl rfl rfl ?_;refine uBf (by kernel_rfl) ?_;refine uAn (s:=⟨[(1,_,_),(5,_,_)],[(.l 1,_),(.l 28,_)],[(.t 5,_)],[]⟩) (uAj (⟨sx rfl,sx rfl,trivial⟩) (⟨sx rfl,sx rfl,trivial⟩) (⟨rfl,trivial⟩)) ?_;refine uAe ?_;refine uAe (uAb ?_)
  refine uAa rfl rfl rfl (uAg rfl gU rfl rfl) ?_;refine uAa rfl rfl rfl (uAl rfl gU rfl rfl rfl rfl) ?_;refine uAO rfl rfl rfl rfl rfl gU rfl rfl ?_ (fun hh=>by simp at hh); intro hlen;refine uAa rfl rfl rfl (uAc rfl gU) ?_;refine uAf ?_;refine uAs ?_;refine uAX (ι:=Nat) { t:=[(1,_,_),(30,_,_),(31,_,_)],bx:=[(.l 1,_)],ow:=[(.t 5,_)] } (fun k=>[(32,true,xi (k : Int)),(5,true, .v (.ms (.l 28) 1 0 (n.lk k).length))]) (fun k=>[((.l 28),strC (n.lk k))]) (fun k=>k≤n.fresh.length) (fun k=>n.fresh.length - k) (0) (by simp) (uAj (⟨sx rfl,sx rfl,sx rfl,sx rfl,sx rfl,trivial⟩) (⟨⟨_,rfl,by simp [strC,Nar.lk,frI,uGW,Itm.text,hProt,hRole]⟩,⟨sx rfl,trivial⟩⟩) (⟨rfl,trivial⟩)) ?_
  intro k hokk
  dsimp only [List.cons_append,List.nil_append]
  have hlm:=uNr hok hokk
  have hll:=uJH n k
  have hcl:=uEK (n.lk k)
  refine uAe (uAb ?_);refine uAa rfl rfl rfl (uAi rfl rfl gU gU rfl) ?_;refine uAf ?_;refine uAe ?_;refine uAm rfl (fun hc2=>?_) (fun hc2=>?_)
  ·try simp only [nn,uAh,T.rows_len,Gl.rows_len,Fs.rows_len,Sp.rows_len] at hc2
   have hlt : k < n.fresh.length:=by omega
   obtain ⟨f1,f2,f3,f4⟩:=hok.fresh _ (uBP (d:=default) hlt)
   have f5:=uCh f1
   have f6:=uCh f2
   have f7:=uL4 (n.fresh.getD k default).sort
   have f8:=uNi (n.fresh.getD k default)
   have hsl : sortW.length=3:=rfl
   have hfw : (fsW (n.fresh.getD k default).pr).length≤40:=by
    simp only [fsW,Fs.pr,List.length_append,List.length_cons,List.length_nil]; omega
   have f9 : (sortW.getD ((n.fresh.getD k default).sort - 2).toNat []).length≤5:=f7
   refine uAp ?_;refine uAe ?_;refine uAs ?_;refine uAe (uAb ?_);refine uAa rfl rfl rfl (uAc rfl gU) ?_;refine uAa rfl rfl rfl (uAx rfl rfl gU gU rfl rfl rfl (fun hh=>Fs.rows_at (by first | omega | (simp at hh ⊢; omega)))) ?_;refine uAa rfl rfl rfl (uAI rfl gU rfl rfl rfl rfl) ?_;refine uAu rfl (uAQ rfl rfl rfl) ?_;refine uAa rfl rfl rfl (uAd rfl gU) ?_;refine uAu rfl (uAA rfl rfl rfl rfl rfl rfl rfl) ?_;refine uAf ?_;refine uAn (s:=⟨[(1,_,_),(5,_,_),(6,_,_),(7,_,_),(30,_,_),(31,_,_),(32,_,_)],[(.l 1,_),(.l 28,_),(.l 7,_)],[(.t 5,_)],[]⟩) (uAj (⟨sx rfl,sx rfl,sx rfl,sx rfl,sx rfl,sx rfl,sx rfl,trivial⟩) (⟨sx rfl,sx rfl,sx rfl,trivial⟩) (⟨rfl,trivial⟩)) ?_;refine uAe ?_;refine awp_drawn' (by kernel_rfl) ?_;refine uAk rfl rfl rfl rfl (uAg rfl gU rfl rfl) ?_;refine uAS rfl rfl rfl rfl rfl rfl rfl gU rfl rfl rfl rfl ?_;refine uAk rfl rfl rfl rfl (uAC rfl rfl gU gU (by first | omega | (simp only [List.length_append,List.length_cons,List.length_nil]; omega))) ?_;refine uBa rfl rfl rfl rfl rfl rfl rfl gU gU (uEz) rfl ?_;refine uAk rfl rfl rfl rfl (uAg rfl gU rfl rfl) ?_;refine uAS rfl rfl rfl rfl rfl rfl rfl gU rfl rfl rfl rfl ?_;refine uAk rfl rfl rfl rfl (uAr rfl rfl gU gU rfl (IntWalk.i64_in _ (by omega))) ?_;refine uAk rfl rfl rfl rfl (uAx (j:=((n.fresh.getD k default).sort - 2).toNat) rfl rfl gU gU rfl rfl (by first | omega | (simp at hh ⊢; omega)) (fun hh=>uCC (by first | omega | (simp at hh ⊢; omega)))) ?_
   refine uAk rfl rfl rfl rfl (uAZ rfl gU rfl rfl rfl) ?_;refine uAk rfl rfl rfl rfl (uAC rfl rfl gU gU (by first | omega | (simp only [List.length_append,List.length_cons,List.length_nil]; omega))) ?_
   rw [← f8]
   refine uAk rfl rfl rfl rfl (uAd rfl gU) ?_;refine uBf (by kernel_rfl) ?_;refine uAn (s:=⟨[(1,_,_),(5,_,_),(6,_,_),(7,_,_),(8,_,_),(30,_,_),(31,_,_),(32,_,_)],[(.l 1,_),(.l 28,_),(.l 7,_)],[(.t 5,_)],[]⟩) (uAj (⟨sx rfl,sx rfl,sx rfl,sx rfl,sx rfl,sx rfl,sx rfl,sx rfl,trivial⟩) (⟨sx rfl,sx rfl,sx rfl,trivial⟩) (⟨(ak rfl (ak rfl (ak rfl (ak rfl (ak rfl (ak rfl (ak rfl (ak rfl (ak rfl (ak rfl (ak rfl (rfl)))))))))))),trivial⟩)) ?_;refine uAe ?_;refine uAe ?_;refine awp_drawn' (by kernel_rfl) ?_;refine uAk rfl rfl rfl rfl (uAc rfl gU) ?_;refine uAk rfl rfl rfl rfl (uAi rfl rfl gU gU rfl) ?_;refine uAk rfl rfl rfl rfl (uAc rfl gU) ?_;refine uAk rfl rfl rfl rfl (uAg rfl gU rfl rfl) ?_;refine uAS rfl rfl rfl rfl rfl rfl rfl (fun hh=>hh) rfl rfl rfl rfl ?_;refine uAk rfl rfl rfl rfl (uAc rfl gU) ?_;refine uAk rfl rfl rfl rfl (uAr rfl rfl (fun hh=>hh) gU rfl (IntWalk.i64_in _ (by omega))) ?_;refine uAk rfl rfl rfl rfl (uFU (j:=k - 1) rfl rfl (by first | exact fun hh=>hh | exact fun _=>rfl | exact fun hh=>gL hh | exact fun hh=>gL (gL hh) | (intro hh; simp_all)) (by first | exact fun hh=>hh | exact fun _=>rfl | exact fun hh=>gL hh | exact fun hh=>gL (gL hh) | (intro hh; simp_all)) rfl rfl (fun hh=>by simp at hh; omega) (fun hh=>Fs.rows_at (by simp at hh; omega))) ?_
   refine uAk rfl rfl rfl rfl (uBb rfl (fun hh=>hh) rfl rfl) ?_;refine uAk rfl rfl rfl rfl (uAZ rfl (fun hh=>hh) rfl rfl rfl) ?_;refine uAk rfl rfl rfl rfl (uAg rfl gU rfl rfl) ?_;refine uAS rfl rfl rfl rfl rfl rfl rfl (fun hh=>hh) rfl rfl rfl rfl ?_;refine uAk rfl rfl rfl rfl (uA2 rfl rfl (fun hh=>hh) (fun hh=>hh) rfl) ?_;refine uAk rfl rfl rfl rfl (uAP rfl rfl gU (fun _ hi=>gP rfl hi)) ?_;refine uBf (by kernel_rfl) ?_;refine uAn (s:=⟨[(1,_,_),(5,_,_),(7,_,_),(8,_,_),(30,_,_),(31,_,_),(32,_,_),(60,_,_)],[(.l 1,_),(.l 28,_),(.l 7,_)],[(.t 5,_)],[]⟩) (uAj (⟨sx rfl,sx rfl,sx rfl,sx rfl,sx rfl,sx rfl,sx rfl,sx rfl,trivial⟩) (⟨sx rfl,sx rfl,sx rfl,trivial⟩) (⟨(ak rfl (ak rfl (ak rfl (ak rfl (ak rfl (ak rfl (ak rfl (ak rfl (ak rfl (ak rfl (ak rfl (ak rfl (ak rfl (ak rfl (rfl))))))))))))))),trivial⟩)) ?_;refine uAm rfl (fun hc3=>?_) (fun hc3=>?_)
   ·try simp only [nn,uAh,T.rows_len,Gl.rows_len,Fs.rows_len,Sp.rows_len] at hc3
    have hsm : uD4 n.fresh k:=⟨by omega,hc3.2⟩
    obtain ⟨L,x,e1,e2,l,e3,e4⟩:=uMR hsm
    have hxl : x.length≤500:=by
     have := uIm hok.fresh (k := k) hokk hok.f2 _ e3
     rw [← e4,List.length_append] at this; omega
    have e5 : (n.lk k).length=L.length + 1:=by rw [e1]; simp
    have e6 : (n.lk (k + 1)).length=L.length + 1:=by rw [e2]; simp
    rw [e5]
    rw [e1]
    refine uAe (uAb ?_);refine uAa rfl rfl rfl (uAc rfl gU) ?_;refine uAa rfl rfl rfl (uAc rfl gU) ?_;refine uAa rfl rfl rfl (uJX rfl gU rfl rfl) ?_;refine uAa rfl rfl rfl (uAr rfl rfl gU gU rfl (IntWalk.i64_in _ (by omega))) ?_;refine uAa rfl rfl rfl (uH0 (j:=L.length) rfl rfl gU gU rfl rfl (by first | rfl | first | omega | (simp at hh ⊢; omega)) (fun hh=>by first | omega | (simp at hh ⊢; omega))) ?_;refine uAa rfl rfl rfl (uAd rfl gU) ?_;refine uAf ?_;refine uAn (s:=⟨[(1,_,_),(5,_,_),(8,_,_),(9,_,_),(30,_,_),(31,_,_),(32,_,_)],[(.l 1,_),(.l 28,_)],[(.t 5,_)],[]⟩) (uAj (⟨sx rfl,sx rfl,sx rfl,sx rfl,sx rfl,sx rfl,sx rfl,trivial⟩) (⟨sx rfl,sx rfl,trivial⟩) (⟨rfl,trivial⟩)) ?_;refine uAe (uAb ?_);refine uAa rfl rfl rfl (uAc rfl gU) ?_;refine uAa rfl rfl rfl (uAc rfl gU) ?_;refine uAa rfl rfl rfl (uAy rfl gU) ?_;refine uAa rfl rfl rfl (uAl rfl gU rfl rfl rfl (uKM L _ rfl)) ?_;refine uAv rfl rfl rfl rfl rfl rfl gU gU (uHY x 59 (by omega)) rfl ?_;refine uAa rfl rfl rfl (uAC rfl rfl gU gU (by first | omega | (simp only [List.length_append,List.length_cons,List.length_nil]; omega))) ?_;refine uAa rfl rfl rfl (uAc rfl gU) ?_;refine uAa rfl rfl rfl (uAC rfl rfl gU gU (by first | omega | (simp only [List.length_append,List.length_cons,List.length_nil]; omega))) ?_
    refine uAa rfl rfl rfl (uAC rfl rfl gU gU (by first | omega | (simp only [List.length_append,List.length_cons,List.length_nil]; omega))) ?_;refine uAa rfl rfl rfl (uAy rfl gU) ?_;refine uAu rfl (uAA rfl rfl rfl rfl rfl rfl (uNy (by rw [uEK]; simp))) ?_;refine uAf ?_;refine uAN ?_
    repeat (first | refine uAE ?_ | refine uAF ?_ | refine uAB rfl ?_)
    refine uAb ?_;refine uAa rfl rfl rfl (uAr rfl rfl gU gU rfl (IntWalk.i64_in _ (by omega))) ?_;refine uAa rfl rfl rfl (uAc rfl gU) ?_;refine uAf ?_;refine ⟨k + 1,?_,?_,uAj (⟨⟨_,rfl,?_⟩,⟨⟨_,rfl,?_⟩,⟨sx rfl,sx rfl,sx rfl,trivial⟩⟩⟩) (⟨⟨_,rfl,?_⟩,⟨sx rfl,trivial⟩⟩) (⟨rfl,trivial⟩)⟩
    all_goals first
     | rfl
     | omega
     | exact tx (by rw [e6])
     | (rw [uIv L _ _ rfl,e2]; done)
     | (rw [uIv L _ _ rfl,e2]; rfl)
   ·try simp only [nn,uAh,T.rows_len,Gl.rows_len,Fs.rows_len,Sp.rows_len] at hc3
    have hsm : ¬uD4 n.fresh k:=by
     rintro ⟨q1,q2⟩
     rcases hc3 with q | q
     ·omega
     ·exact q q2
    have e1:=uNp hsm
    have e2 : (n.lk (k + 1)).length=(n.lk k).length + 1:=by rw [e1]; simp
    refine uAp ?_;refine uAb ?_;refine uAu rfl (uAG (.inl rfl) rfl rfl rfl) ?_;refine uAa rfl rfl rfl (uAg rfl gU rfl rfl) ?_;refine uAa rfl rfl rfl (uAl rfl gU rfl rfl rfl rfl) ?_;refine uAa rfl rfl rfl (uAC rfl rfl gU gU (by first | omega | (simp only [List.length_append,List.length_cons,List.length_nil]; omega))) ?_;refine uAa rfl rfl rfl (uAC rfl rfl gU gU (by first | omega | (simp only [List.length_append,List.length_cons,List.length_nil]; omega))) ?_;refine uAa rfl rfl rfl (uAc rfl gU) ?_;refine uAa rfl rfl rfl (uAC rfl rfl gU gU (by first | omega | (simp only [List.length_append,List.length_cons,List.length_nil]; omega))) ?_;refine uAa rfl rfl rfl (uAC rfl rfl gU gU (by first | omega | (simp only [List.length_append,List.length_cons,List.length_nil]; omega))) ?_;refine uAM (xs:=[_]) rfl rfl rfl rfl rfl rfl rfl rfl rfl gU rfl ?_;refine uI2 85 rfl rfl rfl rfl rfl rfl rfl rfl rfl rfl rfl rfl rfl (by rw [uEK,Nat.mul_one]) (by simp) (by simp; omega) (by simp; omega) ?_;refine uAu rfl (uAG (.inr rfl) rfl rfl rfl) ?_;refine uAf ?_;refine uAn (s:=⟨[(1,_,_),(5,_,_),(30,_,_),(31,_,_),(32,_,_)],[(.l 1,_),(.l 85,_)],[(.t 5,_)],[]⟩) (uAj (⟨sx rfl,sx rfl,sx rfl,sx rfl,sx rfl,trivial⟩) (⟨sx rfl,sx rfl,trivial⟩) (⟨rfl,trivial⟩)) ?_;refine uAb ?_;refine uBn (s:=⟨[(1,_,_),(5,_,_),(30,_,_),(31,_,_),(32,_,_)],[(.l 1,_),(.l 85,_)],[(.t 5,_)],[]⟩) (uAj (⟨sx rfl,sx rfl,sx rfl,sx rfl,sx rfl,trivial⟩) (⟨sx rfl,sx rfl,trivial⟩) (⟨rfl,trivial⟩)) ?_
    refine uKV 5 85 28 rfl rfl rfl rfl ?_;refine uBn (s:=⟨[(1,_,_),(5,_,_),(30,_,_),(31,_,_),(32,_,_)],[(.l 1,_),(.l 28,_)],[(.t 5,_)],[]⟩) (uAj (⟨sx rfl,sx rfl,sx rfl,sx rfl,sx rfl,trivial⟩) (⟨sx rfl,sx rfl,trivial⟩) (⟨rfl,trivial⟩)) ?_;refine uAa rfl rfl rfl (uAr rfl rfl gU gU rfl (IntWalk.i64_in _ (by omega))) ?_;refine uAa rfl rfl rfl (uAc rfl gU) ?_;refine uAf ?_;refine ⟨k + 1,?_,?_,uAj (⟨⟨_,rfl,?_⟩,⟨⟨_,rfl,?_⟩,⟨sx rfl,sx rfl,sx rfl,trivial⟩⟩⟩) (⟨⟨_,rfl,?_⟩,⟨sx rfl,trivial⟩⟩) (⟨rfl,trivial⟩)⟩
    all_goals first
     | rfl
     | omega
     | exact tx (by rw [e2]; rfl)
     | (rw [e1,uGZ]; rfl)
  ·try simp only [nn,uAh,T.rows_len,Gl.rows_len,Fs.rows_len,Sp.rows_len] at hc2
   have hke : k=n.fresh.length:=by omega
   subst hke
   refine uAN ?_
   repeat (first | refine uAE ?_ | refine uAF ?_ | refine uAB rfl ?_)
   refine uAe ?_;refine uAe (uAb ?_);refine uKP 5 28 (strR (n.lk n.fresh.length)) rfl (by rw [uHS]; rfl) (uAh _) (by omega) (uLI _) rfl ?_;refine uAa rfl rfl rfl (uAg rfl gU rfl rfl) ?_;refine uAa rfl rfl rfl (uAl rfl gU rfl rfl rfl rfl) ?_;refine uAO rfl rfl rfl rfl rfl gU rfl rfl ?_ (fun hh=>by simp at hh); intro hlen;refine uAa rfl rfl rfl (uAi rfl rfl gU gU rfl) ?_;refine uAf ?_;refine uAn (s:=⟨[(1,_,_),(5,_,_),(90,_,_)],[(.l 1,_)],[(.t 5,_)],[]⟩) (uAj (⟨sx rfl,sx rfl,sx rfl,trivial⟩) (⟨sx rfl,trivial⟩) (⟨rfl,trivial⟩)) ?_;refine uAm rfl (fun hc4=>?_) (fun hc4=>?_)
   ·try simp only [nn,uAh,T.rows_len,Gl.rows_len,Fs.rows_len,Sp.rows_len] at hc4
    have htg : n.tags≠[]:=by intro q; rw [q] at hc4; simp at hc4
    have e0 : n.rest 0 0=n.lk n.fresh.length++[(Itm.tags n.tags).text]:=by simp [Nar.rest,htg]
    refine uAb ?_;refine uAu rfl (uAG (.inl rfl) rfl rfl rfl) ?_;refine uAa rfl rfl rfl (uAg rfl gU rfl rfl) ?_;refine uAa rfl rfl rfl (uAl rfl gU rfl rfl rfl rfl) ?_;refine uAv rfl rfl rfl rfl rfl rfl gU gU (uDq n.tags [44,32] (by omega) (by decide) (by omega)) rfl ?_;refine uAa rfl rfl rfl (uAC rfl rfl gU gU (by first | omega | (simp only [List.length_append,List.length_cons,List.length_nil]; omega))) ?_;refine uAa rfl rfl rfl (uAC rfl rfl gU gU (by first | omega | (simp only [List.length_append,List.length_cons,List.length_nil]; omega))) ?_;refine uAM (xs:=[_]) rfl rfl rfl rfl rfl rfl rfl rfl rfl gU rfl ?_;refine uAu rfl (uA0 rfl rfl rfl rfl rfl rfl rfl (by first | omega | (simp only [List.length_append,List.length_singleton,uAh]; omega)) (by first | omega | (simp only [List.length_append,List.length_singleton,uAh]; omega))) ?_;refine uAu rfl (uAG (.inr rfl) rfl rfl rfl) ?_;refine uAf ?_;refine uAn (s:=⟨[(1,_,_),(5,_,_)],[(.l 1,_)],[(.t 5,_)],[]⟩) (uAj (⟨sx rfl,sx rfl,trivial⟩) (⟨sx rfl,trivial⟩) (⟨rfl,trivial⟩)) ?_;refine uAe ?_;refine uAe (uAb ?_);refine uAa rfl rfl rfl (uAg rfl gU rfl rfl) ?_;refine uAa rfl rfl rfl (uAl rfl gU rfl rfl rfl rfl) ?_;refine uAO rfl rfl rfl rfl rfl gU rfl rfl ?_ (fun hh=>by simp at hh); intro hlen;refine uAa rfl rfl rfl (uAc rfl gU) ?_
    refine uAf ?_;refine uAs ?_;refine uAX (ι:=Nat) { t:=[(1,_,_),(100,_,_),(101,_,_)],bx:=[(.l 1,_)],ow:=[(.t 5,_)] } (fun j=>[(102,true,xi (j : Int)),(5,true,xss (n.rest j 0))]) (fun j=>[]) (fun j=>j≤n.steps.length) (fun j=>n.steps.length - j) (0) (by simp) (uAj (⟨sx rfl,⟨⟨_,rfl,by rw [e0]; exact tx ((uBS _ _).trans (by simp [Itm.text,hTag]))⟩,⟨sx rfl,sx rfl,sx rfl,trivial⟩⟩⟩) (⟨sx rfl,trivial⟩) (⟨rfl,trivial⟩)) ?_
    intro j hokj
    dsimp only [List.cons_append,List.nil_append]
    have hm1:=uE1 hok j 0
    refine uAe (uAb ?_);refine uAa rfl rfl rfl (uAi rfl rfl gU gU rfl) ?_;refine uAf ?_;refine uAe ?_;refine uAm rfl (fun hc5=>?_) (fun hc5=>?_)
    ·try simp only [nn,uAh,T.rows_len,Gl.rows_len,Fs.rows_len,Sp.rows_len] at hc5
     have hlt : j < n.steps.length:=by omega
     obtain ⟨s1,s2,s3⟩:=hok.steps _ (uBP (d:=default) hlt)
     have s4:=uCh s1
     have s5:=uCh s2
     have s6:=s3.len
     refine uAp ?_;refine uAe ?_;refine uAs ?_;refine uAe (uAb ?_);refine uAa rfl rfl rfl (uAx rfl rfl gU gU rfl rfl rfl (fun hh=>Sp.rows_at (by first | omega | (simp at hh ⊢; omega)))) ?_;refine uAa rfl rfl rfl (uAI rfl gU rfl rfl rfl rfl) ?_;refine uAu rfl (uAQ rfl rfl rfl) ?_;refine uAu rfl (uAA rfl rfl rfl rfl rfl rfl rfl) ?_;refine uAf ?_;refine awp_drawn' (by kernel_rfl) ?_;refine uD6 rfl (.inl rfl) rfl rfl rfl rfl rfl ?_;refine uAk rfl rfl rfl rfl (uAg rfl gU rfl rfl) ?_;refine uAS rfl rfl rfl rfl rfl rfl rfl gU rfl rfl rfl rfl ?_;refine uAk rfl rfl rfl rfl (uAC rfl rfl gU gU (by first | omega | (simp only [List.length_append,List.length_cons,List.length_nil]; omega))) ?_;refine uAk rfl rfl rfl rfl (uAC rfl rfl gU gU (by first | omega | (simp only [List.length_append,List.length_cons,List.length_nil]; omega))) ?_;refine uAk rfl rfl rfl rfl (uAg rfl gU rfl rfl) ?_;refine uAS rfl rfl rfl rfl rfl rfl rfl gU rfl rfl rfl rfl ?_;refine uAk rfl rfl rfl rfl (uAC rfl rfl gU gU (by first | omega | (simp only [List.length_append,List.length_cons,List.length_nil]; omega))) ?_;refine uAk rfl rfl rfl rfl (uAC rfl rfl gU gU (by first | omega | (simp only [List.length_append,List.length_cons,List.length_nil]; omega))) ?_;refine uAk rfl rfl rfl rfl (uAg rfl gU rfl rfl) ?_;refine uBR rfl rfl rfl rfl rfl rfl rfl gU rfl rfl rfl rfl rfl ?_
     refine uBa rfl rfl rfl rfl rfl rfl rfl gU gU (uDI (n.steps.getD j default).msg (by have := s3.size; omega) s3.ok) rfl ?_;refine uAk rfl rfl rfl rfl (uAC rfl rfl gU gU (by first | omega | (simp only [List.length_append,List.length_cons,List.length_nil]; omega))) ?_;refine uAk rfl rfl rfl rfl (uAC rfl rfl gU gU (by first | omega | (simp only [List.length_append,List.length_cons,List.length_nil]; omega))) ?_;refine uCk (xs := [_]) rfl rfl rfl rfl rfl rfl rfl rfl rfl rfl gU rfl ?_;refine uBT rfl rfl rfl rfl rfl (rko (ak2 rfl (ak rfl (ak rfl (ak rfl (ak rfl (ak rfl (ak rfl (ak rfl (ak rfl (ak rfl (ak rfl (ak rfl (ak rfl (ak rfl (rfl)))))))))))))))) rfl rfl rfl rfl rfl (by first | omega | (simp only [List.length_append,List.length_singleton,uAh]; omega)) (by first | omega | (simp only [List.length_append,List.length_singleton,uAh]; omega)) ?_;refine uD6 rfl (.inr rfl) rfl rfl rfl rfl rfl ?_;refine uBf (by kernel_rfl) ?_;refine uAn (s := ⟨[(1,_,_),(5,_,_),(100,_,_),(101,_,_),(102,_,_)],[(.l 1,_)],[(.t 5,_)],[]⟩) (uAj (⟨sx rfl,sx rfl,sx rfl,sx rfl,sx rfl,trivial⟩) (⟨sx rfl,trivial⟩) (⟨rfl,trivial⟩)) ?_;refine uAb ?_;refine uAa rfl rfl rfl (uAr rfl rfl gU gU rfl (IntWalk.i64_in _ (by omega))) ?_;refine uAa rfl rfl rfl (uAc rfl gU) ?_;refine uAf ?_;refine ⟨j + 1,?_,?_,uAj (⟨⟨_,rfl,?_⟩,⟨⟨_,rfl,?_⟩,⟨sx rfl,sx rfl,sx rfl,trivial⟩⟩⟩) (⟨sx rfl,trivial⟩) (⟨rfl,trivial⟩)⟩
     all_goals first
      | rfl
      | omega
      | exact tx ((uBS _ _).trans (by rw [uHR n hlt]; simp [Itm.text,hMsg,arrow]))
    ·try simp only [nn,uAh,T.rows_len,Gl.rows_len,Fs.rows_len,Sp.rows_len] at hc5
     have hje : j=n.steps.length:=by omega
     subst hje
     refine uAN ?_
     repeat (first | refine uAE ?_ | refine uAF ?_ | refine uAB rfl ?_)
     refine uAe ?_;refine uAe (uAb ?_);refine uAa rfl rfl rfl (uAg rfl gU rfl rfl) ?_;refine uAa rfl rfl rfl (uAl rfl gU rfl rfl rfl rfl) ?_;refine uAO rfl rfl rfl rfl rfl gU rfl rfl ?_ (fun hh=>by simp at hh); intro hlen;refine uAa rfl rfl rfl (uAc rfl gU) ?_;refine uAf ?_;refine uAn (s:=⟨[(5,_,_),(124,_,_),(125,_,_),(126,_,_)],[],[(.t 5,_)],[]⟩) (uAj (⟨sx rfl,sx rfl,sx rfl,sx rfl,trivial⟩) trivial (⟨rfl,trivial⟩)) ?_;refine uAs ?_;refine uAX (ι:=Nat) { t:=[(124,_,_),(125,_,_)],bx:=[],ow:=[(.t 5,_)] } (fun k=>[(126,true,xi (k : Int)),(5,true,xss (n.rest n.steps.length k))]) (fun k=>[]) (fun k=>k≤n.goals.length) (fun k=>n.goals.length - k) (0) (by simp) (uAj (⟨sx rfl,sx rfl,sx rfl,sx rfl,trivial⟩) trivial (⟨rfl,trivial⟩)) ?_
     intro k hokk2
     dsimp only [List.cons_append,List.nil_append]
     have hm2:=uE1 hok n.steps.length k
     refine uAe (uAb ?_);refine uAa rfl rfl rfl (uAi rfl rfl gU gU rfl) ?_;refine uAf ?_;refine uAe ?_;refine uAm rfl (fun hc6=>?_) (fun hc6=>?_)
     ·try simp only [nn,uAh,T.rows_len,Gl.rows_len,Fs.rows_len,Sp.rows_len] at hc6
      have hlt : k < n.goals.length:=by omega
      have hgk:=hok.goals _ (uBP (d:=default) hlt)
      have g1:=uFb hgk
      have g2:=uGA (n.goals.getD k default)
      have g3 : (uC4 (n.goals.getD k default)).length≤4600:=by
       rw [g2] at g1; simp only [List.length_append] at g1; omega
      refine uAp ?_;refine uAe ?_;refine uAs ?_;refine uAe (uAb ?_);refine uAa rfl rfl rfl (uAx rfl rfl gU gU rfl rfl rfl (fun hh=>Gl.rows_at (by first | omega | (simp at hh ⊢; omega)))) ?_;refine uAa rfl rfl rfl (uAI rfl gU rfl rfl rfl rfl) ?_;refine uAu rfl (uAQ rfl rfl rfl) ?_;refine uAu rfl (uAA rfl rfl rfl rfl rfl rfl rfl) ?_;refine uAf ?_;refine uAb ?_;refine uAu rfl (uAG (.inl rfl) rfl rfl rfl) ?_;refine uAa rfl rfl rfl (uAt rfl gU rfl rfl rfl rfl rfl) ?_;refine uAv rfl rfl rfl rfl rfl rfl gU gU (uDo _ hgk) rfl ?_;refine uAa rfl rfl rfl (uAC rfl rfl gU gU (by first | omega | (simp only [List.length_append,List.length_cons,List.length_nil]; omega))) ?_;refine uAa rfl rfl rfl (uAC rfl rfl gU gU (by first | omega | (simp only [List.length_append,List.length_cons,List.length_nil]; omega))) ?_;refine uAM (xs:=[_]) rfl rfl rfl rfl rfl rfl rfl rfl rfl gU rfl ?_;refine uAu rfl (uA0 rfl rfl rfl rfl rfl rfl rfl (by first | omega | (simp only [List.length_append,List.length_singleton,uAh]; omega)) (by first | omega | (simp only [List.length_append,List.length_singleton,uAh]; omega))) ?_;refine uAu rfl (uAG (.inr rfl) rfl rfl rfl) ?_;refine uAf ?_;refine uAn (s:=⟨[(5,_,_),(124,_,_),(125,_,_),(126,_,_)],[],[(.t 5,_)],[]⟩) (uAj (⟨sx rfl,sx rfl,sx rfl,sx rfl,trivial⟩) trivial (⟨rfl,trivial⟩)) ?_
      refine uAb ?_;refine uAa rfl rfl rfl (uAr rfl rfl gU gU rfl (IntWalk.i64_in _ (by omega))) ?_;refine uAa rfl rfl rfl (uAc rfl gU) ?_;refine uAf ?_;refine ⟨k + 1,?_,?_,uAj (⟨⟨_,rfl,?_⟩,⟨⟨_,rfl,?_⟩,⟨sx rfl,sx rfl,trivial⟩⟩⟩) trivial (⟨rfl,trivial⟩)⟩
      all_goals first
       | rfl
       | omega
       | exact tx ((uBS _ _).trans (by rw [uHf n hlt,g2]; simp [hGoal]))
     ·try simp only [nn,uAh,T.rows_len,Gl.rows_len,Fs.rows_len,Sp.rows_len] at hc6
      have hke : k=n.goals.length:=by omega
      subst hke
      have hj1:=uIK n
      have hj2 : (Lib.join n.lines [10]).length≤60000:=by
       have := hok.text_len
       simp only [Nar.text,List.length_append] at this; omega
      have hj3 : X.v (.c (.sl 1 (strR (n.rest n.steps.length n.goals.length)++[[C.s [125]]])))=xss n.lines:=by rw [← hj1]; exact uBS _ _
      have hjn : Ctr sys 40 [.v (.c (.sl 1 (strR (n.rest n.steps.length n.goals.length)++[[C.s [125]]]))),xs [10]] [] (xs (Lib.join n.lines [10])) none []:=by
       rw [hj3]; exact uDq n.lines [10] (by have := hok.lines_len; omega) (by decide) (by omega)
      refine uAN ?_
      repeat (first | refine uAE ?_ | refine uAF ?_ | refine uAB rfl ?_)
      refine uAe (uAb ?_);refine uAu rfl (uAG (.inl rfl) rfl rfl rfl) ?_;refine uAM (xs:=[_]) rfl rfl rfl rfl rfl rfl rfl rfl rfl gU rfl ?_;refine uAu rfl (uA0 rfl rfl rfl rfl rfl rfl rfl (by first | omega | (simp only [List.length_append,List.length_singleton,uAh]; omega)) (by first | omega | (simp only [List.length_append,List.length_singleton,uAh]; omega))) ?_;refine uAv rfl rfl rfl rfl rfl rfl gU gU (hjn) rfl ?_;refine uAa rfl rfl rfl (uAC rfl rfl gU gU (by first | omega | (simp only [List.length_append,List.length_cons,List.length_nil]; omega))) ?_;refine uAa rfl rfl rfl (uAd rfl gU) ?_;refine uAa rfl rfl rfl (uAd rfl gU) ?_;refine uAf ?_;refine uAo ?_
      repeat (first | refine tR ?_ | refine bR ?_)
      refine uAq rfl ?_ trivial
      rfl
   ·try simp only [nn,uAh,T.rows_len,Gl.rows_len,Fs.rows_len,Sp.rows_len] at hc4
    have htg : n.tags=[]:=List.length_eq_zero_iff.1 (by omega)
    have e0 : n.rest 0 0=n.lk n.fresh.length:=by simp [Nar.rest,htg]
    refine uAp ?_;refine uAe ?_;refine uAe (uAb ?_);refine uAa rfl rfl rfl (uAg rfl gU rfl rfl) ?_;refine uAa rfl rfl rfl (uAl rfl gU rfl rfl rfl rfl) ?_;refine uAO rfl rfl rfl rfl rfl gU rfl rfl ?_ (fun hh=>by simp at hh); intro hlen;refine uAa rfl rfl rfl (uAc rfl gU) ?_;refine uAf ?_;refine uAs ?_;refine uAX (ι:=Nat) { t:=[(1,_,_),(100,_,_),(101,_,_)],bx:=[(.l 1,_)],ow:=[(.t 5,_)] } (fun j=>[(102,true,xi (j : Int)),(5,true,xss (n.rest j 0))]) (fun j=>[]) (fun j=>j≤n.steps.length) (fun j=>n.steps.length - j) (0) (by simp) (uAj (⟨sx rfl,⟨⟨_,rfl,by rw [e0]⟩,⟨sx rfl,sx rfl,sx rfl,trivial⟩⟩⟩) (⟨sx rfl,trivial⟩) (⟨rfl,trivial⟩)) ?_
    intro j hokj
    dsimp only [List.cons_append,List.nil_append]
    have hm1:=uE1 hok j 0
    refine uAe (uAb ?_);refine uAa rfl rfl rfl (uAi rfl rfl gU gU rfl) ?_;refine uAf ?_;refine uAe ?_;refine uAm rfl (fun hc5=>?_) (fun hc5=>?_)
    ·try simp only [nn,uAh,T.rows_len,Gl.rows_len,Fs.rows_len,Sp.rows_len] at hc5
     have hlt : j < n.steps.length:=by omega
     obtain ⟨s1,s2,s3⟩:=hok.steps _ (uBP (d:=default) hlt)
     have s4:=uCh s1
     have s5:=uCh s2
     have s6:=s3.len
     refine uAp ?_;refine uAe ?_;refine uAs ?_;refine uAe (uAb ?_);refine uAa rfl rfl rfl (uAx rfl rfl gU gU rfl rfl rfl (fun hh=>Sp.rows_at (by first | omega | (simp at hh ⊢; omega)))) ?_;refine uAa rfl rfl rfl (uAI rfl gU rfl rfl rfl rfl) ?_;refine uAu rfl (uAQ rfl rfl rfl) ?_;refine uAu rfl (uAA rfl rfl rfl rfl rfl rfl rfl) ?_;refine uAf ?_;refine awp_drawn' (by kernel_rfl) ?_;refine uD6 rfl (.inl rfl) rfl rfl rfl rfl rfl ?_;refine uAk rfl rfl rfl rfl (uAg rfl gU rfl rfl) ?_;refine uAS rfl rfl rfl rfl rfl rfl rfl gU rfl rfl rfl rfl ?_;refine uAk rfl rfl rfl rfl (uAC rfl rfl gU gU (by first | omega | (simp only [List.length_append,List.length_cons,List.length_nil]; omega))) ?_;refine uAk rfl rfl rfl rfl (uAC rfl rfl gU gU (by first | omega | (simp only [List.length_append,List.length_cons,List.length_nil]; omega))) ?_;refine uAk rfl rfl rfl rfl (uAg rfl gU rfl rfl) ?_;refine uAS rfl rfl rfl rfl rfl rfl rfl gU rfl rfl rfl rfl ?_;refine uAk rfl rfl rfl rfl (uAC rfl rfl gU gU (by first | omega | (simp only [List.length_append,List.length_cons,List.length_nil]; omega))) ?_;refine uAk rfl rfl rfl rfl (uAC rfl rfl gU gU (by first | omega | (simp only [List.length_append,List.length_cons,List.length_nil]; omega))) ?_;refine uAk rfl rfl rfl rfl (uAg rfl gU rfl rfl) ?_;refine uBR rfl rfl rfl rfl rfl rfl rfl gU rfl rfl rfl rfl rfl ?_
     refine uBa rfl rfl rfl rfl rfl rfl rfl gU gU (uDI (n.steps.getD j default).msg (by have := s3.size; omega) s3.ok) rfl ?_;refine uAk rfl rfl rfl rfl (uAC rfl rfl gU gU (by first | omega | (simp only [List.length_append,List.length_cons,List.length_nil]; omega))) ?_;refine uAk rfl rfl rfl rfl (uAC rfl rfl gU gU (by first | omega | (simp only [List.length_append,List.length_cons,List.length_nil]; omega))) ?_;refine uCk (xs := [_]) rfl rfl rfl rfl rfl rfl rfl rfl rfl rfl gU rfl ?_;refine uBT rfl rfl rfl rfl rfl (rko (ak2 rfl (ak rfl (ak rfl (ak rfl (ak rfl (ak rfl (ak rfl (ak rfl (ak rfl (ak rfl (ak rfl (ak rfl (ak rfl (ak rfl (rfl)))))))))))))))) rfl rfl rfl rfl rfl (by first | omega | (simp only [List.length_append,List.length_singleton,uAh]; omega)) (by first | omega | (simp only [List.length_append,List.length_singleton,uAh]; omega)) ?_;refine uD6 rfl (.inr rfl) rfl rfl rfl rfl rfl ?_;refine uBf (by kernel_rfl) ?_;refine uAn (s := ⟨[(1,_,_),(5,_,_),(100,_,_),(101,_,_),(102,_,_)],[(.l 1,_)],[(.t 5,_)],[]⟩) (uAj (⟨sx rfl,sx rfl,sx rfl,sx rfl,sx rfl,trivial⟩) (⟨sx rfl,trivial⟩) (⟨rfl,trivial⟩)) ?_;refine uAb ?_;refine uAa rfl rfl rfl (uAr rfl rfl gU gU rfl (IntWalk.i64_in _ (by omega))) ?_;refine uAa rfl rfl rfl (uAc rfl gU) ?_;refine uAf ?_;refine ⟨j + 1,?_,?_,uAj (⟨⟨_,rfl,?_⟩,⟨⟨_,rfl,?_⟩,⟨sx rfl,sx rfl,sx rfl,trivial⟩⟩⟩) (⟨sx rfl,trivial⟩) (⟨rfl,trivial⟩)⟩
     all_goals first
      | rfl
      | omega
      | exact tx ((uBS _ _).trans (by rw [uHR n hlt]; simp [Itm.text,hMsg,arrow]))
    ·try simp only [nn,uAh,T.rows_len,Gl.rows_len,Fs.rows_len,Sp.rows_len] at hc5
     have hje : j=n.steps.length:=by omega
     subst hje
     refine uAN ?_
     repeat (first | refine uAE ?_ | refine uAF ?_ | refine uAB rfl ?_)
     refine uAe ?_;refine uAe (uAb ?_);refine uAa rfl rfl rfl (uAg rfl gU rfl rfl) ?_;refine uAa rfl rfl rfl (uAl rfl gU rfl rfl rfl rfl) ?_;refine uAO rfl rfl rfl rfl rfl gU rfl rfl ?_ (fun hh=>by simp at hh); intro hlen;refine uAa rfl rfl rfl (uAc rfl gU) ?_;refine uAf ?_;refine uAn (s:=⟨[(5,_,_),(124,_,_),(125,_,_),(126,_,_)],[],[(.t 5,_)],[]⟩) (uAj (⟨sx rfl,sx rfl,sx rfl,sx rfl,trivial⟩) trivial (⟨rfl,trivial⟩)) ?_;refine uAs ?_;refine uAX (ι:=Nat) { t:=[(124,_,_),(125,_,_)],bx:=[],ow:=[(.t 5,_)] } (fun k=>[(126,true,xi (k : Int)),(5,true,xss (n.rest n.steps.length k))]) (fun k=>[]) (fun k=>k≤n.goals.length) (fun k=>n.goals.length - k) (0) (by simp) (uAj (⟨sx rfl,sx rfl,sx rfl,sx rfl,trivial⟩) trivial (⟨rfl,trivial⟩)) ?_
     intro k hokk2
     dsimp only [List.cons_append,List.nil_append]
     have hm2:=uE1 hok n.steps.length k
     refine uAe (uAb ?_);refine uAa rfl rfl rfl (uAi rfl rfl gU gU rfl) ?_;refine uAf ?_;refine uAe ?_;refine uAm rfl (fun hc6=>?_) (fun hc6=>?_)
     ·try simp only [nn,uAh,T.rows_len,Gl.rows_len,Fs.rows_len,Sp.rows_len] at hc6
      have hlt : k < n.goals.length:=by omega
      have hgk:=hok.goals _ (uBP (d:=default) hlt)
      have g1:=uFb hgk
      have g2:=uGA (n.goals.getD k default)
      have g3 : (uC4 (n.goals.getD k default)).length≤4600:=by
       rw [g2] at g1; simp only [List.length_append] at g1; omega
      refine uAp ?_;refine uAe ?_;refine uAs ?_;refine uAe (uAb ?_);refine uAa rfl rfl rfl (uAx rfl rfl gU gU rfl rfl rfl (fun hh=>Gl.rows_at (by first | omega | (simp at hh ⊢; omega)))) ?_;refine uAa rfl rfl rfl (uAI rfl gU rfl rfl rfl rfl) ?_;refine uAu rfl (uAQ rfl rfl rfl) ?_;refine uAu rfl (uAA rfl rfl rfl rfl rfl rfl rfl) ?_;refine uAf ?_;refine uAb ?_;refine uAu rfl (uAG (.inl rfl) rfl rfl rfl) ?_;refine uAa rfl rfl rfl (uAt rfl gU rfl rfl rfl rfl rfl) ?_;refine uAv rfl rfl rfl rfl rfl rfl gU gU (uDo _ hgk) rfl ?_;refine uAa rfl rfl rfl (uAC rfl rfl gU gU (by first | omega | (simp only [List.length_append,List.length_cons,List.length_nil]; omega))) ?_;refine uAa rfl rfl rfl (uAC rfl rfl gU gU (by first | omega | (simp only [List.length_append,List.length_cons,List.length_nil]; omega))) ?_;refine uAM (xs:=[_]) rfl rfl rfl rfl rfl rfl rfl rfl rfl gU rfl ?_;refine uAu rfl (uA0 rfl rfl rfl rfl rfl rfl rfl (by first | omega | (simp only [List.length_append,List.length_singleton,uAh]; omega)) (by first | omega | (simp only [List.length_append,List.length_singleton,uAh]; omega))) ?_;refine uAu rfl (uAG (.inr rfl) rfl rfl rfl) ?_;refine uAf ?_;refine uAn (s:=⟨[(5,_,_),(124,_,_),(125,_,_),(126,_,_)],[],[(.t 5,_)],[]⟩) (uAj (⟨sx rfl,sx rfl,sx rfl,sx rfl,trivial⟩) trivial (⟨rfl,trivial⟩)) ?_
      refine uAb ?_;refine uAa rfl rfl rfl (uAr rfl rfl gU gU rfl (IntWalk.i64_in _ (by omega))) ?_;refine uAa rfl rfl rfl (uAc rfl gU) ?_;refine uAf ?_;refine ⟨k + 1,?_,?_,uAj (⟨⟨_,rfl,?_⟩,⟨⟨_,rfl,?_⟩,⟨sx rfl,sx rfl,trivial⟩⟩⟩) trivial (⟨rfl,trivial⟩)⟩
      all_goals first
       | rfl
       | omega
       | exact tx ((uBS _ _).trans (by rw [uHf n hlt,g2]; simp [hGoal]))
     ·try simp only [nn,uAh,T.rows_len,Gl.rows_len,Fs.rows_len,Sp.rows_len] at hc6
      have hke : k=n.goals.length:=by omega
      subst hke
      have hj1:=uIK n
      have hj2 : (Lib.join n.lines [10]).length≤60000:=by
       have := hok.text_len
       simp only [Nar.text,List.length_append] at this; omega
      have hj3 : X.v (.c (.sl 1 (strR (n.rest n.steps.length n.goals.length)++[[C.s [125]]])))=xss n.lines:=by rw [← hj1]; exact uBS _ _
      have hjn : Ctr sys 40 [.v (.c (.sl 1 (strR (n.rest n.steps.length n.goals.length)++[[C.s [125]]]))),xs [10]] [] (xs (Lib.join n.lines [10])) none []:=by
       rw [hj3]; exact uDq n.lines [10] (by have := hok.lines_len; omega) (by decide) (by omega)
      refine uAN ?_
      repeat (first | refine uAE ?_ | refine uAF ?_ | refine uAB rfl ?_)
      refine uAe (uAb ?_);refine uAu rfl (uAG (.inl rfl) rfl rfl rfl) ?_;refine uAM (xs:=[_]) rfl rfl rfl rfl rfl rfl rfl rfl rfl gU rfl ?_;refine uAu rfl (uA0 rfl rfl rfl rfl rfl rfl rfl (by first | omega | (simp only [List.length_append,List.length_singleton,uAh]; omega)) (by first | omega | (simp only [List.length_append,List.length_singleton,uAh]; omega))) ?_;refine uAv rfl rfl rfl rfl rfl rfl gU gU (hjn) rfl ?_;refine uAa rfl rfl rfl (uAC rfl rfl gU gU (by first | omega | (simp only [List.length_append,List.length_cons,List.length_nil]; omega))) ?_;refine uAa rfl rfl rfl (uAd rfl gU) ?_;refine uAa rfl rfl rfl (uAd rfl gU) ?_;refine uAf ?_;refine uAo ?_
      repeat (first | refine tR ?_ | refine bR ?_)
      refine uAq rfl ?_ trivial
      rfl
end Go.Proofs.YtnjjdbapadkomaaGreatDoor
namespace Go.Proofs.YtnjjdbapadkomaaGreatDoor
open Go Go.Abs
theorem uCQ (s : List UInt8) : Ctr sys 53 [xs s] [] (xb (uAH s)) none []:=by rw [← uNL s]; exact uJI s
theorem uLu : ∀ (n : Nat) (t : T),t.size≤n→n≤2000000→Ctr sys 122 [xm t] [] (xi (rawE uAH t)) none []:=by
 intro n
 induction n with
 | zero=>intro t h; have := t.size_pos; omega
 | succ n ih =>
  intro t ht hn
  have hse:=t.size_eq
  have hrl:=T.rows_len t.kids
  have hls:=T.len_sizes t.kids
  have he:=uKE uAH t
  rw [uEC] at he
  refine uAw Tryz.func122 rfl rfl rfl rfl rfl rfl ?_;refine uAe (uAb ?_);refine uAu rfl (uAR rfl rfl rfl rfl) ?_;refine uAa rfl rfl rfl (uAd rfl gU) ?_;refine uAf ?_;refine uAe ?_;refine uAe (uAb ?_);refine uAa rfl rfl rfl (uAg rfl gU rfl rfl) ?_;refine uAa rfl rfl rfl (uAl rfl gU rfl rfl rfl rfl) ?_;refine uAa rfl rfl rfl (uAi rfl rfl gU gU rfl) ?_;refine uAa rfl rfl rfl (uAc rfl gU) ?_;refine uAa rfl rfl rfl (uAg rfl gU rfl rfl) ?_;refine uAa rfl rfl rfl (uAl rfl (fun hh=>hh) rfl rfl rfl rfl) ?_;refine uAa rfl rfl rfl (uAi rfl rfl (fun hh=>hh) gU rfl) ?_;refine uAa rfl rfl rfl (uAL rfl rfl gU (fun _ hi=>gP rfl hi)) ?_;refine uAf ?_;refine uAn (s:=⟨[(1,_,_),(12,_,_)],[(.l 1,_)],[],[]⟩) (uAj (⟨sx rfl,sx rfl,trivial⟩) (⟨sx rfl,trivial⟩) trivial) ?_;refine uAm rfl (fun hc=>?_) (fun hc=>?_)
  ·try simp only [nn,uAh,T.rows_len,Fs.rows_len,Sp.rows_len,Gl.rows_len] at hc
   refine uAe (uAb ?_);refine uAa rfl rfl rfl (uAd rfl gU) ?_;refine uAf ?_;refine uAo ?_
   repeat (first | refine tR ?_ | refine bR ?_)
   refine uAq rfl ?_ trivial
   (rw [he,if_pos (by grind)]; rfl)
  ·try simp only [nn,uAh,T.rows_len,Fs.rows_len,Sp.rows_len,Gl.rows_len] at hc
   rw [if_neg (by grind)] at he
   refine uAp ?_;refine uAe ?_;refine uAe (uAb ?_);refine uAa rfl rfl rfl (uAg rfl gU rfl rfl) ?_;refine uAa rfl rfl rfl (uAl rfl gU rfl rfl rfl rfl) ?_;refine uAv rfl rfl rfl rfl rfl rfl gU gU (uCQ _) rfl ?_;refine uAa rfl rfl rfl (uAU rfl gU) ?_;refine uAf ?_;refine uAm rfl (fun hc2=>?_) (fun hc2=>?_)
   ·try simp only [nn,uAh,T.rows_len,Fs.rows_len,Sp.rows_len,Gl.rows_len] at hc2
    refine uAe (uAb ?_);refine uAa rfl rfl rfl (uAd rfl gU) ?_;refine uAf ?_;refine uAo ?_
    repeat (first | refine tR ?_ | refine bR ?_)
    refine uAq rfl ?_ trivial
    (rw [he,if_pos hc2]; rfl)
   ·try simp only [nn,uAh,T.rows_len,Fs.rows_len,Sp.rows_len,Gl.rows_len] at hc2
    rw [if_neg (by rw [hc2]; simp)] at he
    refine uAp ?_;refine uAe ?_;refine uAe (uAb ?_);refine uAa rfl rfl rfl (uAd rfl gU) ?_;refine uAf ?_;refine uAn (s:=⟨[(1,_,_),(3,_,_)],[(.l 1,_)],[],[]⟩) (uAj (⟨sx rfl,sx rfl,trivial⟩) (⟨sx rfl,trivial⟩) trivial) ?_;refine uAs ?_;refine uAX (ι:=Nat) { t:=[(1,_,_)],bx:=[(.l 1,_)],ow:=[] } (fun k=>[(3,true,xi (k : Int))]) (fun k=>[]) (fun k=>k≤t.kids.length∧errs (rawE uAH) (t.kids.drop k)=rawE uAH t) (fun k=>t.kids.length - k) (0) (⟨by simp,by rw [he]; rfl⟩) (uAj (⟨sx rfl,sx rfl,trivial⟩) (⟨sx rfl,trivial⟩) trivial) ?_
    intro k hok
    dsimp only [List.cons_append,List.nil_append]
    obtain ⟨hk,hi⟩:=hok
    refine uAe ?_;refine uAe (uAb ?_);refine uAa rfl rfl rfl (uAc rfl gU) ?_;refine uAa rfl rfl rfl (uAg rfl gU rfl rfl) ?_;refine uAa rfl rfl rfl (uAl rfl gU rfl rfl rfl rfl) ?_;refine uAO rfl rfl rfl rfl rfl gU rfl rfl ?_ (fun hh=>by simp at hh); intro hlen;refine uAa rfl rfl rfl (uAi rfl rfl gU gU rfl) ?_;refine uAf ?_;refine uAn (s:=⟨[(1,_,_),(3,_,_),(21,_,_)],[(.l 1,_)],[],[]⟩) (uAj (⟨sx rfl,sx rfl,sx rfl,trivial⟩) (⟨sx rfl,trivial⟩) trivial) ?_;refine uAm rfl (fun hc3=>?_) (fun hc3=>?_)
    ·try simp only [nn,uAh,T.rows_len,Fs.rows_len,Sp.rows_len,Gl.rows_len] at hc3
     have hlt : k < t.kids.length:=by omega
     have h2:=T.getD_size hlt
     have hd:=uCa (d:=default) hlt hi
     refine uAp ?_;refine uAe ?_;refine uAs ?_;refine uAe (uAb ?_);refine uAa rfl rfl rfl (uAg rfl gU rfl rfl) ?_;refine uAa rfl rfl rfl (uAl rfl gU rfl rfl rfl rfl) ?_;refine uAa rfl rfl rfl (uAc rfl gU) ?_;refine uAa rfl rfl rfl (uAx rfl rfl gU gU rfl rfl rfl (fun hh=>T.rows_at (by first | omega | (simp at hh ⊢; omega)))) ?_;refine uAa rfl rfl rfl (uAI rfl gU rfl rfl rfl rfl) ?_;refine uAv rfl rfl rfl rfl rfl rfl gU gU (ih (t.kids.getD k default) (by omega) (by omega)) rfl ?_;refine uAa rfl rfl rfl (uAd rfl gU) ?_;refine uAf ?_;refine uAn (s:=⟨[(1,_,_),(3,_,_),(4,_,_)],[(.l 1,_)],[],[]⟩) (uAj (⟨sx rfl,sx rfl,sx rfl,trivial⟩) (⟨sx rfl,trivial⟩) trivial) ?_;refine uAe (uAb ?_);refine uAa rfl rfl rfl (uAc rfl gU) ?_;refine uAa rfl rfl rfl (uAi rfl rfl gU gU rfl) ?_;refine uAf ?_;refine uAm rfl (fun hc1=>?_) (fun hc1=>?_)
     ·try simp only [nn,uAh,T.rows_len,Fs.rows_len,Sp.rows_len,Gl.rows_len] at hc1
      refine uAe (uAb ?_);refine uAa rfl rfl rfl (uAc rfl gU) ?_;refine uAa rfl rfl rfl (uAd rfl gU) ?_;refine uAf ?_;refine uAo ?_
      repeat (first | refine tR ?_ | refine bR ?_)
      refine uAq rfl ?_ trivial;exact uA6 (hd.1 (by assumption)).symm
     ·try simp only [nn,uAh,T.rows_len,Fs.rows_len,Sp.rows_len,Gl.rows_len] at hc1
      refine uAp ?_;refine uAb ?_;refine uAa rfl rfl rfl (uAc rfl gU) ?_;refine uAa rfl rfl rfl (uAr rfl rfl gU gU rfl (IntWalk.i64_in _ (by omega))) ?_;refine uAa rfl rfl rfl (uAd rfl gU) ?_;refine uAf ?_;refine ⟨k + 1,?_,?_,uAj (⟨⟨_,rfl,?_⟩,⟨sx rfl,trivial⟩⟩) (⟨sx rfl,trivial⟩) trivial⟩
      all_goals (first | rfl | omega | exact ⟨by omega,hd.2 (by assumption)⟩)
    ·try simp only [nn,uAh,T.rows_len,Fs.rows_len,Sp.rows_len,Gl.rows_len] at hc3
     refine uAN ?_
     repeat (first | refine uAE ?_ | refine uAF ?_ | refine uAB rfl ?_)
     refine uAe (uAb ?_);refine uAa rfl rfl rfl (uAd rfl gU) ?_;refine uAf ?_;refine uAo ?_
     repeat (first | refine tR ?_ | refine bR ?_)
     refine uAq rfl ?_ trivial;exact uA6 (uC1 (by omega) hi).symm
theorem uLe (t : T) (ht : t.size≤900000) : Ctr sys 70 [xm t] [] (xi (uDb uAH t)) none []:=by
 refine uAw Tryz.func70 rfl rfl rfl rfl rfl rfl ?_;refine uAe (uAb ?_);refine uAu rfl (uAR rfl rfl rfl rfl) ?_;refine uAa rfl rfl rfl (uAd rfl gU) ?_;refine uAf ?_;refine uAe ?_;refine uAe (uAb ?_);refine uAa rfl rfl rfl (uAt rfl gU rfl rfl rfl rfl rfl) ?_;refine uAv rfl rfl rfl rfl rfl rfl gU gU (uJ2 _ (by omega)) rfl ?_;refine uAa rfl rfl rfl (uAd rfl gU) ?_;refine uAf ?_;refine uAn (s:=⟨[(1,_,_),(3,_,_)],[(.l 1,_)],[],[]⟩) (uAj (⟨sx rfl,sx rfl,trivial⟩) (⟨sx rfl,trivial⟩) trivial) ?_;refine uAe (uAb ?_);refine uAa rfl rfl rfl (uAc rfl gU) ?_;refine uAa rfl rfl rfl (uAi rfl rfl gU gU rfl) ?_;refine uAf ?_;refine uAm rfl (fun hc=>?_) (fun hc=>?_)
 ·try simp only [nn,uAh,T.rows_len,Fs.rows_len,Sp.rows_len,Gl.rows_len] at hc
  refine uAe (uAb ?_);refine uAa rfl rfl rfl (uAc rfl gU) ?_;refine uAa rfl rfl rfl (uAd rfl gU) ?_;refine uAf ?_;refine uAo ?_
  repeat (first | refine tR ?_ | refine bR ?_)
  refine uAq rfl ?_ trivial
  (rw [uDb,if_pos hc]; rfl)
 ·try simp only [nn,uAh,T.rows_len,Fs.rows_len,Sp.rows_len,Gl.rows_len] at hc
  refine uAp ?_;refine uAe (uAb ?_);refine uAa rfl rfl rfl (uAt rfl gU rfl rfl rfl rfl rfl) ?_;refine uAv rfl rfl rfl rfl rfl rfl gU gU (uLu _ _ (Nat.le_refl _) (by omega)) rfl ?_;refine uAa rfl rfl rfl (uAd rfl gU) ?_;refine uAf ?_;refine uAo ?_
  repeat (first | refine tR ?_ | refine bR ?_)
  refine uAq rfl ?_ trivial
  (rw [uDb,if_neg (by simpa using hc)]; rfl)
theorem uEq (t : T) (ht : t.size≤900000) : Ctr sys 56 [xm t] [] (xi (msgE uAH t)) none []:=by
 refine uAw Tryz.func56 rfl rfl rfl rfl rfl rfl ?_;refine uAe (uAb ?_);refine uAu rfl (uAR rfl rfl rfl rfl) ?_;refine uAa rfl rfl rfl (uAd rfl gU) ?_;refine uAf ?_;refine uAe ?_;refine uAe (uAb ?_);refine uAa rfl rfl rfl (uAt rfl gU rfl rfl rfl rfl rfl) ?_;refine uAv rfl rfl rfl rfl rfl rfl gU gU (uLe _ (by omega)) rfl ?_;refine uAa rfl rfl rfl (uAd rfl gU) ?_;refine uAf ?_;refine uAn (s:=⟨[(1,_,_),(3,_,_)],[(.l 1,_)],[],[]⟩) (uAj (⟨sx rfl,sx rfl,trivial⟩) (⟨sx rfl,trivial⟩) trivial) ?_;refine uAe (uAb ?_);refine uAa rfl rfl rfl (uAc rfl gU) ?_;refine uAa rfl rfl rfl (uAi rfl rfl gU gU rfl) ?_;refine uAf ?_;refine uAm rfl (fun hc=>?_) (fun hc=>?_)
 ·try simp only [nn,uAh,T.rows_len,Fs.rows_len,Sp.rows_len,Gl.rows_len] at hc
  refine uAe (uAb ?_);refine uAa rfl rfl rfl (uAc rfl gU) ?_;refine uAa rfl rfl rfl (uAd rfl gU) ?_;refine uAf ?_;refine uAo ?_
  repeat (first | refine tR ?_ | refine bR ?_)
  refine uAq rfl ?_ trivial
  (rw [msgE,if_pos hc]; rfl)
 ·try simp only [nn,uAh,T.rows_len,Fs.rows_len,Sp.rows_len,Gl.rows_len] at hc
  refine uAp ?_;refine uAe ?_;refine uAe (uAb ?_);refine uAa rfl rfl rfl (uAt rfl gU rfl rfl rfl rfl rfl) ?_;refine uAv rfl rfl rfl rfl rfl rfl gU gU (uEd _ _ (Nat.le_refl _) (by omega)) rfl ?_;refine uAa rfl rfl rfl (uAi rfl rfl gU gU rfl) ?_;refine uAf ?_;refine uAn (s:=⟨[(11,_,_)],[],[],[]⟩) (uAj (⟨sx rfl,trivial⟩) trivial trivial) ?_;refine uAm rfl (fun hc2=>?_) (fun hc2=>?_)
  ·try simp only [nn,uAh,T.rows_len,Fs.rows_len,Sp.rows_len,Gl.rows_len] at hc2
   refine uAe (uAb ?_);refine uAa rfl rfl rfl (uAd rfl gU) ?_;refine uAf ?_;refine uAo ?_
   repeat (first | refine tR ?_ | refine bR ?_)
   refine uAq rfl ?_ trivial
   (rw [msgE,if_neg (by simpa using hc),if_pos (by omega)]; rfl)
  ·try simp only [nn,uAh,T.rows_len,Fs.rows_len,Sp.rows_len,Gl.rows_len] at hc2
   refine uAp ?_;refine uAe (uAb ?_);refine uAa rfl rfl rfl (uAd rfl gU) ?_;refine uAf ?_;refine uAo ?_
   repeat (first | refine tR ?_ | refine bR ?_)
   refine uAq rfl ?_ trivial
   (rw [msgE,if_neg (by simpa using hc),if_neg (by omega)]; rfl)
theorem uCt (g : Gl) : Ctr sys 101 [xg g] [] (xb (uBt g.kind)) none []:=by
 refine uAw Tryz.func101 rfl rfl rfl rfl rfl rfl ?_;refine uAe (uAb ?_);refine uAu rfl (uAR rfl rfl rfl rfl) ?_;refine uAa rfl rfl rfl (uAd rfl gU) ?_;refine uAf ?_;refine uAe (uAb ?_);refine uAa rfl rfl rfl (uAg rfl gU rfl rfl) ?_;refine uAa rfl rfl rfl (uAl rfl gU rfl rfl rfl rfl) ?_;refine uAa rfl rfl rfl (uAi rfl rfl gU gU rfl) ?_;refine uAa rfl rfl rfl (uAc rfl gU) ?_;refine uAa rfl rfl rfl (uAg rfl gU rfl rfl) ?_;refine uAa rfl rfl rfl (uAl rfl (fun hh=>hh) rfl rfl rfl rfl) ?_;refine uAa rfl rfl rfl (uAi rfl rfl (fun hh=>hh) gU rfl) ?_;refine uAa rfl rfl rfl (uAL rfl rfl gU (fun _ hi=>gP rfl hi)) ?_;refine uAa rfl rfl rfl (uAd rfl gU) ?_;refine uAf ?_;refine uAo ?_
 repeat (first | refine tR ?_ | refine bR ?_)
 refine uAq rfl ?_ trivial
 rfl
theorem uMv {f : List UInt8→Bool} {l : List (List UInt8)} {k : Nat} {e : Bool} (h : k < l.length) (hi : (l.drop k).all f=e) : (f (l.getD k [])=false→e=false)∧(f (l.getD k [])=true→(l.drop (k + 1)).all f=e):=by
 rw [uHs (d:=[]) h,List.all_cons] at hi
 refine ⟨fun q=>?_,fun q=>?_⟩
 ·rw [q] at hi; exact hi.symm
 ·rw [q] at hi; exact hi
theorem uDg (l : List (List UInt8)) : Ctr sys 55 [xss l] [] (xb (l.all uAH)) none []:=by
 have hrl:=uAh l
 refine uAw Tryz.func55 rfl rfl rfl rfl rfl rfl ?_;refine uAe (uAb ?_);refine uAa rfl rfl rfl (uAd rfl gU) ?_;refine uAf ?_;refine uAe ?_;refine uAe (uAb ?_);refine uAa rfl rfl rfl (uAd rfl gU) ?_;refine uAf ?_;refine uAs ?_;refine uAX (ι:=Nat) { t:=[(0,_,_)],bx:=[],ow:=[] } (fun k=>[(3,true,xi (k : Int))]) (fun k=>[]) (fun k=>k≤l.length∧(l.drop k).all uAH=l.all uAH) (fun k=>l.length - k) (0) (⟨by simp,rfl⟩) (uAj (⟨sx rfl,sx rfl,trivial⟩) trivial trivial) ?_
 intro k hok
 dsimp only [List.cons_append,List.nil_append]
 obtain ⟨hk,hi⟩:=hok
 refine uAe ?_;refine uAe (uAb ?_);refine uAa rfl rfl rfl (uAc rfl gU) ?_;refine uAa rfl rfl rfl (uAc rfl gU) ?_;refine uAO rfl rfl rfl rfl rfl gU rfl rfl ?_ (fun hh=>by simp at hh); intro hlen;refine uAa rfl rfl rfl (uAi rfl rfl gU gU rfl) ?_;refine uAf ?_;refine uAm rfl (fun hc=>?_) (fun hc=>?_)
 ·try simp only [nn,uAh,T.rows_len,Fs.rows_len,Sp.rows_len,Gl.rows_len] at hc
  have hlt : k < l.length:=by omega
  have hd:=uMv hlt hi
  refine uAp ?_;refine uAe ?_;refine uAs ?_;refine uAe (uAb ?_);refine uAa rfl rfl rfl (uAc rfl gU) ?_;refine uAa rfl rfl rfl (uAc rfl gU) ?_;refine uAa rfl rfl rfl (uAx rfl rfl gU gU rfl rfl rfl (fun hh=>uCC (by first | omega | (simp at hh ⊢; omega)))) ?_;refine uAa rfl rfl rfl (uAZ rfl gU rfl rfl rfl) ?_;refine uAv rfl rfl rfl rfl rfl rfl gU gU (uCQ _) rfl ?_;refine uAa rfl rfl rfl (uAU rfl gU) ?_;refine uAf ?_;refine uAn (s:=⟨[(0,_,_),(3,_,_),(15,_,_)],[],[],[]⟩) (uAj (⟨sx rfl,sx rfl,sx rfl,trivial⟩) trivial trivial) ?_;refine uAm rfl (fun hc1=>?_) (fun hc1=>?_)
  ·try simp only [nn,uAh,T.rows_len,Fs.rows_len,Sp.rows_len,Gl.rows_len] at hc1
   refine uAe (uAb ?_);refine uAa rfl rfl rfl (uAd rfl gU) ?_;refine uAf ?_;refine uAo ?_
   repeat (first | refine tR ?_ | refine bR ?_)
   refine uAq rfl ?_ trivial;exact uCx (hd.1 (by assumption)).symm
  ·try simp only [nn,uAh,T.rows_len,Fs.rows_len,Sp.rows_len,Gl.rows_len] at hc1
   refine uAp ?_;refine uAb ?_;refine uAa rfl rfl rfl (uAc rfl gU) ?_;refine uAa rfl rfl rfl (uAr rfl rfl gU gU rfl (IntWalk.i64_in _ (by omega))) ?_;refine uAa rfl rfl rfl (uAd rfl gU) ?_;refine uAf ?_;refine ⟨k + 1,?_,?_,uAj (⟨⟨_,rfl,?_⟩,⟨sx rfl,trivial⟩⟩) trivial trivial⟩
   all_goals (first | rfl | omega | exact ⟨by omega,hd.2 (by assumption)⟩)
 ·try simp only [nn,uAh,T.rows_len,Fs.rows_len,Sp.rows_len,Gl.rows_len] at hc
  rw [List.drop_of_length_le (by omega)] at hi
  refine uAN ?_
  repeat (first | refine uAE ?_ | refine uAF ?_ | refine uAB rfl ?_)
  refine uAe (uAb ?_);refine uAa rfl rfl rfl (uAd rfl gU) ?_;refine uAf ?_;refine uAo ?_
  repeat (first | refine tR ?_ | refine bR ?_)
  refine uAq rfl ?_ trivial;exact uCx hi
theorem uIg (n : Nar) : Ctr sys 54 [xn n] [] (xi (cntE n)) none []:=by
 have hr1:=uAh n.roles
 have hr2:=Fs.rows_len n.fresh
 have hr3:=uAh n.tags
 have hr4:=Sp.rows_len n.steps
 have hr5:=Gl.rows_len n.goals
 refine uAw Tryz.func54 rfl rfl rfl rfl rfl rfl ?_;refine uAe (uAb ?_);refine uAu rfl (uAR rfl rfl rfl rfl) ?_;refine uAa rfl rfl rfl (uAd rfl gU) ?_;refine uAf ?_;refine uAe ?_;refine uAe (uAb ?_);refine uAa rfl rfl rfl (uAg rfl gU rfl rfl) ?_;refine uAa rfl rfl rfl (uAl rfl gU rfl rfl rfl rfl) ?_;refine uAO rfl rfl rfl rfl rfl gU rfl rfl ?_ (fun hh=>by simp at hh); intro hlen;refine uAa rfl rfl rfl (uAi rfl rfl gU gU rfl) ?_;refine uAf ?_;refine uAn (s:=⟨[(1,_,_),(6,_,_)],[(.l 1,_)],[],[]⟩) (uAj (⟨sx rfl,sx rfl,trivial⟩) (⟨sx rfl,trivial⟩) trivial) ?_;refine uAm rfl (fun hc1=>?_) (fun hc1=>?_)
 ·try simp only [nn,uAh,T.rows_len,Fs.rows_len,Sp.rows_len,Gl.rows_len] at hc1
  refine uAe (uAb ?_);refine uAa rfl rfl rfl (uAd rfl gU) ?_;refine uAf ?_;refine uAo ?_
  repeat (first | refine tR ?_ | refine bR ?_)
  refine uAq rfl ?_ trivial
  (refine uA6 ?_; unfold cntE; (repeat' split) <;> omega)
 ·try simp only [nn,uAh,T.rows_len,Fs.rows_len,Sp.rows_len,Gl.rows_len] at hc1
  refine uAp ?_;refine uAe ?_;refine uAe (uAb ?_);refine uAa rfl rfl rfl (uAg rfl gU rfl rfl) ?_;refine uAa rfl rfl rfl (uAl rfl gU rfl rfl rfl rfl) ?_;refine uAO rfl rfl rfl rfl rfl gU rfl rfl ?_ (fun hh=>by simp at hh); intro hlen;refine uAa rfl rfl rfl (uAi rfl rfl gU gU rfl) ?_;refine uAa rfl rfl rfl (uAc rfl gU) ?_;refine uAa rfl rfl rfl (uAg rfl gU rfl rfl) ?_;refine uAa rfl rfl rfl (uAl rfl (fun hh=>hh) rfl rfl rfl rfl) ?_;refine uAa rfl rfl rfl (uAY rfl (fun hh=>hh) rfl rfl) ?_;refine uAa rfl rfl rfl (uAi rfl rfl (fun hh=>hh) gU rfl) ?_;refine uAa rfl rfl rfl (uAL rfl rfl gU (fun _ hi=>gP rfl hi)) ?_;refine uAa rfl rfl rfl (uAc rfl gU) ?_;refine uAa rfl rfl rfl (uAg rfl gU rfl rfl) ?_;refine uBn (s:=⟨[(1,_,_),(17,_,_),(18,_,_)],[(.l 1,_)],[],[]⟩) (uAj (⟨sx rfl,sx rfl,sx rfl,trivial⟩) (⟨sx rfl,trivial⟩) trivial) ?_;refine uAa rfl rfl rfl (uAl rfl (fun hh=>hh) rfl rfl rfl rfl) ?_;refine uAa rfl rfl rfl (uAY rfl (fun hh=>hh) rfl rfl) ?_;refine uAa rfl rfl rfl (uAi rfl rfl (fun hh=>hh) gU rfl) ?_;refine uAa rfl rfl rfl (uAL rfl rfl gU (fun _ hi=>gP rfl hi)) ?_;refine uAf ?_;refine uAm rfl (fun hc2=>?_) (fun hc2=>?_)
  ·try simp only [nn,uAh,T.rows_len,Fs.rows_len,Sp.rows_len,Gl.rows_len] at hc2
   refine uAe (uAb ?_);refine uAa rfl rfl rfl (uAd rfl gU) ?_;refine uAf ?_;refine uAo ?_
   repeat (first | refine tR ?_ | refine bR ?_)
   refine uAq rfl ?_ trivial
   (refine uA6 ?_; unfold cntE; (repeat' split) <;> omega)
  ·try simp only [nn,uAh,T.rows_len,Fs.rows_len,Sp.rows_len,Gl.rows_len] at hc2
   refine uAp ?_;refine uAe ?_;refine uAe (uAb ?_);refine uAa rfl rfl rfl (uAg rfl gU rfl rfl) ?_;refine uAa rfl rfl rfl (uAl rfl gU rfl rfl rfl rfl) ?_;refine uAO rfl rfl rfl rfl rfl gU rfl rfl ?_ (fun hh=>by simp at hh); intro hlen;refine uAa rfl rfl rfl (uAi rfl rfl gU gU rfl) ?_;refine uAf ?_;refine uAn (s:=⟨[(1,_,_),(26,_,_)],[(.l 1,_)],[],[]⟩) (uAj (⟨sx rfl,sx rfl,trivial⟩) (⟨sx rfl,trivial⟩) trivial) ?_;refine uAm rfl (fun hc3=>?_) (fun hc3=>?_)
   ·try simp only [nn,uAh,T.rows_len,Fs.rows_len,Sp.rows_len,Gl.rows_len] at hc3
    refine uAe (uAb ?_);refine uAa rfl rfl rfl (uAd rfl gU) ?_;refine uAf ?_;refine uAo ?_
    repeat (first | refine tR ?_ | refine bR ?_)
    refine uAq rfl ?_ trivial
    (refine uA6 ?_; unfold cntE; (repeat' split) <;> omega)
   ·try simp only [nn,uAh,T.rows_len,Fs.rows_len,Sp.rows_len,Gl.rows_len] at hc3
    refine uAp ?_;refine uAe ?_;refine uAe (uAb ?_);refine uAa rfl rfl rfl (uAg rfl gU rfl rfl) ?_;refine uAa rfl rfl rfl (uAl rfl gU rfl rfl rfl rfl) ?_;refine uAO rfl rfl rfl rfl rfl gU rfl rfl ?_ (fun hh=>by simp at hh); intro hlen;refine uAa rfl rfl rfl (uAi rfl rfl gU gU rfl) ?_;refine uAa rfl rfl rfl (uAc rfl gU) ?_;refine uAa rfl rfl rfl (uAg rfl gU rfl rfl) ?_;refine uAa rfl rfl rfl (uAl rfl (fun hh=>hh) rfl rfl rfl rfl) ?_;refine uAa rfl rfl rfl (uAY rfl (fun hh=>hh) rfl rfl) ?_;refine uAa rfl rfl rfl (uAi rfl rfl (fun hh=>hh) gU rfl) ?_;refine uAa rfl rfl rfl (uAL rfl rfl gU (fun _ hi=>gP rfl hi)) ?_;refine uAf ?_;refine uAn (s:=⟨[(36,_,_)],[],[],[]⟩) (uAj (⟨sx rfl,trivial⟩) trivial trivial) ?_;refine uAm rfl (fun hc4=>?_) (fun hc4=>?_)
    ·try simp only [nn,uAh,T.rows_len,Fs.rows_len,Sp.rows_len,Gl.rows_len] at hc4
     refine uAe (uAb ?_);refine uAa rfl rfl rfl (uAd rfl gU) ?_;refine uAf ?_;refine uAo ?_
     repeat (first | refine tR ?_ | refine bR ?_)
     refine uAq rfl ?_ trivial
     (refine uA6 ?_; unfold cntE; (repeat' split) <;> omega)
    ·try simp only [nn,uAh,T.rows_len,Fs.rows_len,Sp.rows_len,Gl.rows_len] at hc4
     refine uAp ?_;refine uAe (uAb ?_);refine uAa rfl rfl rfl (uAd rfl gU) ?_;refine uAf ?_;refine uAo ?_
     repeat (first | refine tR ?_ | refine bR ?_)
     refine uAq rfl ?_ trivial
     (refine uA6 ?_; unfold cntE; (repeat' split) <;> omega)
theorem uJU (g : Gl) (hg : T.sizes g.data≤900000) : Ctr sys 57 [xg g] [] (xi (uB8 uAH g)) none []:=by
 have hls:=T.len_sizes g.data
 have hrl:=T.rows_len g.data
 refine uAw Tryz.func57 rfl rfl rfl rfl rfl rfl ?_;refine uAe (uAb ?_);refine uAu rfl (uAR rfl rfl rfl rfl) ?_;refine uAa rfl rfl rfl (uAd rfl gU) ?_;refine uAf ?_;refine uAe ?_;refine uAe (uAb ?_);refine uAa rfl rfl rfl (uAg rfl gU rfl rfl) ?_;refine uAa rfl rfl rfl (uAl rfl gU rfl rfl rfl rfl) ?_;refine uAa rfl rfl rfl (uAi rfl rfl gU gU rfl) ?_;refine uAa rfl rfl rfl (uAc rfl gU) ?_;refine uAa rfl rfl rfl (uAg rfl gU rfl rfl) ?_;refine uAa rfl rfl rfl (uAl rfl (fun hh=>hh) rfl rfl rfl rfl) ?_;refine uAa rfl rfl rfl (uAi rfl rfl (fun hh=>hh) gU rfl) ?_;refine uAa rfl rfl rfl (uAL rfl rfl gU (fun _ hi=>gP rfl hi)) ?_;refine uAf ?_;refine uAn (s:=⟨[(1,_,_),(12,_,_)],[(.l 1,_)],[],[]⟩) (uAj (⟨sx rfl,sx rfl,trivial⟩) (⟨sx rfl,trivial⟩) trivial) ?_;refine uAm rfl (fun hc=>?_) (fun hc=>?_)
 ·try simp only [nn,uAh,T.rows_len,Fs.rows_len,Sp.rows_len,Gl.rows_len] at hc
  refine uAe (uAb ?_);refine uAa rfl rfl rfl (uAd rfl gU) ?_;refine uAf ?_;refine uAo ?_
  repeat (first | refine tR ?_ | refine bR ?_)
  refine uAq rfl ?_ trivial
  (rw [uB8,if_pos (by grind)]; rfl)
 ·try simp only [nn,uAh,T.rows_len,Fs.rows_len,Sp.rows_len,Gl.rows_len] at hc
  refine uAp ?_;refine uAe ?_;refine uAe (uAb ?_);refine uAa rfl rfl rfl (uAg rfl gU rfl rfl) ?_;refine uAa rfl rfl rfl (uAl rfl gU rfl rfl rfl rfl) ?_;refine uAv rfl rfl rfl rfl rfl rfl gU gU (uCQ _) rfl ?_;refine uAa rfl rfl rfl (uAU rfl gU) ?_;refine uAa rfl rfl rfl (uAc rfl gU) ?_;refine uAa rfl rfl rfl (uAt rfl gU rfl rfl rfl rfl rfl) ?_;refine uAv rfl rfl rfl rfl rfl rfl gU (fun hh=>gA ((fun hh=>hh) hh) (rfl)) (uCt _) rfl ?_;refine uAa rfl rfl rfl (uAc rfl (fun hh=>hh)) ?_;refine uAa rfl rfl rfl (uAg rfl gU rfl rfl) ?_;refine uAa rfl rfl rfl (uAl rfl (fun hh=>hh) rfl rfl rfl rfl) ?_;refine uAv rfl rfl rfl rfl rfl rfl gU (fun hh=>gA ((fun hh=>hh) hh) (rfl)) (uCQ _) rfl ?_;refine uAa rfl rfl rfl (uAU rfl (fun hh=>hh)) ?_;refine uBn (s:=⟨[(1,_,_),(17,_,_),(20,_,_),(24,_,_)],[(.l 1,_)],[],[]⟩) (uAj (⟨sx rfl,sx rfl,sx rfl,sx rfl,trivial⟩) (⟨sx rfl,trivial⟩) trivial) ?_;refine uAa rfl rfl rfl (uAP rfl rfl (fun hh=>hh) (fun hh hi=>gP hh hi)) ?_;refine uAa rfl rfl rfl (uAL rfl rfl gU (fun _ hi=>gP rfl hi)) ?_;refine uAf ?_;refine uAm rfl (fun hc2=>?_) (fun hc2=>?_)
  ·try simp only [nn,uAh,T.rows_len,Fs.rows_len,Sp.rows_len,Gl.rows_len] at hc2
   refine uAe (uAb ?_);refine uAa rfl rfl rfl (uAd rfl gU) ?_;refine uAf ?_;refine uAo ?_
   repeat (first | refine tR ?_ | refine bR ?_)
   refine uAq rfl ?_ trivial
   (rw [uB8,if_neg (by omega),if_pos (by grind)]; rfl)
  ·try simp only [nn,uAh,T.rows_len,Fs.rows_len,Sp.rows_len,Gl.rows_len] at hc2
   refine uAp ?_;refine uAe ?_;refine uAe (uAb ?_);refine uAa rfl rfl rfl (uAt rfl gU rfl rfl rfl rfl rfl) ?_;refine uAv rfl rfl rfl rfl rfl rfl gU gU (uCt _) rfl ?_;refine uAa rfl rfl rfl (uAU rfl gU) ?_;refine uAa rfl rfl rfl (uAc rfl gU) ?_;refine uAa rfl rfl rfl (uAg rfl gU rfl rfl) ?_;refine uAa rfl rfl rfl (uAl rfl (fun hh=>hh) rfl rfl rfl rfl) ?_;refine uAa rfl rfl rfl (uA2 rfl rfl (fun hh=>hh) gU rfl) ?_;refine uAa rfl rfl rfl (uAP rfl rfl gU (fun _ hi=>gP rfl hi)) ?_;refine uAf ?_;refine uAn (s:=⟨[(1,_,_),(34,_,_)],[(.l 1,_)],[],[]⟩) (uAj (⟨sx rfl,sx rfl,trivial⟩) (⟨sx rfl,trivial⟩) trivial) ?_;refine uAm rfl (fun hc3=>?_) (fun hc3=>?_)
   ·try simp only [nn,uAh,T.rows_len,Fs.rows_len,Sp.rows_len,Gl.rows_len] at hc3
    refine uAe (uAb ?_);refine uAa rfl rfl rfl (uAd rfl gU) ?_;refine uAf ?_;refine uAo ?_
    repeat (first | refine tR ?_ | refine bR ?_)
    refine uAq rfl ?_ trivial
    (rw [uB8,if_neg (by omega),if_neg (by grind),if_pos (by grind)]; rfl)
   ·try simp only [nn,uAh,T.rows_len,Fs.rows_len,Sp.rows_len,Gl.rows_len] at hc3
    refine uAp ?_;refine uAe ?_;refine uAe (uAb ?_);refine uAa rfl rfl rfl (uAg rfl gU rfl rfl) ?_;refine uAa rfl rfl rfl (uAl rfl gU rfl rfl rfl rfl) ?_;refine uAO rfl rfl rfl rfl rfl gU rfl rfl ?_ (fun hh=>by simp at hh); intro hlen;refine uAa rfl rfl rfl (uAi rfl rfl gU gU rfl) ?_;refine uAa rfl rfl rfl (uAc rfl gU) ?_;refine uAa rfl rfl rfl (uAg rfl gU rfl rfl) ?_;refine uAa rfl rfl rfl (uAl rfl (fun hh=>hh) rfl rfl rfl rfl) ?_;refine uAa rfl rfl rfl (uAY rfl (fun hh=>hh) rfl rfl) ?_;refine uAa rfl rfl rfl (uAi rfl rfl (fun hh=>hh) gU rfl) ?_;refine uAa rfl rfl rfl (uAL rfl rfl gU (fun _ hi=>gP rfl hi)) ?_;refine uAa rfl rfl rfl (uAc rfl gU) ?_;refine uAa rfl rfl rfl (uAt rfl gU rfl rfl rfl rfl rfl) ?_;refine uBn (s:=⟨[(1,_,_),(45,_,_),(46,_,_)],[(.l 1,_)],[],[]⟩) (uAj (⟨sx rfl,sx rfl,sx rfl,trivial⟩) (⟨sx rfl,trivial⟩) trivial) ?_;refine uAv rfl rfl rfl rfl rfl rfl gU (fun hh=>gA ((fun hh=>hh) hh) (rfl)) (uCt _) rfl ?_;refine uAa rfl rfl rfl (uAU rfl (fun hh=>hh)) ?_;refine uAa rfl rfl rfl (uAc rfl (fun hh=>hh)) ?_;refine uAa rfl rfl rfl (uAg rfl gU rfl rfl) ?_;refine uAa rfl rfl rfl (uAl rfl (fun hh=>hh) rfl rfl rfl rfl) ?_;refine uAa rfl rfl rfl (uAY rfl (fun hh=>hh) rfl rfl) ?_;refine uAa rfl rfl rfl (uAi rfl rfl (fun hh=>hh) gU rfl) ?_
    refine uAa rfl rfl rfl (uAP rfl rfl (fun hh=>hh) (fun hh hi=>gP hh hi)) ?_;refine uAa rfl rfl rfl (uAL rfl rfl gU (fun _ hi=>gP rfl hi)) ?_;refine uAf ?_;refine uAn (s:=⟨[(1,_,_),(55,_,_)],[(.l 1,_)],[],[]⟩) (uAj (⟨sx rfl,sx rfl,trivial⟩) (⟨sx rfl,trivial⟩) trivial) ?_;refine uAm rfl (fun hc4=>?_) (fun hc4=>?_)
    ·try simp only [nn,uAh,T.rows_len,Fs.rows_len,Sp.rows_len,Gl.rows_len] at hc4
     refine uAe (uAb ?_);refine uAa rfl rfl rfl (uAd rfl gU) ?_;refine uAf ?_;refine uAo ?_
     repeat (first | refine tR ?_ | refine bR ?_)
     refine uAq rfl ?_ trivial
     (rw [uB8,if_neg (by omega),if_neg (by grind),if_neg (by grind),if_pos (by cases ha : uBt g.kind <;> simp only [ha,Bool.true_eq_false,Bool.false_eq_true,false_and,true_and,and_true,or_false,false_or,not_true_eq_false,not_false_eq_true,ne_eq,reduceCtorEq,and_false] at hc4 ⊢ <;> omega)]; rfl)
    ·try simp only [nn,uAh,T.rows_len,Fs.rows_len,Sp.rows_len,Gl.rows_len] at hc4
     have he : uB8 uAH g=errs (msgE uAH) g.data:=by
      rw [uB8,if_neg (by omega),if_neg (by grind),if_neg (by grind),if_neg (by cases ha : uBt g.kind <;> simp only [ha,Bool.true_eq_false,Bool.false_eq_true,false_and,true_and,and_true,or_false,false_or,not_true_eq_false,not_false_eq_true,ne_eq,reduceCtorEq,and_false] at hc4 ⊢ <;> omega)]
     refine uAp ?_;refine uAe ?_;refine uAe (uAb ?_);refine uAa rfl rfl rfl (uAd rfl gU) ?_;refine uAf ?_;refine uAs ?_;refine uAX (ι:=Nat) { t:=[(1,_,_)],bx:=[(.l 1,_)],ow:=[] } (fun k=>[(3,true,xi (k : Int))]) (fun k=>[]) (fun k=>k≤g.data.length∧errs (msgE uAH) (g.data.drop k)=uB8 uAH g) (fun k=>g.data.length - k) (0) (⟨by simp,by rw [he]; rfl⟩) (uAj (⟨sx rfl,sx rfl,trivial⟩) (⟨sx rfl,trivial⟩) trivial) ?_
     intro k hok
     dsimp only [List.cons_append,List.nil_append]
     obtain ⟨hk,hi⟩:=hok
     refine uAe ?_;refine uAe (uAb ?_);refine uAa rfl rfl rfl (uAc rfl gU) ?_;refine uAa rfl rfl rfl (uAg rfl gU rfl rfl) ?_;refine uAa rfl rfl rfl (uAl rfl gU rfl rfl rfl rfl) ?_;refine uAO rfl rfl rfl rfl rfl gU rfl rfl ?_ (fun hh=>by simp at hh); intro hlen;refine uAa rfl rfl rfl (uAi rfl rfl gU gU rfl) ?_;refine uAf ?_;refine uAn (s:=⟨[(1,_,_),(3,_,_),(60,_,_)],[(.l 1,_)],[],[]⟩) (uAj (⟨sx rfl,sx rfl,sx rfl,trivial⟩) (⟨sx rfl,trivial⟩) trivial) ?_;refine uAm rfl (fun hc5=>?_) (fun hc5=>?_)
     ·try simp only [nn,uAh,T.rows_len,Fs.rows_len,Sp.rows_len,Gl.rows_len] at hc5
      have hlt : k < g.data.length:=by omega
      have h2:=T.getD_size hlt
      have hd:=uCa (d:=default) hlt hi
      refine uAp ?_;refine uAe ?_;refine uAs ?_;refine uAe (uAb ?_);refine uAa rfl rfl rfl (uAg rfl gU rfl rfl) ?_;refine uAa rfl rfl rfl (uAl rfl gU rfl rfl rfl rfl) ?_;refine uAa rfl rfl rfl (uAc rfl gU) ?_;refine uAa rfl rfl rfl (uAx rfl rfl gU gU rfl rfl rfl (fun hh=>T.rows_at (by first | omega | (simp at hh ⊢; omega)))) ?_;refine uAa rfl rfl rfl (uAI rfl gU rfl rfl rfl rfl) ?_;refine uAv rfl rfl rfl rfl rfl rfl gU gU (uEq _ (by omega)) rfl ?_;refine uAa rfl rfl rfl (uAd rfl gU) ?_;refine uAf ?_;refine uAn (s:=⟨[(1,_,_),(3,_,_),(4,_,_)],[(.l 1,_)],[],[]⟩) (uAj (⟨sx rfl,sx rfl,sx rfl,trivial⟩) (⟨sx rfl,trivial⟩) trivial) ?_;refine uAe (uAb ?_);refine uAa rfl rfl rfl (uAc rfl gU) ?_;refine uAa rfl rfl rfl (uAi rfl rfl gU gU rfl) ?_;refine uAf ?_;refine uAm rfl (fun hc1=>?_) (fun hc1=>?_)
      ·try simp only [nn,uAh,T.rows_len,Fs.rows_len,Sp.rows_len,Gl.rows_len] at hc1
       refine uAe (uAb ?_);refine uAa rfl rfl rfl (uAc rfl gU) ?_;refine uAa rfl rfl rfl (uAd rfl gU) ?_;refine uAf ?_;refine uAo ?_
       repeat (first | refine tR ?_ | refine bR ?_)
       refine uAq rfl ?_ trivial;exact uA6 (hd.1 (by assumption)).symm
      ·try simp only [nn,uAh,T.rows_len,Fs.rows_len,Sp.rows_len,Gl.rows_len] at hc1
       refine uAp ?_;refine uAb ?_;refine uAa rfl rfl rfl (uAc rfl gU) ?_;refine uAa rfl rfl rfl (uAr rfl rfl gU gU rfl (IntWalk.i64_in _ (by omega))) ?_;refine uAa rfl rfl rfl (uAd rfl gU) ?_;refine uAf ?_;refine ⟨k + 1,?_,?_,uAj (⟨⟨_,rfl,?_⟩,⟨sx rfl,trivial⟩⟩) (⟨sx rfl,trivial⟩) trivial⟩
       all_goals (first | rfl | omega | exact ⟨by omega,hd.2 (by assumption)⟩)
     ·try simp only [nn,uAh,T.rows_len,Fs.rows_len,Sp.rows_len,Gl.rows_len] at hc5
      refine uAN ?_
      repeat (first | refine uAE ?_ | refine uAF ?_ | refine uAB rfl ?_)
      refine uAe (uAb ?_);refine uAa rfl rfl rfl (uAd rfl gU) ?_;refine uAf ?_;refine uAo ?_
      repeat (first | refine tR ?_ | refine bR ?_)
      refine uAq rfl ?_ trivial;exact uA6 (uC1 (by omega) hi).symm
theorem uGj {α : Type} {f : α→Int} {l : List α} {k : Nat} (h : l.length≤k) : errs f (l.drop k)=0:=by rw [List.drop_of_length_le h]; rfl
set_option maxHeartbeats 4000000 in
theorem uIM (n : Nar) (hs : ∀ s ∈ n.steps,s.msg.size≤900000) (hg : ∀ g ∈ n.goals,T.sizes g.data≤900000) : Ctr sys 15 [xn n] [] (xi (narE uAH n)) none []:=by
 have hr1:=uAh n.roles
 have hr2:=Fs.rows_len n.fresh
 have hr3:=uAh n.tags
 have hr4:=Sp.rows_len n.steps
 have hr5:=Gl.rows_len n.goals
 refine uAw Tryz.func15 rfl rfl rfl rfl rfl rfl ?_;refine uAe (uAb ?_);refine uAu rfl (uAR rfl rfl rfl rfl) ?_;refine uAa rfl rfl rfl (uAd rfl gU) ?_;refine uAf ?_;refine uAe ?_;refine uAe (uAb ?_);refine uAa rfl rfl rfl (uAg rfl gU rfl rfl) ?_;refine uAa rfl rfl rfl (uAl rfl gU rfl rfl rfl rfl) ?_;refine uAv rfl rfl rfl rfl rfl rfl gU gU (uCQ _) rfl ?_;refine uAa rfl rfl rfl (uAU rfl gU) ?_;refine uAf ?_;refine uAn (s:=⟨[(1,_,_),(13,_,_)],[(.l 1,_)],[],[]⟩) (uAj (⟨sx rfl,sx rfl,trivial⟩) (⟨sx rfl,trivial⟩) trivial) ?_;refine uAm rfl (fun hc=>?_) (fun hc=>?_)
 ·try simp only [nn,uAh,T.rows_len,Fs.rows_len,Sp.rows_len,Gl.rows_len] at hc
  refine uAe (uAb ?_);refine uAa rfl rfl rfl (uAd rfl gU) ?_;refine uAf ?_;refine uAo ?_
  repeat (first | refine tR ?_ | refine bR ?_)
  refine uAq rfl ?_ trivial
  (rw [narE,if_pos (by rw [uDp,if_pos hc]; simp),uDp,if_pos hc]; rfl)
 ·try simp only [nn,uAh,T.rows_len,Fs.rows_len,Sp.rows_len,Gl.rows_len] at hc
  refine uAp ?_;refine uAe ?_;refine uAe (uAb ?_);refine uAa rfl rfl rfl (uAt rfl gU rfl rfl rfl rfl rfl) ?_;refine uAv rfl rfl rfl rfl rfl rfl gU gU (uIg _) rfl ?_;refine uAa rfl rfl rfl (uAd rfl gU) ?_;refine uAf ?_;refine uAe (uAb ?_);refine uAa rfl rfl rfl (uAc rfl gU) ?_;refine uAa rfl rfl rfl (uAi rfl rfl gU gU rfl) ?_;refine uAf ?_;refine uAn (s:=⟨[(1,_,_),(3,_,_),(17,_,_)],[(.l 1,_)],[],[]⟩) (uAj (⟨sx rfl,sx rfl,sx rfl,trivial⟩) (⟨sx rfl,trivial⟩) trivial) ?_;refine uAm rfl (fun hc2=>?_) (fun hc2=>?_)
  ·try simp only [nn,uAh,T.rows_len,Fs.rows_len,Sp.rows_len,Gl.rows_len] at hc2
   have hh : uDp uAH n=cntE n:=by rw [uDp,if_neg (by rw [hc]; simp),if_pos hc2]
   refine uAe (uAb ?_);refine uAa rfl rfl rfl (uAc rfl gU) ?_;refine uAa rfl rfl rfl (uAd rfl gU) ?_;refine uAf ?_;refine uAo ?_
   repeat (first | refine tR ?_ | refine bR ?_)
   refine uAq rfl ?_ trivial
   (rw [narE,if_pos (by rw [hh]; exact hc2),hh]; rfl)
  ·try simp only [nn,uAh,T.rows_len,Fs.rows_len,Sp.rows_len,Gl.rows_len] at hc2
   have hh : uDp uAH n=(if n.roles.all uAH=false then 2 else if errs (frE uAH) n.fresh≠0 then errs (frE uAH) n.fresh else if n.tags.all uAH=false then 2 else 0):=by rw [uDp,if_neg (by rw [hc]; simp),if_neg (by rw [hc2]; simp)]
   refine uAp ?_;refine uAe ?_;refine uAe (uAb ?_);refine uAa rfl rfl rfl (uAg rfl gU rfl rfl) ?_;refine uAa rfl rfl rfl (uAl rfl gU rfl rfl rfl rfl) ?_;refine uAv rfl rfl rfl rfl rfl rfl gU gU (uDg _) rfl ?_;refine uAa rfl rfl rfl (uAU rfl gU) ?_;refine uAf ?_;refine uAm rfl (fun hc3=>?_) (fun hc3=>?_)
   ·try simp only [nn,uAh,T.rows_len,Fs.rows_len,Sp.rows_len,Gl.rows_len] at hc3
    rw [if_pos hc3] at hh
    refine uAe (uAb ?_);refine uAa rfl rfl rfl (uAd rfl gU) ?_;refine uAf ?_;refine uAo ?_
    repeat (first | refine tR ?_ | refine bR ?_)
    refine uAq rfl ?_ trivial
    (rw [narE,if_pos (by rw [hh]; simp),hh]; rfl)
   ·try simp only [nn,uAh,T.rows_len,Fs.rows_len,Sp.rows_len,Gl.rows_len] at hc3
    rw [if_neg (by rw [hc3]; simp)] at hh
    refine uAp ?_;refine uAe ?_;refine uAe (uAb ?_);refine uAa rfl rfl rfl (uAd rfl gU) ?_;refine uAf ?_;refine uAn (s:=⟨[(1,_,_),(4,_,_)],[(.l 1,_)],[],[]⟩) (uAj (⟨sx rfl,sx rfl,trivial⟩) (⟨sx rfl,trivial⟩) trivial) ?_;refine uAs ?_;refine uAX (ι:=Nat) { t:=[(1,_,_)],bx:=[(.l 1,_)],ow:=[] } (fun k=>[(4,true,xi (k : Int))]) (fun k=>[]) (fun k=>k≤n.fresh.length∧errs (frE uAH) (n.fresh.drop k)=errs (frE uAH) n.fresh) (fun k=>n.fresh.length - k) (0) (⟨by simp,rfl⟩) (uAj (⟨sx rfl,sx rfl,trivial⟩) (⟨sx rfl,trivial⟩) trivial) ?_
    intro k hokk
    dsimp only [List.cons_append,List.nil_append]
    obtain ⟨hk,hi⟩:=hokk
    refine uAe ?_;refine uAe (uAb ?_);refine uAa rfl rfl rfl (uAc rfl gU) ?_;refine uAa rfl rfl rfl (uAg rfl gU rfl rfl) ?_;refine uAa rfl rfl rfl (uAl rfl gU rfl rfl rfl rfl) ?_;refine uAO rfl rfl rfl rfl rfl gU rfl rfl ?_ (fun hh=>by simp at hh); intro hlen;refine uAa rfl rfl rfl (uAi rfl rfl gU gU rfl) ?_;refine uAf ?_;refine uAn (s:=⟨[(1,_,_),(4,_,_),(27,_,_)],[(.l 1,_)],[],[]⟩) (uAj (⟨sx rfl,sx rfl,sx rfl,trivial⟩) (⟨sx rfl,trivial⟩) trivial) ?_;refine uAm rfl (fun hc4=>?_) (fun hc4=>?_)
    ·try simp only [nn,uAh,T.rows_len,Fs.rows_len,Sp.rows_len,Gl.rows_len] at hc4
     have hlt : k < n.fresh.length:=by omega
     have hd:=uCa (d:=default) hlt hi
     have hn2:=uDg [(n.fresh.getD k default).role,(n.fresh.getD k default).name]
     refine uAp ?_;refine uAe ?_;refine uAs ?_;refine uAe (uAb ?_);refine uAa rfl rfl rfl (uAg rfl gU rfl rfl) ?_;refine uAa rfl rfl rfl (uAl rfl gU rfl rfl rfl rfl) ?_;refine uAa rfl rfl rfl (uAc rfl gU) ?_;refine uAa rfl rfl rfl (uAx rfl rfl gU gU rfl rfl rfl (fun hh=>Fs.rows_at (by first | omega | (simp at hh ⊢; omega)))) ?_;refine uAa rfl rfl rfl (uAI rfl gU rfl rfl rfl rfl) ?_;refine uAu rfl (uAQ rfl rfl rfl) ?_;refine uAu rfl (uAA rfl rfl rfl rfl rfl rfl rfl) ?_;refine uAf ?_;refine uAn (s:=⟨[(1,_,_),(4,_,_),(5,_,_)],[(.l 1,_),(.l 5,_)],[],[]⟩) (uAj (⟨sx rfl,sx rfl,sx rfl,trivial⟩) (⟨sx rfl,sx rfl,trivial⟩) trivial) ?_;refine uAe ?_;refine uAe (uAb ?_);refine uAa rfl rfl rfl (uAg rfl gU rfl rfl) ?_;refine uAa rfl rfl rfl (uAl rfl gU rfl rfl rfl rfl) ?_;refine uAa rfl rfl rfl (uAg rfl gU rfl rfl) ?_;refine uAa rfl rfl rfl (uAl rfl gU rfl rfl rfl rfl) ?_;refine uAM (xs:=[_,_]) rfl rfl rfl rfl rfl rfl rfl rfl rfl gU rfl ?_;refine uAv rfl rfl rfl rfl rfl rfl gU gU (hn2) rfl ?_;refine uAa rfl rfl rfl (uAU rfl gU) ?_;refine uAf ?_;refine uAn (s:=⟨[(1,_,_),(4,_,_),(5,_,_),(41,_,_)],[(.l 1,_),(.l 5,_)],[],[]⟩) (uAj (⟨sx rfl,sx rfl,sx rfl,sx rfl,trivial⟩) (⟨sx rfl,sx rfl,trivial⟩) trivial) ?_
     refine uAm rfl (fun hc5=>?_) (fun hc5=>?_)
     ·try simp only [nn,uAh,T.rows_len,Fs.rows_len,Sp.rows_len,Gl.rows_len] at hc5
      have hf : frE uAH (n.fresh.getD k default)=2:=by rw [frE,if_pos (by simpa [Decidable.or_iff_not_imp_left] using hc5)]
      have he:=hd.1 (by rw [hf]; simp)
      rw [he,hf] at hh
      rw [if_pos (by simp)] at hh
      refine uAe (uAb ?_);refine uAa rfl rfl rfl (uAd rfl gU) ?_;refine uAf ?_;refine uAo ?_
      repeat (first | refine tR ?_ | refine bR ?_)
      refine uAq rfl ?_ trivial
      (rw [narE,if_pos (by rw [hh]; simp),hh]; rfl)
     ·try simp only [nn,uAh,T.rows_len,Fs.rows_len,Sp.rows_len,Gl.rows_len] at hc5
      have hnn : ¬(uAH (n.fresh.getD k default).role=false∨uAH (n.fresh.getD k default).name=false):=by
       simp at hc5 ⊢; simp [hc5]
      refine uAp ?_;refine uAe (uAb ?_);refine uAa rfl rfl rfl (uAg rfl gU rfl rfl) ?_;refine uAa rfl rfl rfl (uAl rfl gU rfl rfl rfl rfl) ?_;refine uAa rfl rfl rfl (uAi rfl rfl gU gU rfl) ?_;refine uAa rfl rfl rfl (uAc rfl gU) ?_;refine uAa rfl rfl rfl (uAg rfl gU rfl rfl) ?_;refine uAa rfl rfl rfl (uAl rfl (fun hh=>hh) rfl rfl rfl rfl) ?_;refine uAa rfl rfl rfl (uAi rfl rfl (fun hh=>hh) gU rfl) ?_;refine uAa rfl rfl rfl (uAP rfl rfl gU (fun _ hi=>gP rfl hi)) ?_;refine uAa rfl rfl rfl (uAc rfl gU) ?_;refine uAa rfl rfl rfl (uAg rfl gU rfl rfl) ?_;refine uAa rfl rfl rfl (uAl rfl (fun hh=>hh) rfl rfl rfl rfl) ?_;refine uAa rfl rfl rfl (uAi rfl rfl (fun hh=>hh) gU rfl) ?_;refine uBn (s:=⟨[(1,_,_),(4,_,_),(50,_,_),(53,_,_)],[(.l 1,_)],[],[]⟩) (uAj (⟨sx rfl,sx rfl,sx rfl,sx rfl,trivial⟩) (⟨sx rfl,trivial⟩) trivial) ?_;refine uAa rfl rfl rfl (uAP rfl rfl gU (fun _ hi=>gP rfl hi)) ?_;refine uAf ?_;refine uAm rfl (fun hc6=>?_) (fun hc6=>?_)
      ·try simp only [nn,uAh,T.rows_len,Fs.rows_len,Sp.rows_len,Gl.rows_len] at hc6
       have hf : frE uAH (n.fresh.getD k default)=10:=by rw [frE,if_neg hnn,if_pos (by omega)]
       have he:=hd.1 (by rw [hf]; simp)
       rw [he,hf] at hh
       rw [if_pos (by simp)] at hh
       refine uAe (uAb ?_);refine uAa rfl rfl rfl (uAd rfl gU) ?_;refine uAf ?_;refine uAo ?_
       repeat (first | refine tR ?_ | refine bR ?_)
       refine uAq rfl ?_ trivial
       (rw [narE,if_pos (by rw [hh]; simp),hh]; rfl)
      ·try simp only [nn,uAh,T.rows_len,Fs.rows_len,Sp.rows_len,Gl.rows_len] at hc6
       have hf : frE uAH (n.fresh.getD k default)=0:=by rw [frE,if_neg hnn,if_neg (by omega)]
       refine uAp ?_;refine uAb ?_;refine uAa rfl rfl rfl (uAc rfl gU) ?_;refine uAa rfl rfl rfl (uAr rfl rfl gU gU rfl (IntWalk.i64_in _ (by omega))) ?_;refine uAa rfl rfl rfl (uAd rfl gU) ?_;refine uAf ?_;refine ⟨k + 1,?_,?_,uAj (⟨⟨_,rfl,?_⟩,⟨sx rfl,trivial⟩⟩) (⟨sx rfl,trivial⟩) trivial⟩
       all_goals first | rfl | omega | exact ⟨by omega,hd.2 hf⟩
    ·try simp only [nn,uAh,T.rows_len,Fs.rows_len,Sp.rows_len,Gl.rows_len] at hc4
     rw [uGj (by omega)] at hi
     rw [← hi,if_neg (by simp)] at hh
     refine uAN ?_
     repeat (first | refine uAE ?_ | refine uAF ?_ | refine uAB rfl ?_)
     refine uAe ?_;refine uAe (uAb ?_);refine uAa rfl rfl rfl (uAg rfl gU rfl rfl) ?_;refine uAa rfl rfl rfl (uAl rfl gU rfl rfl rfl rfl) ?_;refine uAv rfl rfl rfl rfl rfl rfl gU gU (uDg _) rfl ?_;refine uAa rfl rfl rfl (uAU rfl gU) ?_;refine uAf ?_;refine uAm rfl (fun hc5=>?_) (fun hc5=>?_)
     ·try simp only [nn,uAh,T.rows_len,Fs.rows_len,Sp.rows_len,Gl.rows_len] at hc5
      rw [if_pos hc5] at hh
      refine uAe (uAb ?_);refine uAa rfl rfl rfl (uAd rfl gU) ?_;refine uAf ?_;refine uAo ?_
      repeat (first | refine tR ?_ | refine bR ?_)
      refine uAq rfl ?_ trivial
      (rw [narE,if_pos (by rw [hh]; simp),hh]; rfl)
     ·try simp only [nn,uAh,T.rows_len,Fs.rows_len,Sp.rows_len,Gl.rows_len] at hc5
      rw [if_neg (by rw [hc5]; simp)] at hh
      have hN : narE uAH n=(if errs (spE uAH) n.steps≠0 then errs (spE uAH) n.steps else errs (uB8 uAH) n.goals):=by rw [narE,if_neg (by rw [hh]; simp)]
      refine uAp ?_;refine uAe ?_;refine uAe (uAb ?_);refine uAa rfl rfl rfl (uAd rfl gU) ?_;refine uAf ?_;refine uAn (s:=⟨[(1,_,_),(6,_,_)],[(.l 1,_)],[],[]⟩) (uAj (⟨sx rfl,sx rfl,trivial⟩) (⟨sx rfl,trivial⟩) trivial) ?_;refine uAs ?_;refine uAX (ι:=Nat) { t:=[(1,_,_)],bx:=[(.l 1,_)],ow:=[] } (fun j=>[(6,true,xi (j : Int))]) (fun j=>[]) (fun j=>j≤n.steps.length∧errs (spE uAH) (n.steps.drop j)=errs (spE uAH) n.steps) (fun j=>n.steps.length - j) (0) (⟨by simp,rfl⟩) (uAj (⟨sx rfl,sx rfl,trivial⟩) (⟨sx rfl,trivial⟩) trivial) ?_
      intro j hokj
      dsimp only [List.cons_append,List.nil_append]
      obtain ⟨hj,hij⟩:=hokj
      refine uAe ?_;refine uAe (uAb ?_);refine uAa rfl rfl rfl (uAc rfl gU) ?_;refine uAa rfl rfl rfl (uAg rfl gU rfl rfl) ?_;refine uAa rfl rfl rfl (uAl rfl gU rfl rfl rfl rfl) ?_;refine uAO rfl rfl rfl rfl rfl gU rfl rfl ?_ (fun hh=>by simp at hh); intro hlen;refine uAa rfl rfl rfl (uAi rfl rfl gU gU rfl) ?_;refine uAf ?_;refine uAn (s:=⟨[(1,_,_),(6,_,_),(63,_,_)],[(.l 1,_)],[],[]⟩) (uAj (⟨sx rfl,sx rfl,sx rfl,trivial⟩) (⟨sx rfl,trivial⟩) trivial) ?_;refine uAm rfl (fun hc6=>?_) (fun hc6=>?_)
      ·try simp only [nn,uAh,T.rows_len,Fs.rows_len,Sp.rows_len,Gl.rows_len] at hc6
       have hlt : j < n.steps.length:=by omega
       have hd:=uCa (d:=default) hlt hij
       have hmem:=hs _ (uBP (d:=default) hlt)
       have hn2:=uDg [(n.steps.getD j default).frm,(n.steps.getD j default).dst]
       refine uAp ?_;refine uAe ?_;refine uAs ?_;refine uAe ?_;refine uAe ?_;refine awp_drawn' (by kernel_rfl) ?_;refine uAk rfl rfl rfl rfl (uAg rfl gU rfl rfl) ?_;refine uAS rfl rfl rfl rfl rfl rfl rfl gU rfl rfl rfl rfl ?_;refine uAk rfl rfl rfl rfl (uAc rfl gU) ?_;refine uAk rfl rfl rfl rfl (uAx rfl rfl gU gU rfl rfl rfl (fun hh=>Sp.rows_at (by first | omega | (simp at hh ⊢; omega)))) ?_;refine uAk rfl rfl rfl rfl (uBb rfl gU rfl rfl) ?_;refine uAk rfl rfl rfl rfl (uAZ rfl gU rfl rfl rfl) ?_;refine uAk rfl rfl rfl rfl (uAg rfl gU rfl rfl) ?_;refine uAS rfl rfl rfl rfl rfl rfl rfl gU rfl rfl rfl rfl ?_;refine uAk rfl rfl rfl rfl (uAc rfl gU) ?_;refine uAk rfl rfl rfl rfl (uAx rfl rfl gU gU rfl rfl rfl (fun hh=>Sp.rows_at (by first | omega | (simp at hh ⊢; omega)))) ?_;refine uAk rfl rfl rfl rfl (uBb rfl gU rfl rfl) ?_;refine uAk rfl rfl rfl rfl (uAZ rfl gU rfl rfl rfl) ?_;refine uCk (xs:=[_,_]) rfl rfl rfl rfl rfl rfl rfl rfl rfl rfl gU rfl ?_;refine uBa rfl rfl rfl rfl rfl rfl rfl gU gU (hn2) rfl ?_;refine uAk rfl rfl rfl rfl (uAU rfl gU) ?_;refine uBf (by kernel_rfl) ?_;refine uAn (s:=⟨[(1,_,_),(6,_,_),(80,_,_)],[(.l 1,_)],[],[]⟩) (uAj (⟨sx rfl,sx rfl,sx rfl,trivial⟩) (⟨sx rfl,trivial⟩) trivial) ?_;refine uAm rfl (fun hc7=>?_) (fun hc7=>?_)
       ·try simp only [nn,uAh,T.rows_len,Fs.rows_len,Sp.rows_len,Gl.rows_len] at hc7
        have hf : spE uAH (n.steps.getD j default)=2:=by rw [spE,if_pos (by simpa [Decidable.or_iff_not_imp_left] using hc7)]
        have he:=hd.1 (by rw [hf]; simp)
        rw [he,hf,if_pos (by simp)] at hN
        refine uAe (uAb ?_);refine uAa rfl rfl rfl (uAd rfl gU) ?_;refine uAf ?_;refine uAo ?_
        repeat (first | refine tR ?_ | refine bR ?_)
        refine uAq rfl ?_ trivial
        (rw [hN]; rfl)
       ·try simp only [nn,uAh,T.rows_len,Fs.rows_len,Sp.rows_len,Gl.rows_len] at hc7
        have hnn : ¬(uAH (n.steps.getD j default).frm=false∨uAH (n.steps.getD j default).dst=false):=by
         simp at hc7 ⊢; simp [hc7]
        have hf : spE uAH (n.steps.getD j default)=msgE uAH (n.steps.getD j default).msg:=by rw [spE,if_neg hnn]
        rw [hf] at hd
        refine uAp ?_;refine uAe (uAb ?_);refine uAa rfl rfl rfl (uAg rfl gU rfl rfl) ?_;refine uAa rfl rfl rfl (uAl rfl gU rfl rfl rfl rfl) ?_;refine uAa rfl rfl rfl (uAc rfl gU) ?_;refine uAa rfl rfl rfl (uAx rfl rfl gU gU rfl rfl rfl (fun hh=>Sp.rows_at (by first | omega | (simp at hh ⊢; omega)))) ?_;refine uAa rfl rfl rfl (uBb rfl gU rfl rfl) ?_;refine uAa rfl rfl rfl (uAI rfl gU rfl rfl rfl rfl) ?_;refine uAv rfl rfl rfl rfl rfl rfl gU gU (uEq _ hmem) rfl ?_;refine uAa rfl rfl rfl (uAd rfl gU) ?_;refine uAf ?_;refine uAn (s:=⟨[(1,_,_),(6,_,_),(7,_,_)],[(.l 1,_)],[],[]⟩) (uAj (⟨sx rfl,sx rfl,sx rfl,trivial⟩) (⟨sx rfl,trivial⟩) trivial) ?_;refine uAe (uAb ?_);refine uAa rfl rfl rfl (uAc rfl gU) ?_;refine uAa rfl rfl rfl (uAi rfl rfl gU gU rfl) ?_;refine uAf ?_;refine uAm rfl (fun hc8=>?_) (fun hc8=>?_)
        ·try simp only [nn,uAh,T.rows_len,Fs.rows_len,Sp.rows_len,Gl.rows_len] at hc8
         have he:=hd.1 hc8
         rw [he,if_pos hc8] at hN
         refine uAe (uAb ?_);refine uAa rfl rfl rfl (uAc rfl gU) ?_;refine uAa rfl rfl rfl (uAd rfl gU) ?_;refine uAf ?_;refine uAo ?_
         repeat (first | refine tR ?_ | refine bR ?_)
         refine uAq rfl ?_ trivial
         (rw [hN]; rfl)
        ·try simp only [nn,uAh,T.rows_len,Fs.rows_len,Sp.rows_len,Gl.rows_len] at hc8
         refine uAp ?_;refine uAb ?_;refine uAa rfl rfl rfl (uAc rfl gU) ?_;refine uAa rfl rfl rfl (uAr rfl rfl gU gU rfl (IntWalk.i64_in _ (by omega))) ?_;refine uAa rfl rfl rfl (uAd rfl gU) ?_;refine uAf ?_;refine ⟨j + 1,?_,?_,uAj (⟨⟨_,rfl,?_⟩,⟨sx rfl,trivial⟩⟩) (⟨sx rfl,trivial⟩) trivial⟩
         all_goals first | rfl | omega | exact ⟨by omega,hd.2 hc8⟩
      ·try simp only [nn,uAh,T.rows_len,Fs.rows_len,Sp.rows_len,Gl.rows_len] at hc6
       rw [uGj (by omega)] at hij
       rw [← hij,if_neg (by simp)] at hN
       refine uAN ?_
       repeat (first | refine uAE ?_ | refine uAF ?_ | refine uAB rfl ?_)
       refine uAe ?_;refine uAe (uAb ?_);refine uAa rfl rfl rfl (uAd rfl gU) ?_;refine uAf ?_;refine uAs ?_;refine uAX (ι:=Nat) { t:=[(1,_,_)],bx:=[(.l 1,_)],ow:=[] } (fun i=>[(8,true,xi (i : Int))]) (fun i=>[]) (fun i=>i≤n.goals.length∧errs (uB8 uAH) (n.goals.drop i)=errs (uB8 uAH) n.goals) (fun i=>n.goals.length - i) (0) (⟨by simp,rfl⟩) (uAj (⟨sx rfl,sx rfl,trivial⟩) (⟨sx rfl,trivial⟩) trivial) ?_
       intro i hoki
       dsimp only [List.cons_append,List.nil_append]
       obtain ⟨hi2,hii⟩:=hoki
       refine uAe ?_;refine uAe (uAb ?_);refine uAa rfl rfl rfl (uAc rfl gU) ?_;refine uAa rfl rfl rfl (uAg rfl gU rfl rfl) ?_;refine uAa rfl rfl rfl (uAl rfl gU rfl rfl rfl rfl) ?_;refine uAO rfl rfl rfl rfl rfl gU rfl rfl ?_ (fun hh=>by simp at hh); intro hlen;refine uAa rfl rfl rfl (uAi rfl rfl gU gU rfl) ?_;refine uAf ?_;refine uAn (s:=⟨[(1,_,_),(8,_,_),(95,_,_)],[(.l 1,_)],[],[]⟩) (uAj (⟨sx rfl,sx rfl,sx rfl,trivial⟩) (⟨sx rfl,trivial⟩) trivial) ?_;refine uAm rfl (fun hc7=>?_) (fun hc7=>?_)
       ·try simp only [nn,uAh,T.rows_len,Fs.rows_len,Sp.rows_len,Gl.rows_len] at hc7
        have hlt : i < n.goals.length:=by omega
        have hd:=uCa (d:=default) hlt hii
        have hmem:=hg _ (uBP (d:=default) hlt)
        refine uAp ?_;refine uAe ?_;refine uAs ?_;refine uAe (uAb ?_);refine uAa rfl rfl rfl (uAg rfl gU rfl rfl) ?_;refine uAa rfl rfl rfl (uAl rfl gU rfl rfl rfl rfl) ?_;refine uAa rfl rfl rfl (uAc rfl gU) ?_;refine uAa rfl rfl rfl (uAx rfl rfl gU gU rfl rfl rfl (fun hh=>Gl.rows_at (by first | omega | (simp at hh ⊢; omega)))) ?_;refine uAa rfl rfl rfl (uAI rfl gU rfl rfl rfl rfl) ?_;refine uAv rfl rfl rfl rfl rfl rfl gU gU (uJU _ hmem) rfl ?_;refine uAa rfl rfl rfl (uAd rfl gU) ?_;refine uAf ?_;refine uAn (s:=⟨[(1,_,_),(8,_,_),(9,_,_)],[(.l 1,_)],[],[]⟩) (uAj (⟨sx rfl,sx rfl,sx rfl,trivial⟩) (⟨sx rfl,trivial⟩) trivial) ?_;refine uAe (uAb ?_);refine uAa rfl rfl rfl (uAc rfl gU) ?_;refine uAa rfl rfl rfl (uAi rfl rfl gU gU rfl) ?_;refine uAf ?_;refine uAm rfl (fun hc1=>?_) (fun hc1=>?_)
        ·try simp only [nn,uAh,T.rows_len,Fs.rows_len,Sp.rows_len,Gl.rows_len] at hc1
         refine uAe (uAb ?_);refine uAa rfl rfl rfl (uAc rfl gU) ?_;refine uAa rfl rfl rfl (uAd rfl gU) ?_;refine uAf ?_;refine uAo ?_
         repeat (first | refine tR ?_ | refine bR ?_)
         refine uAq rfl ?_ trivial
         (rw [hN,hd.1 (by assumption)]; rfl)
        ·try simp only [nn,uAh,T.rows_len,Fs.rows_len,Sp.rows_len,Gl.rows_len] at hc1
         refine uAp ?_;refine uAb ?_;refine uAa rfl rfl rfl (uAc rfl gU) ?_;refine uAa rfl rfl rfl (uAr rfl rfl gU gU rfl (IntWalk.i64_in _ (by omega))) ?_;refine uAa rfl rfl rfl (uAd rfl gU) ?_;refine uAf ?_;refine ⟨i + 1,?_,?_,uAj (⟨⟨_,rfl,?_⟩,⟨sx rfl,trivial⟩⟩) (⟨sx rfl,trivial⟩) trivial⟩
         all_goals (first | rfl | omega | exact ⟨by omega,hd.2 (by assumption)⟩)
       ·try simp only [nn,uAh,T.rows_len,Fs.rows_len,Sp.rows_len,Gl.rows_len] at hc7
        rw [uGj (by omega)] at hii
        refine uAN ?_
        repeat (first | refine uAE ?_ | refine uAF ?_ | refine uAB rfl ?_)
        refine uAe (uAb ?_);refine uAa rfl rfl rfl (uAd rfl gU) ?_;refine uAf ?_;refine uAo ?_
        repeat (first | refine tR ?_ | refine bR ?_)
        refine uAq rfl ?_ trivial
        (rw [hN,← hii]; rfl)
end Go.Proofs.YtnjjdbapadkomaaGreatDoor
