/- Our abstract program logic and contracts of this seat's functions, part 6: no statement of its own (long names of ours are shortened by a program). -/
import Derived.Test.YteidahabkfgfjaaGreatM5
import Derived.KernelRfl
import Derived.SizedLaws
import Derived.Test.YteidahabkfgfjaaGreatChecked
import Derived.Handed
import Derived.Test.YteidahabkfgfjaaGreatRows
import Derived.Deep.DeepHandedRow
import Derived.Stop.Joined
set_option linter.unusedVariables false
set_option linter.unusedSimpArgs false
namespace Go.Proofs.YteidahabkfgfjaaGreat
open Go Go.Abs
abbrev ChG:=List UInt8→Int→List UInt8 × Int
mutual
def chT (g : ChG) : T→T
 | .mk k n s ks=>.mk k (if k=2 then (g n s).1 else n) (if k=2 then (g n s).2 else s) (chTs g ks)
def chTs (g : ChG) : List T→List T
 | []=>[]
 | t :: ts=>chT g t :: chTs g ts
end
theorem uKQ (g : ChG) : ∀ l : List T,chTs g l=l.map (chT g)
 | []=>by rw[chTs]; rfl
 | t :: ts=>by rw[chTs,uKQ g ts]; rfl
theorem uHh (g : ChG) (t : T) : chT g t=⟨t.kind,if t.kind=2 then (g t.name t.sort).1 else t.name,if t.kind=2 then (g t.name t.sort).2 else t.sort,t.kids.map (chT g)⟩:=by
 cases t; rw[chT,uKQ]; rfl
mutual
theorem uJ8 (g : ChG) : ∀ t : T,(chT g t).size=t.size
 | .mk k n s ks=>by rw[chT,T.size,T.size,uIo g ks]
theorem uIo (g : ChG) : ∀ l : List T,T.sizes (chTs g l)=T.sizes l
 | []=>by rw[chTs]
 | t :: ts=>by rw[chTs,T.sizes,T.sizes,uJ8 g t,uIo g ts]
end
mutual
def knT (K : List (List UInt8)) : T→Bool
 | .mk k n _ ks=>(decide (k≠2) || K.contains n) && knTs K ks
def knTs (K : List (List UInt8)) : List T→Bool
 | []=>true
 | t :: ts=>knT K t && knTs K ts
end
theorem uJB (K : List (List UInt8)) : ∀ l : List T,knTs K l=l.all (knT K)
 | []=>by rw[knTs]; rfl
 | t :: ts=>by rw[knTs,uJB K ts]; rfl
theorem uLm (K : List (List UInt8)) (t : T) : knT K t=((decide (t.kind≠2) || K.contains t.name) && t.kids.all (knT K)):=by cases t; rw[knT,uJB]; rfl
theorem uF0 {K : List (List UInt8)} {t : T} (h3 : t.kind=3) (h : ∀ x ∈ t.kids,knT K x=true) : knT K t=true:=by
 rw[uLm,List.all_eq_true.2 h,h3]; rfl
theorem uCW {t : T} (h : gdB t=true) : ∀ x ∈ t.kids,gdB x=true:=by
 rw[uOj] at h
 simp only [Bool.and_eq_true] at h
 exact uKl h.2
theorem uJZ {t : T} (h : gdB t=true) (h3 : t.kind≠3) : t.kind=2∧t.kids=[]:=by
 rw[uOj] at h
 simp only [Bool.and_eq_true,Bool.or_eq_true,decide_eq_true_eq,List.isEmpty_iff] at h
 rcases h.1.2 with q | q
 ·exact q
 ·exact absurd q h3
theorem uIK {R K : List (List UInt8)} (hRK : ∀ x ∈ R,x ∈ K) {t : T} (hg : gdB t=true) (h : uEs R t=true) : knT K t=true:=by
 rw[uEs,Bool.and_eq_true,decide_eq_true_eq] at h
 obtain ⟨_,hk⟩:=uJZ hg (by omega)
 rw[uLm,hk,h.1]
 simp only [List.all_nil,Bool.and_true,Bool.or_eq_true]
 exact .inr (List.contains_iff_mem.2 (hRK _ (List.contains_iff_mem.1 h.2)))
theorem uBJ {t : T} {w : List UInt8} {k : Int} (h : isT t w k=true) : t.kind=3∧t.name=w∧(t.kids.length : Int)=k:=by
 simp only [isT,Bool.and_eq_true,decide_eq_true_eq] at h
 exact ⟨h.1.1,h.1.2,h.2⟩
theorem uFk {t : T} (h : (t.kids.length : Int)=1) : t.kids=[kid t 0]:=by
 match hk : t.kids,h with
 | [a],_=>simp [kid,hk]
theorem uER {t : T} (h : (t.kids.length : Int)=2) : t.kids=[kid t 0,kid t 1]:=by
 match hk : t.kids,h with
 | [a,b],_=>simp [kid,hk]
theorem uMm {R K : List (List UInt8)} (hRK : ∀ x ∈ R,x ∈ K) {t : T} (hg : gdB t=true) (h : uE0 R t=true) : knT K t=true:=by
 rw[uE0,Bool.and_eq_true] at h
 obtain ⟨h1,h2,h3⟩:=uBJ h.1
 have hk:=uFk h3
 refine uF0 h1 fun x hx=>?_
 have hgx:=uCW hg x hx
 rw[hk,List.mem_singleton] at hx
 subst hx
 exact uIK hRK hgx h.2
theorem uOF {R K : List (List UInt8)} (hRK : ∀ x ∈ R,x ∈ K) {t : T} (hg : gdB t=true) (h : pubT R t=true) : knT K t=true:=by
 rw[pubT,Bool.and_eq_true] at h
 obtain ⟨h1,h2,h3⟩:=uBJ h.1
 have hk:=uFk h3
 refine uF0 h1 fun x hx=>?_
 have hgx:=uCW hg x hx
 rw[hk,List.mem_singleton] at hx
 subst hx
 exact uMm hRK hgx h.2
theorem uQe {R K : List (List UInt8)} (hRK : ∀ x ∈ R,x ∈ K) : ∀ (n : Nat) (t : T),t.size≤n→gdB t=true→uCw R K t=0→knT K t=true:=by
 intro n
 induction n with
 | zero=>intro t h; have := t.size_pos; omega
 | succ n ih =>
  intro t ht hg hc
  rw[uDU] at hc
  split at hc
  ·rename_i h3
   obtain ⟨h2,hk⟩:=uJZ hg h3
   split at hc
   ·rename_i hm
    rw[uLm,hk,hm]; simp
   ·cases hc
  ·rename_i h3
   have h3:=Decidable.not_not.1 h3
   split at hc
   ·cases hc
   ·rename_i k hl
    have hz:=errs_zero.1 hc
    have hin : ∀ x ∈ t.kids.take k,knT K x=true:=fun x hx=>by
     have hm:=List.mem_of_mem_take hx
     have := uB7 hm
     exact ih x (by omega) (uCW hg x hm) (hz x hx)
    unfold uB6 at hl
    split at hl
    ·rename_i q
     have hk2 : (t.kids.length : Int)=2:=by rcases q with q | q <;> exact (uBJ q).2.2
     have e : 2=k:=Option.some.inj hl
     subst e
     rw[List.take_of_length_le (by omega)] at hin
     exact uF0 h3 hin
    split at hl
    ·rename_i q
     have hk2:=(uBJ q).2.2
     have e : 1=k:=Option.some.inj hl
     subst e
     rw[List.take_of_length_le (by omega)] at hin
     exact uF0 h3 hin
    split at hl
    ·rename_i q
     have hk2 : (t.kids.length : Int)=2:=by rcases q with q | q <;> exact (uBJ q.1).2.2
     have e : 1=k:=Option.some.inj hl
     subst e
     have hk:=uER hk2
     have hg1 : gdB (kid t 1)=true:=uCW hg _ (by rw[hk]; simp)
     have h1 : knT K (kid t 1)=true:=by
      rcases q with q | q
      ·exact uOF hRK hg1 q.2
      ·exact uMm hRK hg1 q.2
     refine uF0 h3 fun x hx=>?_
     rw[hk] at hx hin
     rcases List.mem_cons.1 hx with e | e
     ·exact hin x (by rw[e]; simp)
     ·rw[List.mem_singleton.1 e]; exact h1
    split at hl
    ·rename_i q
     rcases q with q | q
     ·exact uOF hRK hg q
     ·obtain ⟨⟨⟨q1,q2⟩,q3⟩,q4⟩:=shkT_iff.1 q
      have hk:=uER (uBJ q1).2.2
      refine uF0 h3 fun x hx=>?_
      have hgx:=uCW hg x hx
      rw[hk] at hx
      rcases List.mem_cons.1 hx with e | e
      ·subst e; exact uIK hRK hgx q2
      ·rw[List.mem_singleton.1 e] at hgx ⊢; exact uIK hRK hgx q3
    ·cases hl
def srtG (n : Nar) : ChG:=fun nm _=>(nm,mapI (nmsL n) nm)
structure ChkOk (n : Nar) : Prop where
 nar : NarOk n
 nd : (uB9 n).Nodup
 msg : ∀ s ∈ n.steps,knT (uB9 n) s.msg=true∧gdB s.msg=true∧s.msg.size≤40
 dat : ∀ g ∈ n.goals,∀ t ∈ g.data,knT (uB9 n) t=true∧gdB t=true∧t.size≤40
theorem uGy (n : Nar) : ∀ x ∈ n.roles,x ∈ uB9 n:=fun x hx=>by rw[uKk]; simp [hx]
theorem uK6 {n : Nar} (h : (chkE uAH n).2=0) : ChkOk n:=by
 obtain ⟨c1,c2,c3⟩:=uL9 h
 have hok:=uLj c1
 have hu : (useE n).2=0:=by rw[c3]
 have hst : (lnE (uDS n) Sp.line n.steps).2=0∧(lnE (uDH n) Gl.line n.goals).2=0:=by
  unfold useE at hu
  split at hu
  ·rename_i q; exact absurd hu q
  ·rename_i q; exact ⟨Decidable.not_not.1 q,hu⟩
 refine ⟨hok,uNl c2,fun s hs=>?_,fun g hg t ht=>?_⟩
 ·have hm:=(hok.steps s hs).2.2
  have hz:=lnE_zero.1 hst.1 s hs
  have hgd:=uLc hm.raw
  have ht : uCw n.roles (uB9 n) s.msg=0:=by
   unfold uDS at hz
   split at hz
   ·rename_i q; exact absurd hz q
   ·exact hz
  exact ⟨uQe (uGy n) _ _ (Nat.le_refl _) hgd ht,hgd,hm.size⟩
 ·have hm:=(hok.goals g hg).data t ht
  have hz:=lnE_zero.1 hst.2 g hg
  have hgd:=uLc hm.raw
  have he : errs (uCw n.roles (uB9 n)) g.data=0:=by
   unfold uDH at hz
   split at hz
   ·cases hz
   split at hz
   ·rename_i q; exact absurd hz q.2
   ·exact hz
  exact ⟨uQe (uGy n) _ _ (Nat.le_refl _) hgd (errs_zero.1 he t ht),hgd,hm.size⟩
def tbC (R : List (List UInt8)) (b : Nat) : List C:=[.sl 1 (strR R), .o (.map (some b))]
theorem uMV (R : List (List UInt8)) (l : List (List UInt8 × Int)) (b : Nat) (t : T) : CtrO (sysO.add b (mapL l)) 57 [.v (.ptr (.o 0) 0), .v (.ptr (.o 1) 0)] [t.cells,tbC R b] [] (.tup []) [(⟨t.kind,t.name,mapI l t.name,t.kids⟩ : T).cells,tbC R b] .box:=by
 refine uBH Tryz.func57 rfl rfl rfl rfl rfl rfl rfl ?_;refine uHR b (mapL l) (List.mem_cons_self ..) ?_;refine awp_drawn' (by kernel_rfl) ?_;refine uAw rfl rfl rfl rfl (uAc rfl gU) ?_;refine uAw rfl rfl rfl rfl (uAg rfl gU rfl rfl) ?_;refine uBO rfl rfl rfl rfl rfl rfl rfl gU rfl rfl rfl rfl ?_;refine uAw rfl rfl rfl rfl (uAc rfl gU) ?_;refine uAw rfl rfl rfl rfl (uCm rfl gU) ?_;refine uAw rfl rfl rfl rfl (uAg rfl gU rfl rfl) ?_;refine uBO rfl rfl rfl rfl rfl rfl rfl gU rfl rfl rfl rfl ?_;refine uAw rfl rfl rfl rfl (uJ5 (i:=0) (c:=.i .i64 (mapI l t.name)) (z:=.int .i64 0) rfl rfl gU gU rfl Tryz.underlying61 Tryz.underlying9 (by kernel_rfl) (fun w S=>uIO l t.name)) ?_;refine uAw rfl rfl rfl rfl (uCm rfl gU) ?_;refine uAw rfl rfl rfl rfl (uAg rfl gU rfl rfl) ?_;refine uAR rfl rfl rfl rfl rfl rfl rfl rfl rfl rfl rfl rfl ?_;refine uA5 (by kernel_rfl) ?_;refine uJP rfl ?_ (⟨⟨_,rfl,?_⟩,⟨⟨_,rfl,?_⟩,trivial⟩⟩) (by kernel_rfl)
 all_goals rfl
theorem uL6 (l : List T) : ∀ (i : Nat) (row : List C),(T.rows l)[i]? = some row→row.length=4:=by
 intro i row h
 rw[T.rows_eq,List.getElem?_map] at h
 cases hx : l[i]? with
 | none=>rw[hx] at h; cases h
 | some t=>rw[hx] at h; cases h; rfl
theorem uEY (l : List T) : (T.rows l).flatten.length=l.length * 4:=by
 induction l with
 | nil=>simp [T.rows_eq]
 | cons x l ih =>
  have e : T.rows (x :: l)=x.cells :: T.rows l:=by simp [T.rows_eq]
  rw[e,List.flatten_cons,List.length_append,ih]
  have : x.cells.length=4:=rfl
  simp only [List.length_cons]; omega
theorem uOl (l : List T) (i : Nat) (t : T) : (T.rows l).set i t.cells=T.rows (l.set i t):=by
 rw[T.rows_eq,T.rows_eq,List.map_set]
theorem uHw (l : List T) (i : Nat) (t : T) (h : i < l.length) : uBn (T.rows l).flatten (i * 4) t.cells=(T.rows (l.set i t)).flatten:=by
 rw[uHB (uL6 l) (by rw[T.rows_len]; exact h) rfl,uOl]
theorem uOY (l : List T) (i : Nat) (t : T) (h : i < l.length) : Nat.ble (0 + i * 4 + t.cells.length) (T.rows l).flatten.length=true:=by
 rw[uEY]
 exact Nat.ble_eq_true_of_le (by show 0 + i * 4 + 4≤_; omega)
def tZ : T:=⟨0,[],0,[]⟩
def padT (l : List T) (n : Nat) : List T:=l++List.replicate (n - l.length) tZ
theorem uPf {l : List T} {n : Nat} (h : l.length≤n) : (padT l n).length=n:=by rw[padT,List.length_append,List.length_replicate]; omega
theorem uNU {l : List T} {n : Nat} (h : l.length < n) (x : T) : (padT l n).set l.length x=padT (l++[x]) n:=by
 rw[padT,padT,List.set_append_right _ _ (Nat.le_refl _),Nat.sub_self]
 obtain ⟨m,hm⟩ : ∃ m,n - l.length=m + 1:=⟨n - l.length - 1,by omega⟩
 have e : n - (l++[x]).length=m:=by simp; omega
 rw[hm,e,List.replicate_succ,List.set_cons_zero,List.append_assoc]; rfl
theorem uNc {l : List T} {n : Nat} (h : l.length=n) : padT l n=l:=by rw[padT,h,Nat.sub_self]; simp
theorem uPc (n : Nat) : (List.replicate n tZ.cells).flatten=(T.rows (padT [] n)).flatten:=by
 rw[padT,T.rows_eq,List.nil_append,List.map_replicate]; rfl
abbrev mpG (l : List (List UInt8 × Int)) : ChG:=fun nm _=>(nm,mapI l nm)
theorem ps23 {st : St} {a b : Pass} (ha : st.box a.n=some a.cs) (hb : st.box b.n=some b.cs) : ∀ p ∈ [a,b],st.box p.n=some p.cs:=by
 intro p hp
 rcases List.mem_cons.1 hp with h | h
 ·rw[h]; exact ha
 ·rw[List.mem_singleton.1 h]; exact hb
set_option maxHeartbeats 4000000 in
theorem uDY (R : List (List UInt8)) (l : List (List UInt8 × Int)) (b : Nat) : ∀ (m : Nat) (t : T),t.size≤m→m≤900000→gdB t=true→Ctr (sysO.add b (mapL l)) 94 [xm t, .fn 57 [.ptr (.o 0) 0]] [tbC R b] (xm (chT (mpG l) t)) none [tbC R b]:=by
 intro m
 induction m with
 | zero=>intro t h; have := t.size_pos; omega
 | succ m ih =>
  intro t ht hm hgd
  have hr:=T.rows_len t.kids
  have hls:=T.len_sizes t.kids
  have hse:=t.size_eq
  have hgk:=uCW hgd
  refine uAA Tryz.func94 rfl rfl rfl rfl rfl rfl ?_;refine uAd (uAb ?_);refine uAq rfl (uAK rfl rfl rfl rfl) ?_;refine uAq rfl (uAG rfl rfl rfl) ?_;refine uAf ?_;refine uAd ?_;refine uAd (uAb ?_);refine uAa rfl rfl rfl (uAg rfl gU rfl rfl) ?_;refine uAa rfl rfl rfl (uAh rfl gU rfl rfl rfl rfl) ?_;refine uAa rfl rfl rfl (uAm rfl rfl gU gU rfl) ?_;refine uAf ?_;refine uAk (s:=⟨[(1,_,_),(2,_,_),(4,_,_),(10,_,_)],[(.l 2,_),(.l 4,_),(.o 0,_)],[],[]⟩) (uAi (⟨sx rfl,sx rfl,sx rfl,sx rfl,trivial⟩) (⟨sx rfl,sx rfl,sx rfl,trivial⟩) trivial) ?_;refine uAn rfl (fun hc=>?_) (fun hc=>?_)
  ·try simp only [nn,uAj,T.rows_len,Gl.rows_len,Fs.rows_len,Sp.rows_len] at hc
   have hk : t.kids=[]:=(uJZ hgd (by omega)).2
   have hE : chT (mpG l) t=⟨t.kind,t.name,mapI l t.name,t.kids⟩:=by rw[uHh,if_pos hc,if_pos hc,hk]; rfl
   refine uAd (uAb ?_);refine uAa rfl rfl rfl (uAc rfl gU) ?_;refine uEp [⟨.l 2,0,t.cells,(⟨t.kind,t.name,mapI l t.name,t.kids⟩ : T).cells⟩,⟨.o 0,0,tbC R b,tbC R b⟩] [] rfl rfl rfl rfl rfl rfl (ps23 rfl rfl) rfl rfl (uMV R l b t) rfl rfl rfl ?_
   rw[hE]
   refine uAf ?_;refine uAd (uAb ?_);refine uAa rfl rfl rfl (uAl rfl gU rfl rfl rfl rfl rfl) ?_;refine uAq rfl (uAy rfl rfl rfl rfl rfl rfl rfl) ?_;refine uAf ?_;refine uAp ?_
   repeat(first|refine tR ?_|refine bR ?_)
   refine uAt rfl ?_ (⟨⟨_,rfl,?_⟩,trivial⟩)
   all_goals rfl
  ·try simp only [nn,uAj,T.rows_len,Gl.rows_len,Fs.rows_len,Sp.rows_len] at hc
   have hE : chT (mpG l) t=⟨t.kind,t.name,t.sort,t.kids.map (chT (mpG l))⟩:=by rw[uHh,if_neg hc,if_neg hc]
   rw[hE]
   refine uAo ?_;refine uAd (uAb ?_);refine uAa rfl rfl rfl (uAg rfl gU rfl rfl) ?_;refine uAa rfl rfl rfl (uAh rfl gU rfl rfl rfl rfl) ?_;refine uAI rfl rfl rfl rfl rfl gU rfl rfl ?_ (fun hh=>by simp at hh); intro hlen;refine uAq rfl (uKP (n:=t.kids.length) rfl rfl rfl rfl rfl rfl rfl (by omega) (by omega) (by omega)) ?_;refine uAa rfl rfl rfl (uAe rfl gU) ?_;refine uAf ?_;refine uAk (s:=⟨[(1,_,_),(2,_,_),(4,_,_),(5,_,_)],[(.l 17,_),(.l 2,_),(.l 4,_),(.o 0,_)],[],[]⟩) (uAi (⟨sx rfl,sx rfl,sx rfl,sx rfl,trivial⟩) (⟨sx rfl,sx rfl,sx rfl,sx rfl,trivial⟩) trivial) ?_;refine uAd ?_;refine uAd (uAb ?_);refine uAa rfl rfl rfl (uAg rfl gU rfl rfl) ?_;refine uAa rfl rfl rfl (uAh rfl gU rfl rfl rfl rfl) ?_;refine uAI rfl rfl rfl rfl rfl gU rfl rfl ?_ (fun hh=>by simp at hh); intro hlen;refine uAa rfl rfl rfl (uAc rfl gU) ?_;refine uAf ?_;refine uAr ?_;refine uAW (ι:=Nat) { t:=[(1,_,_),(2,_,_),(4,_,_),(5,_,_),(19,_,_),(20,_,_)],bx:=[(.l 2,_),(.l 4,_),(.o 0,_)],ow:=[] } (fun k=>[(21,true,xi (k : Int))]) (fun k=>[((.l 17),(T.rows (padT ((t.kids.take k).map (chT (mpG l))) t.kids.length)).flatten)]) (fun k=>k≤t.kids.length) (fun k=>t.kids.length - k) (0) (by simp) (uAi (⟨sx rfl,sx rfl,sx rfl,sx rfl,sx rfl,sx rfl,sx rfl,trivial⟩) (⟨⟨_,rfl,uPc _⟩,⟨sx rfl,sx rfl,sx rfl,trivial⟩⟩) trivial) ?_
   intro k hok
   dsimp only [List.cons_append,List.nil_append]
   have hpl : ((t.kids.take k).map (chT (mpG l))).length=k:=by rw[List.length_map,List.length_take]; omega
   have hpn:=uPf (l:=(t.kids.take k).map (chT (mpG l))) (n:=t.kids.length) (by omega)
   refine uAd (uAb ?_);refine uAa rfl rfl rfl (uAm rfl rfl gU gU rfl) ?_;refine uAf ?_;refine uAd ?_;refine uAn rfl (fun hc2=>?_) (fun hc2=>?_)
   ·try simp only [nn,uAj,T.rows_len,Gl.rows_len,Fs.rows_len,Sp.rows_len] at hc2
    have hlt : k < t.kids.length:=by omega
    have hmm:=uBZ (d:=default) hlt
    have hks:=uB7 hmm
    have hT:=uBr (l:=t.kids) (d:=default) hlt
    have hset : uBn (T.rows (padT ((t.kids.take k).map (chT (mpG l))) t.kids.length)).flatten (k * 4) (chT (mpG l) (t.kids.getD k default)).cells=(T.rows (padT ((t.kids.take (k + 1)).map (chT (mpG l))) t.kids.length)).flatten:=by
     have h1:=uNU (l:=(t.kids.take k).map (chT (mpG l))) (n:=t.kids.length) (by omega) (chT (mpG l) (t.kids.getD k default))
     rw[hpl] at h1
     rw[uHw _ _ _ (by omega),h1,hT,List.map_append]; rfl
    refine uAo ?_;refine uAd ?_;refine uAr ?_;refine uAd (uAb ?_);refine uAa rfl rfl rfl (uAc rfl gU) ?_;refine uAa rfl rfl rfl (uAv rfl rfl gU gU rfl rfl rfl (fun hh=>T.rows_at (by first|omega|(simp at hh ⊢; omega)))) ?_;refine uAa rfl rfl rfl (uAE rfl gU rfl rfl rfl rfl) ?_;refine uAq rfl (uAG rfl rfl rfl) ?_;refine uAa rfl rfl rfl (uAe rfl gU) ?_;refine uAq rfl (uAy rfl rfl rfl rfl rfl rfl rfl) ?_;refine uAf ?_;refine uAk (s:=⟨[(1,_,_),(2,_,_),(4,_,_),(5,_,_),(6,_,_),(7,_,_),(19,_,_),(20,_,_),(21,_,_)],[(.l 17,_),(.l 2,_),(.l 4,_),(.l 7,_),(.o 0,_)],[],[]⟩) (uAi (⟨sx rfl,sx rfl,sx rfl,sx rfl,sx rfl,sx rfl,sx rfl,sx rfl,sx rfl,trivial⟩) (⟨sx rfl,sx rfl,sx rfl,sx rfl,sx rfl,trivial⟩) trivial) ?_;refine uAb ?_;refine uAa rfl rfl rfl (uAc rfl gU) ?_;refine uAa rfl rfl rfl (uAc rfl gU) ?_;refine uAa rfl rfl rfl (uAl rfl gU rfl rfl rfl rfl rfl) ?_;refine uAa rfl rfl rfl (uAc rfl gU) ?_;refine uHQ (.o 0) rfl rfl rfl rfl rfl rfl (ih (t.kids.getD k default) (by omega) (by omega) (hgk _ hmm)) rfl rfl rfl rfl rfl rfl ?_;refine uAa rfl rfl rfl (uBM rfl rfl gU gU rfl rfl rfl (fun _=>by omega)) ?_;refine uAq rfl (uAy rfl rfl rfl rfl rfl rfl (uOY _ _ _ (by omega))) ?_;refine uAf ?_;refine uAk (s:=⟨[(1,_,_),(2,_,_),(4,_,_),(5,_,_),(19,_,_),(20,_,_),(21,_,_)],[(.l 17,_),(.l 2,_),(.l 4,_),(.o 0,_)],[],[]⟩) (uAi (⟨sx rfl,sx rfl,sx rfl,sx rfl,sx rfl,sx rfl,sx rfl,trivial⟩) (⟨sx rfl,sx rfl,sx rfl,sx rfl,trivial⟩) trivial) ?_
    refine uAb ?_;refine uAa rfl rfl rfl (uAz rfl rfl gU gU rfl (IntWalk.i64_in _ (by omega))) ?_;refine uAa rfl rfl rfl (uAc rfl gU) ?_;refine uAf ?_;refine ⟨k + 1,?_,?_,uAi (⟨⟨_,rfl,?_⟩,⟨sx rfl,sx rfl,sx rfl,sx rfl,sx rfl,sx rfl,trivial⟩⟩) (⟨⟨_,rfl,?_⟩,⟨sx rfl,sx rfl,sx rfl,trivial⟩⟩) trivial⟩
    all_goals (first|rfl|omega|(rw[Nat.zero_add,hset]; done))
   ·try simp only [nn,uAj,T.rows_len,Gl.rows_len,Fs.rows_len,Sp.rows_len] at hc2
    have hke : k=t.kids.length:=by omega
    subst hke
    rw[List.take_length,uNc (by rw[List.length_map])]
    refine uAJ ?_
    repeat(first|refine uAC ?_|refine uAD ?_|refine uAB rfl ?_)
    refine uAd (uAb ?_);refine uIg 5 17 (T.rows (t.kids.map (chT (mpG l)))) rfl rfl (by rw[T.rows_len,List.length_map]) (by omega) (uL6 _) rfl ?_;refine uAa rfl rfl rfl (uAc rfl gU) ?_;refine uAa rfl rfl rfl (uAg rfl gU rfl rfl) ?_;refine uAq rfl (uAy rfl rfl rfl rfl rfl rfl rfl) ?_;refine uAf ?_;refine uAd (uAb ?_);refine uAa rfl rfl rfl (uAl rfl gU rfl rfl rfl rfl rfl) ?_;refine uAq rfl (uAy rfl rfl rfl rfl rfl rfl rfl) ?_;refine uAf ?_;refine uAp ?_
    repeat(first|refine tR ?_|refine bR ?_)
    refine uAt rfl ?_ (⟨⟨_,rfl,?_⟩,trivial⟩)
    all_goals rfl
end Go.Proofs.YteidahabkfgfjaaGreat
namespace Go.Abs
variable {Z : Pg}
theorem uQL {P : Program} {o : Oper} {a : Act} {w : World} {K K' : Act→World→Prop} {A B : Act→World→Prop} (h : ∀ a w,K a w→K' a w) (hh : o.wp P a w K (Qn A)) : o.wp P a w K' (Qn B):=by
 unfold Oper.wp at *
 generalize (execOp a.eval o).run P w=r at *
 have hl : LetsOut (Qn A)→LetsOut (Qn B):=fun ⟨_,_,q⟩=>q.elim
 cases r with
 | ok n w' =>
  cases n <;> simp only [Oper.upon] at hh ⊢ <;>
   first
    | exact h _ _ hh
    | exact Calls.mono hh (fun e w'' he=>by cases e <;> first|exact h _ _ he|exact he.elim|exact hl he)
    | exact Rows.mono hh (fun _ _ he=>h _ _ he)
 | halt x w'=>cases x <;> simp only [Oper.upon] at hh ⊢ <;> first|exact hh|exact hh.elim
def Nd (Z : Pg) (N : Nat) (ops : Array Oper) (Q : St→Prop) (fuel : Nat) (listed : Array Bool) (st : St) : Prop :=
 ∀ (E : Env) (G : Gh) (a : Act) (w : World),Rel E G st a w→EOk Z N E→wpAny Z.P .any ops (Qn fun a' w'=>∃ G' st',Q st'∧Rel E G' st' a' w') fuel listed a w
theorem uGt {N : Nat} {ops : Array Oper} {Q : St→Prop} {listed : Array Bool} {st : St} (hr : Region.ready .any ops listed=[]) (h : Q st) : Nd Z N ops Q 0 listed st :=
 fun E G a w hrel _=>⟨hr,G,st,h,hrel⟩
def uOC (Z : Pg) (N : Nat) (ops : Array Oper) (Q : St→Prop) (fuel : Nat) (listed : Array Bool) (st : St) : List Nat→Prop
 | []=>True
 | i :: r=>(∃ o,ops[i]? = some o∧AL Z N ops [o] (Nd Z N ops Q fuel (listed.setIfInBounds i true)) st)∧uOC Z N ops Q fuel listed st r
theorem uKR {N : Nat} {ops : Array Oper} {Q : St→Prop} {fuel : Nat} {listed : Array Bool} {st : St} : ∀ {rs : List Nat},uOC Z N ops Q fuel listed st rs → ∀ i ∈ rs,∃ o,ops[i]? = some o∧AL Z N ops [o] (Nd Z N ops Q fuel (listed.setIfInBounds i true)) st
 | [],_,i,hi=>absurd hi (List.not_mem_nil)
 | j :: r,h,i,hi=>by
  rcases List.mem_cons.1 hi with e | e
  ·subst e; exact h.1
  ·exact uKR h.2 i e
theorem uAT {N : Nat} {ops : Array Oper} {Q : St→Prop} {fuel : Nat} {listed : Array Bool} {st : St} (i : Nat) (rs : List Nat) (hr : Region.ready .any ops listed=i :: rs) (h : uOC Z N ops Q fuel listed st (i :: rs)) : Nd Z N ops Q (fuel + 1) listed st:=by
 intro E G a w hrel hE
 refine ⟨fun e=>absurd (hr.symm.trans e) (List.cons_ne_nil _ _),fun j hj=>?_⟩
 rw[hr] at hj
 obtain ⟨o,ho,hal⟩:=uKR h j hj
 have := hal E G a w hrel hE (wpAny Z.P .any ops (Qn fun a' w'=>∃ G' st',Q st'∧Rel E G' st' a' w') fuel (listed.setIfInBounds j true)) fun st' G' a' w' hn hr'=>hn E G' a' w' hr' hE
 unfold wpList at this
 unfold wpOp
 simp only [ho]
 split
 ·rename_i hw
  rw[if_pos hw] at this
  rcases this with q | q
  ·exact .inl (uQL (fun _ _ q=>q) q)
  ·obtain ⟨_,_,_,q⟩:=q
   exact q.elim
 ·rename_i hw
  rw[if_neg hw] at this
  exact this
theorem uQy {N : Nat} {Q : Exit→St→Prop} {st : St} {id : Nat} {ops : List Oper} (h : Nd Z N ops.toArray (Q .normal) ops.toArray.size (Array.replicate ops.toArray.size false) st) : AWP Z N (.region id ops.toArray true) Q st:=by
 intro E G a w hr hE
 refine wp_mono (wp_region_any Z.mix (h E G a _ hr.drew hE)) ?_
 intro e a' w' hq
 cases e <;> first|exact hq|exact hq.elim
end Go.Abs
namespace Go.Abs
variable {Z : Pg}
def CtrN (Z : Pg) (f : FuncId) (args : List X) (L : Nat) (cs : List C) : Prop :=
 uCx Z f ∧ ∀ (w : World) (G : Gh) (vs : List Value),All2 (XRep w G) args vs→(∀ b o,G.W b o ≠ .none→b < w.heap.size)→(∀ b o n,G.W b o ≠ .box n)→(∀ b o p,G.W b o ≠ .own p)→GlOk Z w G →
  Calls Z.P f vs.toArray w fun e w'=>∃ (v : Value) (G' : Gh) (b o0 cap : Nat),e = .returned v∧Fr (fun _ _=>False) w.heap.size w w' ∧
   (∀ b o,G.W b o = .imm→G'.W b o = .imm)∧(∀ b o,b < w.heap.size→G'.W b o = .imm→G.W b o = .imm)∧(∀ b o,G'.W b o ≠ .none→b < w'.heap.size)∧v = .slice (some ⟨b,o0,none⟩) L cap∧L≤cap∧w.heap.size≤b∧b < w'.heap.size ∧
   ∀ (j : Nat) (c : C),cs[j]? = some c→G'.W b (o0 + j) ≠ .imm∧w'.frozen? ⟨b,o0 + j,none⟩=false ∧ ∃ u,w'.cell? ⟨b,o0 + j,none⟩=some u∧CRep w' G'.S c u
def retN (T : List (Option TyI)) (rs : List ResultVar) (sz L : Nat) (cs : List C) : Exit→St→Prop
 | .normal,s | .ret,s=>∃ j : Nat,s.box (.l j)=some cs∧resX T s rs=some (.v (.ms (.l j) sz 0 L))
 | _,_=>False
theorem uEl {f : FuncId} {fn : Func} {c : Code} {N : Nat} {rs : List ResultVar} {args : List X} (sz : Nat) {L : Nat} {cs : List C} (hL : 0 < L) (hcs : cs≠[])
  (hf : Z.P.funcs[f]? = some fn) (hb : fn.body = some c) (hname : (fn.name == "runtime.NumGoroutine") = false) (hN : fn.ntmps = N) (hrs : fn.results = rs.toArray) (hlen' : Nat.ble args.length N = true)
  (h : AWP Z N c (retN Z.T rs sz L cs) (st0 args [])) (hx : ∀ A,Z.ex A:=by intro _; exact trivial) : CtrN Z f args L cs:=by
 have hlen : args.length≤N:=Nat.le_of_ble_eq_true hlen'
 refine ⟨⟨fn,hf,by rw[hb]; rfl,hname⟩,?_⟩
 intro w G vs hvs hwf hbox hown hgl
 let E : Env:={ B:=w.heap.size,w0:=w,W0:=G.W,A0:=fun j=>G.A (.o j),nt:=N }
 let a : Act:={ tmps:=vs.toArray++Array.replicate (fn.ntmps - vs.toArray.size) undef,defers:=[] }
 have hal : args.length=vs.length:=hvs.len
 have hrel : Rel E G (st0 args []) a w:={
  df:=rfl
  tm:=by
   intro k g x hk
   obtain ⟨i,y,h1,h2,h3⟩:=uDQ 0 args k (g,x) hk
   simp only [Prod.mk.injEq] at h3
   obtain ⟨rfl,rfl⟩:=h3
   obtain ⟨v,hv,hx⟩:=hvs.get i x h2
   have hi : i < vs.length:=(List.getElem?_eq_some_iff.1 hv).1
   refine ⟨v,?_,fun _=>hx,fun hg=>by simp at hg⟩
   show (vs.toArray++_)[k]? = _
   rw[h1,Nat.zero_add,Array.getElem?_append_left (by simpa using hi)]
   simpa using hv
  bx:=by
   intro n cs hn
   obtain ⟨i,h1,h2⟩:=uCe 0 [] n cs hn
   rw[h1,Nat.zero_add]
   simp at h2
  ow:=by intro p sz hp; simp [St.own,st0,getO] at hp
  wf:=hwf
  olB:=fun b o n _ hn=>.inl ⟨n,hn⟩
  olO:=fun b o p _ hn=>⟨p,hn⟩
  nt:=by
   show (vs.toArray++Array.replicate (fn.ntmps - vs.toArray.size) undef).size=N
   simp; omega
  oA:=fun _=>rfl
  im:=fun b o h=>h
  im':=fun b o _ h=>.inl h
  fr:=Fr.refl _ _ _
  hB:=Nat.le_refl _
  lo:=fun b o _=>⟨fun n hn=>by exact absurd hn (hbox b o n),fun _ p=>hown b o p⟩
  bd:=fun t k cs hn=>by
   obtain ⟨i,h1,_⟩:=uCe 0 [] _ cs hn
   simp at h1
  mp:=fun x hx=>by cases hx }
 refine calls_of_wp hf hb ?_
 have hwp:=h E G a w hrel ⟨rfl,fun _=>rfl,fun g hg=>⟨(hgl g hg).1,(hgl g hg).2.1,fun o hm=>by
  rcases hm with ⟨n,hn⟩ | ⟨p,hp⟩
  ·exact (hgl g hg).2.2.1 o n hn
  ·exact (hgl g hg).2.2.2 o p hp⟩,hx _⟩
 refine wp_mono hwp ?_
 rintro e a' w' ⟨G',s,hq,hr'⟩
 have key : (∃ j : Nat,s.box (.l j)=some cs∧resX Z.T s rs=some (.v (.ms (.l j) sz 0 L))) →
   a'.defers=[] ∧ ∃ v,(results fn a'.tmps).run Z.P w' = .ok v w' ∧ ∃ (u : Value) (G' : Gh) (b o0 cap : Nat),Ending.returned v = .returned u∧Fr (fun _ _=>False) w.heap.size w w' ∧
    (∀ b o,G.W b o = .imm→G'.W b o = .imm)∧(∀ b o,b < w.heap.size→G'.W b o = .imm→G.W b o = .imm)∧(∀ b o,G'.W b o ≠ .none→b < w'.heap.size)∧u = .slice (some ⟨b,o0,none⟩) L cap∧L≤cap∧w.heap.size≤b∧b < w'.heap.size ∧
    ∀ (j : Nat) (c : C),cs[j]? = some c→G'.W b (o0 + j) ≠ .imm∧w'.frozen? ⟨b,o0 + j,none⟩=false ∧ ∃ u,w'.cell? ⟨b,o0 + j,none⟩=some u∧CRep w' G'.S c u:=by
  rintro ⟨j,hbj,hres⟩
  have hbx:=hr'.bx _ _ hbj
  refine ⟨hr'.df,?_⟩
  unfold resX at hres
  have hys : ∃ ys,uDP Z.T s rs=some ys∧X.v (.ms (.l j) sz 0 L)=uD7 ys:=by
   split at hres
   ·rename_i ys hy; simp only [Option.some.injEq] at hres; exact ⟨ys,hy,hres.symm⟩
   ·simp at hres
  obtain ⟨ys,hys,hrb⟩:=hys
  obtain ⟨us,hrun,hall,hone⟩:=uC1 hr' hys
  have hresv : ∃ v,(results fn a'.tmps).run Z.P w' = .ok v w'∧XRep w' G' (uD7 ys) v:=by
   have hr0 : (results fn a'.tmps).run Z.P w' = .ok (if h : us.toArray.size=1 then us.toArray[0] else .tuple us.toArray) w':=by
    rw[uEd,hrs,List.mapM_toArray]
    simp only [Sem.run_bind,Sem.run_map,hrun,Result.andThen_ok,Sem.run_pure]
   exact ⟨_,hr0,uHE hall⟩
  obtain ⟨v,hv1,hv2⟩:=hresv
  refine ⟨v,hv1,?_⟩
  have hfr : Fr (fun _ _=>False) w.heap.size w w':=hr'.fr.mono (Nat.le_refl _) fun b o _ hm=>by
   rcases hm with ⟨n,hn⟩ | ⟨p,hp⟩
   ·exact absurd hn (hbox b o n)
   ·exact absurd hp (hown b o p)
  let G2 : Gh:={ A:=G'.A,W:=fun b o=>match G'.W b o with | .imm=>.imm | _=>.none }
  have hS : ∀ b o,G'.S b o→G2.S b o:=fun b o hs=>by unfold Gh.S at *; simp [G2,hs]
  have hI : ∀ b o,G2.W b o = .imm→G'.W b o = .imm:=fun b o hi=>by
   simp only [G2] at hi
   split at hi
   ·assumption
   ·simp at hi
  rw[← hrb] at hv2
  have hv3 : ∃ cap,L≤cap∧v = .slice (some ⟨(G'.A (.l j)).1,(G'.A (.l j)).2 + 0,none⟩) L cap:=by
   rcases hv2 with ⟨h0,_⟩ | h
   ·omega
   ·exact h
  obtain ⟨cap,hcap,hv4⟩:=hv3
  obtain ⟨c0,hc0⟩ : ∃ c,cs[0]? = some c:=by
   cases cs with
   | nil=>exact absurd rfl hcs
   | cons c r=>exact ⟨c,rfl⟩
  have hb0:=(hbx 0 c0 hc0).1
  refine ⟨v,G2,(G'.A (.l j)).1,(G'.A (.l j)).2,cap,rfl,hfr,fun b o hi=>hS b o (hr'.im b o hi),fun b o hb hi=>?_,fun b o hn=>?_,by rw[hv4]; rfl,hcap,?_,?_,fun k c hk=>?_⟩
  ·rcases hr'.im' b o hb (hI b o hi) with h1 | ⟨p,hp⟩
   ·exact h1
   ·exact absurd hp (hown b o p)
  ·refine hr'.wf b o ?_
   intro he; apply hn; simp [G2,he]
  ·refine Nat.le_of_not_lt fun hlt=>?_
   obtain ⟨i,hi⟩:=(hr'.lo _ _ hlt).1 _ hb0
   cases hi
  ·exact hr'.wf _ _ (by rw[hb0]; simp)
  ·obtain ⟨h1,h2,u,h3,h4⟩:=hbx k c hk
   refine ⟨fun hi=>?_,h2,u,h3,h4.mono hS fun _ _ _=>rfl⟩
   have := hI _ _ hi
   rw[h1] at this; cases this
 cases e <;> first
  | exact key hq
  | exact hq.elim
theorem uBl {N : Nat} {ops : Array Oper} {rest : List Oper} {K : St→Prop} {st : St} {o : Oper} {d : Nat} {fo : Operand} {args : Array Operand} {ts : Array TypeId} {f : FuncId} {xs : List X} (sz : Nat) {L : Nat} {cs : List C}
  (ho : o.op = .call { callee:=.value fo,args:=args,argTypes:=ts }) (hg : uA8 ops st o=some true) (hd : o.dst=some d) (hN : Nat.ble (d + 1) N=true)
  (hf : lk Z.T st 0 fo=some (true, .fn f [])) (ha : uBV Z.T st ts.toList args.toList=some (true,xs)) (hfr0 : st.freshO (.l d,true)=true)
  (hs : CtrN Z f xs L cs) (h : AL Z N ops rest K ((st.addBox (.l d) cs).put d (true, .v (.ms (.l d) sz 0 L)))) : AL Z N ops (o :: rest) K st:=by
 intro E G a w hr hE K' hK
 have hfr1 : FreshG st (.l d,true):=St.freshO_ok hfr0
 have hdN : d < E.nt:=by rw[hE.nt]; exact Nat.le_of_ble_eq_true hN
 unfold wpList
 rw[uBt hr hg,if_pos rfl]
 refine .inl ?_
 obtain ⟨cvs,hfv,hcv⟩:=uAV hr hf rfl
 have hcv0 : cvs=[]:=by cases cvs with
  | nil=>rfl
  | cons _ _=>exact hcv.elim
 subst hcv0
 have hav:=uCu hr ha rfl
 obtain ⟨hen,hsp⟩:=hs
 unfold Oper.wp
 rw[uC8 ho hfv hen,Oper.upon_enter,List.append_nil]
 have hmono : ∀ {x : X} {v : Value},XRep w G x v→XRep w G.pure x v:=fun hx=>hx.mono (fun b o hs=>(G.pure_imm b o).2 hs) (fun _ _ _=>rfl) (fun _ _=>rfl)
 refine (hsp w G.pure _ (hav.mono fun _ _=>hmono) ?_ ?_ ?_ ((hE.at hr).pure)).mono ?_
 ·intro b o' hb
  refine hr.wf b o' ?_
  intro e; apply hb; unfold Gh.pure; simp [e]
 ·intro b o' n hn; rcases G.pure_cases b o' with h' | h' <;> rw[h'] at hn <;> simp at hn
 ·intro b o' p hn; rcases G.pure_cases b o' with h' | h' <;> rw[h'] at hn <;> simp at hn
 ·rintro e w' ⟨v,G',b,o0,cap,rfl,hfr,h1,h2,h3,hv,hcap,hb1,hb2,hcells⟩
  dsimp only
  have g2 : ∀ b o',b < w.heap.size→G'.W b o' = .imm→G.W b o' = .imm:=fun b o' hb hi=>(G.pure_imm b o').1 (h2 b o' hb hi)
  let G2:=G.back G' w.heap.size .none
  let G3 : Gh:={ A:=fun m=>if m = .l d then (b,o0) else G.A m,W:=fun b' o'=>if b'=b∧o0≤o'∧o' < o0 + cs.length then .box (.l d) else G2.W b' o' }
  have hnb : ∀ b',b' < w.heap.size → ¬ b'=b:=fun b' hb' e=>by omega
  have hS3 : ∀ b' o',G'.S b' o'→G3.S b' o':=fun b' o' hs=>by
   unfold Gh.S at *
   dsimp only [G3]
   rw[if_neg]
   ·exact Gh.back_imm g2 b' o' hs
   ·rintro ⟨e1,e2,e3⟩
    subst e1
    obtain ⟨k,rfl⟩ : ∃ k,o'=o0 + k:=⟨o' - o0,by omega⟩
    exact (hcells k _ (List.getElem?_eq_getElem (by omega))).1 hs
  have hrel : Rel E G3 (st.addBox (.l d) cs) a w':=by
   refine Rel.addBox ?_ ?_ rfl
   ·refine (hr.sub (St.drop_sub _ (.l d))).grow hfr ?_ (St.drop_same (st:=st) rfl (fun k g x hk=>hfr1.1 rfl k g x hk) _ _) ?_
    ·intro b' o' hb'
     dsimp only [G3]
     rw[if_neg (fun q=>hnb b' hb' q.1)]
     simp [G2,Gh.back,hb']
    ·intro b' o' hne
     dsimp only [G3] at hne
     split at hne
     ·rename_i q; rw[q.1]; exact hb2
     ·dsimp only [G2,Gh.back] at hne
      split at hne
      ·rename_i hlt; exact Nat.lt_of_lt_of_le hlt hfr.size
      ·refine h3 b' o' ?_
       intro e; rw[e] at hne; simp at hne
   ·intro k c hk
    obtain ⟨q1,q2,u,q3,q4⟩:=hcells k c hk
    have hkl : k < cs.length:=(List.getElem?_eq_some_iff.1 hk).1
    have hA : G3.A (.l d)=(b,o0):=by dsimp only [G3]; rw[if_pos rfl]
    rw[hA]
    refine ⟨?_,q2,u,q3,q4.mono hS3 fun _ _ _=>rfl⟩
    dsimp only [G3]
    rw[if_pos ⟨rfl,by omega,by omega⟩]
  have hput:=hrel.put hdN (g:=true) (x:=.v (.ms (.l d) sz 0 L)) (v:=v) (fun _=>.inr ⟨cap,hcap,by rw[hv]; dsimp only [G3]; rw[if_pos rfl]; rfl⟩) (fun hf=>by simp at hf)
  rw[hd]
  exact h E G3 _ _ hput hE K' hK
theorem uIJ {N : Nat} {ops : Array Oper} {rest : List Oper} {K : St→Prop} {st : St} (k m : Nat) {sz : Nat} (hs : st.get k=some (true, .v (.c (.sl sz [])))) (hw : st.own (.t k)=some sz) (hfr : st.freshO (.l m,true)=true) (h : AL Z N ops rest K (st.thw k m sz)) : AL Z N ops rest K st:=fun E G a w hr hE=>by
 obtain ⟨G',h'⟩:=hr.thaw hs hw (St.freshO_ok hfr)
 exact h E G' a w h' hE
end Go.Abs
namespace Go.Proofs.YteidahabkfgfjaaGreat
open Go Go.Abs
theorem uDy (l : List (List UInt8)) (h : l.length≤100000) : Ctr sys 90 [.v (.c (.sl 1 (strR l)))] [] (.v (.c (.sl 1 (strR l)))) none []:=by
 have hr : (strR l).length≤100000:=by rw[uAj]; exact h
 refine uAA Tryz.func90 rfl rfl rfl rfl rfl rfl ?_;refine uAd (uAb ?_);refine uAq rfl (uBd (.inr rfl) rfl rfl) ?_;refine uAf ?_;refine uAd ?_;refine uAd (uAb ?_);refine uAa rfl rfl rfl (uAc rfl gU) ?_;refine uDN rfl rfl rfl rfl rfl rfl rfl rfl (fun b hb=>?_);refine uAf ?_;refine uAn rfl (fun hc=>?_) (fun hc=>?_)
 ·refine uAd (uAb ?_)
  refine uAq rfl (uBd (.inr rfl) rfl rfl) ?_;refine uAf ?_;refine uAp ?_
  repeat(first|refine tR ?_|refine bR ?_)
  refine uAt rfl ?_ trivial
  have := hb hc
  exact congrArg (fun z=>X.v (.c (.sl 1 z))) this.symm
 ·refine uAo ?_
  refine uAd (uAb ?_);refine uAN (xs:=[]) rfl rfl rfl rfl rfl rfl rfl rfl rfl gU rfl ?_;refine uAa rfl rfl rfl (uAc rfl gU) ?_;refine uAq rfl (uAX rfl rfl rfl rfl rfl rfl rfl (by simp; omega) (by simp; omega)) ?_;refine uAq rfl (uAM (.inr rfl) rfl rfl rfl) ?_;refine uAf ?_;refine uAp ?_
  repeat(first|refine tR ?_|refine bR ?_)
  refine uAt rfl ?_ trivial
  rfl
theorem uGe (l : List Fs) (h : l.length≤100000) : Ctr sys 91 [.v (.c (.sl 3 (Fs.rows l)))] [] (.v (.c (.sl 3 (Fs.rows l)))) none []:=by
 have hr : (Fs.rows l).length≤100000:=by rw[Fs.rows_len]; exact h
 refine uAA Tryz.func91 rfl rfl rfl rfl rfl rfl ?_;refine uAd (uAb ?_);refine uAq rfl (uBd (.inr rfl) rfl rfl) ?_;refine uAf ?_;refine uAd ?_;refine uAd (uAb ?_);refine uAa rfl rfl rfl (uAc rfl gU) ?_;refine uDN rfl rfl rfl rfl rfl rfl rfl rfl (fun b hb=>?_);refine uAf ?_;refine uAn rfl (fun hc=>?_) (fun hc=>?_)
 ·refine uAd (uAb ?_)
  refine uAq rfl (uBd (.inr rfl) rfl rfl) ?_;refine uAf ?_;refine uAp ?_
  repeat(first|refine tR ?_|refine bR ?_)
  refine uAt rfl ?_ trivial
  have := hb hc
  exact congrArg (fun z=>X.v (.c (.sl 3 z))) this.symm
 ·refine uAo ?_
  refine uAd (uAb ?_);refine uAN (xs:=[]) rfl rfl rfl rfl rfl rfl rfl rfl rfl gU rfl ?_;refine uAa rfl rfl rfl (uAc rfl gU) ?_;refine uAq rfl (uAX rfl rfl rfl rfl rfl rfl rfl (by simp; omega) (by simp; omega)) ?_;refine uAq rfl (uAM (.inr rfl) rfl rfl rfl) ?_;refine uAf ?_;refine uAp ?_
  repeat(first|refine tR ?_|refine bR ?_)
  refine uAt rfl ?_ trivial
  rfl
theorem uIT : Ctr sys 93 [.v (.c (.sl 5 []))] [] (.v (.c (.sl 5 []))) none []:=by
 refine uAA Tryz.func93 rfl rfl rfl rfl rfl rfl ?_;refine uAd (uAb ?_);refine uAq rfl (uBd (.inr rfl) rfl rfl) ?_;refine uAf ?_;refine uAd ?_;refine uAd (uAb ?_);refine uAa rfl rfl rfl (uAc rfl gU) ?_;refine uDN rfl rfl rfl rfl rfl rfl rfl rfl (fun b hb=>?_);refine uAf ?_;refine uAn rfl (fun hc=>?_) (fun hc=>?_)
 ·refine uAd (uAb ?_)
  refine uAq rfl (uBd (.inr rfl) rfl rfl) ?_;refine uAf ?_;refine uAp ?_
  repeat(first|refine tR ?_|refine bR ?_)
  refine uAt rfl ?_ trivial
  rfl
 ·refine uAo ?_
  refine uAd (uAb ?_);refine uAN (xs:=[]) rfl rfl rfl rfl rfl rfl rfl rfl rfl gU rfl ?_;refine uAa rfl rfl rfl (uAc rfl gU) ?_;refine uAq rfl (uAX rfl rfl rfl rfl rfl rfl rfl (by simp) (by simp)) ?_;refine uAq rfl (uAM (.inr rfl) rfl rfl rfl) ?_;refine uAf ?_;refine uAp ?_
  repeat(first|refine tR ?_|refine bR ?_)
  refine uAt rfl ?_ trivial
  rfl
theorem uGb (l : List Sp) (h : l.length≤100000) (h0 : l≠[]) : CtrN sys 92 [.v (.c (.sl 7 (Sp.rows l)))] l.length (Sp.rows l).flatten:=by
 have hr : (Sp.rows l).length=l.length:=Sp.rows_len l
 have hp : 0 < l.length:=List.length_pos_iff.2 h0
 have hf : (Sp.rows l).flatten≠[]:=by
  cases l with
  | nil=>exact absurd rfl h0
  | cons x r=>intro q; have := congrArg List.length q; simp [Sp.rows,Sp.cells] at this
 refine uEl 7 (hp) (hf) Tryz.func92 rfl rfl rfl rfl rfl ?_;refine uAd (uAb ?_);refine uAq rfl (uBd (.inr rfl) rfl rfl) ?_;refine uAf ?_;refine uAd ?_;refine uAd (uAb ?_);refine uAa rfl rfl rfl (uAc rfl gU) ?_;refine uDN rfl rfl rfl rfl rfl rfl rfl rfl (fun b hb=>?_);refine uAf ?_;refine uAn rfl (fun hc=>?_) (fun hc=>?_)
 ·exfalso
  have := congrArg List.length (hb hc)
  rw[hr] at this; simp at this; exact h0 this
 ·refine uAo ?_
  refine uAd (uAb ?_);refine uAN (xs:=[]) rfl rfl rfl rfl rfl rfl rfl rfl rfl gU rfl ?_;refine uAa rfl rfl rfl (uAc rfl gU) ?_;refine uIJ 5 5 rfl rfl rfl ?_;refine uEu 7 rfl rfl rfl rfl rfl rfl rfl rfl rfl rfl rfl rfl rfl (by simp) (by omega) (by simp; omega) (by omega) ?_
  rw[Nat.zero_add,hr]
  trace_state
  refine uAq rfl (uAM (.inr rfl) rfl rfl rfl) ?_;refine uAf ?_;refine uAp ?_
  repeat(first|refine tR ?_|refine bR ?_)
  refine ⟨7,rfl,?_⟩
  rfl
theorem uJR (l : List Gl) (h : l.length≤100000) (h0 : l≠[]) : CtrN sys 93 [.v (.c (.sl 5 (Gl.rows l)))] l.length (Gl.rows l).flatten:=by
 have hr : (Gl.rows l).length=l.length:=Gl.rows_len l
 have hp : 0 < l.length:=List.length_pos_iff.2 h0
 have hf : (Gl.rows l).flatten≠[]:=by
  cases l with
  | nil=>exact absurd rfl h0
  | cons x r=>intro q; have := congrArg List.length q; simp [Gl.rows,Gl.cells] at this
 refine uEl 5 (hp) (hf) Tryz.func93 rfl rfl rfl rfl rfl ?_;refine uAd (uAb ?_);refine uAq rfl (uBd (.inr rfl) rfl rfl) ?_;refine uAf ?_;refine uAd ?_;refine uAd (uAb ?_);refine uAa rfl rfl rfl (uAc rfl gU) ?_;refine uDN rfl rfl rfl rfl rfl rfl rfl rfl (fun b hb=>?_);refine uAf ?_;refine uAn rfl (fun hc=>?_) (fun hc=>?_)
 ·exfalso
  have := congrArg List.length (hb hc)
  rw[hr] at this; simp at this; exact h0 this
 ·refine uAo ?_
  refine uAd (uAb ?_);refine uAN (xs:=[]) rfl rfl rfl rfl rfl rfl rfl rfl rfl gU rfl ?_;refine uAa rfl rfl rfl (uAc rfl gU) ?_;refine uIJ 5 5 rfl rfl rfl ?_;refine uEu 7 rfl rfl rfl rfl rfl rfl rfl rfl rfl rfl rfl rfl rfl (by simp) (by omega) (by simp; omega) (by omega) ?_
  rw[Nat.zero_add,hr]
  trace_state
  refine uAq rfl (uAM (.inr rfl) rfl rfl rfl) ?_;refine uAf ?_;refine uAp ?_
  repeat(first|refine tR ?_|refine bR ?_)
  refine ⟨7,rfl,?_⟩
  rfl
theorem uK3 (l : List T) (h : l.length≤100000) (h0 : l≠[]) : CtrN sys 95 [.v (.c (.sl 4 (T.rows l)))] l.length (T.rows l).flatten:=by
 have hr : (T.rows l).length=l.length:=T.rows_len l
 have hp : 0 < l.length:=List.length_pos_iff.2 h0
 have hf : (T.rows l).flatten≠[]:=by
  cases l with
  | nil=>exact absurd rfl h0
  | cons x r=>intro q; have := congrArg List.length q; simp [T.rows_eq,T.cells] at this
 refine uEl 4 (hp) (hf) Tryz.func95 rfl rfl rfl rfl rfl ?_;refine uAd (uAb ?_);refine uAq rfl (uBd (.inr rfl) rfl rfl) ?_;refine uAf ?_;refine uAd ?_;refine uAd (uAb ?_);refine uAa rfl rfl rfl (uAc rfl gU) ?_;refine uDN rfl rfl rfl rfl rfl rfl rfl rfl (fun b hb=>?_);refine uAf ?_;refine uAn rfl (fun hc=>?_) (fun hc=>?_)
 ·exfalso
  have := congrArg List.length (hb hc)
  rw[hr] at this; simp at this; exact h0 this
 ·refine uAo ?_
  refine uAd (uAb ?_);refine uAN (xs:=[]) rfl rfl rfl rfl rfl rfl rfl rfl rfl gU rfl ?_;refine uAa rfl rfl rfl (uAc rfl gU) ?_;refine uIJ 5 5 rfl rfl rfl ?_;refine uEu 7 rfl rfl rfl rfl rfl rfl rfl rfl rfl rfl rfl rfl rfl (by simp) (by omega) (by simp; omega) (by omega) ?_
  rw[Nat.zero_add,hr]
  trace_state
  refine uAq rfl (uAM (.inr rfl) rfl rfl rfl) ?_;refine uAf ?_;refine uAp ?_
  repeat(first|refine tR ?_|refine bR ?_)
  refine ⟨7,rfl,?_⟩
  rfl
end Go.Proofs.YteidahabkfgfjaaGreat
namespace Go.Abs
variable {Z : Pg}
theorem CtrN.wk {Z Z' : Pg} {f : FuncId} {args : List X} {L : Nat} {cs : List C} (hP : Z'.P=Z.P) (hg : ∀ g ∈ Z.gv,g ∈ Z'.gv) (h : CtrN Z f args L cs) : CtrN Z' f args L cs:=by
 obtain ⟨⟨fn,h1,h2,h3⟩,h4⟩:=h
 refine ⟨⟨fn,by rw[hP]; exact h1,h2,h3⟩,fun w G vs a b c d e=>?_⟩
 rw[hP]
 exact h4 w G vs a b c d fun x hx=>e x (hg x hx)
theorem uIt {N : Nat} {α : Type} {c : Code} {Q : Exit→St→Prop} {st : St} {id : Nat} {ops : List Oper} (S : α→St) (rest : ∀ x,AWP Z N c Q (S x)) (h : Nd Z N ops.toArray (fun s=>∃ x,Sub (S x) s) ops.toArray.size (Array.replicate ops.toArray.size false) st) : AWP Z N (.seq (.region id ops.toArray true) c) Q st :=
 uAd (uK1 (uQy (Q:=fun e s=>match e with | .normal=>∃ x,Sub (S x) s | _=>False) h) fun e s hq=>by
  cases e with
  | normal=>obtain ⟨x,hs⟩:=hq; exact uAk hs (rest x)
  | _=>exact hq.elim)
theorem uMe {N : Nat} {α : Type} {ops : Array Oper} {Q : St→Prop} {F : Nat} {listed0 : Array Bool} {st0 : St} (f : Nat) (L : Array Bool) (S : α→St) (tail : ∀ x,Nd Z N ops Q f L (S x)) (h : (∀ (x : α) {listed : Array Bool} {st : St},listed=L→Sub (S x) st→Nd Z N ops Q f listed st)→Nd Z N ops Q F listed0 st0) : Nd Z N ops Q F listed0 st0 :=
 h fun x {listed st} hl hs=>by subst hl; exact fun E G a w hr hE=>tail x E G a w (hr.sub hs) hE
end Go.Abs
namespace Go.Abs
variable {Z : Pg}
theorem uHI {st : St} {ty : TypeId} {gate : Bool} {t : TypeId} {x : Operand} {g : Bool} {n m : Nm} {off j sz o1 len : Nat} {ti : TyI} {cs : List C} {u : Value} (h : lk Z.T st ty x=some (g, .v (.ptr n off))) (hg : gate=true→g=true)
  (ht : tyAt Z.T t=some ti) (hagg : ti.agg=false) (hb : st.box n=some cs) (hc : cs[off]? = some (.o u)) (hj : st.get j=some (true, .v (.msv m sz o1 len u))) : PureOk Z st (.load t x) ty gate (.v (.ms m sz o1 len)):=by
 intro o E G a w ho hn hr hgt
 obtain ⟨v,hv,hrun⟩:=uAh h hg ht hagg hb hc o E G a w ho hn hr hgt
 refine ⟨v,?_,hrun⟩
 have e : v=u:=by cases hv; rfl
 subst e
 obtain ⟨vj,_,h1,_⟩:=hr.tm j true _ hj
 obtain ⟨e2,cap,h3,h4⟩:=h1 rfl
 rw[← e2]
 exact .inr ⟨cap,h3,h4⟩
section
variable {N : Nat} {st s0 : St} {ops : Array Oper} {B : List Nat} {k : Nat} {rest : List Oper} {acc : List Lnk} {o : Oper} {Q : St→Prop} {d : Nat} {gate : Bool}
def uKm (ops : Array Oper) (o : Oper) (n : Nm) (j : Nat) : Foot:={ rt:=j :: uL5 ops o,rb:=[n],ro:=[] }
theorem uDG (j : Nat) {t : TypeId} {x : Operand} {g0 g : Bool} {n m : Nm} {off sz o1 len : Nat} {ti : TyI} {cs : List C} {u : Value} (hk : ops[k]? = some o) (ho : o.op = .load t x) (h0 : lk Z.T st o.type x=some (g0, .v (.ptr n off))) (hg : uA8 ops (rs (uKm ops o n j) st) o=some gate) (hd : o.dst=some d) (hN : Nat.ble (d + 1) N=true)
  (h : lk Z.T (rs (uKm ops o n j) st) o.type x=some (g, .v (.ptr n off))) (hgg : gate=true→g=true) (ht : tyAt Z.T t=some ti) (hagg : ti.agg=false) (hb : (rs (uKm ops o n j) st).box n=some cs) (hc : cs[off]? = some (.o u)) (hj : (rs (uKm ops o n j) st).get j=some (true, .v (.msv m sz o1 len u)))
  (hr : Draw Z N s0 ops B (k + 1) rest (acc++[(k,{ d:=some (d,gate, .v (.ms m sz o1 len)),drop:=[.t d] },uKm ops o n j)]) (ap { d:=some (d,gate, .v (.ms m sz o1 len)),drop:=[.t d] } st) Q) : Draw Z N s0 ops B k (o :: rest) acc st Q :=
 let _:=h0; uCT hk (uGs hg hd hN (by rw[ho]; exact uHI h hgg ht hagg hb hc hj)) hr
end
theorem Rel.setBox {E : Env} {G : Gh} {st : St} {a : Act} {w : World} {n : Nm} {cs : List C} (h : Rel E G st a w) (hb : uCL w G n cs) (hnb : n.isBd=false) : Rel E G { st with bx:=(n,cs) :: st.bx } a w where
 df:=h.df
 tm:=h.tm
 bx:=by
  intro m ds hm
  have : St.box { st with bx:=(n,cs) :: st.bx } m=if n=m then some cs else st.box m:=uA3 _ _ _ _
  rw[this] at hm
  split at hm
  ·rename_i he; subst he; simp at hm; subst hm; exact hb
  ·exact h.bx m ds hm
 ow:=h.ow
 wf:=h.wf
 olB:=h.olB
 olO:=h.olO
 nt:=h.nt
 oA:=h.oA
 im:=h.im
 im':=h.im'
 fr:=h.fr
 hB:=h.hB
 lo:=h.lo
 bd:=by
  intro t k ds hm hne
  have : St.box { st with bx:=(n,cs) :: st.bx } (.bd t k)=if n = .bd t k then some cs else st.box (.bd t k):=uA3 _ _ _ _
  rw[this] at hm
  split at hm
  ·rename_i he; subst he; simp [Nm.isBd] at hnb
  ·exact h.bd t k ds hm hne
 mp:=h.mp
theorem uH4 (cs : List C) (off : Nat) (c : C) : uBn cs off [c]=cs.set off c:=rfl
theorem Rel.frzIn {E : Env} {G : Gh} {st : St} {a : Act} {w : World} (h : Rel E G st a w) {k m sz L off : Nat} {u : Value} {n : Nm} {cs : List C} {es : List (List C)} (hs : st.get k=some (true, .v (.msv (.l m) sz 0 L u)))
  (hb : st.box (.l m)=some es.flatten) (hL : es.length=L) (hm : L≤9223372036854775807) (hrow : ∀ (i : Nat) (row : List C),es[i]? = some row→row.length=sz) (hf : FreshG st (.l m,false)) (hn : st.box n=some cs) (hnm : Nm.beq (.l m) n=false) (hc : cs[off]? = some (.o u)) (hnb : n.isBd=false) :
  ∃ G',Rel E G' { st.frz k m sz es with bx:=(n,uBn cs off [.sl sz es]) :: (st.frz k m sz es).bx } a w:=by
 obtain ⟨v,hv1,hv2,_⟩:=h.tm k true _ hs
 obtain ⟨e1,cap,hcap,hv3⟩:=hv2 rfl
 have h0 : Rel E G (st.same k (.l m) sz 0 L) a w:=by
  refine { df:=h.df,tm:=?_,bx:=h.bx,ow:=h.ow,wf:=h.wf,olB:=h.olB,olO:=h.olO,nt:=h.nt,oA:=h.oA,im:=h.im,im':=h.im',fr:=h.fr,hB:=h.hB,lo:=h.lo,bd:=h.bd,mp:=h.mp }
  intro j g x hj
  have e : (st.same k (.l m) sz 0 L).get j=if k=j then some (true, .v (.ms (.l m) sz 0 L)) else st.get j:=uBy _ _ _ _
  rw[e] at hj
  split at hj
  ·rename_i q; subst q
   simp only [Option.some.injEq,Prod.mk.injEq] at hj
   obtain ⟨rfl,rfl⟩:=hj
   exact ⟨v,hv1,fun _=>.inr ⟨cap,hcap,hv3⟩,fun q=>by cases q⟩
  ·exact h.tm j g x hj
 have hfz:=h0.freeze (k:=k) (m:=m) (sz:=sz) (L:=L) (es:=es) (by
  show getT ((k,true,_) :: st.t) k=_
  rw[uBy,if_pos rfl]) hb hL hm hrow (by
   exact ⟨fun q=>(by cases q),hf.2⟩)
 have hsub : Sub (st.frz k m sz es) ((st.same k (.l m) sz 0 L).frz k m sz es):=by
  refine ⟨fun j x hj=>?_,fun _ _ hb=>hb,fun _ _ ho=>ho, .inr rfl⟩
  have e1 : (st.frz k m sz es).get j=if k=j then some (true, .v (.c (.sl sz es))) else st.get j:=uBy _ _ _ _
  have e2 : ((st.same k (.l m) sz 0 L).frz k m sz es).get j=if k=j then some (true, .v (.c (.sl sz es))) else (st.same k (.l m) sz 0 L).get j:=uBy _ _ _ _
  have e3 : (st.same k (.l m) sz 0 L).get j=if k=j then some (true, .v (.ms (.l m) sz 0 L)) else st.get j:=uBy _ _ _ _
  rw[e1] at hj
  rw[e2]
  split
  ·rename_i q; rw[if_pos q] at hj; exact hj
  ·rename_i q; rw[if_neg q] at hj; rw[e3,if_neg q]; exact hj
 refine ⟨_,(hfz.sub hsub).setBox ?_ hnb⟩
 have hbn : (st.frz k m sz es).box n=some cs:=by
  have e : (st.frz k m sz es).box n=if (Nm.l m)=n then some [] else st.box n:=uA3 _ _ _ _
  rw[e,if_neg]
  ·exact hn
  ·intro q; rw[q,Nm.beq_self] at hnm; cases hnm
 have hold:=(hfz.sub hsub).bx n cs hbn
 have htk:=(hfz.sub hsub).tm k true (.v (.c (.sl sz es))) (by
  show getT ((k,true,_) :: st.t) k=_
  rw[uBy,if_pos rfl])
 obtain ⟨v2,hw1,hw2,_⟩:=htk
 have e2 : v2=v:=by rw[hv1] at hw1; exact (Option.some.inj hw1).symm
 have hslr:=hw2 rfl
 rw[e2,e1] at hslr
 have hoff : off < cs.length:=(List.getElem?_eq_some_iff.1 hc).1
 intro j c hj
 by_cases q : j=off
 ·subst q
  obtain ⟨p1,p2,v3,p3,p4⟩:=hold j _ hc
  have e3 : v3=u:=by cases p4; rfl
  subst e3
  have ec : c = .sl sz es:=by
   have : (uBn cs j [C.sl sz es])[j]? = some (.sl sz es):=by
    rw[uH4]; simp [hoff]
   rw[this] at hj; exact (Option.some.inj hj).symm
  subst ec
  exact ⟨p1,p2,v3,p3,hslr⟩
 ·have : (uBn cs off [C.sl sz es])[j]? = cs[j]? := by
   rw[uH4,List.getElem?_set,if_neg (fun e=>q e.symm)]
  rw[this] at hj
  exact hold j c hj
theorem uFZ {N : Nat} {c : Code} {Q : Exit→St→Prop} {st : St} (k m : Nat) (n : Nm) (off : Nat) {sz L : Nat} {u : Value} {cs : List C} (es : List (List C)) (hs : st.get k=some (true, .v (.msv (.l m) sz 0 L u)))
  (hb : st.box (.l m)=some es.flatten) (hL : es.length=L) (hm : L≤9223372036854775807) (hrow : ∀ (i : Nat) (row : List C),es[i]? = some row→row.length=sz) (hfo : st.freshO (.l m,false)=true) (hn : st.box n=some cs) (hnm : Nm.beq (.l m) n=false) (hc : cs[off]? = some (.o u)) (hnb : n.isBd=false)
  (h : AWP Z N c Q { st.frz k m sz es with bx:=(n,uBn cs off [.sl sz es]) :: (st.frz k m sz es).bx }) : AWP Z N c Q st:=fun E G a w hr hE=>by
 obtain ⟨G',h'⟩:=hr.frzIn hs hb hL hm hrow (St.freshO_ok hfo) hn hnm hc hnb
 exact h E G' a w h' hE
end Go.Abs
namespace Go.Proofs.YteidahabkfgfjaaGreat
open Go Go.Abs
def chS (g : ChG) (s : Sp) : Sp:=⟨s.frm,s.dst,chT g s.msg,s.line⟩
def chL (g : ChG) (x : Gl) : Gl:=⟨x.kind,x.role,x.wth,x.data.map (chT g),x.line⟩
def chN (g : ChG) (n : Nar) : Nar:=⟨n.name,n.roles,n.fresh,n.tags,n.steps.map (chS g),n.goals.map (chL g)⟩
def resE (n : Nar) : Nar × Int × Int:=if (chkE uAH n).2≠0 then (nar0,(chkE uAH n).1,(chkE uAH n).2) else (chN (srtG n) n,0,0)
theorem uN1 {sz : Nat} {xs : List (List C)} {i j m : Nat} {row : List C} (h : ∀ (i : Nat) (row : List C),xs[i]? = some row→row.length=sz) (hi : xs[i]? = some row) (hjm : j + m≤sz) : (xs.flatten.drop (i * sz + j)).take m=(row.drop j).take m:=by
 have hr:=uG9 h hi
 have e : row.drop j=(xs.flatten.drop (i * sz + j)).take (sz - j):=by
  rw[← hr,List.drop_take,List.drop_drop]
 rw[e,List.take_take,Nat.min_eq_left (by omega)]
theorem uMx {sz : Nat} {xs : List (List C)} {i j : Nat} {row ds : List C} (h : ∀ (i : Nat) (row : List C),xs[i]? = some row→row.length=sz) (hi : xs[i]? = some row) (hjm : j + ds.length≤sz) : uBn xs.flatten (i * sz + j) ds=(xs.set i (uBn row j ds)).flatten:=by
 have hil : i < xs.length:=(List.getElem?_eq_some_iff.1 hi).1
 have hrl:=h i row hi
 have hlen : (uBn row j ds).length=sz:=by rw[uBN,hrl]
 rw[← uHB h hil hlen]
 have hfl : i * sz + sz≤xs.flatten.length:=by
  cases hz : sz with
  | zero =>
   have : ds.length=0:=by omega
   rw[Nat.mul_zero]; omega
  | succ z =>
   have hg : row[z]? = some (row[z]'(by omega)):=List.getElem?_eq_getElem (by omega)
   have := uFt h hi hg
   have := (List.getElem?_eq_some_iff.1 this).1
   rw[hz] at this; omega
 refine List.ext_getElem? fun k=>?_
 rw[uCN _ _ _ _ (by omega),uCN _ _ _ _ (by omega),hlen]
 by_cases h1 : i * sz≤k∧k < i * sz + sz
 ·obtain ⟨k',rfl⟩ : ∃ k',k=i * sz + k':=⟨k - i * sz,by omega⟩
  have hrk : row[k']? = some (row[k']'(by omega)):=List.getElem?_eq_getElem (by omega)
  have hfk:=uFt h hi hrk
  rw[if_pos h1,Nat.add_sub_cancel_left,uCN _ _ _ _ (by omega)]
  by_cases h2 : j≤k'∧k' < j + ds.length
  ·rw[if_pos (by omega),if_pos h2]
   congr 1; omega
  ·rw[if_neg (by omega),if_neg h2,hfk,hrk]
 ·rw[if_neg (by omega),if_neg h1]
theorem uMq (l : List Sp) : ∀ (i : Nat) (row : List C),(Sp.rows l)[i]? = some row→row.length=7:=by
 intro i row h
 rw[Sp.rows,List.getElem?_map] at h
 cases hx : l[i]? with
 | none=>rw[hx] at h; cases h
 | some t=>rw[hx] at h; cases h; rfl
theorem uOB (l : List Gl) : ∀ (i : Nat) (row : List C),(Gl.rows l)[i]? = some row→row.length=5:=by
 intro i row h
 rw[Gl.rows,List.getElem?_map] at h
 cases hx : l[i]? with
 | none=>rw[hx] at h; cases h
 | some t=>rw[hx] at h; cases h; rfl
def upto {α : Type} (f : α→α) (l : List α) (k : Nat) : List α:=(l.take k).map f++l.drop k
theorem uEQ {α : Type} (f : α→α) (l : List α) : upto f l 0=l:=by simp [upto]
theorem uEN {α : Type} (f : α→α) (l : List α) : upto f l l.length=l.map f:=by simp [upto]
theorem uFA {α : Type} (f : α→α) (l : List α) (k : Nat) : (upto f l k).length=l.length:=by
 simp only [upto,List.length_append,List.length_map,List.length_take,List.length_drop]; omega
theorem uGl {α : Type} {f : α→α} {l : List α} {k : Nat} {d : α} (h : k < l.length) : (upto f l k)[k]? = some (l.getD k d):=by
 rw[upto,List.getElem?_append_right (by simp; omega),List.length_map,List.length_take,Nat.min_eq_left (by omega),Nat.sub_self,List.getElem?_drop,Nat.add_zero,List.getD_eq_getElem?_getD,List.getElem?_eq_getElem h]; rfl
theorem uFI {α : Type} {f : α→α} {l : List α} {k : Nat} {d : α} (h : k < l.length) : (upto f l k).set k (f (l.getD k d))=upto f l (k + 1):=by
 rw[upto,List.set_append_right _ _ (by simp; omega),upto,uBr (d:=d) h,List.map_append,List.append_assoc]
 congr 1
 have e : k - ((l.take k).map f).length=0:=by simp; omega
 rw[e,List.drop_eq_getElem_cons h,List.set_cons_zero]
 rfl
theorem uP6 {l : List Sp} {k : Nat} {s : Sp} (h : l[k]? = some s) : ((Sp.rows l).flatten.drop (k * 7 + 2)).take 4=s.msg.cells:=by
 rw[uN1 (uMq l) (row:=s.cells) (by rw[Sp.rows,List.getElem?_map,h]; rfl) (by omega)]; rfl
theorem uJ3 {l : List Sp} {k : Nat} {s : Sp} (h : l[k]? = some s) (t : T) : uBn (Sp.rows l).flatten (k * 7 + 2) t.cells=(Sp.rows (l.set k { s with msg:=t })).flatten:=by
 rw[uMx (uMq l) (row:=s.cells) (by rw[Sp.rows,List.getElem?_map,h]; rfl) (by show 2 + 4≤7; omega),Sp.rows,Sp.rows,List.map_set]; rfl
theorem uPv {l : List Gl} {k : Nat} {g : Gl} (h : l[k]? = some g) : (Gl.rows l).flatten[k * 5 + 3]? = some (.sl 4 (T.rows g.data)) :=
 uFt (uOB l) (row:=g.cells) (by rw[Gl.rows,List.getElem?_map,h]; rfl) rfl
theorem uO1 {l : List Gl} {k : Nat} {g : Gl} (h : l[k]? = some g) (d : List T) : uBn (Gl.rows l).flatten (k * 5 + 3) [.sl 4 (T.rows d)]=(Gl.rows (l.set k { g with data:=d })).flatten:=by
 rw[uMx (uOB l) (row:=g.cells) (by rw[Gl.rows,List.getElem?_map,h]; rfl) (by show 3 + 1≤5; omega),Gl.rows,Gl.rows,List.map_set]; rfl
theorem uDC (l : List Sp) : (Sp.rows l).flatten.length=l.length * 7:=by
 induction l with
 | nil=>simp [Sp.rows]
 | cons x l ih =>
  have e : Sp.rows (x :: l)=x.cells :: Sp.rows l:=by simp [Sp.rows]
  have : x.cells.length=7:=rfl
  rw[e,List.flatten_cons,List.length_append,ih]
  simp only [List.length_cons]; omega
theorem uGd (l : List Gl) : (Gl.rows l).flatten.length=l.length * 5:=by
 induction l with
 | nil=>simp [Gl.rows]
 | cons x l ih =>
  have e : Gl.rows (x :: l)=x.cells :: Gl.rows l:=by simp [Gl.rows]
  have : x.cells.length=5:=rfl
  rw[e,List.flatten_cons,List.length_append,ih]
  simp only [List.length_cons]; omega
theorem uJ4 {l : List Sp} {k : Nat} {s : Sp} (h : l[k]? = some s) : ((Sp.rows l).flatten.drop (0 + k * 7 + 2)).take 4=s.msg.cells:=by
 rw[Nat.zero_add]; exact uP6 h
theorem uOJ {l : List Gl} {k : Nat} {g : Gl} (h : l[k]? = some g) : (Gl.rows l).flatten[0 + k * 5 + 3]? = some (.sl 4 (T.rows g.data)):=by
 rw[Nat.zero_add]; exact uPv h
theorem uLa {l : List T} {i : Nat} {t : T} (h : l[i]? = some t) : ((T.rows l).flatten.drop (0 + i * 4)).take 4=t.cells:=by
 rw[Nat.zero_add,uG9 (uL6 l) (row:=t.cells) (by rw[T.rows_eq,List.getElem?_map,h]; rfl)]
noncomputable abbrev zR (n : Nar) (b : Nat) : Pg:=sysO.add b (mapL (nmsL n))
set_option maxHeartbeats 4000000 in
theorem uOe (n : Nar) (b : Nat) (hr : n.roles.length≤100) (hf : n.fresh.length≤100) (ht : n.tags.length≤100) (hs : n.steps.length≤100) (hg : n.goals.length≤100) (hs0 : n.steps≠[]) (hg0 : n.goals≠[])
  (hm : ∀ s ∈ n.steps,gdB s.msg=true∧s.msg.size≤900000) (hd : ∀ g ∈ n.goals,g.data≠[]∧g.data.length≤100 ∧ ∀ t ∈ g.data,gdB t=true∧t.size≤900000) : CtrO (zR n b) 56 [xn n, .fn 57 [.ptr (.o 0) 0]] [tbC n.roles b] [] (xn (chN (srtG n) n)) [tbC n.roles b] .box:=by
 have p1 : 0 < n.steps.length:=List.length_pos_iff.2 hs0
 have p2 : 0 < n.goals.length:=List.length_pos_iff.2 hg0
 have cs1 : CtrN (zR n b) 92 [.v (.c (.sl 7 (Sp.rows n.steps)))] n.steps.length (Sp.rows n.steps).flatten:=CtrN.wk (Z:=sys) rfl (fun g hg=>by cases hg) (uGb n.steps (by omega) hs0)
 have cs2 : CtrN (zR n b) 93 [.v (.c (.sl 5 (Gl.rows n.goals)))] n.goals.length (Gl.rows n.goals).flatten:=CtrN.wk (Z:=sys) rfl (fun g hg=>by cases hg) (uJR n.goals (by omega) hg0)
 have hfs:=uDC n.steps
 have hfg:=uGd n.goals
 refine uBH Tryz.func56 rfl rfl rfl rfl rfl rfl rfl ?_;refine uAd (uAb ?_);refine uAq rfl (uAK rfl rfl rfl rfl) ?_;refine uAq rfl (uAG rfl rfl rfl) ?_;refine uAf ?_;refine uAd ?_;refine awp_drawn' (by kernel_rfl) ?_;refine uAw rfl rfl rfl rfl (uAg rfl gU rfl rfl) ?_;refine uBO rfl rfl rfl rfl rfl rfl rfl gU rfl rfl rfl rfl ?_;refine uAZ rfl rfl rfl rfl rfl rfl rfl gU gU (Ctr.add (up (uDy _ (by omega)))) rfl ?_;refine uAw rfl rfl rfl rfl (uAg rfl gU rfl rfl) ?_;refine uBO rfl rfl rfl rfl rfl rfl rfl gU rfl rfl rfl rfl ?_;refine uAZ rfl rfl rfl rfl rfl rfl rfl gU gU (Ctr.add (up (uGe _ (by omega)))) rfl ?_;refine uAw rfl rfl rfl rfl (uAg rfl gU rfl rfl) ?_;refine uBO rfl rfl rfl rfl rfl rfl rfl gU rfl rfl rfl rfl ?_;refine uAZ rfl rfl rfl rfl rfl rfl rfl gU gU (Ctr.add (up (uDy _ (by omega)))) rfl ?_;refine uAw rfl rfl rfl rfl (uAg rfl gU rfl rfl) ?_;refine uAR rfl rfl rfl rfl rfl rfl rfl rfl rfl rfl rfl rfl ?_;refine uAw rfl rfl rfl rfl (uAg rfl gU rfl rfl) ?_;refine uAR rfl rfl rfl rfl rfl rfl rfl rfl rfl rfl rfl rfl ?_;refine uAw rfl rfl rfl rfl (uAg rfl gU rfl rfl) ?_;refine uAR rfl rfl rfl rfl rfl rfl rfl rfl rfl rfl rfl rfl ?_;refine uA5 (by kernel_rfl) ?_;refine uAk (s:=⟨[(1,_,_),(2,_,_),(4,_,_)],[(.l 2,_),(.l 4,_),(.o 0,_)],[],[]⟩) (uAi (⟨sx rfl,sx rfl,sx rfl,trivial⟩) (⟨sx rfl,sx rfl,sx rfl,trivial⟩) trivial) ?_
 refine uIt (fun x : Value × Value=>{ t:=[(1,true, .fn 57 [.ptr (.o 0) 0]),(2,true, .v (.ptr (.l 2) 0)),(4,true, .v (.ptr (.l 4) 0)),(23,true, .v (.msv (.l 23) 7 0 n.steps.length x.1)),(26,true, .v (.msv (.l 26) 5 0 n.goals.length x.2))],bx:=[((.l 2),[.s n.name, .sl 1 (strR n.roles), .sl 3 (Fs.rows n.fresh), .sl 1 (strR n.tags), .o x.1, .o x.2]),((.l 4),[.s [], .sl 1 [], .sl 3 [], .sl 1 [], .sl 7 [], .sl 5 []]),((.l 23),(Sp.rows n.steps).flatten),((.l 26),(Gl.rows n.goals).flatten),((.o 0),tbC n.roles b)],ow:=[] }) (fun x=>?_) ?_
 rotate_left
 ·refine uMe 5 #[true,true,true,true,true,false,false,false,false,false] (fun u1 : Value=>{ t:=[(1,true, .fn 57 [.ptr (.o 0) 0]),(2,true, .v (.ptr (.l 2) 0)),(4,true, .v (.ptr (.l 4) 0)),(23,true, .v (.msv (.l 23) 7 0 n.steps.length u1)),(25,true, .v (.c (.sl 5 (Gl.rows n.goals))))],bx:=[((.l 2),[.s n.name, .sl 1 (strR n.roles), .sl 3 (Fs.rows n.fresh), .sl 1 (strR n.tags), .sl 7 (Sp.rows n.steps), .sl 5 (Gl.rows n.goals)]),((.l 4),[.s [], .sl 1 [], .sl 3 [], .sl 1 [], .sl 7 [], .sl 5 []]),((.l 23),(Sp.rows n.steps).flatten),((.o 0),tbC n.roles b)],ow:=[] }) (fun u1=>?_) (fun go=>?_)
  ·refine uAT 5 [6] (by kernel_rfl) ⟨⟨_,rfl,?_⟩,⟨_,rfl,?_⟩,trivial⟩
   ·refine uBl 5 rfl rfl rfl rfl rfl rfl rfl cs2 ?_
    refine uBW 26 rfl p2 (fun u2=>uAf ?_);refine uAT 6 [] (by kernel_rfl) ⟨⟨_,rfl,?_⟩,trivial⟩;refine uAa rfl rfl rfl (uAg rfl gU rfl rfl) (uAf ?_);refine uAT 7 [] (by kernel_rfl) ⟨⟨_,rfl,?_⟩,trivial⟩;refine uAq rfl (uAy rfl rfl rfl rfl rfl rfl rfl) (uAf ?_);refine uAT 8 [] (by kernel_rfl) ⟨⟨_,rfl,?_⟩,trivial⟩;refine uAa rfl rfl rfl (uAg rfl gU rfl rfl) (uAf ?_);refine uAT 9 [] (by kernel_rfl) ⟨⟨_,rfl,?_⟩,trivial⟩;refine uAq rfl (uAy rfl rfl rfl rfl rfl rfl rfl) (uAf ?_);exact uGt (by kernel_rfl) ⟨(u1,u2),uAi ⟨sx rfl,sx rfl,sx rfl,sx rfl,sx rfl,trivial⟩ ⟨sx rfl,sx rfl,sx rfl,sx rfl,sx rfl,trivial⟩ trivial⟩
   ·refine uAa rfl rfl rfl (uAg rfl gU rfl rfl) (uAf ?_)
    refine uAT 5 [] (by kernel_rfl) ⟨⟨_,rfl,?_⟩,trivial⟩;refine uBl 5 rfl rfl rfl rfl rfl rfl rfl cs2 ?_;refine uBW 26 rfl p2 (fun u2=>uAf ?_);refine uAT 7 [] (by kernel_rfl) ⟨⟨_,rfl,?_⟩,trivial⟩;refine uAq rfl (uAy rfl rfl rfl rfl rfl rfl rfl) (uAf ?_);refine uAT 8 [] (by kernel_rfl) ⟨⟨_,rfl,?_⟩,trivial⟩;refine uAa rfl rfl rfl (uAg rfl gU rfl rfl) (uAf ?_);refine uAT 9 [] (by kernel_rfl) ⟨⟨_,rfl,?_⟩,trivial⟩;refine uAq rfl (uAy rfl rfl rfl rfl rfl rfl rfl) (uAf ?_);exact uGt (by kernel_rfl) ⟨(u1,u2),uAi ⟨sx rfl,sx rfl,sx rfl,sx rfl,sx rfl,trivial⟩ ⟨sx rfl,sx rfl,sx rfl,sx rfl,sx rfl,trivial⟩ trivial⟩
  ·refine uAT 0 [3] (by kernel_rfl) ⟨⟨_,rfl,?_⟩,⟨_,rfl,?_⟩,trivial⟩
   ·refine uAa rfl rfl rfl (uAg rfl gU rfl rfl) (uAf ?_)
    refine uAT 1 [3] (by kernel_rfl) ⟨⟨_,rfl,?_⟩,⟨_,rfl,?_⟩,trivial⟩
    ·refine uAa rfl rfl rfl (uAh rfl gU rfl rfl rfl rfl) (uAf ?_)
     refine uAT 2 [3] (by kernel_rfl) ⟨⟨_,rfl,?_⟩,⟨_,rfl,?_⟩,trivial⟩
     ·refine uBl 7 rfl rfl rfl rfl rfl rfl rfl cs1 ?_
      refine uBW 23 rfl p1 (fun u1=>uAf ?_);refine uAT 3 [] (by kernel_rfl) ⟨⟨_,rfl,?_⟩,trivial⟩;refine uAa rfl rfl rfl (uAg rfl gU rfl rfl) (uAf ?_);refine uAT 4 [] (by kernel_rfl) ⟨⟨_,rfl,?_⟩,trivial⟩;refine uAa rfl rfl rfl (uAh rfl gU rfl rfl rfl rfl) (uAf ?_);exact go u1 (by kernel_rfl) (uAi ⟨sx rfl,sx rfl,sx rfl,sx rfl,sx rfl,trivial⟩ ⟨sx rfl,sx rfl,sx rfl,sx rfl,trivial⟩ trivial)
     ·refine uAa rfl rfl rfl (uAg rfl gU rfl rfl) (uAf ?_)
      refine uAT 2 [4] (by kernel_rfl) ⟨⟨_,rfl,?_⟩,⟨_,rfl,?_⟩,trivial⟩
      ·refine uBl 7 rfl rfl rfl rfl rfl rfl rfl cs1 ?_
       refine uBW 23 rfl p1 (fun u1=>uAf ?_);refine uAT 4 [] (by kernel_rfl) ⟨⟨_,rfl,?_⟩,trivial⟩;refine uAa rfl rfl rfl (uAh rfl gU rfl rfl rfl rfl) (uAf ?_);exact go u1 (by kernel_rfl) (uAi ⟨sx rfl,sx rfl,sx rfl,sx rfl,sx rfl,trivial⟩ ⟨sx rfl,sx rfl,sx rfl,sx rfl,trivial⟩ trivial)
      ·refine uAa rfl rfl rfl (uAh rfl gU rfl rfl rfl rfl) (uAf ?_)
       refine uAT 2 [] (by kernel_rfl) ⟨⟨_,rfl,?_⟩,trivial⟩;refine uBl 7 rfl rfl rfl rfl rfl rfl rfl cs1 ?_;refine uBW 23 rfl p1 (fun u1=>uAf ?_);exact go u1 (by kernel_rfl) (uAi ⟨sx rfl,sx rfl,sx rfl,sx rfl,sx rfl,trivial⟩ ⟨sx rfl,sx rfl,sx rfl,sx rfl,trivial⟩ trivial)
    ·refine uAa rfl rfl rfl (uAg rfl gU rfl rfl) (uAf ?_)
     refine uAT 1 [4] (by kernel_rfl) ⟨⟨_,rfl,?_⟩,⟨_,rfl,?_⟩,trivial⟩
     ·refine uAa rfl rfl rfl (uAh rfl gU rfl rfl rfl rfl) (uAf ?_)
      refine uAT 2 [4] (by kernel_rfl) ⟨⟨_,rfl,?_⟩,⟨_,rfl,?_⟩,trivial⟩
      ·refine uBl 7 rfl rfl rfl rfl rfl rfl rfl cs1 ?_
       refine uBW 23 rfl p1 (fun u1=>uAf ?_);refine uAT 4 [] (by kernel_rfl) ⟨⟨_,rfl,?_⟩,trivial⟩;refine uAa rfl rfl rfl (uAh rfl gU rfl rfl rfl rfl) (uAf ?_);exact go u1 (by kernel_rfl) (uAi ⟨sx rfl,sx rfl,sx rfl,sx rfl,sx rfl,trivial⟩ ⟨sx rfl,sx rfl,sx rfl,sx rfl,trivial⟩ trivial)
      ·refine uAa rfl rfl rfl (uAh rfl gU rfl rfl rfl rfl) (uAf ?_)
       refine uAT 2 [] (by kernel_rfl) ⟨⟨_,rfl,?_⟩,trivial⟩;refine uBl 7 rfl rfl rfl rfl rfl rfl rfl cs1 ?_;refine uBW 23 rfl p1 (fun u1=>uAf ?_);exact go u1 (by kernel_rfl) (uAi ⟨sx rfl,sx rfl,sx rfl,sx rfl,sx rfl,trivial⟩ ⟨sx rfl,sx rfl,sx rfl,sx rfl,trivial⟩ trivial)
     ·refine uAa rfl rfl rfl (uAh rfl gU rfl rfl rfl rfl) (uAf ?_)
      refine uAT 1 [] (by kernel_rfl) ⟨⟨_,rfl,?_⟩,trivial⟩;refine uAa rfl rfl rfl (uAh rfl gU rfl rfl rfl rfl) (uAf ?_);refine uAT 2 [] (by kernel_rfl) ⟨⟨_,rfl,?_⟩,trivial⟩;refine uBl 7 rfl rfl rfl rfl rfl rfl rfl cs1 ?_;refine uBW 23 rfl p1 (fun u1=>uAf ?_);exact go u1 (by kernel_rfl) (uAi ⟨sx rfl,sx rfl,sx rfl,sx rfl,sx rfl,trivial⟩ ⟨sx rfl,sx rfl,sx rfl,sx rfl,trivial⟩ trivial)
   ·refine uAa rfl rfl rfl (uAg rfl gU rfl rfl) (uAf ?_)
    refine uAT 0 [4] (by kernel_rfl) ⟨⟨_,rfl,?_⟩,⟨_,rfl,?_⟩,trivial⟩
    ·refine uAa rfl rfl rfl (uAg rfl gU rfl rfl) (uAf ?_)
     refine uAT 1 [4] (by kernel_rfl) ⟨⟨_,rfl,?_⟩,⟨_,rfl,?_⟩,trivial⟩
     ·refine uAa rfl rfl rfl (uAh rfl gU rfl rfl rfl rfl) (uAf ?_)
      refine uAT 2 [4] (by kernel_rfl) ⟨⟨_,rfl,?_⟩,⟨_,rfl,?_⟩,trivial⟩
      ·refine uBl 7 rfl rfl rfl rfl rfl rfl rfl cs1 ?_
       refine uBW 23 rfl p1 (fun u1=>uAf ?_);refine uAT 4 [] (by kernel_rfl) ⟨⟨_,rfl,?_⟩,trivial⟩;refine uAa rfl rfl rfl (uAh rfl gU rfl rfl rfl rfl) (uAf ?_);exact go u1 (by kernel_rfl) (uAi ⟨sx rfl,sx rfl,sx rfl,sx rfl,sx rfl,trivial⟩ ⟨sx rfl,sx rfl,sx rfl,sx rfl,trivial⟩ trivial)
      ·refine uAa rfl rfl rfl (uAh rfl gU rfl rfl rfl rfl) (uAf ?_)
       refine uAT 2 [] (by kernel_rfl) ⟨⟨_,rfl,?_⟩,trivial⟩;refine uBl 7 rfl rfl rfl rfl rfl rfl rfl cs1 ?_;refine uBW 23 rfl p1 (fun u1=>uAf ?_);exact go u1 (by kernel_rfl) (uAi ⟨sx rfl,sx rfl,sx rfl,sx rfl,sx rfl,trivial⟩ ⟨sx rfl,sx rfl,sx rfl,sx rfl,trivial⟩ trivial)
     ·refine uAa rfl rfl rfl (uAh rfl gU rfl rfl rfl rfl) (uAf ?_)
      refine uAT 1 [] (by kernel_rfl) ⟨⟨_,rfl,?_⟩,trivial⟩;refine uAa rfl rfl rfl (uAh rfl gU rfl rfl rfl rfl) (uAf ?_);refine uAT 2 [] (by kernel_rfl) ⟨⟨_,rfl,?_⟩,trivial⟩;refine uBl 7 rfl rfl rfl rfl rfl rfl rfl cs1 ?_;refine uBW 23 rfl p1 (fun u1=>uAf ?_);exact go u1 (by kernel_rfl) (uAi ⟨sx rfl,sx rfl,sx rfl,sx rfl,sx rfl,trivial⟩ ⟨sx rfl,sx rfl,sx rfl,sx rfl,trivial⟩ trivial)
    ·refine uAa rfl rfl rfl (uAh rfl gU rfl rfl rfl rfl) (uAf ?_)
     refine uAT 0 [] (by kernel_rfl) ⟨⟨_,rfl,?_⟩,trivial⟩;refine uAa rfl rfl rfl (uAg rfl gU rfl rfl) (uAf ?_);refine uAT 1 [] (by kernel_rfl) ⟨⟨_,rfl,?_⟩,trivial⟩;refine uAa rfl rfl rfl (uAh rfl gU rfl rfl rfl rfl) (uAf ?_);refine uAT 2 [] (by kernel_rfl) ⟨⟨_,rfl,?_⟩,trivial⟩;refine uBl 7 rfl rfl rfl rfl rfl rfl rfl cs1 ?_;refine uBW 23 rfl p1 (fun u1=>uAf ?_);exact go u1 (by kernel_rfl) (uAi ⟨sx rfl,sx rfl,sx rfl,sx rfl,sx rfl,trivial⟩ ⟨sx rfl,sx rfl,sx rfl,sx rfl,trivial⟩ trivial)
 obtain ⟨u1,u2⟩:=x
 dsimp only
 refine uAd ?_;refine uAd (uAb ?_);refine uAa rfl rfl rfl (uAg rfl gU rfl rfl) ?_;refine uAa rfl rfl rfl (uAh rfl gU rfl rfl rfl rfl) ?_;refine uFz 30 23 rfl rfl ?_;refine uAa rfl rfl rfl (uD8 rfl gU rfl rfl) ?_;refine uAa rfl rfl rfl (uAc rfl gU) ?_;refine uAf ?_;refine uAr ?_;refine uAW (ι:=Nat) { t:=[(1,_,_),(2,_,_),(4,_,_),(23,_,_),(26,_,_),(31,_,_)],bx:=[(.l 2,_),(.l 26,_),(.l 4,_),(.o 0,_)],ow:=[] } (fun k=>[(32,true,xi (k : Int))]) (fun k=>[((.l 23),(Sp.rows (upto (chS (srtG n)) n.steps k)).flatten)]) (fun k=>k≤n.steps.length) (fun k=>n.steps.length - k) (0) (by simp) (uAi (⟨sx rfl,sx rfl,sx rfl,sx rfl,sx rfl,sx rfl,sx rfl,trivial⟩) (⟨⟨_,rfl,by rw[uEQ]⟩,⟨sx rfl,sx rfl,sx rfl,sx rfl,trivial⟩⟩) trivial) ?_
 intro k hoka
 dsimp only [List.cons_append,List.nil_append]
 have hul:=uFA (chS (srtG n)) n.steps k
 have hfl:=uDC (upto (chS (srtG n)) n.steps k)
 refine uAd (uAb ?_);refine uAa rfl rfl rfl (uAm rfl rfl gU gU rfl) ?_;refine uAf ?_;refine uAd ?_;refine uAn rfl (fun hc=>?_) (fun hc=>?_)
 ·try simp only [nn,uAj,T.rows_len,Gl.rows_len,Fs.rows_len,Sp.rows_len] at hc
  have hlt : k < n.steps.length:=by omega
  have hat:=uGl (f:=chS (srtG n)) (d:=default) hlt
  have hset:=uFI (f:=chS (srtG n)) (d:=default) hlt
  have hmk:=hm _ (uBZ (d:=default) hlt)
  refine uAo ?_;refine uAd ?_;refine uAr ?_;refine uAd (uAb ?_);refine uAa rfl rfl rfl (uAc rfl gU) ?_;refine uAa rfl rfl rfl (uAe rfl gU) ?_;refine uAf ?_;refine awp_drawn' (by kernel_rfl) ?_;refine uAw rfl rfl rfl rfl (uAg rfl gU rfl rfl) ?_;refine uDG 23 rfl rfl rfl rfl rfl rfl rfl gU rfl rfl rfl rfl rfl ?_;refine uAw rfl rfl rfl rfl (uAc rfl gU) ?_;refine uAw rfl rfl rfl rfl (uAg rfl gU rfl rfl) ?_;refine uDG 23 rfl rfl rfl rfl rfl rfl rfl gU rfl rfl rfl rfl rfl ?_;refine uAw rfl rfl rfl rfl (uAc rfl gU) ?_;refine uAw rfl rfl rfl rfl (uBM rfl rfl gU gU rfl rfl rfl (fun _=>by omega)) ?_;refine uAw rfl rfl rfl rfl (uAg rfl gU rfl rfl) ?_;refine uAF rfl rfl rfl rfl rfl rfl rfl gU rfl rfl rfl (uJ4 hat) rfl ?_;refine uAw rfl rfl rfl rfl (uAc rfl gU) ?_;refine uIr (.o 0) rfl rfl rfl rfl rfl rfl rfl (uDY n.roles (nmsL n) b _ (n.steps.getD k default).msg (Nat.le_refl _) hmk.2 hmk.1) rfl rfl rfl rfl rfl rfl ?_;refine uAw rfl rfl rfl rfl (uBM rfl rfl gU gU rfl rfl rfl (fun _=>by omega)) ?_;refine uAw rfl rfl rfl rfl (uAg rfl gU rfl rfl) ?_;refine uAR rfl rfl rfl rfl rfl rfl rfl rfl rfl rfl rfl (Nat.ble_eq_true_of_le (by rw[hfl,hul]; show 0 + k * 7 + 2 + 4≤_; omega)) ?_;refine uA5 (by kernel_rfl) ?_;refine uAk (s:=⟨[(1,_,_),(2,_,_),(4,_,_),(23,_,_),(26,_,_),(31,_,_),(32,_,_)],[(.l 2,_),(.l 23,_),(.l 26,_),(.l 4,_),(.o 0,_)],[],[]⟩) (uAi (⟨sx rfl,sx rfl,sx rfl,sx rfl,sx rfl,sx rfl,sx rfl,trivial⟩) (⟨sx rfl,sx rfl,sx rfl,sx rfl,sx rfl,trivial⟩) trivial) ?_
  refine uAb ?_;refine uAa rfl rfl rfl (uAz rfl rfl gU gU rfl (IntWalk.i64_in _ (by omega))) ?_;refine uAa rfl rfl rfl (uAc rfl gU) ?_;refine uAf ?_;refine ⟨k + 1,?_,?_,uAi (⟨⟨_,rfl,?_⟩,⟨sx rfl,sx rfl,sx rfl,sx rfl,sx rfl,sx rfl,trivial⟩⟩) (⟨⟨_,rfl,?_⟩,⟨sx rfl,sx rfl,sx rfl,sx rfl,trivial⟩⟩) trivial⟩
  all_goals (first|rfl|omega|(rw[Nat.zero_add,uJ3 hat,← hset]; rfl))
 ·try simp only [nn,uAj,T.rows_len,Gl.rows_len,Fs.rows_len,Sp.rows_len] at hc
  have hke : k=n.steps.length:=by omega
  subst hke
  rw[uEN]
  refine uAJ ?_
  repeat(first|refine uAC ?_|refine uAD ?_|refine uAB rfl ?_)
  refine uAd ?_;refine uAd (uAb ?_);refine uAa rfl rfl rfl (uAg rfl gU rfl rfl) ?_;refine uAa rfl rfl rfl (uAh rfl gU rfl rfl rfl rfl) ?_;refine uFz 50 26 rfl rfl ?_;refine uAa rfl rfl rfl (uD8 rfl gU rfl rfl) ?_;refine uAa rfl rfl rfl (uAc rfl gU) ?_;refine uAf ?_;refine uAk (s:=⟨[(1,_,_),(2,_,_),(4,_,_),(23,_,_),(26,_,_),(51,_,_),(52,_,_)],[(.l 2,_),(.l 23,_),(.l 26,_),(.l 4,_),(.o 0,_)],[],[]⟩) (uAi (⟨sx rfl,sx rfl,sx rfl,sx rfl,sx rfl,sx rfl,sx rfl,trivial⟩) (⟨sx rfl,sx rfl,sx rfl,sx rfl,sx rfl,trivial⟩) trivial) ?_;refine uAr ?_;refine uAW (ι:=Nat) { t:=[(1,_,_),(2,_,_),(4,_,_),(23,_,_),(26,_,_),(51,_,_)],bx:=[(.l 2,_),(.l 23,_),(.l 4,_),(.o 0,_)],ow:=[] } (fun j=>[(52,true,xi (j : Int))]) (fun j=>[((.l 26),(Gl.rows (upto (chL (srtG n)) n.goals j)).flatten)]) (fun j=>j≤n.goals.length) (fun j=>n.goals.length - j) (0) (by simp) (uAi (⟨sx rfl,sx rfl,sx rfl,sx rfl,sx rfl,sx rfl,sx rfl,trivial⟩) (⟨⟨_,rfl,by rw[uEQ]⟩,⟨sx rfl,sx rfl,sx rfl,sx rfl,trivial⟩⟩) trivial) ?_
  intro j hokb
  dsimp only [List.cons_append,List.nil_append]
  have hul:=uFA (chL (srtG n)) n.goals j
  have hfl:=uGd (upto (chL (srtG n)) n.goals j)
  refine uAd (uAb ?_);refine uAa rfl rfl rfl (uAm rfl rfl gU gU rfl) ?_;refine uAf ?_;refine uAd ?_;refine uAn rfl (fun hc2=>?_) (fun hc2=>?_)
  ·try simp only [nn,uAj,T.rows_len,Gl.rows_len,Fs.rows_len,Sp.rows_len] at hc2
   have hlt : j < n.goals.length:=by omega
   have hat:=uGl (f:=chL (srtG n)) (d:=default) hlt
   have hset:=uFI (f:=chL (srtG n)) (d:=default) hlt
   obtain ⟨d1,d2,d3⟩:=hd _ (uBZ (d:=default) hlt)
   refine uAo ?_;refine uAd ?_;refine uAr ?_;refine uAd (uAb ?_);refine uAa rfl rfl rfl (uAc rfl gU) ?_;refine uAa rfl rfl rfl (uAe rfl gU) ?_;refine uAf ?_;refine uAd (uAb ?_);refine uAa rfl rfl rfl (uAg rfl gU rfl rfl) ?_;refine uAa rfl rfl rfl (uAh rfl gU rfl rfl rfl rfl) ?_;refine uFz 56 26 rfl rfl ?_;refine uAa rfl rfl rfl (uAc rfl gU) ?_;refine uAa rfl rfl rfl (uBM rfl rfl gU gU rfl rfl rfl (fun _=>by omega)) ?_;refine uAa rfl rfl rfl (uAg rfl gU rfl rfl) ?_;refine uAa rfl rfl rfl (uAh rfl gU rfl rfl rfl (uOJ hat)) ?_;refine uBl 4 rfl rfl rfl rfl rfl rfl rfl (CtrN.wk (Z:=sys) rfl (fun g hg=>by cases hg) (uK3 (n.goals.getD j default).data (by omega) d1)) ?_;refine uAa rfl rfl rfl (uAe rfl gU) ?_;refine uAf ?_;refine uAk (s:=⟨[(1,_,_),(2,_,_),(4,_,_),(6,_,_),(7,_,_),(23,_,_),(26,_,_),(51,_,_),(52,_,_)],[(.l 2,_),(.l 23,_),(.l 26,_),(.l 4,_),(.l 61,_),(.o 0,_)],[],[]⟩) (uAi (⟨sx rfl,sx rfl,sx rfl,sx rfl,sx rfl,sx rfl,sx rfl,sx rfl,sx rfl,trivial⟩) (⟨sx rfl,sx rfl,sx rfl,sx rfl,sx rfl,sx rfl,trivial⟩) trivial) ?_;refine uAd ?_;refine uAd (uAb ?_);refine uAa rfl rfl rfl (uAc rfl gU) ?_;refine uAa rfl rfl rfl (uD8 rfl gU rfl rfl) ?_;refine uAa rfl rfl rfl (uAc rfl gU) ?_
   refine uAf ?_;refine uAr ?_;refine uAW (ι:=Nat) { t:=[(1,_,_),(2,_,_),(4,_,_),(6,_,_),(7,_,_),(23,_,_),(26,_,_),(51,_,_),(52,_,_),(63,_,_)],bx:=[(.l 2,_),(.l 23,_),(.l 26,_),(.l 4,_),(.o 0,_)],ow:=[] } (fun i=>[(64,true,xi (i : Int))]) (fun i=>[((.l 61),(T.rows (upto (chT (srtG n)) (n.goals.getD j default).data i)).flatten)]) (fun i=>i≤(n.goals.getD j default).data.length) (fun i=>(n.goals.getD j default).data.length - i) (0) (by simp) (uAi (⟨sx rfl,sx rfl,sx rfl,sx rfl,sx rfl,sx rfl,sx rfl,sx rfl,sx rfl,sx rfl,sx rfl,trivial⟩) (⟨⟨_,rfl,by rw[uEQ]⟩,⟨sx rfl,sx rfl,sx rfl,sx rfl,sx rfl,trivial⟩⟩) trivial) ?_
   intro i hokc
   dsimp only [List.cons_append,List.nil_append]
   have hul2:=uFA (chT (srtG n)) (n.goals.getD j default).data i
   have hfl2:=uEY (upto (chT (srtG n)) (n.goals.getD j default).data i)
   refine uAd (uAb ?_);refine uAa rfl rfl rfl (uAm rfl rfl gU gU rfl) ?_;refine uAf ?_;refine uAd ?_;refine uAn rfl (fun hc3=>?_) (fun hc3=>?_)
   ·try simp only [nn,uAj,T.rows_len,Gl.rows_len,Fs.rows_len,Sp.rows_len] at hc3
    have hlt3 : i < (n.goals.getD j default).data.length:=by omega
    have hat3:=uGl (f:=chT (srtG n)) (d:=default) hlt3
    have hset3:=uFI (f:=chT (srtG n)) (d:=default) hlt3
    obtain ⟨e1,e2⟩:=d3 _ (uBZ (d:=default) hlt3)
    refine uAo ?_;refine uAd ?_;refine uAr ?_;refine uAd (uAb ?_);refine uAa rfl rfl rfl (uAc rfl gU) ?_;refine uAa rfl rfl rfl (uAe rfl gU) ?_;refine uAf ?_;refine uAb ?_;refine uAa rfl rfl rfl (uAc rfl gU) ?_;refine uAa rfl rfl rfl (uAc rfl gU) ?_;refine uAa rfl rfl rfl (uAc rfl gU) ?_;refine uAa rfl rfl rfl (uAc rfl gU) ?_;refine uAa rfl rfl rfl (uBM rfl rfl gU gU rfl rfl rfl (fun _=>by omega)) ?_;refine uAa rfl rfl rfl (uAl rfl gU rfl rfl rfl (uLa hat3) rfl) ?_;refine uAa rfl rfl rfl (uAc rfl gU) ?_;refine uHQ (.o 0) rfl rfl rfl rfl rfl rfl (uDY n.roles (nmsL n) b _ ((n.goals.getD j default).data.getD i default) (Nat.le_refl _) e2 e1) rfl rfl rfl rfl rfl rfl ?_;refine uAa rfl rfl rfl (uBM rfl rfl gU gU rfl rfl rfl (fun _=>by omega)) ?_;refine uAq rfl (uAy rfl rfl rfl rfl rfl rfl (Nat.ble_eq_true_of_le (by rw[hfl2,hul2]; show 0 + i * 4 + 4≤_; omega))) ?_;refine uAf ?_;refine uAk (s:=⟨[(1,_,_),(2,_,_),(4,_,_),(6,_,_),(7,_,_),(23,_,_),(26,_,_),(51,_,_),(52,_,_),(63,_,_),(64,_,_)],[(.l 2,_),(.l 23,_),(.l 26,_),(.l 4,_),(.l 61,_),(.o 0,_)],[],[]⟩) (uAi (⟨sx rfl,sx rfl,sx rfl,sx rfl,sx rfl,sx rfl,sx rfl,sx rfl,sx rfl,sx rfl,sx rfl,trivial⟩) (⟨sx rfl,sx rfl,sx rfl,sx rfl,sx rfl,sx rfl,trivial⟩) trivial) ?_
    refine uAb ?_;refine uAa rfl rfl rfl (uAz rfl rfl gU gU rfl (IntWalk.i64_in _ (by omega))) ?_;refine uAa rfl rfl rfl (uAc rfl gU) ?_;refine uAf ?_;refine ⟨i + 1,?_,?_,uAi (⟨⟨_,rfl,?_⟩,⟨sx rfl,sx rfl,sx rfl,sx rfl,sx rfl,sx rfl,sx rfl,sx rfl,sx rfl,sx rfl,trivial⟩⟩) (⟨⟨_,rfl,?_⟩,⟨sx rfl,sx rfl,sx rfl,sx rfl,sx rfl,trivial⟩⟩) trivial⟩
    all_goals (first|rfl|omega|(rw[Nat.zero_add,uHw _ _ _ (by rw[hul2]; omega),← hset3]; rfl))
   ·try simp only [nn,uAj,T.rows_len,Gl.rows_len,Fs.rows_len,Sp.rows_len] at hc3
    have hie : i=(n.goals.getD j default).data.length:=by omega
    subst hie
    rw[uEN]
    refine uAJ ?_
    repeat(first|refine uAC ?_|refine uAD ?_|refine uAB rfl ?_)
    refine uAb ?_;refine uIg 7 61 (T.rows ((n.goals.getD j default).data.map (chT (srtG n)))) rfl rfl (by rw[T.rows_len,List.length_map]) (by omega) (uL6 _) rfl ?_;refine uAa rfl rfl rfl (uAg rfl gU rfl rfl) ?_;refine uAa rfl rfl rfl (uAh rfl gU rfl rfl rfl rfl) ?_;refine uFz 78 26 rfl rfl ?_;refine uAa rfl rfl rfl (uAc rfl gU) ?_;refine uAa rfl rfl rfl (uAc rfl gU) ?_;refine uAa rfl rfl rfl (uBM rfl rfl gU gU rfl rfl rfl (fun _=>by omega)) ?_;refine uAa rfl rfl rfl (uAg rfl gU rfl rfl) ?_;refine uAq rfl (uAy rfl rfl rfl rfl rfl rfl (Nat.ble_eq_true_of_le (by rw[hfl,hul]; show 0 + j * 5 + 3 + 1≤_; omega))) ?_;refine uAf ?_;refine uAk (s:=⟨[(1,_,_),(2,_,_),(4,_,_),(23,_,_),(26,_,_),(51,_,_),(52,_,_)],[(.l 2,_),(.l 23,_),(.l 26,_),(.l 4,_),(.o 0,_)],[],[]⟩) (uAi (⟨sx rfl,sx rfl,sx rfl,sx rfl,sx rfl,sx rfl,sx rfl,trivial⟩) (⟨sx rfl,sx rfl,sx rfl,sx rfl,sx rfl,trivial⟩) trivial) ?_;refine uAb ?_;refine uAa rfl rfl rfl (uAz rfl rfl gU gU rfl (IntWalk.i64_in _ (by omega))) ?_;refine uAa rfl rfl rfl (uAc rfl gU) ?_;refine uAf ?_;refine ⟨j + 1,?_,?_,uAi (⟨⟨_,rfl,?_⟩,⟨sx rfl,sx rfl,sx rfl,sx rfl,sx rfl,sx rfl,trivial⟩⟩) (⟨⟨_,rfl,?_⟩,⟨sx rfl,sx rfl,sx rfl,sx rfl,trivial⟩⟩) trivial⟩
    all_goals (first|rfl|omega|(rw[Nat.zero_add,uO1 hat,← hset]; rfl))
  ·try simp only [nn,uAj,T.rows_len,Gl.rows_len,Fs.rows_len,Sp.rows_len] at hc2
   have hje : j=n.goals.length:=by omega
   subst hje
   rw[uEN]
   refine uAJ ?_
   repeat(first|refine uAC ?_|refine uAD ?_|refine uAB rfl ?_)
   refine uFZ 23 23 (.l 2) 4 (Sp.rows (n.steps.map (chS (srtG n)))) rfl rfl (by rw[Sp.rows_len,List.length_map]) (by omega) (uMq _) rfl rfl rfl rfl rfl ?_;refine uFZ 26 26 (.l 2) 5 (Gl.rows (n.goals.map (chL (srtG n)))) rfl rfl (by rw[Gl.rows_len,List.length_map]) (by omega) (uOB _) rfl rfl rfl rfl rfl ?_;refine uAd (uAb ?_);refine uAa rfl rfl rfl (uAl rfl gU rfl rfl rfl rfl rfl) ?_;refine uAq rfl (uAy rfl rfl rfl rfl rfl rfl rfl) ?_;refine uAf ?_;refine uAp ?_
   repeat(first|refine tR ?_|refine bR ?_)
   refine uCY rfl ?_ (⟨⟨_,rfl,?_⟩,trivial⟩) (by kernel_rfl)
   all_goals rfl
set_option maxHeartbeats 4000000 in
theorem uNo (n : Nar) (b : Nat) (hr : n.roles.length≤100) (hf : n.fresh.length≤100) (ht : n.tags.length≤100) (hs : n.steps.length≤100) (hg : n.goals.length≤100) (hs0 : n.steps≠[]) (hg0 : n.goals=[])
  (hm : ∀ s ∈ n.steps,gdB s.msg=true∧s.msg.size≤900000) (hd : ∀ g ∈ n.goals,g.data≠[]∧g.data.length≤100 ∧ ∀ t ∈ g.data,gdB t=true∧t.size≤900000) : CtrO (zR n b) 56 [xn n, .fn 57 [.ptr (.o 0) 0]] [tbC n.roles b] [] (xn (chN (srtG n) n)) [tbC n.roles b] .box:=by
 have p1 : 0 < n.steps.length:=List.length_pos_iff.2 hs0
 have hz : Gl.rows n.goals=[]:=by rw[hg0]; rfl
 have hz2 : Gl.rows (n.goals.map (chL (srtG n)))=[]:=by rw[hg0]; rfl
 have hx : xn (chN (srtG n) n)=X.v (.agg [.s n.name, .sl 1 (strR n.roles), .sl 3 (Fs.rows n.fresh), .sl 1 (strR n.tags), .sl 7 (Sp.rows (n.steps.map (chS (srtG n)))), .sl 5 []]):=by
  show X.v (.agg [.s n.name, .sl 1 (strR n.roles), .sl 3 (Fs.rows n.fresh), .sl 1 (strR n.tags), .sl 7 (Sp.rows (n.steps.map (chS (srtG n)))), .sl 5 (Gl.rows (n.goals.map (chL (srtG n))))])=_
  rw[hz2]
 rw[hx]
 have cs1 : CtrN (zR n b) 92 [.v (.c (.sl 7 (Sp.rows n.steps)))] n.steps.length (Sp.rows n.steps).flatten:=CtrN.wk (Z:=sys) rfl (fun g hg=>by cases hg) (uGb n.steps (by omega) hs0)
 have cs2 : Ctr (zR n b) 93 [.v (.c (.sl 5 (Gl.rows n.goals)))] [] (.v (.c (.sl 5 []))) none []:=by
  rw[hz]; exact Ctr.add (up uIT)
 have hfs:=uDC n.steps
 refine uBH Tryz.func56 rfl rfl rfl rfl rfl rfl rfl ?_;refine uAd (uAb ?_);refine uAq rfl (uAK rfl rfl rfl rfl) ?_;refine uAq rfl (uAG rfl rfl rfl) ?_;refine uAf ?_;refine uAd ?_;refine awp_drawn' (by kernel_rfl) ?_;refine uAw rfl rfl rfl rfl (uAg rfl gU rfl rfl) ?_;refine uBO rfl rfl rfl rfl rfl rfl rfl gU rfl rfl rfl rfl ?_;refine uAZ rfl rfl rfl rfl rfl rfl rfl gU gU (Ctr.add (up (uDy _ (by omega)))) rfl ?_;refine uAw rfl rfl rfl rfl (uAg rfl gU rfl rfl) ?_;refine uBO rfl rfl rfl rfl rfl rfl rfl gU rfl rfl rfl rfl ?_;refine uAZ rfl rfl rfl rfl rfl rfl rfl gU gU (Ctr.add (up (uGe _ (by omega)))) rfl ?_;refine uAw rfl rfl rfl rfl (uAg rfl gU rfl rfl) ?_;refine uBO rfl rfl rfl rfl rfl rfl rfl gU rfl rfl rfl rfl ?_;refine uAZ rfl rfl rfl rfl rfl rfl rfl gU gU (Ctr.add (up (uDy _ (by omega)))) rfl ?_;refine uAw rfl rfl rfl rfl (uAg rfl gU rfl rfl) ?_;refine uAR rfl rfl rfl rfl rfl rfl rfl rfl rfl rfl rfl rfl ?_;refine uAw rfl rfl rfl rfl (uAg rfl gU rfl rfl) ?_;refine uAR rfl rfl rfl rfl rfl rfl rfl rfl rfl rfl rfl rfl ?_;refine uAw rfl rfl rfl rfl (uAg rfl gU rfl rfl) ?_;refine uAR rfl rfl rfl rfl rfl rfl rfl rfl rfl rfl rfl rfl ?_;refine uA5 (by kernel_rfl) ?_;refine uAk (s:=⟨[(1,_,_),(2,_,_),(4,_,_)],[(.l 2,_),(.l 4,_),(.o 0,_)],[],[]⟩) (uAi (⟨sx rfl,sx rfl,sx rfl,trivial⟩) (⟨sx rfl,sx rfl,sx rfl,trivial⟩) trivial) ?_
 refine uIt (fun x : Value=>{ t:=[(1,true, .fn 57 [.ptr (.o 0) 0]),(2,true, .v (.ptr (.l 2) 0)),(4,true, .v (.ptr (.l 4) 0)),(23,true, .v (.msv (.l 23) 7 0 n.steps.length x))],bx:=[((.l 2),[.s n.name, .sl 1 (strR n.roles), .sl 3 (Fs.rows n.fresh), .sl 1 (strR n.tags), .o x, .sl 5 []]),((.l 4),[.s [], .sl 1 [], .sl 3 [], .sl 1 [], .sl 7 [], .sl 5 []]),((.l 23),(Sp.rows n.steps).flatten),((.o 0),tbC n.roles b)],ow:=[] }) (fun x=>?_) ?_
 rotate_left
 ·refine uMe 5 #[true,true,true,true,true,false,false,false,false,false] (fun u1 : Value=>{ t:=[(1,true, .fn 57 [.ptr (.o 0) 0]),(2,true, .v (.ptr (.l 2) 0)),(4,true, .v (.ptr (.l 4) 0)),(23,true, .v (.msv (.l 23) 7 0 n.steps.length u1)),(25,true, .v (.c (.sl 5 (Gl.rows n.goals))))],bx:=[((.l 2),[.s n.name, .sl 1 (strR n.roles), .sl 3 (Fs.rows n.fresh), .sl 1 (strR n.tags), .sl 7 (Sp.rows n.steps), .sl 5 (Gl.rows n.goals)]),((.l 4),[.s [], .sl 1 [], .sl 3 [], .sl 1 [], .sl 7 [], .sl 5 []]),((.l 23),(Sp.rows n.steps).flatten),((.o 0),tbC n.roles b)],ow:=[] }) (fun u1=>?_) (fun go=>?_)
  ·refine uAT 5 [6] (by kernel_rfl) ⟨⟨_,rfl,?_⟩,⟨_,rfl,?_⟩,trivial⟩
   ·refine uAu rfl rfl rfl rfl rfl rfl gU gU cs2 rfl (uAf ?_)
    refine uAT 6 [] (by kernel_rfl) ⟨⟨_,rfl,?_⟩,trivial⟩;refine uAa rfl rfl rfl (uAg rfl gU rfl rfl) (uAf ?_);refine uAT 7 [] (by kernel_rfl) ⟨⟨_,rfl,?_⟩,trivial⟩;refine uAq rfl (uAy rfl rfl rfl rfl rfl rfl rfl) (uAf ?_);refine uAT 8 [] (by kernel_rfl) ⟨⟨_,rfl,?_⟩,trivial⟩;refine uAa rfl rfl rfl (uAg rfl gU rfl rfl) (uAf ?_);refine uAT 9 [] (by kernel_rfl) ⟨⟨_,rfl,?_⟩,trivial⟩;refine uAq rfl (uAy rfl rfl rfl rfl rfl rfl rfl) (uAf ?_);exact uGt (by kernel_rfl) ⟨u1,uAi ⟨sx rfl,sx rfl,sx rfl,sx rfl,trivial⟩ ⟨sx rfl,sx rfl,sx rfl,sx rfl,trivial⟩ trivial⟩
   ·refine uAa rfl rfl rfl (uAg rfl gU rfl rfl) (uAf ?_)
    refine uAT 5 [] (by kernel_rfl) ⟨⟨_,rfl,?_⟩,trivial⟩;refine uAu rfl rfl rfl rfl rfl rfl gU gU cs2 rfl (uAf ?_);refine uAT 7 [] (by kernel_rfl) ⟨⟨_,rfl,?_⟩,trivial⟩;refine uAq rfl (uAy rfl rfl rfl rfl rfl rfl rfl) (uAf ?_);refine uAT 8 [] (by kernel_rfl) ⟨⟨_,rfl,?_⟩,trivial⟩;refine uAa rfl rfl rfl (uAg rfl gU rfl rfl) (uAf ?_);refine uAT 9 [] (by kernel_rfl) ⟨⟨_,rfl,?_⟩,trivial⟩;refine uAq rfl (uAy rfl rfl rfl rfl rfl rfl rfl) (uAf ?_);exact uGt (by kernel_rfl) ⟨u1,uAi ⟨sx rfl,sx rfl,sx rfl,sx rfl,trivial⟩ ⟨sx rfl,sx rfl,sx rfl,sx rfl,trivial⟩ trivial⟩
  ·refine uAT 0 [3] (by kernel_rfl) ⟨⟨_,rfl,?_⟩,⟨_,rfl,?_⟩,trivial⟩
   ·refine uAa rfl rfl rfl (uAg rfl gU rfl rfl) (uAf ?_)
    refine uAT 1 [3] (by kernel_rfl) ⟨⟨_,rfl,?_⟩,⟨_,rfl,?_⟩,trivial⟩
    ·refine uAa rfl rfl rfl (uAh rfl gU rfl rfl rfl rfl) (uAf ?_)
     refine uAT 2 [3] (by kernel_rfl) ⟨⟨_,rfl,?_⟩,⟨_,rfl,?_⟩,trivial⟩
     ·refine uBl 7 rfl rfl rfl rfl rfl rfl rfl cs1 ?_
      refine uBW 23 rfl p1 (fun u1=>uAf ?_);refine uAT 3 [] (by kernel_rfl) ⟨⟨_,rfl,?_⟩,trivial⟩;refine uAa rfl rfl rfl (uAg rfl gU rfl rfl) (uAf ?_);refine uAT 4 [] (by kernel_rfl) ⟨⟨_,rfl,?_⟩,trivial⟩;refine uAa rfl rfl rfl (uAh rfl gU rfl rfl rfl rfl) (uAf ?_);exact go u1 (by kernel_rfl) (uAi ⟨sx rfl,sx rfl,sx rfl,sx rfl,sx rfl,trivial⟩ ⟨sx rfl,sx rfl,sx rfl,sx rfl,trivial⟩ trivial)
     ·refine uAa rfl rfl rfl (uAg rfl gU rfl rfl) (uAf ?_)
      refine uAT 2 [4] (by kernel_rfl) ⟨⟨_,rfl,?_⟩,⟨_,rfl,?_⟩,trivial⟩
      ·refine uBl 7 rfl rfl rfl rfl rfl rfl rfl cs1 ?_
       refine uBW 23 rfl p1 (fun u1=>uAf ?_);refine uAT 4 [] (by kernel_rfl) ⟨⟨_,rfl,?_⟩,trivial⟩;refine uAa rfl rfl rfl (uAh rfl gU rfl rfl rfl rfl) (uAf ?_);exact go u1 (by kernel_rfl) (uAi ⟨sx rfl,sx rfl,sx rfl,sx rfl,sx rfl,trivial⟩ ⟨sx rfl,sx rfl,sx rfl,sx rfl,trivial⟩ trivial)
      ·refine uAa rfl rfl rfl (uAh rfl gU rfl rfl rfl rfl) (uAf ?_)
       refine uAT 2 [] (by kernel_rfl) ⟨⟨_,rfl,?_⟩,trivial⟩;refine uBl 7 rfl rfl rfl rfl rfl rfl rfl cs1 ?_;refine uBW 23 rfl p1 (fun u1=>uAf ?_);exact go u1 (by kernel_rfl) (uAi ⟨sx rfl,sx rfl,sx rfl,sx rfl,sx rfl,trivial⟩ ⟨sx rfl,sx rfl,sx rfl,sx rfl,trivial⟩ trivial)
    ·refine uAa rfl rfl rfl (uAg rfl gU rfl rfl) (uAf ?_)
     refine uAT 1 [4] (by kernel_rfl) ⟨⟨_,rfl,?_⟩,⟨_,rfl,?_⟩,trivial⟩
     ·refine uAa rfl rfl rfl (uAh rfl gU rfl rfl rfl rfl) (uAf ?_)
      refine uAT 2 [4] (by kernel_rfl) ⟨⟨_,rfl,?_⟩,⟨_,rfl,?_⟩,trivial⟩
      ·refine uBl 7 rfl rfl rfl rfl rfl rfl rfl cs1 ?_
       refine uBW 23 rfl p1 (fun u1=>uAf ?_);refine uAT 4 [] (by kernel_rfl) ⟨⟨_,rfl,?_⟩,trivial⟩;refine uAa rfl rfl rfl (uAh rfl gU rfl rfl rfl rfl) (uAf ?_);exact go u1 (by kernel_rfl) (uAi ⟨sx rfl,sx rfl,sx rfl,sx rfl,sx rfl,trivial⟩ ⟨sx rfl,sx rfl,sx rfl,sx rfl,trivial⟩ trivial)
      ·refine uAa rfl rfl rfl (uAh rfl gU rfl rfl rfl rfl) (uAf ?_)
       refine uAT 2 [] (by kernel_rfl) ⟨⟨_,rfl,?_⟩,trivial⟩;refine uBl 7 rfl rfl rfl rfl rfl rfl rfl cs1 ?_;refine uBW 23 rfl p1 (fun u1=>uAf ?_);exact go u1 (by kernel_rfl) (uAi ⟨sx rfl,sx rfl,sx rfl,sx rfl,sx rfl,trivial⟩ ⟨sx rfl,sx rfl,sx rfl,sx rfl,trivial⟩ trivial)
     ·refine uAa rfl rfl rfl (uAh rfl gU rfl rfl rfl rfl) (uAf ?_)
      refine uAT 1 [] (by kernel_rfl) ⟨⟨_,rfl,?_⟩,trivial⟩;refine uAa rfl rfl rfl (uAh rfl gU rfl rfl rfl rfl) (uAf ?_);refine uAT 2 [] (by kernel_rfl) ⟨⟨_,rfl,?_⟩,trivial⟩;refine uBl 7 rfl rfl rfl rfl rfl rfl rfl cs1 ?_;refine uBW 23 rfl p1 (fun u1=>uAf ?_);exact go u1 (by kernel_rfl) (uAi ⟨sx rfl,sx rfl,sx rfl,sx rfl,sx rfl,trivial⟩ ⟨sx rfl,sx rfl,sx rfl,sx rfl,trivial⟩ trivial)
   ·refine uAa rfl rfl rfl (uAg rfl gU rfl rfl) (uAf ?_)
    refine uAT 0 [4] (by kernel_rfl) ⟨⟨_,rfl,?_⟩,⟨_,rfl,?_⟩,trivial⟩
    ·refine uAa rfl rfl rfl (uAg rfl gU rfl rfl) (uAf ?_)
     refine uAT 1 [4] (by kernel_rfl) ⟨⟨_,rfl,?_⟩,⟨_,rfl,?_⟩,trivial⟩
     ·refine uAa rfl rfl rfl (uAh rfl gU rfl rfl rfl rfl) (uAf ?_)
      refine uAT 2 [4] (by kernel_rfl) ⟨⟨_,rfl,?_⟩,⟨_,rfl,?_⟩,trivial⟩
      ·refine uBl 7 rfl rfl rfl rfl rfl rfl rfl cs1 ?_
       refine uBW 23 rfl p1 (fun u1=>uAf ?_);refine uAT 4 [] (by kernel_rfl) ⟨⟨_,rfl,?_⟩,trivial⟩;refine uAa rfl rfl rfl (uAh rfl gU rfl rfl rfl rfl) (uAf ?_);exact go u1 (by kernel_rfl) (uAi ⟨sx rfl,sx rfl,sx rfl,sx rfl,sx rfl,trivial⟩ ⟨sx rfl,sx rfl,sx rfl,sx rfl,trivial⟩ trivial)
      ·refine uAa rfl rfl rfl (uAh rfl gU rfl rfl rfl rfl) (uAf ?_)
       refine uAT 2 [] (by kernel_rfl) ⟨⟨_,rfl,?_⟩,trivial⟩;refine uBl 7 rfl rfl rfl rfl rfl rfl rfl cs1 ?_;refine uBW 23 rfl p1 (fun u1=>uAf ?_);exact go u1 (by kernel_rfl) (uAi ⟨sx rfl,sx rfl,sx rfl,sx rfl,sx rfl,trivial⟩ ⟨sx rfl,sx rfl,sx rfl,sx rfl,trivial⟩ trivial)
     ·refine uAa rfl rfl rfl (uAh rfl gU rfl rfl rfl rfl) (uAf ?_)
      refine uAT 1 [] (by kernel_rfl) ⟨⟨_,rfl,?_⟩,trivial⟩;refine uAa rfl rfl rfl (uAh rfl gU rfl rfl rfl rfl) (uAf ?_);refine uAT 2 [] (by kernel_rfl) ⟨⟨_,rfl,?_⟩,trivial⟩;refine uBl 7 rfl rfl rfl rfl rfl rfl rfl cs1 ?_;refine uBW 23 rfl p1 (fun u1=>uAf ?_);exact go u1 (by kernel_rfl) (uAi ⟨sx rfl,sx rfl,sx rfl,sx rfl,sx rfl,trivial⟩ ⟨sx rfl,sx rfl,sx rfl,sx rfl,trivial⟩ trivial)
    ·refine uAa rfl rfl rfl (uAh rfl gU rfl rfl rfl rfl) (uAf ?_)
     refine uAT 0 [] (by kernel_rfl) ⟨⟨_,rfl,?_⟩,trivial⟩;refine uAa rfl rfl rfl (uAg rfl gU rfl rfl) (uAf ?_);refine uAT 1 [] (by kernel_rfl) ⟨⟨_,rfl,?_⟩,trivial⟩;refine uAa rfl rfl rfl (uAh rfl gU rfl rfl rfl rfl) (uAf ?_);refine uAT 2 [] (by kernel_rfl) ⟨⟨_,rfl,?_⟩,trivial⟩;refine uBl 7 rfl rfl rfl rfl rfl rfl rfl cs1 ?_;refine uBW 23 rfl p1 (fun u1=>uAf ?_);exact go u1 (by kernel_rfl) (uAi ⟨sx rfl,sx rfl,sx rfl,sx rfl,sx rfl,trivial⟩ ⟨sx rfl,sx rfl,sx rfl,sx rfl,trivial⟩ trivial)
 obtain ⟨u1,hu1⟩ : ∃ u,u=x:=⟨x,rfl⟩
 rw[← hu1]
 refine uAd ?_;refine uAd (uAb ?_);refine uAa rfl rfl rfl (uAg rfl gU rfl rfl) ?_;refine uAa rfl rfl rfl (uAh rfl gU rfl rfl rfl rfl) ?_;refine uFz 30 23 rfl rfl ?_;refine uAa rfl rfl rfl (uD8 rfl gU rfl rfl) ?_;refine uAa rfl rfl rfl (uAc rfl gU) ?_;refine uAf ?_;refine uAr ?_;refine uAW (ι:=Nat) { t:=[(1,_,_),(2,_,_),(4,_,_),(23,_,_),(31,_,_)],bx:=[(.l 2,_),(.l 4,_),(.o 0,_)],ow:=[] } (fun k=>[(32,true,xi (k : Int))]) (fun k=>[((.l 23),(Sp.rows (upto (chS (srtG n)) n.steps k)).flatten)]) (fun k=>k≤n.steps.length) (fun k=>n.steps.length - k) (0) (by simp) (uAi (⟨sx rfl,sx rfl,sx rfl,sx rfl,sx rfl,sx rfl,trivial⟩) (⟨⟨_,rfl,by rw[uEQ]⟩,⟨sx rfl,sx rfl,sx rfl,trivial⟩⟩) trivial) ?_
 intro k hoka
 dsimp only [List.cons_append,List.nil_append]
 have hul:=uFA (chS (srtG n)) n.steps k
 have hfl:=uDC (upto (chS (srtG n)) n.steps k)
 refine uAd (uAb ?_);refine uAa rfl rfl rfl (uAm rfl rfl gU gU rfl) ?_;refine uAf ?_;refine uAd ?_;refine uAn rfl (fun hc=>?_) (fun hc=>?_)
 ·try simp only [nn,uAj,T.rows_len,Gl.rows_len,Fs.rows_len,Sp.rows_len] at hc
  have hlt : k < n.steps.length:=by omega
  have hat:=uGl (f:=chS (srtG n)) (d:=default) hlt
  have hset:=uFI (f:=chS (srtG n)) (d:=default) hlt
  have hmk:=hm _ (uBZ (d:=default) hlt)
  refine uAo ?_;refine uAd ?_;refine uAr ?_;refine uAd (uAb ?_);refine uAa rfl rfl rfl (uAc rfl gU) ?_;refine uAa rfl rfl rfl (uAe rfl gU) ?_;refine uAf ?_;refine awp_drawn' (by kernel_rfl) ?_;refine uAw rfl rfl rfl rfl (uAg rfl gU rfl rfl) ?_;refine uDG 23 rfl rfl rfl rfl rfl rfl rfl gU rfl rfl rfl rfl rfl ?_;refine uAw rfl rfl rfl rfl (uAc rfl gU) ?_;refine uAw rfl rfl rfl rfl (uAg rfl gU rfl rfl) ?_;refine uDG 23 rfl rfl rfl rfl rfl rfl rfl gU rfl rfl rfl rfl rfl ?_;refine uAw rfl rfl rfl rfl (uAc rfl gU) ?_;refine uAw rfl rfl rfl rfl (uBM rfl rfl gU gU rfl rfl rfl (fun _=>by omega)) ?_;refine uAw rfl rfl rfl rfl (uAg rfl gU rfl rfl) ?_;refine uAF rfl rfl rfl rfl rfl rfl rfl gU rfl rfl rfl (uJ4 hat) rfl ?_;refine uAw rfl rfl rfl rfl (uAc rfl gU) ?_;refine uIr (.o 0) rfl rfl rfl rfl rfl rfl rfl (uDY n.roles (nmsL n) b _ (n.steps.getD k default).msg (Nat.le_refl _) hmk.2 hmk.1) rfl rfl rfl rfl rfl rfl ?_;refine uAw rfl rfl rfl rfl (uBM rfl rfl gU gU rfl rfl rfl (fun _=>by omega)) ?_;refine uAw rfl rfl rfl rfl (uAg rfl gU rfl rfl) ?_;refine uAR rfl rfl rfl rfl rfl rfl rfl rfl rfl rfl rfl (Nat.ble_eq_true_of_le (by rw[hfl,hul]; show 0 + k * 7 + 2 + 4≤_; omega)) ?_;refine uA5 (by kernel_rfl) ?_;refine uAk (s:=⟨[(1,_,_),(2,_,_),(4,_,_),(23,_,_),(31,_,_),(32,_,_)],[(.l 2,_),(.l 23,_),(.l 4,_),(.o 0,_)],[],[]⟩) (uAi (⟨sx rfl,sx rfl,sx rfl,sx rfl,sx rfl,sx rfl,trivial⟩) (⟨sx rfl,sx rfl,sx rfl,sx rfl,trivial⟩) trivial) ?_
  refine uAb ?_;refine uAa rfl rfl rfl (uAz rfl rfl gU gU rfl (IntWalk.i64_in _ (by omega))) ?_;refine uAa rfl rfl rfl (uAc rfl gU) ?_;refine uAf ?_;refine ⟨k + 1,?_,?_,uAi (⟨⟨_,rfl,?_⟩,⟨sx rfl,sx rfl,sx rfl,sx rfl,sx rfl,trivial⟩⟩) (⟨⟨_,rfl,?_⟩,⟨sx rfl,sx rfl,sx rfl,trivial⟩⟩) trivial⟩
  all_goals (first|rfl|omega|(rw[Nat.zero_add,uJ3 hat,← hset]; rfl))
 ·try simp only [nn,uAj,T.rows_len,Gl.rows_len,Fs.rows_len,Sp.rows_len] at hc
  have hke : k=n.steps.length:=by omega
  subst hke
  rw[uEN]
  refine uAJ ?_
  repeat(first|refine uAC ?_|refine uAD ?_|refine uAB rfl ?_)
  refine uAd ?_;refine uAd (uAb ?_);refine uAa rfl rfl rfl (uAg rfl gU rfl rfl) ?_;refine uAa rfl rfl rfl (uAh rfl gU rfl rfl rfl rfl) ?_;refine uAI rfl rfl rfl rfl rfl gU rfl rfl ?_ (fun hh=>by simp at hh); intro hlen;refine uAa rfl rfl rfl (uAc rfl gU) ?_;refine uAf ?_;refine uAk (s:=⟨[(1,_,_),(2,_,_),(4,_,_),(23,_,_),(51,_,_),(52,_,_)],[(.l 2,_),(.l 23,_),(.l 4,_),(.o 0,_)],[],[]⟩) (uAi (⟨sx rfl,sx rfl,sx rfl,sx rfl,sx rfl,sx rfl,trivial⟩) (⟨sx rfl,sx rfl,sx rfl,sx rfl,trivial⟩) trivial) ?_;refine uAr ?_;refine uAW (ι:=Nat) { t:=[(1,_,_),(2,_,_),(4,_,_),(23,_,_),(51,_,_)],bx:=[(.l 2,_),(.l 23,_),(.l 4,_),(.o 0,_)],ow:=[] } (fun j=>[(52,true,xi (j : Int))]) (fun j=>[]) (fun j=>j=0) (fun j=>0) (0) (rfl) (uAi (⟨sx rfl,sx rfl,sx rfl,sx rfl,sx rfl,sx rfl,trivial⟩) (⟨sx rfl,sx rfl,sx rfl,sx rfl,trivial⟩) trivial) ?_
  intro j hokb
  dsimp only [List.cons_append,List.nil_append]
  refine uAd (uAb ?_);refine uAa rfl rfl rfl (uAm rfl rfl gU gU rfl) ?_;refine uAf ?_;refine uAd ?_;refine uAn rfl (fun hc2=>?_) (fun hc2=>?_)
  ·exfalso
   simp at hc2
   omega
  ·try simp only [nn,uAj,T.rows_len,Gl.rows_len,Fs.rows_len,Sp.rows_len] at hc2
   refine uAJ ?_
   repeat(first|refine uAC ?_|refine uAD ?_|refine uAB rfl ?_)
   refine uFZ 23 23 (.l 2) 4 (Sp.rows (n.steps.map (chS (srtG n)))) rfl rfl (by rw[Sp.rows_len,List.length_map]) (by omega) (uMq _) rfl rfl rfl rfl rfl ?_;refine uAd (uAb ?_);refine uAa rfl rfl rfl (uAl rfl gU rfl rfl rfl rfl rfl) ?_;refine uAq rfl (uAy rfl rfl rfl rfl rfl rfl rfl) ?_;refine uAf ?_;refine uAp ?_
   repeat(first|refine tR ?_|refine bR ?_)
   refine uCY rfl ?_ (⟨⟨_,rfl,?_⟩,trivial⟩) (by kernel_rfl)
   all_goals rfl
def exP : List UInt8:=[112,114,111,116,111,99,111,108,32,112,32,123,32,114,111,108,101,32,65,44,32,66,59,32,102,114,101,115,104,32,65,58,32,110,32,110,111,110,99,101,59,32,109,101,115,115,97,103,101,32,65,32,45,62,32,66,58,32]
def exQ : List UInt8:=[59,32,125]
def exW0 : List UInt8:=[97,101,110,99,40,60,110,44,32,65,62,44,32,112,107,40,115,107,40,66,41,41,41]
def exN0 : Nar:=⟨[112],[[65],[66]],[⟨[65],[110],2⟩],[],[⟨[65],[66],⟨3,[97,101,110,99],0,[⟨3,[112,97,105,114],0,[⟨2,[110],0,[]⟩,⟨2,[65],0,[]⟩]⟩,⟨3,[112,107],0,[⟨3,[115,107],0,[⟨2,[66],0,[]⟩]⟩]⟩]⟩,1⟩],[]⟩
set_option maxRecDepth 100000 in
theorem exR0 : uDJ (exP++exW0++exQ)=(exN0,0,0):=by kernel_rfl
def exW1 : List UInt8:=[101,110,99,40,110,44,32,107,41]
def exN1 : Nar:=⟨[112],[[65],[66]],[⟨[65],[110],2⟩],[],[⟨[65],[66],⟨3,[101,110,99],0,[⟨2,[110],0,[]⟩,⟨2,[107],0,[]⟩]⟩,1⟩],[]⟩
set_option maxRecDepth 100000 in
theorem exR1 : uDJ (exP++exW1++exQ)=(exN1,0,0):=by kernel_rfl
def exW2 : List UInt8:=[115,105,103,110,40,110,44,32,110,41]
def exN2 : Nar:=⟨[112],[[65],[66]],[⟨[65],[110],2⟩],[],[⟨[65],[66],⟨3,[115,105,103,110],0,[⟨2,[110],0,[]⟩,⟨2,[110],0,[]⟩]⟩,1⟩],[]⟩
set_option maxRecDepth 100000 in
theorem exR2 : uDJ (exP++exW2++exQ)=(exN2,0,0):=by kernel_rfl
def exW3 : List UInt8:=[115,107,40,66,41]
def exN3 : Nar:=⟨[112],[[65],[66]],[⟨[65],[110],2⟩],[],[⟨[65],[66],⟨3,[115,107],0,[⟨2,[66],0,[]⟩]⟩,1⟩],[]⟩
set_option maxRecDepth 100000 in
theorem exR3 : uDJ (exP++exW3++exQ)=(exN3,0,0):=by kernel_rfl
set_option maxRecDepth 100000 in
theorem exC0 : chkE uAH exN0=(0,0):=by decide +kernel
set_option maxRecDepth 100000 in
theorem exC1 : chkE uAH exN1=(1,13):=by decide +kernel
set_option maxRecDepth 100000 in
theorem exC2 : chkE uAH exN2=(1,10):=by decide +kernel
set_option maxRecDepth 100000 in
theorem exC3 : chkE uAH exN3=(1,10):=by decide +kernel
set_option maxRecDepth 100000 in
theorem exS1 : uK2 exN0 [110]=(2,0):=by decide +kernel
set_option maxRecDepth 100000 in
theorem exS2 : uK2 exN0 [65]=(1,0):=by decide +kernel
set_option maxRecDepth 100000 in
theorem exU : uMz exN0 [110]=[0]:=by decide +kernel
theorem uDf (s : List UInt8) (h : s.length≤1000) : Ctr sys 35 [xs s] [] (xn (uDJ (exP++s++exQ)).1) none []:=by
 refine uAA Tryz.func35 rfl rfl rfl rfl rfl rfl ?_;refine uAd (uAb ?_);refine uAq rfl (uAG rfl rfl rfl) ?_;refine uAf ?_;refine uAd (uAb ?_);refine uAa rfl rfl rfl (uAc rfl gU) ?_;refine uAa rfl rfl rfl (uEB rfl rfl gU gU (by simp; omega)) ?_;refine uAa rfl rfl rfl (uEB rfl rfl gU gU (by simp; omega)) ?_;refine uAu rfl rfl rfl rfl rfl rfl gU gU (uJu (exP++s++exQ) (by have e1 : exP.length=58:=rfl; have e2 : exQ.length=3:=rfl; rw[List.length_append,List.length_append]; omega)) rfl ?_;refine uAa rfl rfl rfl (uAc rfl gU) ?_;refine uAa rfl rfl rfl (uAs rfl gU rfl) ?_;refine uAa rfl rfl rfl (uAs rfl gU rfl) ?_;refine uAa rfl rfl rfl (uAs rfl gU rfl) ?_;refine uAq rfl (uAG rfl rfl rfl) ?_;refine uAq rfl (uAy rfl rfl rfl rfl rfl rfl rfl) ?_;refine uAa rfl rfl rfl (uAe rfl gU) ?_;refine uAa rfl rfl rfl (uAe rfl gU) ?_;refine uAf ?_;refine uAk (s:=⟨[(2,_,_),(3,_,_)],[(.l 2,_),(.l 3,_)],[],[]⟩) (uAi (⟨sx rfl,sx rfl,trivial⟩) (⟨sx rfl,sx rfl,trivial⟩) trivial) ?_;refine uAd (uAb ?_);refine uAa rfl rfl rfl (uAl rfl gU rfl rfl rfl rfl rfl) ?_;refine uAq rfl (uAy rfl rfl rfl rfl rfl rfl rfl) ?_;refine uAf ?_;refine uAp ?_
 repeat(first|refine tR ?_|refine bR ?_)
 refine uAt rfl ?_ trivial
 rfl
theorem uGE : Ctr sys 11 [] [] (xb true) none []:=by
 have a0:=uDf exW0 (by decide)
 rw[exR0] at a0
 have c0:=uCt exN0 (by decide) (by decide)
 rw[exC0] at c0
 have a1:=uDf exW1 (by decide)
 rw[exR1] at a1
 have c1:=uCt exN1 (by decide) (by decide)
 rw[exC1] at c1
 have a2:=uDf exW2 (by decide)
 rw[exR2] at a2
 have c2:=uCt exN2 (by decide) (by decide)
 rw[exC2] at c2
 have a3:=uDf exW3 (by decide)
 rw[exR3] at a3
 have c3:=uCt exN3 (by decide) (by decide)
 rw[exC3] at c3
 have s1:=uGZ exN0 [110] (by decide) (by decide)
 rw[exS1] at s1
 have s2:=uGZ exN0 [65] (by decide) (by decide)
 rw[exS2] at s2
 have u1:=uLw exN0 [110] (by decide) (by decide)
 rw[exU] at u1
 refine uAA Tryz.func11 rfl rfl rfl rfl rfl rfl ?_;refine uAd (uAb ?_);refine uAa rfl rfl rfl (uAe rfl gU) ?_;refine uAf ?_;refine uAd (uAb ?_);refine uAu rfl rfl rfl rfl rfl rfl gU gU (a0) rfl ?_;refine uAq rfl (uAG rfl rfl rfl) ?_;refine uAq rfl (uAy rfl rfl rfl rfl rfl rfl rfl) ?_;refine uAf ?_;refine uAd (uAb ?_);refine uAa rfl rfl rfl (uAl rfl gU rfl rfl rfl rfl rfl) ?_;refine uAu rfl rfl rfl rfl rfl rfl gU gU (c0) rfl ?_;refine uAa rfl rfl rfl (uAc rfl gU) ?_;refine uAa rfl rfl rfl (uAs rfl gU rfl) ?_;refine uAa rfl rfl rfl (uAs rfl gU rfl) ?_;refine uAa rfl rfl rfl (uAe rfl gU) ?_;refine uAa rfl rfl rfl (uAe rfl gU) ?_;refine uAf ?_;refine uAk (s:=⟨[(1,_,_),(2,_,_),(3,_,_)],[(.l 1,_)],[],[]⟩) (uAi (⟨sx rfl,sx rfl,sx rfl,trivial⟩) (⟨sx rfl,trivial⟩) trivial) ?_;refine uAd (uAb ?_);refine uAa rfl rfl rfl (uAl rfl gU rfl rfl rfl rfl rfl) ?_;refine uAu rfl rfl rfl rfl rfl rfl gU gU (s1) rfl ?_;refine uAa rfl rfl rfl (uAc rfl gU) ?_;refine uAa rfl rfl rfl (uAs rfl gU rfl) ?_;refine uAa rfl rfl rfl (uAs rfl gU rfl) ?_;refine uAa rfl rfl rfl (uAe rfl gU) ?_;refine uAa rfl rfl rfl (uAe rfl gU) ?_;refine uAf ?_;refine uAk (s:=⟨[(1,_,_),(2,_,_),(3,_,_),(4,_,_),(5,_,_)],[(.l 1,_)],[],[]⟩) (uAi (⟨sx rfl,sx rfl,sx rfl,sx rfl,sx rfl,trivial⟩) (⟨sx rfl,trivial⟩) trivial) ?_
 refine uAd (uAb ?_);refine uAa rfl rfl rfl (uAl rfl gU rfl rfl rfl rfl rfl) ?_;refine uAu rfl rfl rfl rfl rfl rfl gU gU (s2) rfl ?_;refine uAa rfl rfl rfl (uAc rfl gU) ?_;refine uAa rfl rfl rfl (uAs rfl gU rfl) ?_;refine uAa rfl rfl rfl (uAs rfl gU rfl) ?_;refine uAa rfl rfl rfl (uAe rfl gU) ?_;refine uAa rfl rfl rfl (uAe rfl gU) ?_;refine uAf ?_;refine uAk (s:=⟨[(1,_,_),(2,_,_),(3,_,_),(4,_,_),(5,_,_),(6,_,_),(7,_,_)],[(.l 1,_)],[],[]⟩) (uAi (⟨sx rfl,sx rfl,sx rfl,sx rfl,sx rfl,sx rfl,sx rfl,trivial⟩) (⟨sx rfl,trivial⟩) trivial) ?_;refine uAd (uAb ?_);refine uAu rfl rfl rfl rfl rfl rfl gU gU (a1) rfl ?_;refine uAu rfl rfl rfl rfl rfl rfl gU gU (c1) rfl ?_;refine uAa rfl rfl rfl (uAc rfl gU) ?_;refine uAa rfl rfl rfl (uAs rfl gU rfl) ?_;refine uAa rfl rfl rfl (uAs rfl gU rfl) ?_;refine uAa rfl rfl rfl (uAe rfl gU) ?_;refine uAa rfl rfl rfl (uAe rfl gU) ?_;refine uAf ?_;refine uAk (s:=⟨[(1,_,_),(2,_,_),(3,_,_),(4,_,_),(5,_,_),(6,_,_),(7,_,_),(8,_,_),(9,_,_)],[(.l 1,_)],[],[]⟩) (uAi (⟨sx rfl,sx rfl,sx rfl,sx rfl,sx rfl,sx rfl,sx rfl,sx rfl,sx rfl,trivial⟩) (⟨sx rfl,trivial⟩) trivial) ?_;refine uAd (uAb ?_);refine uAu rfl rfl rfl rfl rfl rfl gU gU (a2) rfl ?_
 refine uAu rfl rfl rfl rfl rfl rfl gU gU (c2) rfl ?_;refine uAa rfl rfl rfl (uAc rfl gU) ?_;refine uAa rfl rfl rfl (uAs rfl gU rfl) ?_;refine uAa rfl rfl rfl (uAs rfl gU rfl) ?_;refine uAa rfl rfl rfl (uAe rfl gU) ?_;refine uAa rfl rfl rfl (uAe rfl gU) ?_;refine uAf ?_;refine uAk (s:=⟨[(1,_,_),(2,_,_),(3,_,_),(4,_,_),(5,_,_),(6,_,_),(7,_,_),(8,_,_),(9,_,_),(11,_,_)],[(.l 1,_)],[],[]⟩) (uAi (⟨sx rfl,sx rfl,sx rfl,sx rfl,sx rfl,sx rfl,sx rfl,sx rfl,sx rfl,sx rfl,trivial⟩) (⟨sx rfl,trivial⟩) trivial) ?_;refine uAd (uAb ?_);refine uAu rfl rfl rfl rfl rfl rfl gU gU (a3) rfl ?_;refine uAu rfl rfl rfl rfl rfl rfl gU gU (c3) rfl ?_;refine uAa rfl rfl rfl (uAc rfl gU) ?_;refine uAa rfl rfl rfl (uAs rfl gU rfl) ?_;refine uAa rfl rfl rfl (uAs rfl gU rfl) ?_;refine uAa rfl rfl rfl (uAe rfl gU) ?_;refine uAa rfl rfl rfl (uAe rfl gU) ?_;refine uAf ?_;refine uAk (s:=⟨[(1,_,_),(2,_,_),(3,_,_),(4,_,_),(5,_,_),(6,_,_),(7,_,_),(8,_,_),(9,_,_),(11,_,_),(13,_,_)],[(.l 1,_)],[],[]⟩) (uAi (⟨sx rfl,sx rfl,sx rfl,sx rfl,sx rfl,sx rfl,sx rfl,sx rfl,sx rfl,sx rfl,sx rfl,trivial⟩) (⟨sx rfl,trivial⟩) trivial) ?_;refine uAd (uAb ?_);refine uAa rfl rfl rfl (uAc rfl gU) ?_
 refine uAa rfl rfl rfl (uAm rfl rfl gU gU rfl) ?_;refine uAa rfl rfl rfl (uAc rfl gU) ?_;refine uAa rfl rfl rfl (uAc rfl gU) ?_;refine uAa rfl rfl rfl (uAm rfl rfl (fun hh=>hh) gU rfl) ?_;refine uAa rfl rfl rfl (uAP rfl rfl gU (fun _ hi=>gP rfl hi)) ?_;refine uAa rfl rfl rfl (uAc rfl gU) ?_;refine uAa rfl rfl rfl (uAc rfl gU) ?_;refine uAa rfl rfl rfl (uAm rfl rfl (fun hh=>hh) gU rfl) ?_;refine uAa rfl rfl rfl (uAP rfl rfl gU (fun _ hi=>gP rfl hi)) ?_;refine uAa rfl rfl rfl (uAc rfl gU) ?_;refine uAa rfl rfl rfl (uAc rfl gU) ?_;refine uBc (s:=⟨[(1,_,_),(6,_,_),(7,_,_),(8,_,_),(9,_,_),(11,_,_),(13,_,_),(55,_,_),(56,_,_)],[(.l 1,_)],[],[]⟩) (uAi (⟨sx rfl,sx rfl,sx rfl,sx rfl,sx rfl,sx rfl,sx rfl,sx rfl,sx rfl,trivial⟩) (⟨sx rfl,trivial⟩) trivial) ?_;refine uAa rfl rfl rfl (uAm rfl rfl (fun hh=>hh) gU rfl) ?_;refine uAa rfl rfl rfl (uAP rfl rfl gU (fun _ hi=>gP rfl hi)) ?_;refine uAa rfl rfl rfl (uAc rfl gU) ?_;refine uAa rfl rfl rfl (uAc rfl gU) ?_;refine uAa rfl rfl rfl (uAm rfl rfl (fun hh=>hh) gU rfl) ?_;refine uAa rfl rfl rfl (uAP rfl rfl gU (fun _ hi=>gP rfl hi)) ?_;refine uAa rfl rfl rfl (uAc rfl gU) ?_;refine uAa rfl rfl rfl (uAc rfl gU) ?_;refine uAa rfl rfl rfl (uAm rfl rfl (fun hh=>hh) gU rfl) ?_
 refine uAa rfl rfl rfl (uAP rfl rfl gU (fun _ hi=>gP rfl hi)) ?_;refine uAa rfl rfl rfl (uAc rfl gU) ?_;refine uAa rfl rfl rfl (uAl rfl gU rfl rfl rfl rfl rfl) ?_;refine uBc (s:=⟨[(8,_,_),(9,_,_),(11,_,_),(13,_,_),(67,_,_),(68,_,_)],[],[],[]⟩) (uAi (⟨sx rfl,sx rfl,sx rfl,sx rfl,sx rfl,sx rfl,trivial⟩) trivial trivial) ?_;refine uAu rfl rfl rfl rfl rfl rfl gU (fun hh=>gA ((fun hh=>hh) hh) (gA rfl (rfl))) (u1) rfl ?_;refine uGW (xs:=[_]) rfl rfl rfl rfl rfl rfl rfl rfl rfl (by first|exact fun hh=>hh|exact fun _=>rfl|exact fun hh=>gL hh|exact fun hh=>gL (gL hh)|(intro hh; simp_all)) rfl ?_;refine uAu rfl rfl rfl rfl rfl rfl gU (fun hh=>gA ((fun hh=>hh) hh) (gA ((fun hh=>hh) hh) (rfl))) (uJi [0] [0] rfl) rfl ?_;refine uAa rfl rfl rfl (uAP rfl rfl gU (fun _ hi=>gP rfl hi)) ?_;refine uAa rfl rfl rfl (uAc rfl gU) ?_;refine uAa rfl rfl rfl (uAc rfl gU) ?_;refine uAa rfl rfl rfl (uAm rfl rfl (fun hh=>hh) gU rfl) ?_;refine uAa rfl rfl rfl (uAP rfl rfl gU (fun _ hi=>gP rfl hi)) ?_;refine uAa rfl rfl rfl (uAc rfl gU) ?_;refine uAa rfl rfl rfl (uAc rfl gU) ?_;refine uAa rfl rfl rfl (uAm rfl rfl (fun hh=>hh) gU rfl) ?_;refine uAa rfl rfl rfl (uAP rfl rfl gU (fun _ hi=>gP rfl hi)) ?_;refine uBc (s:=⟨[(11,_,_),(13,_,_),(80,_,_)],[],[],[]⟩) (uAi (⟨sx rfl,sx rfl,sx rfl,trivial⟩) trivial trivial) ?_
 refine uAa rfl rfl rfl (uAc rfl gU) ?_;refine uAa rfl rfl rfl (uAc rfl gU) ?_;refine uAa rfl rfl rfl (uAm rfl rfl (fun hh=>hh) gU rfl) ?_;refine uAa rfl rfl rfl (uAP rfl rfl gU (fun _ hi=>gP rfl hi)) ?_;refine uAa rfl rfl rfl (uAc rfl gU) ?_;refine uAa rfl rfl rfl (uAc rfl gU) ?_;refine uAa rfl rfl rfl (uAm rfl rfl (fun hh=>hh) gU rfl) ?_;refine uAa rfl rfl rfl (uAP rfl rfl gU (fun _ hi=>gP rfl hi)) ?_;refine uAa rfl rfl rfl (uAe rfl gU) ?_;refine uAf ?_;refine uAp ?_
 repeat(first|refine tR ?_|refine bR ?_)
 refine uAt rfl ?_ trivial
 rfl
theorem upM {f : FuncId} {args : List X} {res : Nat→X} {es : List (List UInt8 × Value)} (h : CtrM sys f args res es) : CtrM sysO f args res es:=by
 obtain ⟨h1,h4⟩:=h
 exact ⟨h1,fun w G vs a b c d e=>h4 w G vs a b c d fun x hx=>e x hx⟩
theorem uNP (n : Nar) (b : Nat) (h : ChkOk n) : CtrO (zR n b) 56 [xn n, .fn 57 [.ptr (.o 0) 0]] [tbC n.roles b] [] (xn (chN (srtG n) n)) [tbC n.roles b] .box:=by
 have b1:=h.nar.r2
 have b2:=h.nar.f2
 have b3:=h.nar.t2
 have b4:=h.nar.s1
 have b5:=h.nar.s2
 have b6:=h.nar.g2
 have s0 : n.steps≠[]:=fun q=>by rw[q] at b4; simp at b4
 have hm : ∀ s ∈ n.steps,gdB s.msg=true∧s.msg.size≤900000 := fun s hs=>⟨(h.msg s hs).2.1,by have := (h.msg s hs).2.2; omega⟩
 have hd : ∀ g ∈ n.goals,g.data≠[]∧g.data.length≤100 ∧ ∀ t ∈ g.data,gdB t=true∧t.size≤900000:=fun g hg=>by
  have d1:=(h.nar.goals g hg).d1
  have d2:=(h.nar.goals g hg).d2
  exact ⟨fun q=>by rw[q] at d1; simp at d1,by omega,fun t ht=>⟨(h.dat g hg t ht).2.1,by have := (h.dat g hg t ht).2.2; omega⟩⟩
 by_cases hg0 : n.goals=[]
 ·exact uNo n b (by omega) (by omega) (by omega) (by omega) (by omega) s0 hg0 hm hd
 ·exact uOe n b (by omega) (by omega) (by omega) (by omega) (by omega) s0 hg0 hm hd
theorem uG7 (n : Nar) (hs : ∀ s ∈ n.steps,s.msg.size≤900000) (hg : ∀ g ∈ n.goals,T.sizes g.data≤900000) : Ctr sysO 25 [xn n] [] (xnie (resE n)) none []:=by
 refine uAA Tryz.func25 rfl rfl rfl rfl rfl rfl ?_;refine uAd (uAb ?_);refine uAq rfl (uAK rfl rfl rfl rfl) ?_;refine uAq rfl (uAG rfl rfl rfl) ?_;refine uAa rfl rfl rfl (uAe rfl gU) ?_;refine uAa rfl rfl rfl (uAe rfl gU) ?_;refine uAf ?_;refine uAd ?_;refine uAd (uAb ?_);refine uAa rfl rfl rfl (uAl rfl gU rfl rfl rfl rfl rfl) ?_;refine uAu rfl rfl rfl rfl rfl rfl gU gU (up (uCt n hs hg)) rfl ?_;refine uAa rfl rfl rfl (uAc rfl gU) ?_;refine uAa rfl rfl rfl (uAs rfl gU rfl) ?_;refine uAa rfl rfl rfl (uAs rfl gU rfl) ?_;refine uAa rfl rfl rfl (uAe rfl gU) ?_;refine uAa rfl rfl rfl (uAe rfl gU) ?_;refine uAf ?_;refine uAk (s:=⟨[(1,_,_),(2,_,_),(5,_,_),(6,_,_)],[(.l 1,_),(.l 2,_)],[],[]⟩) (uAi (⟨sx rfl,sx rfl,sx rfl,sx rfl,trivial⟩) (⟨sx rfl,sx rfl,trivial⟩) trivial) ?_;refine uAd (uAb ?_);refine uAa rfl rfl rfl (uAc rfl gU) ?_;refine uAa rfl rfl rfl (uAm rfl rfl gU gU rfl) ?_;refine uAf ?_;refine uAn rfl (fun hc=>?_) (fun hc=>?_)
 ·try simp only [nn,uAj,T.rows_len,Gl.rows_len,Fs.rows_len,Sp.rows_len] at hc
  refine uAd (uAb ?_);refine uAa rfl rfl rfl (uAS rfl Tryz.underlying27 rfl gU) ?_;refine uAa rfl rfl rfl (uAc rfl gU) ?_;refine uAa rfl rfl rfl (uAc rfl gU) ?_;refine uAq rfl (uAy rfl rfl rfl rfl rfl rfl rfl) ?_;refine uAa rfl rfl rfl (uAe rfl gU) ?_;refine uAa rfl rfl rfl (uAe rfl gU) ?_;refine uAf ?_;refine uAp ?_
  repeat(first|refine tR ?_|refine bR ?_)
  refine uAt rfl ?_ trivial
  (rw[resE,if_pos hc]; rfl)
 ·try simp only [nn,uAj,T.rows_len,Gl.rows_len,Fs.rows_len,Sp.rows_len] at hc
  have hE : resE n=(chN (srtG n) n,0,0):=by rw[resE,if_neg (by simpa using hc)]
  have hok:=uK6 (n:=n) hc
  rw[hE]
  refine uAo ?_;refine uAd (uAb ?_);refine uAa rfl rfl rfl (uAl rfl gU rfl rfl rfl rfl rfl) ?_;refine uGQ rfl rfl rfl rfl rfl rfl (upM (uEy n)) (fun _=>rfl) (fun bm=>?_);refine uAq rfl (uAG rfl rfl rfl) ?_;refine uAq rfl (uAy rfl rfl rfl rfl rfl rfl rfl) ?_;refine uAf ?_;refine uAk (s:={ t:=[(1,_,_),(2,_,_),(7,_,_)],bx:=[(.l 1,_),(.l 2,_),(.l 7,_)],ow:=[],mp:=_ }) (uAi (⟨sx rfl,sx rfl,sx rfl,trivial⟩) (⟨sx rfl,sx rfl,sx rfl,trivial⟩) trivial (.inr rfl)) ?_;refine uAd (uAb ?_);refine uAa rfl rfl rfl (uAl rfl gU rfl rfl rfl rfl rfl) ?_;refine uAa rfl rfl rfl (uDM (ys:=[.ptr (.l 7) 0]) rfl) ?_;refine uNL 0 rfl [⟨.l 7,0,tbC n.roles bm,tbC n.roles bm⟩] [] rfl rfl rfl rfl rfl rfl (ps1 rfl) rfl rfl (uNP n bm hok) rfl rfl rfl ?_;refine uAq rfl (uAy rfl rfl rfl rfl rfl rfl rfl) ?_;refine uAa rfl rfl rfl (uAe rfl gU) ?_;refine uAa rfl rfl rfl (uAe rfl gU) ?_;refine uAf ?_;refine uAp ?_
  repeat(first|refine tR ?_|refine bR ?_)
  refine uAt rfl ?_ trivial
  all_goals rfl
theorem uHO (n : Nar) (hs : ∀ s ∈ n.steps,s.msg.size≤900000) (hg : ∀ g ∈ n.goals,T.sizes g.data≤900000) : Ctr sys 25 [xn n] [] (xnie (resE n)) none []:=(uG7 n hs hg).wk rfl fun _ h=>h
structure Sy where
 name : List UInt8
 least : Int
 most : Int
 kind : Int
instance : Inhabited Sy:=⟨⟨[],0,0,0⟩⟩
def Sy.cells (s : Sy) : List C:=[.s s.name, .i .i64 s.least, .i .i64 s.most, .i .i64 s.kind]
def Sy.rows (l : List Sy) : List (List C):=l.map Sy.cells
theorem Sy.rows_len (l : List Sy) : (Sy.rows l).length=l.length:=by simp [Sy.rows]
theorem Sy.rows_at {l : List Sy} {k : Nat} (h : k < l.length) : (Sy.rows l)[k]? = some (l.getD k default).cells:=by
 rw[Sy.rows,List.getElem?_map,List.getD_eq_getElem?_getD,List.getElem?_eq_getElem h]; rfl
def symL : List Sy:=[⟨[112,97,105,114],2,2,1⟩,
 ⟨[101,110,99],2,2,1⟩,
 ⟨[97,101,110,99],2,2,1⟩,
 ⟨[112,107],1,1,1⟩,
 ⟨[115,105,103,110],2,2,1⟩,
 ⟨[104,97,115,104],1,1,1⟩,
 ⟨[120,111,114],2,8,1⟩,
 ⟨[122,101,114,111],0,0,1⟩,
 ⟨[101,120,112],2,2,1⟩,
 ⟨[109,117,108],2,8,1⟩,
 ⟨[105,110,118],1,1,1⟩,
 ⟨[111,110,101],0,0,1⟩,
 ⟨[115,107],1,1,2⟩,
 ⟨[115,104,107],2,2,2⟩,
 ⟨[110,101,119],1,8,2⟩,
 ⟨[102,115,116],1,1,3⟩,
 ⟨[115,110,100],1,1,3⟩,
 ⟨[100,101,99],2,2,3⟩,
 ⟨[97,100,101,99],2,2,3⟩,
 ⟨[111,112,101,110],2,2,3⟩,
 ⟨[114,101,97,100],1,1,3⟩]
def uDD (s : List UInt8) : Int:=match symL.find? fun x=>decide (x.name=s) with
 | some x=>x.kind
 | none=>0
theorem uFJ : Ctr sys 98 [] [] (.v (.c (.sl 4 (Sy.rows symL)))) none []:=by
 refine uAA Tryz.func98 rfl rfl rfl rfl rfl rfl ?_;refine uAd (uAb ?_);refine uAa rfl rfl rfl (uAe rfl gU) ?_;refine uAf ?_;refine uAd (uAb ?_);refine uAa rfl rfl rfl (uAS rfl Tryz.underlying111 rfl gU) ?_;refine uAa rfl rfl rfl (uAS rfl Tryz.underlying111 rfl gU) ?_;refine uAa rfl rfl rfl (uAS rfl Tryz.underlying111 rfl gU) ?_;refine uAa rfl rfl rfl (uAS rfl Tryz.underlying111 rfl gU) ?_;refine uAa rfl rfl rfl (uAS rfl Tryz.underlying111 rfl gU) ?_;refine uAa rfl rfl rfl (uAS rfl Tryz.underlying111 rfl gU) ?_;refine uAa rfl rfl rfl (uAS rfl Tryz.underlying111 rfl gU) ?_;refine uAa rfl rfl rfl (uAS rfl Tryz.underlying111 rfl gU) ?_;refine uAa rfl rfl rfl (uAS rfl Tryz.underlying111 rfl gU) ?_;refine uAa rfl rfl rfl (uAS rfl Tryz.underlying111 rfl gU) ?_;refine uAa rfl rfl rfl (uAS rfl Tryz.underlying111 rfl gU) ?_;refine uBc (s:=⟨[(1,_,_),(2,_,_),(3,_,_),(4,_,_),(5,_,_),(6,_,_),(7,_,_),(8,_,_),(9,_,_),(10,_,_),(11,_,_)],[],[],[]⟩) (uAi (⟨sx rfl,sx rfl,sx rfl,sx rfl,sx rfl,sx rfl,sx rfl,sx rfl,sx rfl,sx rfl,sx rfl,trivial⟩) trivial trivial) ?_;refine uAa rfl rfl rfl (uAS rfl Tryz.underlying111 rfl gU) ?_;refine uAa rfl rfl rfl (uAS rfl Tryz.underlying111 rfl gU) ?_;refine uAa rfl rfl rfl (uAS rfl Tryz.underlying111 rfl gU) ?_
 refine uAa rfl rfl rfl (uAS rfl Tryz.underlying111 rfl gU) ?_;refine uAa rfl rfl rfl (uAS rfl Tryz.underlying111 rfl gU) ?_;refine uAa rfl rfl rfl (uAS rfl Tryz.underlying111 rfl gU) ?_;refine uAa rfl rfl rfl (uAS rfl Tryz.underlying111 rfl gU) ?_;refine uAa rfl rfl rfl (uAS rfl Tryz.underlying111 rfl gU) ?_;refine uAa rfl rfl rfl (uAS rfl Tryz.underlying111 rfl gU) ?_;refine uAa rfl rfl rfl (uAS rfl Tryz.underlying111 rfl gU) ?_;refine uAN (xs:=[_,_,_,_,_,_,_,_,_,_,_,_,_,_,_,_,_,_,_,_,_]) rfl rfl rfl rfl rfl rfl rfl rfl rfl gU rfl ?_;refine uAa rfl rfl rfl (uAe rfl gU) ?_;refine uAf ?_;refine uAp ?_
 repeat(first|refine tR ?_|refine bR ?_)
 refine uAt rfl ?_ trivial
 rfl
theorem uKW {l : List Sy} {s : List UInt8} {k : Nat} (hk : k < l.length) (h : ∀ j,j < k → ¬(l.getD j default).name=s) (hx : (l.getD k default).name=s) : (l.find? fun x=>decide (x.name=s))=some (l.getD k default):=by
 induction l generalizing k with
 | nil=>simp at hk
 | cons x r ih =>
  cases k with
  | zero =>
   have hx : x.name=s:=by simpa using hx
   rw[List.find?_cons_of_pos (by simpa using hx)]; rfl
  | succ k =>
   have h0:=h 0 (by omega)
   have := ih (k := k) (by simpa using hk) (fun j hj=>by simpa using h (j + 1) (by omega)) (by simpa using hx)
   rw[List.find?_cons_of_neg (by simpa using h0),this]; rfl
theorem uHP {l : List Sy} {s : List UInt8} (h : ∀ j,j < l.length → ¬(l.getD j default).name=s) : (l.find? fun x=>decide (x.name=s))=none:=by
 rw[List.find?_eq_none]
 intro x hx
 obtain ⟨j,hj,e⟩:=List.mem_iff_getElem.1 hx
 have := h j hj
 rw[List.getD_eq_getElem?_getD,List.getElem?_eq_getElem hj,Option.getD_some,e] at this
 simpa using this
theorem uHV (s : List UInt8) : Ctr sys 63 [xs s] [] (xi (uDD s)) none []:=by
 have hl : symL.length=21:=rfl
 have hr:=Sy.rows_len symL
 refine uAA Tryz.func63 rfl rfl rfl rfl rfl rfl ?_;refine uAd (uAb ?_);refine uAa rfl rfl rfl (uAe rfl gU) ?_;refine uAf ?_;refine uAd (uAb ?_);refine uAu rfl rfl rfl rfl rfl rfl gU gU (uFJ) rfl ?_;refine uAa rfl rfl rfl (uAe rfl gU) ?_;refine uAf ?_;refine uAd ?_;refine uAd (uAb ?_);refine uAa rfl rfl rfl (uAe rfl gU) ?_;refine uAf ?_;refine uAr ?_;refine uAW (ι:=Nat) { t:=[(0,_,_),(3,_,_)],bx:=[],ow:=[] } (fun k=>[(4,true,xi (k : Int))]) (fun k=>[]) (fun k=>k≤symL.length ∧ ∀ j,j < k → ¬(symL.getD j default).name=s) (fun k=>symL.length - k) (0) (⟨by omega,fun j hj=>by omega⟩) (uAi (⟨sx rfl,sx rfl,sx rfl,trivial⟩) trivial trivial) ?_
 intro k hok
 dsimp only [List.cons_append,List.nil_append]
 obtain ⟨hk,hi⟩:=hok
 refine uAd ?_;refine uAd (uAb ?_);refine uAa rfl rfl rfl (uAc rfl gU) ?_;refine uAa rfl rfl rfl (uAc rfl gU) ?_;refine uAI rfl rfl rfl rfl rfl gU rfl rfl ?_ (fun hh=>by simp at hh); intro hlen;refine uAa rfl rfl rfl (uAm rfl rfl gU gU rfl) ?_;refine uAf ?_;refine uAn rfl (fun hc=>?_) (fun hc=>?_)
 ·try simp only [nn,uAj,T.rows_len,Sy.rows_len] at hc
  have hlt : k < symL.length:=by omega
  refine uAo ?_;refine uAd ?_;refine uAr ?_;refine uAd (uAb ?_);refine uAa rfl rfl rfl (uAc rfl gU) ?_;refine uAa rfl rfl rfl (uAc rfl gU) ?_;refine uAa rfl rfl rfl (uAv rfl rfl gU gU rfl rfl rfl (fun hh=>Sy.rows_at (by first|omega|(simp at hh ⊢; omega)))) ?_;refine uAa rfl rfl rfl (uA2 rfl gU rfl rfl) ?_;refine uAa rfl rfl rfl (uAU rfl gU rfl rfl rfl) ?_;refine uAa rfl rfl rfl (uAc rfl gU) ?_;refine uAa rfl rfl rfl (uA7 rfl rfl gU gU rfl) ?_;refine uAf ?_;refine uAk (s:=⟨[(0,_,_),(3,_,_),(4,_,_),(18,_,_)],[],[],[]⟩) (uAi (⟨sx rfl,sx rfl,sx rfl,sx rfl,trivial⟩) trivial trivial) ?_;refine uAn rfl (fun hc2=>?_) (fun hc2=>?_)
  ·try simp only [nn,uAj,T.rows_len,Sy.rows_len] at hc2
   have := uKW hlt hi hc2
   refine uAd (uAb ?_);refine uAa rfl rfl rfl (uAc rfl gU) ?_;refine uAa rfl rfl rfl (uAc rfl gU) ?_;refine uAa rfl rfl rfl (uAv rfl rfl gU gU rfl rfl rfl (fun hh=>Sy.rows_at (by first|omega|(simp at hh ⊢; omega)))) ?_;refine uAa rfl rfl rfl (uA2 rfl gU rfl rfl) ?_;refine uAa rfl rfl rfl (uAU rfl gU rfl rfl rfl) ?_;refine uAa rfl rfl rfl (uAe rfl gU) ?_;refine uAf ?_;refine uAp ?_
   repeat(first|refine tR ?_|refine bR ?_)
   refine uAt rfl ?_ trivial
   (rw[uDD,this]; rfl)
  ·try simp only [nn,uAj,T.rows_len,Sy.rows_len] at hc2
   refine uAo ?_;refine uAb ?_;refine uAa rfl rfl rfl (uAc rfl gU) ?_;refine uAa rfl rfl rfl (uAz rfl rfl gU gU rfl (IntWalk.i64_in _ (by omega))) ?_;refine uAa rfl rfl rfl (uAe rfl gU) ?_;refine uAf ?_;refine ⟨k + 1,?_,?_,uAi (⟨⟨_,rfl,?_⟩,⟨sx rfl,sx rfl,trivial⟩⟩) trivial trivial⟩
   all_goals (first|rfl|omega|exact ⟨by omega,fun j q=>by by_cases e : j=k; { subst e; exact hc2 }; { exact hi j (by omega) }⟩)
 ·try simp only [nn,uAj,T.rows_len,Sy.rows_len] at hc
  have hke : k=symL.length:=by omega
  subst hke
  have := uHP hi
  refine uAJ ?_
  repeat(first|refine uAC ?_|refine uAD ?_|refine uAB rfl ?_)
  refine uAd (uAb ?_);refine uAa rfl rfl rfl (uAe rfl gU) ?_;refine uAf ?_;refine uAp ?_
  repeat(first|refine tR ?_|refine bR ?_)
  refine uAt rfl ?_ trivial
  (rw[uDD,this]; rfl)
def algE (s : List UInt8) : Bool:=decide (s=[120,111,114]) || decide (s=[122,101,114,111]) || decide (s=[101,120,112]) || decide (s=[109,117,108]) || decide (s=[105,110,118]) || decide (s=[111,110,101])
theorem uGD (s : List UInt8) : Ctr sys 62 [xs s] [] (xb (algE s)) none []:=by
 refine uAA Tryz.func62 rfl rfl rfl rfl rfl rfl ?_;refine uAd (uAb ?_);refine uAa rfl rfl rfl (uAe rfl gU) ?_;refine uAf ?_;refine uAd (uAb ?_);refine uAa rfl rfl rfl (uAc rfl gU) ?_;refine uAa rfl rfl rfl (uA7 rfl rfl gU gU rfl) ?_;refine uAa rfl rfl rfl (uAc rfl gU) ?_;refine uAa rfl rfl rfl (uAc rfl gU) ?_;refine uAa rfl rfl rfl (uA7 rfl rfl (fun hh=>hh) gU rfl) ?_;refine uAa rfl rfl rfl (uAL rfl rfl gU (fun _ hi=>gP rfl hi)) ?_;refine uAa rfl rfl rfl (uAc rfl gU) ?_;refine uAa rfl rfl rfl (uAc rfl gU) ?_;refine uAa rfl rfl rfl (uA7 rfl rfl (fun hh=>hh) gU rfl) ?_;refine uAa rfl rfl rfl (uAL rfl rfl gU (fun _ hi=>gP rfl hi)) ?_;refine uAa rfl rfl rfl (uAc rfl gU) ?_;refine uBc (s:=⟨[(0,_,_),(13,_,_)],[],[],[]⟩) (uAi (⟨sx rfl,sx rfl,trivial⟩) trivial trivial) ?_;refine uAa rfl rfl rfl (uAc rfl gU) ?_;refine uAa rfl rfl rfl (uA7 rfl rfl (fun hh=>hh) gU rfl) ?_;refine uAa rfl rfl rfl (uAL rfl rfl gU (fun _ hi=>gP rfl hi)) ?_;refine uAa rfl rfl rfl (uAc rfl gU) ?_;refine uAa rfl rfl rfl (uAc rfl gU) ?_;refine uAa rfl rfl rfl (uA7 rfl rfl (fun hh=>hh) gU rfl) ?_;refine uAa rfl rfl rfl (uAL rfl rfl gU (fun _ hi=>gP rfl hi)) ?_;refine uAa rfl rfl rfl (uAc rfl gU) ?_;refine uAa rfl rfl rfl (uAc rfl gU) ?_
 refine uAa rfl rfl rfl (uA7 rfl rfl (fun hh=>hh) gU rfl) ?_;refine uAa rfl rfl rfl (uAL rfl rfl gU (fun _ hi=>gP rfl hi)) ?_;refine uAa rfl rfl rfl (uAe rfl gU) ?_;refine uAf ?_;refine uAp ?_
 repeat(first|refine tR ?_|refine bR ?_)
 refine uAt rfl ?_ trivial;refine uCf ?_
 rw[algE,Bool.eq_iff_iff]
 simp [or_assoc]
def uHe (t : T) : Bool:=match symL.find? fun x=>decide (x.name=t.name) with
 | some x=>decide (x.least≤(t.kids.length : Int)) && decide ((t.kids.length : Int)≤x.most)
 | none=>false
theorem uMJ (t : T) : Ctr sys 124 [xm t] [] (xb (uHe t)) none []:=by
 have hl : symL.length=21:=rfl
 have hr:=Sy.rows_len symL
 have hr2:=T.rows_len t.kids
 refine uAA Tryz.func124 rfl rfl rfl rfl rfl rfl ?_;refine uAd (uAb ?_);refine uAq rfl (uAK rfl rfl rfl rfl) ?_;refine uAa rfl rfl rfl (uAe rfl gU) ?_;refine uAf ?_;refine uAd (uAb ?_);refine uAu rfl rfl rfl rfl rfl rfl gU gU (uFJ) rfl ?_;refine uAa rfl rfl rfl (uAe rfl gU) ?_;refine uAf ?_;refine uAd ?_;refine uAd (uAb ?_);refine uAa rfl rfl rfl (uAe rfl gU) ?_;refine uAf ?_;refine uAk (s:=⟨[(1,_,_),(3,_,_),(4,_,_)],[(.l 1,_)],[],[]⟩) (uAi (⟨sx rfl,sx rfl,sx rfl,trivial⟩) (⟨sx rfl,trivial⟩) trivial) ?_;refine uAr ?_;refine uAW (ι:=Nat) { t:=[(1,_,_),(3,_,_)],bx:=[(.l 1,_)],ow:=[] } (fun k=>[(4,true,xi (k : Int))]) (fun k=>[]) (fun k=>k≤symL.length ∧ ∀ j,j < k → ¬(symL.getD j default).name=t.name) (fun k=>symL.length - k) (0) (⟨by omega,fun j hj=>by omega⟩) (uAi (⟨sx rfl,sx rfl,sx rfl,trivial⟩) (⟨sx rfl,trivial⟩) trivial) ?_
 intro k hok
 dsimp only [List.cons_append,List.nil_append]
 obtain ⟨hk,hi⟩:=hok
 refine uAd ?_;refine uAd (uAb ?_);refine uAa rfl rfl rfl (uAc rfl gU) ?_;refine uAa rfl rfl rfl (uAc rfl gU) ?_;refine uAI rfl rfl rfl rfl rfl gU rfl rfl ?_ (fun hh=>by simp at hh); intro hlen;refine uAa rfl rfl rfl (uAm rfl rfl gU gU rfl) ?_;refine uAf ?_;refine uAn rfl (fun hc=>?_) (fun hc=>?_)
 ·try simp only [nn,uAj,T.rows_len,Sy.rows_len] at hc
  have hlt : k < symL.length:=by omega
  refine uAo ?_;refine uAd ?_;refine uAr ?_;refine uAd ?_;refine awp_drawn' (by kernel_rfl) ?_;refine uAw rfl rfl rfl rfl (uAc rfl gU) ?_;refine uAw rfl rfl rfl rfl (uAc rfl gU) ?_;refine uAw rfl rfl rfl rfl (uAv rfl rfl gU gU rfl rfl rfl (fun hh=>Sy.rows_at (by first|omega|(simp at hh ⊢; omega)))) ?_;refine uAw rfl rfl rfl rfl (uA2 rfl gU rfl rfl) ?_;refine uAw rfl rfl rfl rfl (uAU rfl gU rfl rfl rfl) ?_;refine uAw rfl rfl rfl rfl (uAg rfl gU rfl rfl) ?_;refine uBO rfl rfl rfl rfl rfl rfl rfl gU rfl rfl rfl rfl ?_;refine uAw rfl rfl rfl rfl (uA7 rfl rfl gU gU rfl) ?_;refine uA5 (by kernel_rfl) ?_;refine uAk (s:=⟨[(1,_,_),(3,_,_),(4,_,_),(19,_,_)],[(.l 1,_)],[],[]⟩) (uAi (⟨sx rfl,sx rfl,sx rfl,sx rfl,trivial⟩) (⟨sx rfl,trivial⟩) trivial) ?_;refine uAn rfl (fun hc2=>?_) (fun hc2=>?_)
  ·try simp only [nn,uAj,T.rows_len,Sy.rows_len] at hc2
   have := uKW hlt hi hc2
   rw[uHe,this]
   refine uAd ?_;refine awp_drawn' (by kernel_rfl) ?_;refine uAw rfl rfl rfl rfl (uAg rfl gU rfl rfl) ?_;refine uBO rfl rfl rfl rfl rfl rfl rfl gU rfl rfl rfl rfl ?_;refine uAw rfl rfl rfl rfl (uA9 rfl gU rfl rfl) ?_;refine uAw rfl rfl rfl rfl (uAc rfl gU) ?_;refine uAw rfl rfl rfl rfl (uAc rfl gU) ?_;refine uAw rfl rfl rfl rfl (uAv rfl rfl gU gU rfl rfl rfl (fun hh=>Sy.rows_at (by first|omega|(simp at hh ⊢; omega)))) ?_;refine uAw rfl rfl rfl rfl (uA2 rfl gU rfl rfl) ?_;refine uAw rfl rfl rfl rfl (uAU rfl gU rfl rfl rfl) ?_;refine uAw rfl rfl rfl rfl (uAm rfl rfl gU gU rfl) ?_;refine uAw rfl rfl rfl rfl (uAc rfl gU) ?_;refine uAw rfl rfl rfl rfl (uAg rfl gU rfl rfl) ?_;refine uBO rfl rfl rfl rfl rfl rfl rfl (fun hh=>hh) rfl rfl rfl rfl ?_;refine uAw rfl rfl rfl rfl (uA9 rfl (fun hh=>hh) rfl rfl) ?_;refine uAw rfl rfl rfl rfl (uAc rfl gU) ?_;refine uAw rfl rfl rfl rfl (uAc rfl gU) ?_;refine uAw rfl rfl rfl rfl (uAv rfl rfl (fun hh=>hh) (fun hh=>hh) rfl rfl rfl (fun hh=>Sy.rows_at (by first|omega|(simp at hh ⊢; omega)))) ?_;refine uAw rfl rfl rfl rfl (uA2 rfl (fun hh=>hh) rfl rfl) ?_;refine uAw rfl rfl rfl rfl (uAU rfl (fun hh=>hh) rfl rfl rfl) ?_;refine uAw rfl rfl rfl rfl (uAm rfl rfl (fun hh=>hh) (fun hh=>hh) rfl) ?_;refine uAw rfl rfl rfl rfl (uAP rfl rfl gU (fun _ hi=>gP rfl hi)) ?_
   refine uAw rfl rfl rfl rfl (uAe rfl gU) ?_;refine uA5 (by kernel_rfl) ?_;refine uAp ?_
   repeat(first|refine tR ?_|refine bR ?_)
   refine uAt rfl ?_ trivial;refine uCf ?_
   rw[Bool.eq_iff_iff]
   simp [hr2]
  ·try simp only [nn,uAj,T.rows_len,Sy.rows_len] at hc2
   refine uAo ?_;refine uAb ?_;refine uAa rfl rfl rfl (uAc rfl gU) ?_;refine uAa rfl rfl rfl (uAz rfl rfl gU gU rfl (IntWalk.i64_in _ (by omega))) ?_;refine uAa rfl rfl rfl (uAe rfl gU) ?_;refine uAf ?_;refine ⟨k + 1,?_,?_,uAi (⟨⟨_,rfl,?_⟩,⟨sx rfl,sx rfl,trivial⟩⟩) (⟨sx rfl,trivial⟩) trivial⟩
   all_goals (first|rfl|omega|exact ⟨by omega,fun j q=>by by_cases e : j=k; { subst e; exact hc2 }; { exact hi j (by omega) }⟩)
 ·try simp only [nn,uAj,T.rows_len,Sy.rows_len] at hc
  have hke : k=symL.length:=by omega
  subst hke
  have := uHP hi
  refine uAJ ?_
  repeat(first|refine uAC ?_|refine uAD ?_|refine uAB rfl ?_)
  refine uAd (uAb ?_);refine uAa rfl rfl rfl (uAe rfl gU) ?_;refine uAf ?_;refine uAp ?_
  repeat(first|refine tR ?_|refine bR ?_)
  refine uAt rfl ?_ trivial
  (rw[uHe,this]; rfl)
def agtT (x : T) : Bool:=decide (x.kind≠3) && decide (x.sort=1)
theorem uJ7 (t : T) (hn : ¬ t.name=[110,101,119]) : Ctr sys 125 [xm t] [] (xb (t.kids.all agtT)) none []:=by
 have hr2:=T.rows_len t.kids
 refine uAA Tryz.func125 rfl rfl rfl rfl rfl rfl ?_;refine uAd (uAb ?_);refine uAq rfl (uAK rfl rfl rfl rfl) ?_;refine uAa rfl rfl rfl (uAe rfl gU) ?_;refine uAf ?_;refine uAd ?_;refine uAd (uAb ?_);refine uAa rfl rfl rfl (uAg rfl gU rfl rfl) ?_;refine uAa rfl rfl rfl (uAh rfl gU rfl rfl rfl rfl) ?_;refine uAa rfl rfl rfl (uA7 rfl rfl gU gU rfl) ?_;refine uAf ?_;refine uAk (s:=⟨[(1,_,_),(6,_,_)],[(.l 1,_)],[],[]⟩) (uAi (⟨sx rfl,sx rfl,trivial⟩) (⟨sx rfl,trivial⟩) trivial) ?_;refine uAn rfl (fun hc=>?_) (fun hc=>?_)
 ·try simp only [nn,uAj,T.rows_len,Sy.rows_len] at hc
  exact absurd hc hn
 ·try simp only [nn,uAj,T.rows_len,Sy.rows_len] at hc
  refine uAo ?_;refine uAd ?_;refine uAd (uAb ?_);refine uAa rfl rfl rfl (uAe rfl gU) ?_;refine uAf ?_;refine uAr ?_;refine uAW (ι:=Nat) { t:=[(1,_,_)],bx:=[(.l 1,_)],ow:=[] } (fun k=>[(3,true,xi (k : Int))]) (fun k=>[]) (fun k=>k≤t.kids.length ∧ ∀ j,j < k→agtT (t.kids.getD j default)=true) (fun k=>t.kids.length - k) (0) (⟨by omega,fun j hj=>by omega⟩) (uAi (⟨sx rfl,sx rfl,trivial⟩) (⟨sx rfl,trivial⟩) trivial) ?_
  intro k hok
  dsimp only [List.cons_append,List.nil_append]
  obtain ⟨hk,hi⟩:=hok
  refine uAd ?_;refine uAd (uAb ?_);refine uAa rfl rfl rfl (uAc rfl gU) ?_;refine uAa rfl rfl rfl (uAg rfl gU rfl rfl) ?_;refine uAa rfl rfl rfl (uAh rfl gU rfl rfl rfl rfl) ?_;refine uAI rfl rfl rfl rfl rfl gU rfl rfl ?_ (fun hh=>by simp at hh); intro hlen;refine uAa rfl rfl rfl (uAm rfl rfl gU gU rfl) ?_;refine uAf ?_;refine uAk (s:=⟨[(1,_,_),(3,_,_),(17,_,_)],[(.l 1,_)],[],[]⟩) (uAi (⟨sx rfl,sx rfl,sx rfl,trivial⟩) (⟨sx rfl,trivial⟩) trivial) ?_;refine uAn rfl (fun hc2=>?_) (fun hc2=>?_)
  ·try simp only [nn,uAj,T.rows_len,Sy.rows_len] at hc2
   have hlt : k < t.kids.length:=by omega
   have hmem : t.kids.getD k default ∈ t.kids:=by rw[List.getD_eq_getElem?_getD,List.getElem?_eq_getElem hlt]; exact List.getElem_mem _
   refine uAo ?_;refine uAd ?_;refine uAr ?_;refine uAd (uAb ?_);refine uAa rfl rfl rfl (uAg rfl gU rfl rfl) ?_;refine uAa rfl rfl rfl (uAh rfl gU rfl rfl rfl rfl) ?_;refine uAa rfl rfl rfl (uAc rfl gU) ?_;refine uAa rfl rfl rfl (uAv rfl rfl gU gU rfl rfl rfl (fun hh=>T.rows_at (by first|omega|(simp at hh ⊢; omega)))) ?_;refine uAa rfl rfl rfl (uA2 rfl gU rfl rfl) ?_;refine uAa rfl rfl rfl (uAU rfl gU rfl rfl rfl) ?_;refine uAa rfl rfl rfl (uAm rfl rfl gU gU rfl) ?_;refine uAa rfl rfl rfl (uAc rfl gU) ?_;refine uAa rfl rfl rfl (uAg rfl gU rfl rfl) ?_;refine uAa rfl rfl rfl (uAh rfl (fun hh=>hh) rfl rfl rfl rfl) ?_;refine uAa rfl rfl rfl (uAc rfl gU) ?_;refine uAa rfl rfl rfl (uAv rfl rfl (fun hh=>hh) (fun hh=>hh) rfl rfl rfl (fun hh=>T.rows_at (by first|omega|(simp at hh ⊢; omega)))) ?_;refine uBc (s:=⟨[(1,_,_),(3,_,_),(27,_,_),(31,_,_)],[(.l 1,_)],[],[]⟩) (uAi (⟨sx rfl,sx rfl,sx rfl,sx rfl,trivial⟩) (⟨sx rfl,trivial⟩) trivial) ?_;refine uAa rfl rfl rfl (uA2 rfl (fun hh=>hh) rfl rfl) ?_;refine uAa rfl rfl rfl (uAU rfl (fun hh=>hh) rfl rfl rfl) ?_;refine uAa rfl rfl rfl (uAm rfl rfl (fun hh=>hh) gU rfl) ?_;refine uAa rfl rfl rfl (uAL rfl rfl gU (fun _ hi=>gP rfl hi)) ?_;refine uAf ?_;refine uAn rfl (fun hc3=>?_) (fun hc3=>?_)
   ·try simp only [nn,uAj,T.rows_len,Sy.rows_len] at hc3
    have hx : ¬ agtT (t.kids.getD k default)=true:=by
     simp only [agtT,Bool.and_eq_true,decide_eq_true_eq]; omega
    have : t.kids.all agtT=false:=by
     rw[Bool.eq_false_iff]; exact fun q=>hx (List.all_eq_true.1 q _ hmem)
    rw[this]
    refine uAd (uAb ?_);refine uAa rfl rfl rfl (uAe rfl gU) ?_;refine uAf ?_;refine uAp ?_
    repeat(first|refine tR ?_|refine bR ?_)
    refine uAt rfl ?_ trivial
    rfl
   ·try simp only [nn,uAj,T.rows_len,Sy.rows_len] at hc3
    have hx : agtT (t.kids.getD k default)=true:=by
     simp only [agtT,Bool.and_eq_true,decide_eq_true_eq]; omega
    refine uAo ?_;refine uAb ?_;refine uAa rfl rfl rfl (uAc rfl gU) ?_;refine uAa rfl rfl rfl (uAz rfl rfl gU gU rfl (IntWalk.i64_in _ (by omega))) ?_;refine uAa rfl rfl rfl (uAe rfl gU) ?_;refine uAf ?_;refine ⟨k + 1,?_,?_,uAi (⟨⟨_,rfl,?_⟩,⟨sx rfl,trivial⟩⟩) (⟨sx rfl,trivial⟩) trivial⟩
    all_goals (first|rfl|omega|exact ⟨by omega,fun j q=>by by_cases e : j=k; { subst e; exact hx }; { exact hi j (by omega) }⟩)
  ·try simp only [nn,uAj,T.rows_len,Sy.rows_len] at hc2
   have : t.kids.all agtT=true:=by
    rw[List.all_eq_true]
    intro x hx
    obtain ⟨j,hj,e⟩:=List.mem_iff_getElem.1 hx
    have := hi j (by omega)
    rwa [List.getD_eq_getElem?_getD,List.getElem?_eq_getElem hj,Option.getD_some,e] at this
   rw[this]
   refine uAJ ?_
   repeat(first|refine uAC ?_|refine uAD ?_|refine uAB rfl ?_)
   refine uAd (uAb ?_);refine uAa rfl rfl rfl (uAe rfl gU) ?_;refine uAf ?_;refine uAp ?_
   repeat(first|refine tR ?_|refine bR ?_)
   refine uAt rfl ?_ trivial
   rfl
mutual
/-- Valid in the theory, at every node. -/
def okT : T→Bool
 | .mk k n s ks=>(decide (k≠3) || (decide (uDD n≠0) && uHe ⟨k,n,s,ks⟩ && decide (n≠[110,101,119]) && (decide (uDD n≠2) || ks.all agtT))) && okTs ks
def okTs : List T→Bool
 | []=>true
 | t :: ts=>okT t && okTs ts
end
theorem uKx : ∀ l : List T,okTs l=l.all okT
 | []=>by rw[okTs]; rfl
 | t :: ts=>by rw[okTs,uKx ts]; rfl
theorem uLB (t : T) : okT t=((decide (t.kind≠3) || (decide (uDD t.name≠0) && uHe t && decide (t.name≠[110,101,119]) && (decide (uDD t.name≠2) || t.kids.all agtT))) && t.kids.all okT):=by cases t; rw[okT,uKx]; rfl
theorem uI9 : ∀ (m : Nat) (t : T),t.size≤m→m≤900000→okT t=true→Ctr sys 97 [xm t] [] (xi 0) none []:=by
 intro m
 induction m with
 | zero=>intro t h; have := t.size_pos; omega
 | succ m ih =>
  intro t ht hm hok
  have hr:=T.rows_len t.kids
  have hls:=T.len_sizes t.kids
  have hse:=t.size_eq
  rw[uLB,Bool.and_eq_true,Bool.or_eq_true] at hok
  obtain ⟨h1,h2⟩:=hok
  refine uAA Tryz.func97 rfl rfl rfl rfl rfl rfl ?_;refine uAd (uAb ?_);refine uAq rfl (uAK rfl rfl rfl rfl) ?_;refine uAa rfl rfl rfl (uAe rfl gU) ?_;refine uAf ?_;refine uAd ?_;refine uAd (uAb ?_);refine uAa rfl rfl rfl (uAg rfl gU rfl rfl) ?_;refine uAa rfl rfl rfl (uAh rfl gU rfl rfl rfl rfl) ?_;refine uAa rfl rfl rfl (uAm rfl rfl gU gU rfl) ?_;refine uAf ?_;refine uAk (s:=⟨[(1,_,_),(8,_,_)],[(.l 1,_)],[],[]⟩) (uAi (⟨sx rfl,sx rfl,trivial⟩) (⟨sx rfl,trivial⟩) trivial) ?_;refine uAn rfl (fun hc=>?_) (fun hc=>?_)
  ·refine uAd (uAb ?_)
   refine uAa rfl rfl rfl (uAe rfl gU) ?_;refine uAf ?_;refine uAp ?_
   repeat(first|refine tR ?_|refine bR ?_)
   refine uAt rfl ?_ trivial
   rfl
  ·try simp only [nn,uAj,T.rows_len,Sy.rows_len] at hc
   have h3 : uDD t.name≠0∧uHe t=true∧t.name≠[110,101,119]∧(uDD t.name≠2∨t.kids.all agtT=true):=by
    simp only [Bool.and_eq_true,Bool.or_eq_true,decide_eq_true_eq] at h1
    rcases h1 with q | q
    ·exact absurd (by omega) q
    ·exact ⟨q.1.1.1,q.1.1.2,q.1.2,q.2⟩
   refine uAo ?_;refine uAd (uAb ?_);refine uAa rfl rfl rfl (uAg rfl gU rfl rfl) ?_;refine uAa rfl rfl rfl (uAh rfl gU rfl rfl rfl rfl) ?_;refine uAu rfl rfl rfl rfl rfl rfl gU gU (uHV _) rfl ?_;refine uAa rfl rfl rfl (uAe rfl gU) ?_;refine uAf ?_;refine uAd ?_;refine uAd (uAb ?_);refine uAa rfl rfl rfl (uAc rfl gU) ?_;refine uAa rfl rfl rfl (uAm rfl rfl gU gU rfl) ?_;refine uAf ?_;refine uAk (s:=⟨[(1,_,_),(3,_,_),(13,_,_)],[(.l 1,_)],[],[]⟩) (uAi (⟨sx rfl,sx rfl,sx rfl,trivial⟩) (⟨sx rfl,trivial⟩) trivial) ?_;refine uAn rfl (fun hc2=>?_) (fun hc2=>?_)
   ·try simp only [nn,uAj,T.rows_len,Sy.rows_len] at hc2
    exact absurd hc2 h3.1
   ·try simp only [nn,uAj,T.rows_len,Sy.rows_len] at hc2
    refine uAo ?_;refine uAd ?_;refine uAd (uAb ?_);refine uAa rfl rfl rfl (uAl rfl gU rfl rfl rfl rfl rfl) ?_;refine uAu rfl rfl rfl rfl rfl rfl gU gU (uMJ _) rfl ?_;refine uAa rfl rfl rfl (uA0 rfl gU) ?_;refine uAf ?_;refine uAn rfl (fun hc3=>?_) (fun hc3=>?_)
    ·try simp only [nn,uAj,T.rows_len,Sy.rows_len] at hc3
     rw[h3.2.1] at hc3
     cases hc3
    ·try simp only [nn,uAj,T.rows_len,Sy.rows_len] at hc3
     refine uAo ?_;refine uAd ?_;refine uAd (uAb ?_);refine uAa rfl rfl rfl (uAc rfl gU) ?_;refine uAa rfl rfl rfl (uAm rfl rfl gU gU rfl) ?_;refine uAa rfl rfl rfl (uAc rfl gU) ?_;refine uAa rfl rfl rfl (uAl rfl gU rfl rfl rfl rfl rfl) ?_;refine uAu rfl rfl rfl rfl rfl rfl gU (fun hh=>gA ((fun hh=>hh) hh) (rfl)) (uJ7 t h3.2.2.1) rfl ?_;refine uAa rfl rfl rfl (uA0 rfl (fun hh=>hh)) ?_;refine uAa rfl rfl rfl (uAP rfl rfl gU (fun _ hi=>gP rfl hi)) ?_;refine uAf ?_;refine uAk (s:=⟨[(1,_,_),(23,_,_)],[(.l 1,_)],[],[]⟩) (uAi (⟨sx rfl,sx rfl,trivial⟩) (⟨sx rfl,trivial⟩) trivial) ?_;refine uAn rfl (fun hc4=>?_) (fun hc4=>?_)
     ·try simp only [nn,uAj,T.rows_len,Sy.rows_len] at hc4
      exfalso
      rcases h3.2.2.2 with q | q
      ·exact q hc4.1
      ·rw[q] at hc4; exact Bool.noConfusion hc4.2
     ·try simp only [nn,uAj,T.rows_len,Sy.rows_len] at hc4
      refine uAo ?_;refine uAd ?_;refine uAd (uAb ?_);refine uAa rfl rfl rfl (uAe rfl gU) ?_;refine uAf ?_;refine uAr ?_;refine uAW (ι:=Nat) { t:=[(1,_,_)],bx:=[(.l 1,_)],ow:=[] } (fun k=>[(4,true,xi (k : Int))]) (fun k=>[]) (fun k=>k≤t.kids.length) (fun k=>t.kids.length - k) (0) (by simp) (uAi (⟨sx rfl,sx rfl,trivial⟩) (⟨sx rfl,trivial⟩) trivial) ?_
      intro k hoka
      dsimp only [List.cons_append,List.nil_append]
      refine uAd ?_;refine uAd (uAb ?_);refine uAa rfl rfl rfl (uAc rfl gU) ?_;refine uAa rfl rfl rfl (uAg rfl gU rfl rfl) ?_;refine uAa rfl rfl rfl (uAh rfl gU rfl rfl rfl rfl) ?_;refine uAI rfl rfl rfl rfl rfl gU rfl rfl ?_ (fun hh=>by simp at hh); intro hlen;refine uAa rfl rfl rfl (uAm rfl rfl gU gU rfl) ?_;refine uAf ?_;refine uAk (s:=⟨[(1,_,_),(4,_,_),(28,_,_)],[(.l 1,_)],[],[]⟩) (uAi (⟨sx rfl,sx rfl,sx rfl,trivial⟩) (⟨sx rfl,trivial⟩) trivial) ?_;refine uAn rfl (fun hc5=>?_) (fun hc5=>?_)
      ·try simp only [nn,uAj,T.rows_len,Sy.rows_len] at hc5
       have hlt : k < t.kids.length:=by omega
       have hmem : t.kids.getD k default ∈ t.kids:=by rw[List.getD_eq_getElem?_getD,List.getElem?_eq_getElem hlt]; exact List.getElem_mem _
       have hks:=uB7 hmem
       refine uAo ?_;refine uAd ?_;refine uAr ?_;refine uAd (uAb ?_);refine uAa rfl rfl rfl (uAg rfl gU rfl rfl) ?_;refine uAa rfl rfl rfl (uAh rfl gU rfl rfl rfl rfl) ?_;refine uAa rfl rfl rfl (uAc rfl gU) ?_;refine uAa rfl rfl rfl (uAv rfl rfl gU gU rfl rfl rfl (fun hh=>T.rows_at (by first|omega|(simp at hh ⊢; omega)))) ?_;refine uAa rfl rfl rfl (uAE rfl gU rfl rfl rfl rfl) ?_;refine uAu rfl rfl rfl rfl rfl rfl gU gU (ih (t.kids.getD k default) (by omega) (by omega) (List.all_eq_true.1 h2 _ hmem)) rfl ?_;refine uAa rfl rfl rfl (uAe rfl gU) ?_;refine uAf ?_;refine uAk (s:=⟨[(1,_,_),(4,_,_),(5,_,_)],[(.l 1,_)],[],[]⟩) (uAi (⟨sx rfl,sx rfl,sx rfl,trivial⟩) (⟨sx rfl,trivial⟩) trivial) ?_;refine uAd (uAb ?_);refine uAa rfl rfl rfl (uAc rfl gU) ?_;refine uAa rfl rfl rfl (uAm rfl rfl gU gU rfl) ?_;refine uAf ?_;refine uAn rfl (fun hc6=>?_) (fun hc6=>?_)
       ·exfalso
        simp at hc6
       ·refine uAo ?_
        refine uAb ?_;refine uAa rfl rfl rfl (uAc rfl gU) ?_;refine uAa rfl rfl rfl (uAz rfl rfl gU gU rfl (IntWalk.i64_in _ (by omega))) ?_;refine uAa rfl rfl rfl (uAe rfl gU) ?_;refine uAf ?_;refine ⟨k + 1,?_,?_,uAi (⟨⟨_,rfl,?_⟩,⟨sx rfl,trivial⟩⟩) (⟨sx rfl,trivial⟩) trivial⟩
        all_goals (first|rfl|omega)
      ·try simp only [nn,uAj,T.rows_len,Sy.rows_len] at hc5
       refine uAJ ?_
       repeat(first|refine uAC ?_|refine uAD ?_|refine uAB rfl ?_)
       refine uAd (uAb ?_);refine uAa rfl rfl rfl (uAe rfl gU) ?_;refine uAf ?_;refine uAp ?_
       repeat(first|refine tR ?_|refine bR ?_)
       refine uAt rfl ?_ trivial
       rfl
theorem uI6 (t : T) (ht : t.size≤900000) (hv : uCb t=0) (hok : okT t=true) : Ctr sys 61 [xm t] [] (xi 0) none []:=by
 have h:=uHj t (by omega)
 rw[hv] at h
 refine uAA Tryz.func61 rfl rfl rfl rfl rfl rfl ?_;refine uAd (uAb ?_);refine uAq rfl (uAK rfl rfl rfl rfl) ?_;refine uAa rfl rfl rfl (uAe rfl gU) ?_;refine uAf ?_;refine uAd ?_;refine uAd (uAb ?_);refine uAa rfl rfl rfl (uAl rfl gU rfl rfl rfl rfl rfl) ?_;refine uAu rfl rfl rfl rfl rfl rfl gU gU (h) rfl ?_;refine uAa rfl rfl rfl (uAe rfl gU) ?_;refine uAf ?_;refine uAk (s:=⟨[(1,_,_),(3,_,_)],[(.l 1,_)],[],[]⟩) (uAi (⟨sx rfl,sx rfl,trivial⟩) (⟨sx rfl,trivial⟩) trivial) ?_;refine uAd (uAb ?_);refine uAa rfl rfl rfl (uAc rfl gU) ?_;refine uAa rfl rfl rfl (uAm rfl rfl gU gU rfl) ?_;refine uAf ?_;refine uAn rfl (fun hc=>?_) (fun hc=>?_)
 ·exfalso
  simp at hc
 ·refine uAo ?_
  refine uAd (uAb ?_);refine uAa rfl rfl rfl (uAl rfl gU rfl rfl rfl rfl rfl) ?_;refine uAu rfl rfl rfl rfl rfl rfl gU gU (uI9 _ t (Nat.le_refl _) ht hok) rfl ?_;refine uAa rfl rfl rfl (uAe rfl gU) ?_;refine uAf ?_;refine uAp ?_
  repeat(first|refine tR ?_|refine bR ?_)
  refine uAt rfl ?_ trivial
  rfl
def uMH (x : T) : Bool:=!(decide (x.kind=3) && (algE x.name || decide (uDD x.name=3)))
theorem uM6 (t : T) (ht : t.size≤900000) (hv : uCb t=0) (hok : okT t=true) (hfr : t.all.all uMH=true) : Ctr sys 29 [xm t] [] (xb true) none []:=by
 have hal:=T.all_len t
 have hr:=T.rows_len t.all
 refine uAA Tryz.func29 rfl rfl rfl rfl rfl rfl ?_;refine uAd (uAb ?_);refine uAq rfl (uAK rfl rfl rfl rfl) ?_;refine uAa rfl rfl rfl (uAe rfl gU) ?_;refine uAf ?_;refine uAd ?_;refine uAd (uAb ?_);refine uAa rfl rfl rfl (uAl rfl gU rfl rfl rfl rfl rfl) ?_;refine uAu rfl rfl rfl rfl rfl rfl gU gU (uI6 t ht hv hok) rfl ?_;refine uAa rfl rfl rfl (uAm rfl rfl gU gU rfl) ?_;refine uAf ?_;refine uAk (s:=⟨[(1,_,_),(7,_,_)],[(.l 1,_)],[],[]⟩) (uAi (⟨sx rfl,sx rfl,trivial⟩) (⟨sx rfl,trivial⟩) trivial) ?_;refine uAn rfl (fun hc=>?_) (fun hc=>?_)
 ·exfalso
  simp at hc
 ·refine uAo ?_
  refine uAd (uAb ?_);refine uAa rfl rfl rfl (uAl rfl gU rfl rfl rfl rfl rfl) ?_;refine uAu rfl rfl rfl rfl rfl rfl gU gU (uIu _ t (Nat.le_refl _) (by omega)) rfl ?_;refine uAa rfl rfl rfl (uAe rfl gU) ?_;refine uAf ?_;refine uAd ?_;refine uAd (uAb ?_);refine uAa rfl rfl rfl (uAe rfl gU) ?_;refine uAf ?_;refine uAr ?_;refine uAW (ι:=Nat) { t:=[(3,_,_)],bx:=[],ow:=[] } (fun k=>[(4,true,xi (k : Int))]) (fun k=>[]) (fun k=>k≤t.all.length) (fun k=>t.all.length - k) (0) (by simp) (uAi (⟨sx rfl,sx rfl,trivial⟩) trivial trivial) ?_
  intro k hok
  dsimp only [List.cons_append,List.nil_append]
  refine uAd ?_;refine uAd (uAb ?_);refine uAa rfl rfl rfl (uAc rfl gU) ?_;refine uAa rfl rfl rfl (uAc rfl gU) ?_;refine uAI rfl rfl rfl rfl rfl gU rfl rfl ?_ (fun hh=>by simp at hh); intro hlen;refine uAa rfl rfl rfl (uAm rfl rfl gU gU rfl) ?_;refine uAf ?_;refine uAn rfl (fun hc2=>?_) (fun hc2=>?_)
  ·try simp only [nn,uAj,T.rows_len,Sy.rows_len] at hc2
   have hlt : k < t.all.length:=by omega
   have hx:=List.all_eq_true.1 hfr _ (by rw[List.getD_eq_getElem?_getD,List.getElem?_eq_getElem hlt]; exact List.getElem_mem _ : t.all.getD k default ∈ t.all)
   refine uAo ?_;refine uAd ?_;refine uAr ?_;refine uAd (uAb ?_);refine uAa rfl rfl rfl (uAc rfl gU) ?_;refine uAa rfl rfl rfl (uAc rfl gU) ?_;refine uAa rfl rfl rfl (uAv rfl rfl gU gU rfl rfl rfl (fun hh=>T.rows_at (by first|omega|(simp at hh ⊢; omega)))) ?_;refine uAa rfl rfl rfl (uA2 rfl gU rfl rfl) ?_;refine uAa rfl rfl rfl (uAU rfl gU rfl rfl rfl) ?_;refine uAa rfl rfl rfl (uAm rfl rfl gU gU rfl) ?_;refine uAa rfl rfl rfl (uAc rfl gU) ?_;refine uAa rfl rfl rfl (uAc rfl gU) ?_;refine uBc (s:=⟨[(3,_,_),(4,_,_),(22,_,_),(23,_,_)],[],[],[]⟩) (uAi (⟨sx rfl,sx rfl,sx rfl,sx rfl,trivial⟩) trivial trivial) ?_;refine uAa rfl rfl rfl (uAc rfl gU) ?_;refine uAa rfl rfl rfl (uAv rfl rfl (fun hh=>hh) (fun hh=>hh) rfl rfl rfl (fun hh=>T.rows_at (by first|omega|(simp at hh ⊢; omega)))) ?_;refine uAa rfl rfl rfl (uA2 rfl (fun hh=>hh) rfl rfl) ?_;refine uAa rfl rfl rfl (uAU rfl (fun hh=>hh) rfl rfl rfl) ?_;refine uAu rfl rfl rfl rfl rfl rfl gU (fun hh=>gA ((fun hh=>hh) hh) (rfl)) (uGD _) rfl ?_;refine uAa rfl rfl rfl (uAc rfl (fun hh=>hh)) ?_;refine uAa rfl rfl rfl (uAc rfl gU) ?_;refine uAa rfl rfl rfl (uAc rfl gU) ?_;refine uAa rfl rfl rfl (uAv rfl rfl (fun hh=>hh) (fun hh=>hh) rfl rfl rfl (fun hh=>T.rows_at (by first|omega|(simp at hh ⊢; omega)))) ?_
   refine uAa rfl rfl rfl (uA2 rfl (fun hh=>hh) rfl rfl) ?_;refine uAa rfl rfl rfl (uAU rfl (fun hh=>hh) rfl rfl rfl) ?_;refine uAu rfl rfl rfl rfl rfl rfl gU (fun hh=>gA ((fun hh=>hh) hh) (rfl)) (uHV _) rfl ?_;refine uBc (s:=⟨[(3,_,_),(4,_,_),(22,_,_),(29,_,_),(35,_,_)],[],[],[]⟩) (uAi (⟨sx rfl,sx rfl,sx rfl,sx rfl,sx rfl,trivial⟩) trivial trivial) ?_;refine uAa rfl rfl rfl (uAm rfl rfl (fun hh=>hh) gU rfl) ?_;refine uAa rfl rfl rfl (uAL rfl rfl (fun hh=>hh) (fun hh hi=>gP hh hi)) ?_;refine uAa rfl rfl rfl (uAP rfl rfl gU (fun _ hi=>gP rfl hi)) ?_;refine uAf ?_;refine uAn rfl (fun hc3=>?_) (fun hc3=>?_)
   ·try simp only [nn,uAj,T.rows_len,Sy.rows_len] at hc3
    exfalso
    simp only [uMH,Bool.not_eq_true',Bool.and_eq_false_iff,Bool.or_eq_false_iff,decide_eq_false_iff_not] at hx
    rcases hx with q | q
    ·exact q hc3.1
    ·rcases hc3.2 with z | z
     ·rw[q.1] at z; cases z
     ·exact q.2 z
   ·try simp only [nn,uAj,T.rows_len,Sy.rows_len] at hc3
    refine uAo ?_;refine uAb ?_;refine uAa rfl rfl rfl (uAc rfl gU) ?_;refine uAa rfl rfl rfl (uAz rfl rfl gU gU rfl (IntWalk.i64_in _ (by omega))) ?_;refine uAa rfl rfl rfl (uAe rfl gU) ?_;refine uAf ?_;refine ⟨k + 1,?_,?_,uAi (⟨⟨_,rfl,?_⟩,⟨sx rfl,trivial⟩⟩) trivial trivial⟩
    all_goals (first|rfl|omega)
  ·try simp only [nn,uAj,T.rows_len,Sy.rows_len] at hc2
   refine uAJ ?_
   repeat(first|refine uAC ?_|refine uAD ?_|refine uAB rfl ?_)
   refine uAd (uAb ?_);refine uAa rfl rfl rfl (uAe rfl gU) ?_;refine uAf ?_;refine uAp ?_
   repeat(first|refine tR ?_|refine bR ?_)
   refine uAt rfl ?_ trivial
   rfl
def addS (t : T) (p : Bool × List T) (x : T) : Bool × List T:=if p.1=false∧t.cmp x≤0 then (true,(if t.cmp x < 0 then p.2++[t] else p.2)++[x]) else (p.1,p.2++[x])
def addL (l : List T) (t : T) : List T:=if (l.foldl (addS t) (false,[])).1=true then (l.foldl (addS t) (false,[])).2 else (l.foldl (addS t) (false,[])).2++[t]
theorem uMl (t : T) (l : List T) : ∀ p : Bool × List T,(∀ x ∈ (l.foldl (addS t) p).2,x ∈ p.2∨x ∈ l∨x=t)∧(l.foldl (addS t) p).2.length≤p.2.length + l.length + (if p.1=true then 0 else if (l.foldl (addS t) p).1=true then 1 else 0):=by
 induction l with
 | nil=>intro p; exact ⟨fun x hx=>.inl hx,by simp⟩
 | cons y l ih =>
  intro p
  obtain ⟨h1,h2⟩:=ih (addS t p y)
  rw[List.foldl_cons]
  constructor
  ·intro x hx
   rcases h1 x hx with q | q | q
   ·unfold addS at q
    split at q
    ·split at q
     ·simp only [List.mem_append,List.mem_singleton] at q
      rcases q with (q | q) | q
      ·exact .inl q
      ·exact .inr (.inr q)
      ·exact .inr (.inl (by simp [q]))
     ·simp only [List.mem_append,List.mem_singleton] at q
      rcases q with q | q
      ·exact .inl q
      ·exact .inr (.inl (by simp [q]))
    ·simp only [List.mem_append,List.mem_singleton] at q
     rcases q with q | q
     ·exact .inl q
     ·exact .inr (.inl (by simp [q]))
   ·exact .inr (.inl (by simp [q]))
   ·exact .inr (.inr q)
  ·have e : (addS t p y).2.length + (if (addS t p y).1=true then 0 else 1)≤p.2.length + 1 + (if p.1=true then 0 else 1)∧(p.1=true→(addS t p y).1=true∧(addS t p y).2.length=p.2.length + 1)∧((addS t p y).1=false→(addS t p y).2.length=p.2.length + 1):=by
    unfold addS
    cases hp : p.1 with
    | true=>simp
    | false =>
     by_cases hc : t.cmp y≤0
     ·simp only [hc,and_self,if_true]
      split <;> simp
     ·simp [hc]
   obtain ⟨e1,e2,e3⟩:=e
   simp only [List.length_cons]
   cases hp : p.1 with
   | true =>
    obtain ⟨q1,q2⟩:=e2 hp
    rw[q1] at h2
    simp at h2 ⊢; omega
   | false =>
    rw[hp] at e1
    cases hq : (addS t p y).1 with
    | true =>
     rw[hq] at h2 e1
     have hst : ∀ (l : List T) (p : Bool × List T),p.1=true→(l.foldl (addS t) p).1=true:=by
      intro l
      induction l with
      | nil=>intro p h; exact h
      | cons z l ihl =>
       intro p h
       rw[List.foldl_cons]
       refine ihl _ ?_
       unfold addS
       rw[h]; simp
     rw[hst l _ hq]
     simp at h2 e1 ⊢; omega
    | false =>
     have := e3 hq
     rw[hq] at h2
     simp at h2 ⊢; split at h2 <;> split <;> omega
theorem uPV (l : List T) (t : T) : (∀ x ∈ addL l t,x ∈ l∨x=t)∧(addL l t).length≤l.length + 1:=by
 obtain ⟨h1,h2⟩:=uMl t l (false,[])
 unfold addL
 split
 ·rename_i q
  rw[q] at h2
  exact ⟨fun x hx=>by rcases h1 x hx with z | z; { simp at z }; { exact z },by simpa using h2⟩
 ·rename_i q
  refine ⟨fun x hx=>?_,?_⟩
  ·rcases List.mem_append.1 hx with z | z
   ·rcases h1 x z with w | w
    ·simp at w
    ·exact w
   ·exact .inr (List.mem_singleton.1 z)
  ·rw[Bool.not_eq_true] at q
   rw[q] at h2
   simp at h2 ⊢; omega
def addP (l : List T) (t : T) (k : Nat) : Bool × List T:=(l.take k).foldl (addS t) (false,[])
theorem uNR {l : List T} {t : T} {k : Nat} (h : k < l.length) : addP l t (k + 1)=addS t (addP l t k) (l.getD k default):=by
 rw[addP,uBr (d:=default) h,List.foldl_append]; rfl
theorem uOK (l : List T) (t : T) (k : Nat) : (addP l t k).2.length≤l.length + 1:=by
 have := (uMl t (l.take k) (false,[])).2
 rw[List.length_take] at this
 simp only [addP]
 simp at this
 split at this <;> omega
theorem uOi (l : List T) (t : T) (hl : l.length≤900000) (h : ∀ x ∈ l,x.size≤900000) (ht : t.size≤900000) : Ctr sys 126 [xl l,xm t] [] (xl (addL l t)) none []:=by
 have hr:=T.rows_len l
 refine uAA Tryz.func126 rfl rfl rfl rfl rfl rfl ?_;refine uAd (uAb ?_);refine uAq rfl (uAK rfl rfl rfl rfl) ?_;refine uAq rfl (uBd (.inr rfl) rfl rfl) ?_;refine uAf ?_;refine uAd (uAb ?_);refine uAq rfl (uBd (.inr rfl) rfl rfl) ?_;refine uAf ?_;refine uAd (uAb ?_);refine uAa rfl rfl rfl (uAe rfl gU) ?_;refine uAf ?_;refine uAd ?_;refine uAd (uAb ?_);refine uAa rfl rfl rfl (uAe rfl gU) ?_;refine uAf ?_;refine uAk (s:=⟨[(0,_,_),(3,_,_),(5,_,_),(6,_,_),(7,_,_)],[(.l 3,_)],[(.t 5,_)],[]⟩) (uAi (⟨sx rfl,sx rfl,sx rfl,sx rfl,sx rfl,trivial⟩) (⟨sx rfl,trivial⟩) (⟨rfl,trivial⟩)) ?_;refine uAr ?_;refine uAW (ι:=Nat) { t:=[(0,_,_),(3,_,_)],bx:=[(.l 3,_)],ow:=[(.t 5,_)] } (fun k=>[(7,true,xi (k : Int)),(5,true,xl (addP l t k).2),(6,true,xb (addP l t k).1)]) (fun k=>[]) (fun k=>k≤l.length) (fun k=>l.length - k) (0) (by simp) (uAi (⟨sx rfl,sx rfl,sx rfl,sx rfl,sx rfl,trivial⟩) (⟨sx rfl,trivial⟩) (⟨rfl,trivial⟩)) ?_
 intro k hok
 dsimp only [List.cons_append,List.nil_append]
 have hpl:=uOK l t k
 have hpr:=T.rows_len (addP l t k).2
 refine uAd ?_;refine uAd (uAb ?_);refine uAa rfl rfl rfl (uAc rfl gU) ?_;refine uAa rfl rfl rfl (uAc rfl gU) ?_;refine uAI rfl rfl rfl rfl rfl gU rfl rfl ?_ (fun hh=>by simp at hh); intro hlen;refine uAa rfl rfl rfl (uAm rfl rfl gU gU rfl) ?_;refine uAf ?_;refine uAn rfl (fun hc=>?_) (fun hc=>?_)
 ·try simp only [nn,uAj,T.rows_len] at hc
  have hlt : k < l.length:=by omega
  have hz:=h _ (by rw[List.getD_eq_getElem?_getD,List.getElem?_eq_getElem hlt]; exact List.getElem_mem _ : l.getD k default ∈ l)
  have hS:=uNR (t:=t) hlt
  refine uAo ?_;refine uAd ?_;refine uAr ?_;refine uAd ?_;refine awp_drawn' (by kernel_rfl) ?_;refine uAF rfl rfl rfl rfl rfl rfl rfl gU rfl rfl rfl rfl rfl ?_;refine uAw rfl rfl rfl rfl (uAc rfl gU) ?_;refine uAw rfl rfl rfl rfl (uAc rfl gU) ?_;refine uAw rfl rfl rfl rfl (uAv rfl rfl gU gU rfl rfl rfl (fun hh=>T.rows_at (by first|omega|(simp at hh ⊢; omega)))) ?_;refine uAw rfl rfl rfl rfl (uAE rfl gU rfl rfl rfl rfl) ?_;refine uAZ rfl rfl rfl rfl rfl rfl rfl gU gU (uJb _ t (l.getD k default) (Nat.le_refl _) (by omega) (by omega)) rfl ?_;refine uAw rfl rfl rfl rfl (uAe rfl gU) ?_;refine uA5 (by kernel_rfl) ?_;refine uAk (s:=⟨[(0,_,_),(3,_,_),(5,_,_),(6,_,_),(7,_,_),(8,_,_)],[(.l 3,_)],[(.t 5,_)],[]⟩) (uAi (⟨sx rfl,sx rfl,sx rfl,sx rfl,sx rfl,sx rfl,trivial⟩) (⟨sx rfl,trivial⟩) (⟨(ak rfl (ak rfl (ak rfl (ak rfl (ak rfl (ak rfl (ak rfl (rfl)))))))),trivial⟩)) ?_;refine uAd ?_;refine uAd (uAb ?_);refine uAa rfl rfl rfl (uAc rfl gU) ?_;refine uAa rfl rfl rfl (uA0 rfl gU) ?_;refine uAa rfl rfl rfl (uAc rfl gU) ?_;refine uAa rfl rfl rfl (uAc rfl gU) ?_;refine uAa rfl rfl rfl (uAm rfl rfl (fun hh=>hh) gU rfl) ?_;refine uAa rfl rfl rfl (uAP rfl rfl gU (fun _ hi=>gP rfl hi)) ?_;refine uAf ?_;refine uAk (s:=⟨[(0,_,_),(3,_,_),(5,_,_),(6,_,_),(7,_,_),(8,_,_),(26,_,_)],[(.l 3,_)],[(.t 5,_)],[]⟩) (uAi (⟨sx rfl,sx rfl,sx rfl,sx rfl,sx rfl,sx rfl,sx rfl,trivial⟩) (⟨sx rfl,trivial⟩) (⟨rfl,trivial⟩)) ?_
  refine uAn rfl (fun hc2=>?_) (fun hc2=>?_)
  ·try simp only [nn,uAj,T.rows_len] at hc2
   refine uAd (uAb ?_);refine uAa rfl rfl rfl (uAe rfl gU) ?_;refine uAf ?_;refine uAd (uAb ?_);refine uAa rfl rfl rfl (uAc rfl gU) ?_;refine uAa rfl rfl rfl (uAm rfl rfl gU gU rfl) ?_;refine uAf ?_;refine uAn rfl (fun hc3=>?_) (fun hc3=>?_)
   ·try simp only [nn,uAj,T.rows_len] at hc3
    have e : addP l t (k + 1)=(true,(addP l t k).2++[t]++[l.getD k default]):=by rw[hS,addS,if_pos (by exact ⟨hc2.1,hc2.2⟩),if_pos hc3]
    have hpr2:=T.rows_len ((addP l t k).2++[t])
    rw[List.length_append,List.length_singleton] at hpr2
    refine uAb ?_;refine uAq rfl (uAM (.inl rfl) rfl rfl rfl) ?_;refine uAa rfl rfl rfl (uAl rfl gU rfl rfl rfl rfl rfl) ?_;refine uAN (xs:=[_]) rfl rfl rfl rfl rfl rfl rfl rfl rfl gU rfl ?_;refine uAq rfl (uAX rfl rfl rfl rfl rfl rfl rfl (by first|omega|(simp only [List.length_append,List.length_singleton,T.rows_len]; omega)) (by first|omega|(simp only [List.length_append,List.length_singleton,T.rows_len]; omega))) ?_;refine uAq rfl (uAM (.inr rfl) rfl rfl rfl) ?_;refine uAf ?_;refine uAk (s:=⟨[(0,_,_),(3,_,_),(5,_,_),(6,_,_),(7,_,_)],[(.l 3,_)],[(.t 5,_)],[]⟩) (uAi (⟨sx rfl,sx rfl,sx rfl,sx rfl,sx rfl,trivial⟩) (⟨sx rfl,trivial⟩) (⟨rfl,trivial⟩)) ?_;refine uAb ?_;refine uAq rfl (uAM (.inl rfl) rfl rfl rfl) ?_;refine uAa rfl rfl rfl (uAc rfl gU) ?_;refine uAa rfl rfl rfl (uAc rfl gU) ?_;refine uAa rfl rfl rfl (uAv rfl rfl gU gU rfl rfl rfl (fun hh=>T.rows_at (by first|omega|(simp at hh ⊢; omega)))) ?_;refine uAa rfl rfl rfl (uAE rfl gU rfl rfl rfl rfl) ?_;refine uAN (xs:=[_]) rfl rfl rfl rfl rfl rfl rfl rfl rfl gU rfl ?_;refine uAq rfl (uAX rfl rfl rfl rfl rfl rfl rfl (by first|omega|(simp only [List.length_append,List.length_singleton,T.rows_len]; omega)) (by first|omega|(simp only [List.length_append,List.length_singleton,T.rows_len]; omega))) ?_
    refine uAq rfl (uAM (.inr rfl) rfl rfl rfl) ?_;refine uAf ?_;refine uAk (s:=⟨[(0,_,_),(3,_,_),(5,_,_),(6,_,_),(7,_,_)],[(.l 3,_)],[(.t 5,_)],[]⟩) (uAi (⟨sx rfl,sx rfl,sx rfl,sx rfl,sx rfl,trivial⟩) (⟨sx rfl,trivial⟩) (⟨rfl,trivial⟩)) ?_;refine uAb ?_;refine uAa rfl rfl rfl (uAc rfl gU) ?_;refine uAa rfl rfl rfl (uAz rfl rfl gU gU rfl (IntWalk.i64_in _ (by omega))) ?_;refine uAa rfl rfl rfl (uAe rfl gU) ?_;refine uAf ?_;refine ⟨k + 1,?_,?_,uAi (⟨⟨_,rfl,?_⟩,⟨⟨_,rfl,?_⟩,⟨⟨_,rfl,?_⟩,⟨sx rfl,sx rfl,trivial⟩⟩⟩⟩) (⟨sx rfl,trivial⟩) (⟨rfl,trivial⟩)⟩
    all_goals (first|rfl|omega|exact tx (by rw[e]; simp [T.rows_eq]; first|rfl|exact ⟨rfl,rfl⟩)|exact tx (by rw[e]))
   ·try simp only [nn,uAj,T.rows_len] at hc3
    have e : addP l t (k + 1)=(true,(addP l t k).2++[l.getD k default]):=by rw[hS,addS,if_pos (by exact ⟨hc2.1,hc2.2⟩),if_neg hc3]
    refine uAo ?_;refine uAb ?_;refine uAq rfl (uAM (.inl rfl) rfl rfl rfl) ?_;refine uAa rfl rfl rfl (uAc rfl gU) ?_;refine uAa rfl rfl rfl (uAc rfl gU) ?_;refine uAa rfl rfl rfl (uAv rfl rfl gU gU rfl rfl rfl (fun hh=>T.rows_at (by first|omega|(simp at hh ⊢; omega)))) ?_;refine uAa rfl rfl rfl (uAE rfl gU rfl rfl rfl rfl) ?_;refine uAN (xs:=[_]) rfl rfl rfl rfl rfl rfl rfl rfl rfl gU rfl ?_;refine uAq rfl (uAX rfl rfl rfl rfl rfl rfl rfl (by first|omega|(simp only [List.length_append,List.length_singleton,T.rows_len]; omega)) (by first|omega|(simp only [List.length_append,List.length_singleton,T.rows_len]; omega))) ?_;refine uAq rfl (uAM (.inr rfl) rfl rfl rfl) ?_;refine uAf ?_;refine uAk (s:=⟨[(0,_,_),(3,_,_),(5,_,_),(6,_,_),(7,_,_)],[(.l 3,_)],[(.t 5,_)],[]⟩) (uAi (⟨sx rfl,sx rfl,sx rfl,sx rfl,sx rfl,trivial⟩) (⟨sx rfl,trivial⟩) (⟨rfl,trivial⟩)) ?_;refine uAb ?_;refine uAa rfl rfl rfl (uAc rfl gU) ?_;refine uAa rfl rfl rfl (uAz rfl rfl gU gU rfl (IntWalk.i64_in _ (by omega))) ?_;refine uAa rfl rfl rfl (uAe rfl gU) ?_;refine uAf ?_;refine ⟨k + 1,?_,?_,uAi (⟨⟨_,rfl,?_⟩,⟨⟨_,rfl,?_⟩,⟨⟨_,rfl,?_⟩,⟨sx rfl,sx rfl,trivial⟩⟩⟩⟩) (⟨sx rfl,trivial⟩) (⟨rfl,trivial⟩)⟩
    all_goals (first|rfl|omega|exact tx (by rw[e]; simp [T.rows_eq]; first|rfl|exact ⟨rfl,rfl⟩)|exact tx (by rw[e]))
  ·try simp only [nn,uAj,T.rows_len] at hc2
   have hn : ¬((addP l t k).1=false∧t.cmp (l.getD k default)≤0):=by
    rintro ⟨q1,q2⟩
    rcases hc2 with z | z
    ·rw[q1] at z; cases z
    ·omega
   have e : addP l t (k + 1)=((addP l t k).1,(addP l t k).2++[l.getD k default]):=by rw[hS,addS,if_neg hn]
   refine uAo ?_;refine uAb ?_;refine uAq rfl (uAM (.inl rfl) rfl rfl rfl) ?_;refine uAa rfl rfl rfl (uAc rfl gU) ?_;refine uAa rfl rfl rfl (uAc rfl gU) ?_;refine uAa rfl rfl rfl (uAv rfl rfl gU gU rfl rfl rfl (fun hh=>T.rows_at (by first|omega|(simp at hh ⊢; omega)))) ?_;refine uAa rfl rfl rfl (uAE rfl gU rfl rfl rfl rfl) ?_;refine uAN (xs:=[_]) rfl rfl rfl rfl rfl rfl rfl rfl rfl gU rfl ?_;refine uAq rfl (uAX rfl rfl rfl rfl rfl rfl rfl (by first|omega|(simp only [List.length_append,List.length_singleton,T.rows_len]; omega)) (by first|omega|(simp only [List.length_append,List.length_singleton,T.rows_len]; omega))) ?_;refine uAq rfl (uAM (.inr rfl) rfl rfl rfl) ?_;refine uAf ?_;refine uAk (s:=⟨[(0,_,_),(3,_,_),(5,_,_),(6,_,_),(7,_,_)],[(.l 3,_)],[(.t 5,_)],[]⟩) (uAi (⟨sx rfl,sx rfl,sx rfl,sx rfl,sx rfl,trivial⟩) (⟨sx rfl,trivial⟩) (⟨rfl,trivial⟩)) ?_;refine uAb ?_;refine uAa rfl rfl rfl (uAc rfl gU) ?_;refine uAa rfl rfl rfl (uAz rfl rfl gU gU rfl (IntWalk.i64_in _ (by omega))) ?_;refine uAa rfl rfl rfl (uAe rfl gU) ?_;refine uAf ?_;refine ⟨k + 1,?_,?_,uAi (⟨⟨_,rfl,?_⟩,⟨⟨_,rfl,?_⟩,⟨⟨_,rfl,?_⟩,⟨sx rfl,sx rfl,trivial⟩⟩⟩⟩) (⟨sx rfl,trivial⟩) (⟨rfl,trivial⟩)⟩
   all_goals (first|rfl|omega|exact tx (by rw[e]; simp [T.rows_eq]; first|rfl|exact ⟨rfl,rfl⟩)|exact tx (by rw[e]))
 ·try simp only [nn,uAj,T.rows_len] at hc
  have hke : k=l.length:=by omega
  subst hke
  have e : addP l t l.length=l.foldl (addS t) (false,[]):=by rw[addP,List.take_length]
  refine uAJ ?_
  repeat(first|refine uAC ?_|refine uAD ?_|refine uAB rfl ?_)
  refine uAd ?_;refine uAd (uAb ?_);refine uAa rfl rfl rfl (uAc rfl gU) ?_;refine uAa rfl rfl rfl (uA0 rfl gU) ?_;refine uAf ?_;refine uAk (s:=⟨[(3,_,_),(5,_,_),(41,_,_)],[(.l 3,_)],[(.t 5,_)],[]⟩) (uAi (⟨sx rfl,sx rfl,sx rfl,trivial⟩) (⟨sx rfl,trivial⟩) (⟨rfl,trivial⟩)) ?_;refine uAn rfl (fun hc2=>?_) (fun hc2=>?_)
  ·try simp only [nn,uAj,T.rows_len] at hc2
   rw[e] at hc2 hpr hpl
   rw[addL,if_neg (by rw[hc2]; simp),e]
   refine uAb ?_;refine uAq rfl (uAM (.inl rfl) rfl rfl rfl) ?_;refine uAa rfl rfl rfl (uAl rfl gU rfl rfl rfl rfl rfl) ?_;refine uAN (xs:=[_]) rfl rfl rfl rfl rfl rfl rfl rfl rfl gU rfl ?_;refine uAq rfl (uAX rfl rfl rfl rfl rfl rfl rfl (by first|omega|(simp only [List.length_append,List.length_singleton,T.rows_len]; omega)) (by first|omega|(simp only [List.length_append,List.length_singleton,T.rows_len]; omega))) ?_;refine uAq rfl (uAM (.inr rfl) rfl rfl rfl) ?_;refine uAf ?_;refine uAk (s:=⟨[(5,_,_)],[],[(.t 5,_)],[]⟩) (uAi (⟨sx rfl,trivial⟩) trivial (⟨rfl,trivial⟩)) ?_;refine uAd (uAb ?_);refine uAq rfl (uAM (.inl rfl) rfl rfl rfl) ?_;refine uAq rfl (uAM (.inr rfl) rfl rfl rfl) ?_;refine uAf ?_;refine uAp ?_
   repeat(first|refine tR ?_|refine bR ?_)
   refine uAt rfl ?_ trivial;exact (uEH _ _)
  ·try simp only [nn,uAj,T.rows_len] at hc2
   rw[e] at hc2
   rw[addL,if_pos hc2,e]
   refine uAo ?_;refine uAd (uAb ?_);refine uAq rfl (uAM (.inl rfl) rfl rfl rfl) ?_;refine uAq rfl (uAM (.inr rfl) rfl rfl rfl) ?_;refine uAf ?_;refine uAp ?_
   repeat(first|refine tR ?_|refine bR ?_)
   refine uAt rfl ?_ trivial
   rfl
def setL (l : List T) : List T:=l.foldl addL []
theorem uH3 (l : List T) (x : T) : setL (l++[x])=addL (setL l) x:=by simp [setL]
theorem uMI (l : List T) : (∀ x ∈ setL l,x ∈ l)∧(setL l).length≤l.length:=by
 refine uJF (P:=fun l=>(∀ x ∈ setL l,x ∈ l)∧(setL l).length≤l.length) ⟨fun x hx=>by simp [setL] at hx,by simp [setL]⟩ (fun l x ih=>?_) l
 obtain ⟨h1,h2⟩:=uPV (setL l) x
 rw[uH3]
 refine ⟨fun y hy=>?_,by rw[List.length_append,List.length_singleton]; omega⟩
 rcases h1 y hy with q | q
 ·exact List.mem_append_left _ (ih.1 y q)
 ·simp [q]
theorem uO6 (l : List T) (hl : l.length≤900000) (h : ∀ x ∈ l,x.size≤900000) : Ctr sys 99 [xl l] [] (xl (setL l)) none []:=by
 have hr:=T.rows_len l
 refine uAA Tryz.func99 rfl rfl rfl rfl rfl rfl ?_;refine uAd (uAb ?_);refine uAa rfl rfl rfl (uAe rfl gU) ?_;refine uAf ?_;refine uAd (uAb ?_);refine uAa rfl rfl rfl (uAe rfl gU) ?_;refine uAf ?_;refine uAd ?_;refine uAd (uAb ?_);refine uAa rfl rfl rfl (uAe rfl gU) ?_;refine uAf ?_;refine uAr ?_;refine uAW (ι:=Nat) { t:=[(0,_,_)],bx:=[],ow:=[] } (fun k=>[(4,true,xi (k : Int)),(3,true,xl (setL (l.take k)))]) (fun k=>[]) (fun k=>k≤l.length) (fun k=>l.length - k) (0) (by simp) (uAi (⟨sx rfl,sx rfl,sx rfl,trivial⟩) trivial trivial) ?_
 intro k hok
 dsimp only [List.cons_append,List.nil_append]
 obtain ⟨s1,s2⟩:=uMI (l.take k)
 have hsr:=T.rows_len (setL (l.take k))
 rw[List.length_take] at s2
 refine uAd ?_;refine uAd (uAb ?_);refine uAa rfl rfl rfl (uAc rfl gU) ?_;refine uAa rfl rfl rfl (uAc rfl gU) ?_;refine uAI rfl rfl rfl rfl rfl gU rfl rfl ?_ (fun hh=>by simp at hh); intro hlen;refine uAa rfl rfl rfl (uAm rfl rfl gU gU rfl) ?_;refine uAf ?_;refine uAn rfl (fun hc=>?_) (fun hc=>?_)
 ·try simp only [nn,uAj,T.rows_len] at hc
  have hlt : k < l.length:=by omega
  have hT:=uBr (l:=l) (d:=default) hlt
  have hm:=uBZ (d:=default) hlt
  refine uAo ?_;refine uAd ?_;refine uAr ?_;refine uAb ?_;refine uAa rfl rfl rfl (uAc rfl gU) ?_;refine uAa rfl rfl rfl (uAc rfl gU) ?_;refine uAa rfl rfl rfl (uAc rfl gU) ?_;refine uAa rfl rfl rfl (uAv rfl rfl gU gU rfl rfl rfl (fun hh=>T.rows_at (by first|omega|(simp at hh ⊢; omega)))) ?_;refine uAa rfl rfl rfl (uAE rfl gU rfl rfl rfl rfl) ?_;refine uAu rfl rfl rfl rfl rfl rfl gU gU (uOi _ _ (by omega) (fun x hx=>h x (List.mem_of_mem_take (s1 x hx))) (h _ hm)) rfl ?_;refine uAa rfl rfl rfl (uAe rfl gU) ?_;refine uAf ?_;refine uAk (s:=⟨[(0,_,_),(3,_,_),(4,_,_)],[],[],[]⟩) (uAi (⟨sx rfl,sx rfl,sx rfl,trivial⟩) trivial trivial) ?_;refine uAb ?_;refine uAa rfl rfl rfl (uAc rfl gU) ?_;refine uAa rfl rfl rfl (uAz rfl rfl gU gU rfl (IntWalk.i64_in _ (by omega))) ?_;refine uAa rfl rfl rfl (uAe rfl gU) ?_;refine uAf ?_;refine ⟨k + 1,?_,?_,uAi (⟨⟨_,rfl,?_⟩,⟨⟨_,rfl,?_⟩,⟨sx rfl,trivial⟩⟩⟩) trivial trivial⟩
  all_goals (first|rfl|omega|exact tx (by rw[hT,uH3]))
 ·try simp only [nn,uAj,T.rows_len] at hc
  have hke : k=l.length:=by omega
  subst hke
  rw[List.take_length]
  refine uAJ ?_
  repeat(first|refine uAC ?_|refine uAD ?_|refine uAB rfl ?_)
  refine uAd (uAb ?_);refine uAa rfl rfl rfl (uAc rfl gU) ?_;refine uAa rfl rfl rfl (uAe rfl gU) ?_;refine uAf ?_;refine uAp ?_
  repeat(first|refine tR ?_|refine bR ?_)
  refine uAt rfl ?_ trivial
  rfl
def uLx (t : T) : List T:=setL (t.all.filter fun x=>decide (x.kind=2))
theorem uKJ (t : T) (ht : t.size≤900000) (hz : ∀ x ∈ t.all,x.size≤900000) : Ctr sys 65 [xm t,xi 2] [] (xl (uLx t)) none []:=by
 have hal:=T.all_len t
 have hr:=T.rows_len t.all
 have hfl:=List.length_filter_le (fun x : T=>decide (x.kind=2)) t.all
 refine uAA Tryz.func65 rfl rfl rfl rfl rfl rfl ?_;refine uAd (uAb ?_);refine uAq rfl (uAK rfl rfl rfl rfl) ?_;refine uAq rfl (uBd (.inr rfl) rfl rfl) ?_;refine uAf ?_;refine uAd (uAb ?_);refine uAq rfl (uBd (.inr rfl) rfl rfl) ?_;refine uAf ?_;refine uAd (uAb ?_);refine uAa rfl rfl rfl (uAl rfl gU rfl rfl rfl rfl rfl) ?_;refine uAu rfl rfl rfl rfl rfl rfl gU gU (uIu _ t (Nat.le_refl _) (by omega)) rfl ?_;refine uAa rfl rfl rfl (uAe rfl gU) ?_;refine uAf ?_;refine uAk (s:=⟨[(1,_,_),(5,_,_),(6,_,_)],[],[(.t 5,_)],[]⟩) (uAi (⟨sx rfl,sx rfl,sx rfl,trivial⟩) trivial (⟨rfl,trivial⟩)) ?_;refine uAd ?_;refine uAd (uAb ?_);refine uAa rfl rfl rfl (uAe rfl gU) ?_;refine uAf ?_;refine uAr ?_;refine uAW (ι:=Nat) { t:=[(1,_,_),(6,_,_)],bx:=[],ow:=[(.t 5,_)] } (fun k=>[(7,true,xi (k : Int)),(5,true,xl ((t.all.take k).filter fun x=>decide (x.kind=2)))]) (fun k=>[]) (fun k=>k≤t.all.length) (fun k=>t.all.length - k) (0) (by simp) (uAi (⟨sx rfl,sx rfl,sx rfl,sx rfl,trivial⟩) trivial (⟨rfl,trivial⟩)) ?_
 intro k hok
 dsimp only [List.cons_append,List.nil_append]
 have hf2:=List.length_filter_le (fun x : T=>decide (x.kind=2)) (t.all.take k)
 have hf3:=T.rows_len ((t.all.take k).filter fun x=>decide (x.kind=2))
 rw[List.length_take] at hf2
 refine uAd ?_;refine uAd (uAb ?_);refine uAa rfl rfl rfl (uAc rfl gU) ?_;refine uAa rfl rfl rfl (uAc rfl gU) ?_;refine uAI rfl rfl rfl rfl rfl gU rfl rfl ?_ (fun hh=>by simp at hh); intro hlen;refine uAa rfl rfl rfl (uAm rfl rfl gU gU rfl) ?_;refine uAf ?_;refine uAn rfl (fun hc=>?_) (fun hc=>?_)
 ·try simp only [nn,uAj,T.rows_len] at hc
  have hlt : k < t.all.length:=by omega
  have hT:=uBr (l:=t.all) (d:=default) hlt
  refine uAo ?_;refine uAd ?_;refine uAr ?_;refine uAd (uAb ?_);refine uAa rfl rfl rfl (uAc rfl gU) ?_;refine uAa rfl rfl rfl (uAc rfl gU) ?_;refine uAa rfl rfl rfl (uAv rfl rfl gU gU rfl rfl rfl (fun hh=>T.rows_at (by first|omega|(simp at hh ⊢; omega)))) ?_;refine uAa rfl rfl rfl (uA2 rfl gU rfl rfl) ?_;refine uAa rfl rfl rfl (uAU rfl gU rfl rfl rfl) ?_;refine uAa rfl rfl rfl (uAc rfl gU) ?_;refine uAa rfl rfl rfl (uAm rfl rfl gU gU rfl) ?_;refine uAf ?_;refine uAk (s:=⟨[(1,_,_),(5,_,_),(6,_,_),(7,_,_),(22,_,_)],[],[(.t 5,_)],[]⟩) (uAi (⟨sx rfl,sx rfl,sx rfl,sx rfl,sx rfl,trivial⟩) trivial (⟨rfl,trivial⟩)) ?_;refine uAn rfl (fun hc2=>?_) (fun hc2=>?_)
  ·try simp only [nn,uAj,T.rows_len] at hc2
   refine uAb ?_;refine uAq rfl (uAM (.inl rfl) rfl rfl rfl) ?_;refine uAa rfl rfl rfl (uAc rfl gU) ?_;refine uAa rfl rfl rfl (uAc rfl gU) ?_;refine uAa rfl rfl rfl (uAv rfl rfl gU gU rfl rfl rfl (fun hh=>T.rows_at (by first|omega|(simp at hh ⊢; omega)))) ?_;refine uAa rfl rfl rfl (uAE rfl gU rfl rfl rfl rfl) ?_;refine uAN (xs:=[_]) rfl rfl rfl rfl rfl rfl rfl rfl rfl gU rfl ?_;refine uAq rfl (uAX rfl rfl rfl rfl rfl rfl rfl (by first|omega|(simp only [List.length_append,List.length_singleton,T.rows_len]; omega)) (by first|omega|(simp only [List.length_append,List.length_singleton,T.rows_len]; omega))) ?_;refine uAq rfl (uAM (.inr rfl) rfl rfl rfl) ?_;refine uAf ?_;refine uAk (s:=⟨[(1,_,_),(5,_,_),(6,_,_),(7,_,_)],[],[(.t 5,_)],[]⟩) (uAi (⟨sx rfl,sx rfl,sx rfl,sx rfl,trivial⟩) trivial (⟨rfl,trivial⟩)) ?_;refine uAb ?_;refine uAa rfl rfl rfl (uAc rfl gU) ?_;refine uAa rfl rfl rfl (uAz rfl rfl gU gU rfl (IntWalk.i64_in _ (by omega))) ?_;refine uAa rfl rfl rfl (uAe rfl gU) ?_;refine uAf ?_;refine ⟨k + 1,?_,?_,uAi (⟨⟨_,rfl,?_⟩,⟨⟨_,rfl,?_⟩,⟨sx rfl,sx rfl,trivial⟩⟩⟩) trivial (⟨rfl,trivial⟩)⟩
   all_goals (first|rfl|omega|exact tx ((uEH _ _).trans (by rw[hT,List.filter_append,List.filter_cons_of_pos (by simpa using hc2)]; rfl)))
  ·try simp only [nn,uAj,T.rows_len] at hc2
   refine uAo ?_;refine uAb ?_;refine uAa rfl rfl rfl (uAc rfl gU) ?_;refine uAa rfl rfl rfl (uAz rfl rfl gU gU rfl (IntWalk.i64_in _ (by omega))) ?_;refine uAa rfl rfl rfl (uAe rfl gU) ?_;refine uAf ?_;refine ⟨k + 1,?_,?_,uAi (⟨⟨_,rfl,?_⟩,⟨⟨_,rfl,?_⟩,⟨sx rfl,sx rfl,trivial⟩⟩⟩) trivial (⟨rfl,trivial⟩)⟩
   all_goals (first|rfl|omega|exact tx (by rw[hT,List.filter_append,List.filter_cons_of_neg (by simpa using hc2)]; simp))
 ·try simp only [nn,uAj,T.rows_len] at hc
  have hke : k=t.all.length:=by omega
  subst hke
  rw[List.take_length]
  refine uAJ ?_
  repeat(first|refine uAC ?_|refine uAD ?_|refine uAB rfl ?_)
  refine uAd (uAb ?_);refine uAa rfl rfl rfl (uAc rfl gU) ?_;refine uAu rfl rfl rfl rfl rfl rfl gU gU (uO6 _ (by omega) (fun x hx=>hz x (List.mem_filter.1 hx).1)) rfl ?_;refine uAa rfl rfl rfl (uAe rfl gU) ?_;refine uAf ?_;refine uAp ?_
  repeat(first|refine tR ?_|refine bR ?_)
  refine uAt rfl ?_ trivial
  rfl
theorem uK4 (t : T) (ht : t.size≤900000) (hz : ∀ x ∈ t.all,x.size≤900000) : Ctr sys 31 [xm t] [] (xl (uLx t)) none []:=by
 refine uAA Tryz.func31 rfl rfl rfl rfl rfl rfl ?_;refine uAd (uAb ?_);refine uAq rfl (uAK rfl rfl rfl rfl) ?_;refine uAa rfl rfl rfl (uAe rfl gU) ?_;refine uAf ?_;refine uAd (uAb ?_);refine uAa rfl rfl rfl (uAl rfl gU rfl rfl rfl rfl rfl) ?_;refine uAu rfl rfl rfl rfl rfl rfl gU gU (uKJ t ht hz) rfl ?_;refine uAa rfl rfl rfl (uAe rfl gU) ?_;refine uAf ?_;refine uAp ?_
 repeat(first|refine tR ?_|refine bR ?_)
 refine uAt rfl ?_ trivial
 rfl
theorem uNI (t : T) : Ctr sys 32 [xm t] [] (xb (decide (t.sort=0))) none []:=by
 refine uAA Tryz.func32 rfl rfl rfl rfl rfl rfl ?_;refine uAd (uAb ?_);refine uAq rfl (uAK rfl rfl rfl rfl) ?_;refine uAa rfl rfl rfl (uAe rfl gU) ?_;refine uAf ?_;refine uAd (uAb ?_);refine uAa rfl rfl rfl (uAg rfl gU rfl rfl) ?_;refine uAa rfl rfl rfl (uAh rfl gU rfl rfl rfl rfl) ?_;refine uAa rfl rfl rfl (uAm rfl rfl gU gU rfl) ?_;refine uAa rfl rfl rfl (uAe rfl gU) ?_;refine uAf ?_;refine uAp ?_
 repeat(first|refine tR ?_|refine bR ?_)
 refine uAt rfl ?_ trivial;refine uCf ?_
 rw[Bool.eq_iff_iff]; simp
theorem uJm (l : List T) (h : ∀ x ∈ l,x.sort≠0) : Ctr sys 64 [xl l, .fn 32 []] [] (xi (-1)) none []:=by
 have hr:=T.rows_len l
 refine uAA Tryz.func64 rfl rfl rfl rfl rfl rfl ?_;refine uAd (uAb ?_);refine uAa rfl rfl rfl (uAe rfl gU) ?_;refine uAf ?_;refine uAd ?_;refine uAd (uAb ?_);refine uAa rfl rfl rfl (uAc rfl gU) ?_;refine uAI rfl rfl rfl rfl rfl gU rfl rfl ?_ (fun hh=>by simp at hh); intro hlen;refine uAa rfl rfl rfl (uAc rfl gU) ?_;refine uAf ?_;refine uAr ?_;refine uAW (ι:=Nat) { t:=[(0,_,_),(1,_,_),(7,_,_)],bx:=[],ow:=[] } (fun k=>[(8,true,xi (k : Int))]) (fun k=>[]) (fun k=>k≤l.length) (fun k=>l.length - k) (0) (by simp) (uAi (⟨sx rfl,sx rfl,sx rfl,sx rfl,trivial⟩) trivial trivial) ?_
 intro k hok
 dsimp only [List.cons_append,List.nil_append]
 refine uAd (uAb ?_);refine uAa rfl rfl rfl (uAm rfl rfl gU gU rfl) ?_;refine uAf ?_;refine uAd ?_;refine uAn rfl (fun hc=>?_) (fun hc=>?_)
 ·try simp only [nn,uAj,T.rows_len] at hc
  have hlt : k < l.length:=by omega
  have hx:=h _ (uBZ (d:=default) hlt)
  refine uAo ?_;refine uAd ?_;refine uAr ?_;refine uAd (uAb ?_);refine uAa rfl rfl rfl (uAc rfl gU) ?_;refine uAa rfl rfl rfl (uAe rfl gU) ?_;refine uAf ?_;refine uAd (uAb ?_);refine uAa rfl rfl rfl (uAc rfl gU) ?_;refine uAa rfl rfl rfl (uAc rfl gU) ?_;refine uAa rfl rfl rfl (uAc rfl gU) ?_;refine uAa rfl rfl rfl (uAv rfl rfl gU gU rfl rfl rfl (fun hh=>T.rows_at (by first|omega|(simp at hh ⊢; omega)))) ?_;refine uAa rfl rfl rfl (uAE rfl gU rfl rfl rfl rfl) ?_;refine uAu rfl rfl rfl rfl rfl rfl gU gU (uNI _) rfl ?_;refine uAf ?_;refine uAk (s:=⟨[(0,_,_),(1,_,_),(5,_,_),(7,_,_),(8,_,_),(16,_,_)],[],[],[]⟩) (uAi (⟨sx rfl,sx rfl,sx rfl,sx rfl,sx rfl,sx rfl,trivial⟩) trivial trivial) ?_;refine uAn rfl (fun hc2=>?_) (fun hc2=>?_)
  ·try simp only [nn,uAj,T.rows_len] at hc2
   exact absurd hc2 hx
  ·try simp only [nn,uAj,T.rows_len] at hc2
   refine uAo ?_;refine uAb ?_;refine uAa rfl rfl rfl (uAz rfl rfl gU gU rfl (IntWalk.i64_in _ (by omega))) ?_;refine uAa rfl rfl rfl (uAc rfl gU) ?_;refine uAf ?_;refine ⟨k + 1,?_,?_,uAi (⟨⟨_,rfl,?_⟩,⟨sx rfl,sx rfl,sx rfl,trivial⟩⟩) trivial trivial⟩
   all_goals (first|rfl|omega)
 ·try simp only [nn,uAj,T.rows_len] at hc
  refine uAJ ?_
  repeat(first|refine uAC ?_|refine uAD ?_|refine uAB rfl ?_)
  refine uAd (uAb ?_);refine uAa rfl rfl rfl (uAe rfl gU) ?_;refine uAf ?_;refine uAp ?_
  repeat(first|refine tR ?_|refine bR ?_)
  refine uAt rfl ?_ trivial
  rfl
theorem uKw (l : List T) (h : ∀ x ∈ l,x.sort≠0) : Ctr sys 30 [xl l, .fn 32 []] [] (xb false) none []:=by
 refine uAA Tryz.func30 rfl rfl rfl rfl rfl rfl ?_;refine uAd (uAb ?_);refine uAa rfl rfl rfl (uAe rfl gU) ?_;refine uAf ?_;refine uAd (uAb ?_);refine uAa rfl rfl rfl (uAc rfl gU) ?_;refine uAa rfl rfl rfl (uAc rfl gU) ?_;refine uAu rfl rfl rfl rfl rfl rfl gU gU (uJm l h) rfl ?_;refine uAa rfl rfl rfl (uAm rfl rfl gU gU rfl) ?_;refine uAa rfl rfl rfl (uAe rfl gU) ?_;refine uAf ?_;refine uAp ?_
 repeat(first|refine tR ?_|refine bR ?_)
 refine uAt rfl ?_ trivial
 rfl
theorem uGn (p : T→Bool) (t : T) : t.all.all p=(p t && t.kids.all fun x=>x.all.all p):=by
 rw[T.all_eq,List.all_cons,T.alls_flat,List.all_flatten,List.all_map]; rfl
def uP9 (x : T) : Bool:=!(decide (x.kind=2) && decide (x.sort=0))
structure FinT (x : T) : Prop where
 nd : x.nodesE=0
 ok : okT x=true
 fr : x.all.all uMH=true
 so : x.all.all uP9=true
theorem uFB : ∀ {l : List T},T.nodesEs l=0 ↔ ∀ x ∈ l,x.nodesE=0
 | []=>by simp [T.nodesEs]
 | t :: l=>by
  rw[T.nodesEs]
  split
  ·rename_i h; simp [h]
  ·rename_i h; rw[uFB (l:=l)]; simp at h ⊢; exact fun _=>h
theorem nodesE_zero {t : T} : t.nodesE=0 ↔ uBS t=0 ∧ ∀ x ∈ t.kids,x.nodesE=0:=by
 rw[T.nodesE_eq]
 split
 ·rename_i h; simp [h]
 ·rename_i h; rw[uFB]; simp at h ⊢; exact fun _=>h
structure SymN (w : List UInt8) (k : Int) (p : Bool) : Prop where
 kind : uDD w=if p=true then 2 else 1
 fit : ∃ s,(symL.find? fun x=>decide (x.name=w))=some s∧s.least≤k∧k≤s.most
 new : w≠[110,101,119]
 alg : algE w=false
theorem uOc : SymN uHm 2 false:=⟨rfl,⟨_,rfl,by decide,by decide⟩,by decide,rfl⟩
theorem uPC : SymN wEnc 2 false:=⟨rfl,⟨_,rfl,by decide,by decide⟩,by decide,rfl⟩
theorem uPe : SymN uJU 2 false:=⟨rfl,⟨_,rfl,by decide,by decide⟩,by decide,rfl⟩
theorem uOX : SymN uJk 2 false:=⟨rfl,⟨_,rfl,by decide,by decide⟩,by decide,rfl⟩
theorem uOW : SymN uL7 1 false:=⟨rfl,⟨_,rfl,by decide,by decide⟩,by decide,rfl⟩
theorem uQH : SymN wPk 1 false:=⟨rfl,⟨_,rfl,by decide,by decide⟩,by decide,rfl⟩
theorem uQE : SymN wSk 1 true:=⟨rfl,⟨_,rfl,by decide,by decide⟩,by decide,rfl⟩
theorem uPM : SymN wShk 2 true:=⟨rfl,⟨_,rfl,by decide,by decide⟩,by decide,rfl⟩
theorem uPZ {g : ChG} {t : T} (h3 : t.kind=3) : chT g t=⟨3,t.name,t.sort,t.kids.map (chT g)⟩:=by
 rw[uHh,h3]; rfl
theorem uJS {g : ChG} {t : T} {w : List UInt8} {k : Int} {p : Bool} (hs : SymN w k p) (hi : isT t w k=true) (hn : t.nodesE=0)
  (hk : ∀ x ∈ t.kids,FinT (chT g x)) (hp : p=true → ∀ x ∈ t.kids,agtT (chT g x)=true) : FinT (chT g t):=by
 obtain ⟨h3,hw,hl⟩:=uBJ hi
 obtain ⟨z,_⟩:=nodesE_zero.1 hn
 rw[uPZ h3]
 rw[← hw] at hs
 clear hw hi
 obtain ⟨kd,nm,so,ks⟩:=t
 have h3' : kd=3:=h3
 have hs2 : SymN nm k p:=hs
 have hl2 : (ks.length : Int)=k:=hl
 have hk2 : ∀ x ∈ ks,FinT (chT g x):=hk
 have hp2 : p=true → ∀ x ∈ ks,agtT (chT g x)=true:=hp
 subst h3'
 show FinT ⟨3,nm,so,ks.map (chT g)⟩
 have hkd : ∀ {q : T→Bool},(∀ x ∈ ks,q (chT g x)=true)→(ks.map (chT g)).all q=true:=by
  intro q h
  rw[List.all_eq_true]
  intro y hy
  obtain ⟨x,hx,rfl⟩:=List.mem_map.1 hy
  exact h x hx
 refine ⟨?_,?_,?_,?_⟩
 ·rw[nodesE_zero]
  refine ⟨?_,fun y hy=>?_⟩
  ·unfold uBS at z ⊢
   simp only [T.kind,T.name,T.sort,T.kids,List.length_map] at z ⊢
   exact z
  ·obtain ⟨x,hx,rfl⟩:=List.mem_map.1 hy
   exact (hk2 x hx).nd
 ·rw[uLB,Bool.and_eq_true]
  refine ⟨?_,hkd fun x hx=>(hk2 x hx).ok⟩
  obtain ⟨s,f1,f2,f3⟩:=hs2.fit
  have hf : uHe ⟨3,nm,so,ks.map (chT g)⟩=true:=by
   show (match symL.find? fun x=>decide (x.name=nm) with
    | some x=>decide (x.least≤((ks.map (chT g)).length : Int)) && decide (((ks.map (chT g)).length : Int)≤x.most)
    | none=>false)=true
   rw[f1,List.length_map]
   simp only [Bool.and_eq_true,decide_eq_true_eq]
   omega
  rw[hf]
  show (decide ((3 : Int)≠3) || (decide (uDD nm≠0) && true && decide (nm≠[110,101,119]) && (decide (uDD nm≠2) || (ks.map (chT g)).all agtT)))=true
  simp only [Bool.or_eq_true,Bool.and_eq_true,decide_eq_true_eq]
  refine .inr ⟨⟨⟨?_,(by first|trivial|rfl)⟩,hs2.new⟩,?_⟩
  ·rw[hs2.kind]; split <;> decide
  ·cases p with
   | true=>exact .inr (hkd (hp2 rfl))
   | false=>refine .inl ?_; rw[hs2.kind]; decide
 ·rw[uGn,Bool.and_eq_true]
  refine ⟨?_,hkd fun x hx=>(hk2 x hx).fr⟩
  show (!(decide ((3 : Int)=3) && (algE nm || decide (uDD nm=3))))=true
  rw[hs2.alg,hs2.kind]
  cases p <;> rfl
 ·rw[uGn,Bool.and_eq_true]
  exact ⟨rfl,hkd fun x hx=>(hk2 x hx).so⟩
theorem uN0 {n : List UInt8} {s : Int} (hn : uCv n=true) (h0 : 1≤s) (h5 : s≤5) : FinT ⟨2,n,s,[]⟩:=by
 refine ⟨?_,?_,?_,?_⟩
 ·rw[nodesE_zero]
  refine ⟨?_,fun y hy=>by cases hy⟩
  show (if ((2 : Int)=1∨(2 : Int)=2)∧0≤s∧s≤5∧([] : List T).length=0∨(2 : Int)=3∧s=0 then (if uCv n=true then (if 8 < ([] : List T).length then 3 else 0) else 2) else 1)=(0 : Int)
  rw[if_pos (.inl ⟨.inr rfl,by omega,h5,rfl⟩),if_pos hn]; rfl
 ·rw[uLB]; rfl
 ·rw[uGn]; rfl
 ·rw[uGn,Bool.and_eq_true]
  refine ⟨?_,rfl⟩
  show (!(decide ((2 : Int)=2) && decide (s=0)))=true
  rw[decide_eq_false (by omega : ¬ s=0)]; rfl
theorem uNJ {α β : Type} {f : α→β} {l : List α} (h : (l.map f).Nodup) {a b : α} (ha : a ∈ l) (hb : b ∈ l) (e : f a=f b) : a=b:=by
 obtain ⟨i,hi,rfl⟩:=List.mem_iff_getElem.1 ha
 obtain ⟨j,hj,rfl⟩:=List.mem_iff_getElem.1 hb
 have h3 : (l.map f)[i]'(by simpa using hi)=(l.map f)[j]'(by simpa using hj):=by rw[List.getElem_map,List.getElem_map,e]
 have := uMY h h3
 subst this; rfl
theorem uJq {l : List (List UInt8 × Int)} {k : List UInt8} (h : k ∈ l.map (·.1)) : (k,mapI l k) ∈ l:=by
 obtain ⟨e,he,hk⟩:=List.mem_map.1 h
 have hsome : (l.reverse.find? fun x=>decide (x.1=k)).isSome=true:=by
  rw[List.find?_isSome]
  exact ⟨e,by simpa using he,decide_eq_true hk⟩
 obtain ⟨x,hx⟩:=Option.isSome_iff_exists.1 hsome
 have h1 : x.1=k:=of_decide_eq_true (List.find?_some (p:=fun x : List UInt8 × Int=>decide (x.1=k)) hx)
 have h2 : x ∈ l:=by simpa using List.mem_of_find?_eq_some hx
 rw[mapI,hx]
 obtain ⟨x1,x2⟩:=x
 subst h1
 exact h2
theorem uLo {n : Nar} (h : ChkOk n) {k : List UInt8} (hk : k ∈ uB9 n) : 1≤mapI (nmsL n) k∧mapI (nmsL n) k≤5:=by
 have := uJq (l := nmsL n) hk
 generalize mapI (nmsL n) k=s at this
 unfold nmsL at this
 simp only [List.mem_append,List.mem_map,Prod.mk.injEq] at this
 rcases this with ⟨a,_,_,e⟩ | ⟨f,hf,_,e⟩ | ⟨a,_,_,e⟩
 ·omega
 ·have := h.nar.fresh f hf; omega
 ·omega
theorem uNH {n : Nar} (h : ChkOk n) {k : List UInt8} (hk : k ∈ n.roles) : mapI (nmsL n) k=1:=by
 have h1 : (k,(1 : Int)) ∈ nmsL n:=by unfold nmsL; simp only [List.mem_append,List.mem_map]; exact .inl ⟨k,hk,rfl⟩
 have h2:=uJq (l:=nmsL n) (List.mem_map.2 ⟨_,h1,rfl⟩ : k ∈ (nmsL n).map (·.1))
 have := uNJ (f := fun x : List UInt8 × Int=>x.1) (l := nmsL n) h.nd h2 h1 rfl
 exact congrArg Prod.snd this
theorem uHH {t : T} (h : uBS t=0) : uCv t.name=true:=by
 unfold uBS at h
 split at h
 ·split at h
  ·assumption
  ·cases h
 ·cases h
theorem uHx {n : Nar} (h : ChkOk n) {t : T} (hg : gdB t=true) (hn : t.nodesE=0) (hr : uEs n.roles t=true) : FinT (chT (srtG n) t)∧agtT (chT (srtG n) t)=true:=by
 rw[uEs,Bool.and_eq_true,decide_eq_true_eq] at hr
 obtain ⟨_,hk⟩:=uJZ hg (by omega)
 have hm:=List.contains_iff_mem.1 hr.2
 have hs:=uNH h hm
 have e : chT (srtG n) t=⟨2,t.name,1,[]⟩:=by
  rw[uHh,hr.1,hk]
  simp only [if_true,srtG,hs,List.map_nil]
 rw[e]
 exact ⟨uN0 (uHH (nodesE_zero.1 hn).1) (by decide) (by decide),rfl⟩
theorem uII {g : ChG} {t : T} {w : List UInt8} {p : Bool} (hs : SymN w 1 p) (hi : isT t w 1=true) (hn : t.nodesE=0)
  (hk : FinT (chT g (kid t 0))) (hp : p=true→agtT (chT g (kid t 0))=true) : FinT (chT g t):=by
 have hk1:=uFk (uBJ hi).2.2
 refine uJS hs hi hn (fun x hx=>?_) fun q x hx=>?_
 ·rw[hk1,List.mem_singleton] at hx; rw[hx]; exact hk
 ·rw[hk1,List.mem_singleton] at hx; rw[hx]; exact hp q
theorem uJK {t : T} {w : List UInt8} (hi : isT t w 1=true) : kid t 0 ∈ t.kids:=by
 rw[uFk (uBJ hi).2.2]; simp
theorem uGA {t : T} {w : List UInt8} (hi : isT t w 2=true) : kid t 0 ∈ t.kids∧kid t 1 ∈ t.kids:=by
 have := uER (uBJ hi).2.2
 rw[this]; simp
theorem uJJ {n : Nar} (h : ChkOk n) {t : T} (hg : gdB t=true) (hn : t.nodesE=0) (hr : uE0 n.roles t=true) : FinT (chT (srtG n) t):=by
 rw[uE0,Bool.and_eq_true] at hr
 have hm:=uJK hr.1
 obtain ⟨f1,f2⟩:=uHx h (uCW hg _ hm) ((nodesE_zero.1 hn).2 _ hm) hr.2
 exact uII uQE hr.1 hn f1 fun _=>f2
theorem uMd {n : Nar} (h : ChkOk n) {t : T} (hg : gdB t=true) (hn : t.nodesE=0) (hr : pubT n.roles t=true) : FinT (chT (srtG n) t):=by
 rw[pubT,Bool.and_eq_true] at hr
 have hm:=uJK hr.1
 exact uII uQH hr.1 hn (uJJ h (uCW hg _ hm) ((nodesE_zero.1 hn).2 _ hm) hr.2) fun q=>by cases q
theorem uGw {g : ChG} {t : T} {w : List UInt8} {p : Bool} (hs : SymN w 2 p) (hi : isT t w 2=true) (hn : t.nodesE=0)
  (h0 : FinT (chT g (kid t 0))) (h1 : FinT (chT g (kid t 1))) (hp : p=true→agtT (chT g (kid t 0))=true∧agtT (chT g (kid t 1))=true) : FinT (chT g t):=by
 have hk:=uER (uBJ hi).2.2
 refine uJS hs hi hn (fun x hx=>?_) fun q x hx=>?_
 ·rw[hk] at hx
  rcases List.mem_cons.1 hx with e | e
  ·rw[e]; exact h0
  ·rw[List.mem_singleton.1 e]; exact h1
 ·rw[hk] at hx
  rcases List.mem_cons.1 hx with e | e
  ·rw[e]; exact (hp q).1
  ·rw[List.mem_singleton.1 e]; exact (hp q).2
theorem uQz {n : Nar} (h : ChkOk n) : ∀ (m : Nat) (t : T),t.size≤m→gdB t=true→t.nodesE=0→uCw n.roles (uB9 n) t=0→FinT (chT (srtG n) t):=by
 intro m
 induction m with
 | zero=>intro t h; have := t.size_pos; omega
 | succ m ih =>
  intro t ht hg hn hc
  have hz:=nodesE_zero.1 hn
  rw[uDU] at hc
  split at hc
  ·rename_i h3
   obtain ⟨h2,hk⟩:=uJZ hg h3
   split at hc
   ·rename_i hm
    have hr:=uLo h (List.contains_iff_mem.1 hm)
    have e : chT (srtG n) t=⟨2,t.name,mapI (nmsL n) t.name,[]⟩:=by
     rw[uHh,h2,hk]
     simp only [if_true,srtG,List.map_nil]
    rw[e]
    exact uN0 (uHH hz.1) hr.1 hr.2
   ·cases hc
  ·split at hc
   ·cases hc
   ·rename_i k hl
    have hez:=errs_zero.1 hc
    have hin : ∀ x ∈ t.kids.take k,FinT (chT (srtG n) x):=fun x hx=>by
     have hm:=List.mem_of_mem_take hx
     have := uB7 hm
     exact ih x (by omega) (uCW hg x hm) (hz.2 x hm) (hez x hx)
    have hgk : ∀ x ∈ t.kids,gdB x=true∧x.nodesE=0:=fun x hx=>⟨uCW hg x hx,hz.2 x hx⟩
    unfold uB6 at hl
    split at hl
    ·rename_i q
     have e : 2=k:=Option.some.inj hl
     subst e
     have go : ∀ {w : List UInt8},SymN w 2 false→isT t w 2=true→FinT (chT (srtG n) t):=fun hs hi=>by
      have hk:=uER (uBJ hi).2.2
      rw[hk] at hin
      exact uGw hs hi hn (hin _ (by simp)) (hin _ (by simp)) fun q=>by cases q
     rcases q with q | q
     ·exact go uOc q
     ·exact go uPC q
    split at hl
    ·rename_i q
     have e : 1=k:=Option.some.inj hl
     subst e
     have hk:=uFk (uBJ q).2.2
     rw[hk] at hin
     exact uII uOW q hn (hin _ (by simp)) fun q=>by cases q
    split at hl
    ·rename_i q
     have e : 1=k:=Option.some.inj hl
     subst e
     have h0 : ∀ {w : List UInt8},isT t w 2=true→FinT (chT (srtG n) (kid t 0)):=fun hi=>by
      have hk:=uER (uBJ hi).2.2
      rw[hk] at hin
      exact hin _ (by simp)
     rcases q with q | q
     ·have hm:=(uGA q.1).2
      exact uGw uPe q.1 hn (h0 q.1) (uMd h (hgk _ hm).1 (hgk _ hm).2 q.2) fun q=>by cases q
     ·have hm:=(uGA q.1).2
      exact uGw uOX q.1 hn (h0 q.1) (uJJ h (hgk _ hm).1 (hgk _ hm).2 q.2) fun q=>by cases q
    split at hl
    ·rename_i q
     rcases q with q | q
     ·exact uMd h hg hn q
     ·obtain ⟨⟨⟨q1,q2⟩,q3⟩,q4⟩:=shkT_iff.1 q
      obtain ⟨m0,m1⟩:=uGA q1
      have f0:=uHx h (hgk _ m0).1 (hgk _ m0).2 q2
      have f1:=uHx h (hgk _ m1).1 (hgk _ m1).2 q3
      exact uGw uPM q1 hn f0.1 f1.1 fun _=>⟨f0.2,f1.2⟩
    ·cases hl
mutual
theorem uIH (g : ChG) : ∀ t : T,(chT g t).depth=t.depth
 | .mk k n s ks=>by rw[chT,T.depth,T.depth,uGU g ks]
theorem uGU (g : ChG) : ∀ l : List T,T.depths (chTs g l)=T.depths l
 | []=>by rw[chTs]
 | t :: ts=>by rw[chTs,T.depths,T.depths,uIH g t,uGU g ts]
end
structure FreeOk (t : T) : Prop where
 v : uCb t=0
 ok : okT t=true
 fr : t.all.all uMH=true
 at0 : ∀ x ∈ uLx t,x.sort≠0
 size : t.size≤400
theorem uJz {t : T} (h : uCb t=0) : t.nodesE=0∧t.size≤400∧t.depth≤40:=by
 unfold uCb at h
 split at h
 ·rename_i q; exact absurd h q
 ·rename_i q
  split at h
  ·cases h
  ·exact ⟨Decidable.not_not.1 q,by omega,by omega⟩
theorem uL3 {n : Nar} (h : ChkOk n) {t : T} (hm : MsgOk t) (hc : uCw n.roles (uB9 n) t=0) : FreeOk (chT (srtG n) t):=by
 have hgd:=uLc hm.raw
 have hv : uCb t=0:=by
  have := hm.raw
  unfold uDI at this
  split at this
  ·rename_i q; exact absurd this q
  ·rename_i q; exact Decidable.not_not.1 q
 obtain ⟨v1,v2,v3⟩:=uJz hv
 have hf:=uQz h _ t (Nat.le_refl _) hgd v1 hc
 have hs:=uJ8 (srtG n) t
 refine ⟨?_,hf.ok,hf.fr,fun x hx=>?_,by omega⟩
 ·have hd:=uIH (srtG n) t
  unfold uCb
  rw[if_neg (by rw[hf.nd]; simp),if_neg (by omega)]
 ·have h1:=(uMI _).1 x hx
  obtain ⟨h2,h3⟩:=List.mem_filter.1 h1
  have h4:=List.all_eq_true.1 hf.so x h2
  intro h0
  simp only [uP9,h0,of_decide_eq_true h3] at h4
  cases h4
theorem uNM {n : Nar} (h : (chkE uAH n).2=0) : (∀ s ∈ n.steps,uCw n.roles (uB9 n) s.msg=0) ∧ ∀ g ∈ n.goals,∀ t ∈ g.data,uCw n.roles (uB9 n) t=0:=by
 obtain ⟨c1,c2,c3⟩:=uL9 h
 have hu : (useE n).2=0:=by rw[c3]
 have hst : (lnE (uDS n) Sp.line n.steps).2=0∧(lnE (uDH n) Gl.line n.goals).2=0:=by
  unfold useE at hu
  split at hu
  ·rename_i q; exact absurd hu q
  ·rename_i q; exact ⟨Decidable.not_not.1 q,hu⟩
 refine ⟨fun s hs=>?_,fun g hg t ht=>?_⟩
 ·have hz:=lnE_zero.1 hst.1 s hs
  unfold uDS at hz
  split at hz
  ·rename_i q; exact absurd hz q
  ·exact hz
 ·have hz:=lnE_zero.1 hst.2 g hg
  have he : errs (uCw n.roles (uB9 n)) g.data=0:=by
   unfold uDH at hz
   split at hz
   ·cases hz
   split at hz
   ·rename_i q; exact absurd hz q.2
   ·exact hz
  exact errs_zero.1 he t ht
def uHb (n : Nar) : List T:=n.steps.map (·.msg)++(n.goals.map (·.data)).flatten
theorem uO9 {n : Nar} (h : (chkE uAH n).2=0) : ∀ t ∈ uHb (chN (srtG n) n),FreeOk t:=by
 have hok:=uK6 h
 obtain ⟨h1,h2⟩:=uNM h
 intro t ht
 rcases List.mem_append.1 ht with q | q
 ·obtain ⟨s,hs,rfl⟩:=List.mem_map.1 q
  obtain ⟨s0,hs0,rfl⟩:=List.mem_map.1 (show s ∈ n.steps.map (chS (srtG n)) from hs)
  exact uL3 hok (hok.nar.steps s0 hs0).2.2 (h1 s0 hs0)
 ·obtain ⟨d,hd,htd⟩:=List.mem_flatten.1 q
  obtain ⟨g,hg,rfl⟩:=List.mem_map.1 hd
  obtain ⟨g0,hg0,rfl⟩:=List.mem_map.1 (show g ∈ n.goals.map (chL (srtG n)) from hg)
  obtain ⟨t0,ht0,rfl⟩:=List.mem_map.1 (show t ∈ g0.data.map (chT (srtG n)) from htd)
  exact uL3 hok ((hok.nar.goals g0 hg0).data t0 ht0) (h2 g0 hg0 t0 ht0)
def hasB (l : List T) (u : T) : Bool:=l.any fun x=>x.cmp u == 0
mutual
theorem uJY : ∀ (t x : T),x ∈ t.all→x.size≤t.size
 | .mk k n s ks,x,h=>by
  rw[T.all] at h
  rw[T.size]
  rcases List.mem_cons.1 h with h | h
  ·rw[h,T.size]; omega
  ·have := uIC ks x h; omega
theorem uIC : ∀ (l : List T) (x : T),x ∈ T.alls l→x.size≤T.sizes l
 | [],x,h=>by rw[T.alls] at h; simp at h
 | t :: l,x,h=>by
  rw[T.alls] at h
  rw[T.sizes]
  rcases List.mem_append.1 h with h | h
  ·have := uJY t x h; omega
  ·have := uIC l x h; omega
end
def datL (l : List Gl) : List T:=(l.map (·.data)).flatten
theorem uNf (l : List Gl) (g : Gl) : datL (l++[g])=datL l++g.data:=by simp [datL]
theorem uJl : ∀ {l : List Gl},(∀ g ∈ l,g.data.length≤4)→(datL l).length≤4 * l.length
 | [],_=>by simp [datL]
 | x :: l,h=>by
  have := uJl (l := l) fun g hg=>h g (by simp [hg])
  have h0:=h x (by simp)
  simp only [datL,List.map_cons,List.flatten_cons,List.length_append,List.length_cons] at this ⊢
  omega
theorem uHp (n : Nar) (hd : ∀ g ∈ n.goals,g.data.length≤2097152) : Ctr sys 8 [xn n] [] (xb true) none []:=by
 refine uAA Tryz.func8 rfl rfl rfl rfl rfl rfl ?_;refine uAd (uAb ?_);refine uAq rfl (uAK rfl rfl rfl rfl) ?_;refine uAa rfl rfl rfl (uAe rfl gU) ?_;refine uAf ?_;refine uAd ?_;refine uAd (uAb ?_);refine uAu rfl rfl rfl rfl rfl rfl gU gU (uGE) rfl ?_;refine uAa rfl rfl rfl (uA0 rfl gU) ?_;refine uAa rfl rfl rfl (uAc rfl gU) ?_;refine uAa rfl rfl rfl (uAl rfl gU rfl rfl rfl rfl rfl) ?_;refine uAu rfl rfl rfl rfl rfl rfl gU (fun hh=>gA ((fun hh=>hh) hh) (rfl)) (uLJ n hd) rfl ?_;refine uAa rfl rfl rfl (uA0 rfl (fun hh=>hh)) ?_;refine uAa rfl rfl rfl (uAL rfl rfl gU (fun _ hi=>gP rfl hi)) ?_;refine uAf ?_;refine uAk (s:=⟨[(1,_,_),(19,_,_)],[(.l 1,_)],[],[]⟩) (uAi (⟨sx rfl,sx rfl,trivial⟩) (⟨sx rfl,trivial⟩) trivial) ?_;refine uAn rfl (fun hc=>?_) (fun hc=>?_)
 ·refine uAd (uAb ?_)
  refine uAu rfl rfl rfl rfl rfl rfl gU gU (uGE) rfl ?_;refine uAa rfl rfl rfl (uAe rfl gU) ?_;refine uAf ?_;refine uAp ?_
  repeat(first|refine tR ?_|refine bR ?_)
  refine uAt rfl ?_ trivial
  rfl
 ·try simp only [nn,uAj,T.rows_len,Gl.rows_len,Fs.rows_len,Sp.rows_len] at hc
  obtain ⟨p1,p2,p3,p4⟩:=uPL (n:=n) (by simpa using hc)
  have hsr:=uHO n p3 p4
  by_cases hq : (chkE uAH n).2=0
  ·have hE : resE n=(chN (srtG n) n,0,0):=by rw[resE,if_neg (by simpa using hq)]
   rw[hE] at hsr
   have hfr:=uO9 (n:=n) hq
   have hok:=uK6 (n:=n) hq
   have hl1 : (chN (srtG n) n).steps.length=n.steps.length:=by simp [chN]
   have hl2 : (chN (srtG n) n).goals.length=n.goals.length:=by simp [chN]
   have hs2:=hok.nar.s2
   have hg2:=hok.nar.g2
   have hdl : ∀ g ∈ (chN (srtG n) n).goals,g.data.length≤4:=fun g hg=>by
    obtain ⟨g0,hg0,rfl⟩:=List.mem_map.1 (show g ∈ n.goals.map (chL (srtG n)) from hg)
    have := (hok.nar.goals g0 hg0).d2
    show (g0.data.map (chT (srtG n))).length≤4
    simpa using this
   generalize chN (srtG n) n=N at hsr hfr hl1 hl2 hdl
   have lS:=Sp.rows_len N.steps
   have lG:=Gl.rows_len N.goals
   refine uAo ?_;refine uAd (uAb ?_);refine uAa rfl rfl rfl (uAl rfl gU rfl rfl rfl rfl rfl) ?_;refine uAu rfl rfl rfl rfl rfl rfl gU gU (hsr) rfl ?_;refine uAa rfl rfl rfl (uAc rfl gU) ?_;refine uAa rfl rfl rfl (uAs rfl gU rfl) ?_;refine uAa rfl rfl rfl (uAs rfl gU rfl) ?_;refine uAa rfl rfl rfl (uAs rfl gU rfl) ?_;refine uAq rfl (uAG rfl rfl rfl) ?_;refine uAq rfl (uAy rfl rfl rfl rfl rfl rfl rfl) ?_;refine uAa rfl rfl rfl (uAe rfl gU) ?_;refine uAa rfl rfl rfl (uAe rfl gU) ?_;refine uAf ?_;refine uAk (s:=⟨[(1,_,_),(3,_,_),(5,_,_)],[(.l 1,_),(.l 3,_)],[],[]⟩) (uAi (⟨sx rfl,sx rfl,sx rfl,trivial⟩) (⟨sx rfl,sx rfl,trivial⟩) trivial) ?_;refine uAd ?_;refine uAd (uAb ?_);refine uAa rfl rfl rfl (uAc rfl gU) ?_;refine uAa rfl rfl rfl (uAm rfl rfl gU gU rfl) ?_;refine uAf ?_;refine uAn rfl (fun hc2=>?_) (fun hc2=>?_)
   ·exfalso
    simp at hc2
   ·refine uAo ?_
    refine uAd (uAb ?_);refine uAq rfl (uBd (.inr rfl) rfl rfl) ?_;refine uAf ?_;refine uAd ?_;refine uAd (uAb ?_);refine uAa rfl rfl rfl (uAg rfl gU rfl rfl) ?_;refine uAa rfl rfl rfl (uAh rfl gU rfl rfl rfl rfl) ?_;refine uAI rfl rfl rfl rfl rfl gU rfl rfl ?_ (fun hh=>by simp at hh); intro hlen;refine uAa rfl rfl rfl (uAc rfl gU) ?_;refine uAf ?_;refine uAk (s:=⟨[(1,_,_),(3,_,_),(6,_,_),(34,_,_),(35,_,_),(36,_,_)],[(.l 1,_),(.l 3,_)],[(.t 6,_)],[]⟩) (uAi (⟨sx rfl,sx rfl,sx rfl,sx rfl,sx rfl,sx rfl,trivial⟩) (⟨sx rfl,sx rfl,trivial⟩) (⟨rfl,trivial⟩)) ?_;refine uAr ?_;refine uAW (ι:=Nat) { t:=[(1,_,_),(3,_,_),(34,_,_),(35,_,_)],bx:=[(.l 1,_),(.l 3,_)],ow:=[(.t 6,_)] } (fun k=>[(36,true,xi (k : Int)),(6,true,xl ((N.steps.take k).map (·.msg)))]) (fun k=>[]) (fun k=>k≤N.steps.length) (fun k=>N.steps.length - k) (0) (by simp) (uAi (⟨sx rfl,sx rfl,sx rfl,sx rfl,sx rfl,sx rfl,trivial⟩) (⟨sx rfl,sx rfl,trivial⟩) (⟨rfl,trivial⟩)) ?_
    intro k hoka
    dsimp only [List.cons_append,List.nil_append]
    have hml : ((N.steps.take k).map (·.msg)).length=k:=by rw[List.length_map,List.length_take]; omega
    have hmr:=T.rows_len ((N.steps.take k).map (·.msg))
    refine uAd (uAb ?_);refine uAa rfl rfl rfl (uAm rfl rfl gU gU rfl) ?_;refine uAf ?_;refine uAd ?_;refine uAn rfl (fun hc3=>?_) (fun hc3=>?_)
    ·try simp only [nn,uAj,T.rows_len,Gl.rows_len,Fs.rows_len,Sp.rows_len] at hc3
     have hlt : k < N.steps.length:=by omega
     have hT:=uBr (l:=N.steps) (d:=default) hlt
     refine uAo ?_;refine uAd ?_;refine uAr ?_;refine uAd (uAb ?_);refine uAa rfl rfl rfl (uAv rfl rfl gU gU rfl rfl rfl (fun hh=>Sp.rows_at (by first|omega|(simp at hh ⊢; omega)))) ?_;refine uAa rfl rfl rfl (uAE rfl gU rfl rfl rfl rfl) ?_;refine uAq rfl (uAG rfl rfl rfl) ?_;refine uAq rfl (uAy rfl rfl rfl rfl rfl rfl rfl) ?_;refine uAf ?_;refine uAb ?_;refine uAq rfl (uAM (.inl rfl) rfl rfl rfl) ?_;refine uAa rfl rfl rfl (uAg rfl gU rfl rfl) ?_;refine uAa rfl rfl rfl (uAl rfl gU rfl rfl rfl rfl rfl) ?_;refine uAN (xs:=[_]) rfl rfl rfl rfl rfl rfl rfl rfl rfl gU rfl ?_;refine uAq rfl (uAX rfl rfl rfl rfl rfl rfl rfl (by first|omega|(simp only [List.length_append,List.length_singleton,T.rows_len]; omega)) (by first|omega|(simp only [List.length_append,List.length_singleton,T.rows_len]; omega))) ?_;refine uAq rfl (uAM (.inr rfl) rfl rfl rfl) ?_;refine uAf ?_;refine uAk (s:=⟨[(1,_,_),(3,_,_),(6,_,_),(34,_,_),(35,_,_),(36,_,_)],[(.l 1,_),(.l 3,_)],[(.t 6,_)],[]⟩) (uAi (⟨sx rfl,sx rfl,sx rfl,sx rfl,sx rfl,sx rfl,trivial⟩) (⟨sx rfl,sx rfl,trivial⟩) (⟨rfl,trivial⟩)) ?_;refine uAb ?_;refine uAa rfl rfl rfl (uAz rfl rfl gU gU rfl (IntWalk.i64_in _ (by omega))) ?_;refine uAa rfl rfl rfl (uAc rfl gU) ?_;refine uAf ?_;refine ⟨k + 1,?_,?_,uAi (⟨⟨_,rfl,?_⟩,⟨⟨_,rfl,?_⟩,⟨sx rfl,sx rfl,sx rfl,sx rfl,trivial⟩⟩⟩) (⟨sx rfl,sx rfl,trivial⟩) (⟨rfl,trivial⟩)⟩
     all_goals (first|rfl|omega|exact tx ((uEH _ _).trans (by rw[hT,List.map_append]; rfl)))
    ·try simp only [nn,uAj,T.rows_len,Gl.rows_len,Fs.rows_len,Sp.rows_len] at hc3
     have hke : k=N.steps.length:=by omega
     subst hke
     rw[List.take_length] at hml hmr ⊢
     refine uAJ ?_
     repeat(first|refine uAC ?_|refine uAD ?_|refine uAB rfl ?_)
     refine uAd ?_;refine uAd (uAb ?_);refine uAa rfl rfl rfl (uAg rfl gU rfl rfl) ?_;refine uAa rfl rfl rfl (uAh rfl gU rfl rfl rfl rfl) ?_;refine uAI rfl rfl rfl rfl rfl gU rfl rfl ?_ (fun hh=>by simp at hh); intro hlen;refine uAa rfl rfl rfl (uAc rfl gU) ?_;refine uAf ?_;refine uAk (s:=⟨[(1,_,_),(3,_,_),(6,_,_),(47,_,_),(48,_,_),(49,_,_)],[(.l 1,_),(.l 3,_)],[(.t 6,_)],[]⟩) (uAi (⟨sx rfl,sx rfl,sx rfl,sx rfl,sx rfl,sx rfl,trivial⟩) (⟨sx rfl,sx rfl,trivial⟩) (⟨rfl,trivial⟩)) ?_;refine uAr ?_;refine uAW (ι:=Nat) { t:=[(1,_,_),(3,_,_),(47,_,_),(48,_,_)],bx:=[(.l 1,_),(.l 3,_)],ow:=[(.t 6,_)] } (fun k=>[(49,true,xi (k : Int)),(6,true,xl (N.steps.map (·.msg)++datL (N.goals.take k)))]) (fun k=>[]) (fun k=>k≤N.goals.length) (fun k=>N.goals.length - k) (0) (by simp) (uAi (⟨sx rfl,⟨⟨_,rfl,by exact tx (by simp [datL])⟩,⟨sx rfl,sx rfl,sx rfl,sx rfl,trivial⟩⟩⟩) (⟨sx rfl,sx rfl,trivial⟩) (⟨rfl,trivial⟩)) ?_
     intro k hokb
     dsimp only [List.cons_append,List.nil_append]
     have hdk:=uJl (l:=N.goals.take k) fun g hg=>hdl g (List.mem_of_mem_take hg)
     rw[List.length_take] at hdk
     have hmr2:=T.rows_len (N.steps.map (·.msg)++datL (N.goals.take k))
     rw[List.length_append] at hmr2
     refine uAd (uAb ?_);refine uAa rfl rfl rfl (uAm rfl rfl gU gU rfl) ?_;refine uAf ?_;refine uAd ?_;refine uAn rfl (fun hc4=>?_) (fun hc4=>?_)
     ·try simp only [nn,uAj,T.rows_len,Gl.rows_len,Fs.rows_len,Sp.rows_len] at hc4
      have hlt : k < N.goals.length:=by omega
      have hT:=uBr (l:=N.goals) (d:=default) hlt
      have hdg:=hdl _ (uBZ (d:=default) hlt)
      have hdr:=T.rows_len (N.goals.getD k default).data
      refine uAo ?_;refine uAd ?_;refine uAr ?_;refine uAd (uAb ?_);refine uAa rfl rfl rfl (uAv rfl rfl gU gU rfl rfl rfl (fun hh=>Gl.rows_at (by first|omega|(simp at hh ⊢; omega)))) ?_;refine uAa rfl rfl rfl (uAE rfl gU rfl rfl rfl rfl) ?_;refine uAq rfl (uAG rfl rfl rfl) ?_;refine uAq rfl (uAy rfl rfl rfl rfl rfl rfl rfl) ?_;refine uAf ?_;refine uAb ?_;refine uAq rfl (uAM (.inl rfl) rfl rfl rfl) ?_;refine uAa rfl rfl rfl (uAg rfl gU rfl rfl) ?_;refine uAa rfl rfl rfl (uAh rfl gU rfl rfl rfl rfl) ?_;refine uAq rfl (uAX rfl rfl rfl rfl rfl rfl rfl (by first|omega|(simp only [List.length_append,List.length_singleton,T.rows_len]; omega)) (by first|omega|(simp only [List.length_append,List.length_singleton,T.rows_len]; omega))) ?_;refine uAq rfl (uAM (.inr rfl) rfl rfl rfl) ?_;refine uAf ?_;refine uAk (s:=⟨[(1,_,_),(3,_,_),(6,_,_),(47,_,_),(48,_,_),(49,_,_)],[(.l 1,_),(.l 3,_)],[(.t 6,_)],[]⟩) (uAi (⟨sx rfl,sx rfl,sx rfl,sx rfl,sx rfl,sx rfl,trivial⟩) (⟨sx rfl,sx rfl,trivial⟩) (⟨rfl,trivial⟩)) ?_;refine uAb ?_;refine uAa rfl rfl rfl (uAz rfl rfl gU gU rfl (IntWalk.i64_in _ (by omega))) ?_;refine uAa rfl rfl rfl (uAc rfl gU) ?_;refine uAf ?_;refine ⟨k + 1,?_,?_,uAi (⟨⟨_,rfl,?_⟩,⟨⟨_,rfl,?_⟩,⟨sx rfl,sx rfl,sx rfl,sx rfl,trivial⟩⟩⟩) (⟨sx rfl,sx rfl,trivial⟩) (⟨rfl,trivial⟩)⟩
      all_goals (first|rfl|omega|exact tx ((uLQ _ _).trans (by rw[hT,uNf,List.append_assoc])))
     ·try simp only [nn,uAj,T.rows_len,Gl.rows_len,Fs.rows_len,Sp.rows_len] at hc4
      have hke : k=N.goals.length:=by omega
      subst hke
      rw[List.take_length]
      rw[List.take_length] at hmr2 hdk
      have hms : N.steps.map (·.msg)++datL N.goals=uHb N:=rfl
      rw[hms]
      have hL:=T.rows_len (uHb N)
      have hLb : (uHb N).length≤100:=by rw[← hms,List.length_append]; omega
      refine uAJ ?_
      repeat(first|refine uAC ?_|refine uAD ?_|refine uAB rfl ?_)
      refine uAd ?_;refine uAd (uAb ?_);refine uAa rfl rfl rfl (uAc rfl gU) ?_;refine uAI rfl rfl rfl rfl rfl gU rfl rfl ?_ (fun hh=>by simp at hh); intro hlen;refine uAa rfl rfl rfl (uAc rfl gU) ?_;refine uAf ?_;refine uAr ?_;refine uAW (ι:=Nat) { t:=[(1,_,_),(3,_,_),(58,_,_),(59,_,_)],bx:=[(.l 1,_),(.l 3,_)],ow:=[] } (fun k=>[(60,true,xi (k : Int))]) (fun k=>[]) (fun k=>k≤(uHb N).length) (fun k=>(uHb N).length - k) (0) (by simp) (uAi (⟨sx rfl,sx rfl,sx rfl,sx rfl,sx rfl,trivial⟩) (⟨sx rfl,sx rfl,trivial⟩) trivial) ?_
      intro k hokc
      dsimp only [List.cons_append,List.nil_append]
      refine uAd (uAb ?_);refine uAa rfl rfl rfl (uAm rfl rfl gU gU rfl) ?_;refine uAf ?_;refine uAd ?_;refine uAn rfl (fun hc5=>?_) (fun hc5=>?_)
      ·try simp only [nn,uAj,T.rows_len,Gl.rows_len,Fs.rows_len,Sp.rows_len] at hc5
       have hlt : k < (uHb N).length:=by omega
       have hf:=hfr _ (uBZ (d:=default) hlt)
       have hsz:=hf.size
       refine uAo ?_;refine uAd ?_;refine uAr ?_;refine uAd (uAb ?_);refine uAa rfl rfl rfl (uAv rfl rfl gU gU rfl rfl rfl (fun hh=>T.rows_at (by first|omega|(simp at hh ⊢; omega)))) ?_;refine uAa rfl rfl rfl (uAE rfl gU rfl rfl rfl rfl) ?_;refine uAq rfl (uAG rfl rfl rfl) ?_;refine uAq rfl (uAy rfl rfl rfl rfl rfl rfl rfl) ?_;refine uAf ?_;refine uAd (uAb ?_);refine uAa rfl rfl rfl (uAl rfl gU rfl rfl rfl rfl rfl) ?_;refine uAu rfl rfl rfl rfl rfl rfl gU gU (uM6 _ (by omega) hf.v hf.ok hf.fr) rfl ?_;refine uAa rfl rfl rfl (uA0 rfl gU) ?_;refine uAa rfl rfl rfl (uAc rfl gU) ?_;refine uAa rfl rfl rfl (uAl rfl gU rfl rfl rfl rfl rfl) ?_;refine uAu rfl rfl rfl rfl rfl rfl gU (fun hh=>gA ((fun hh=>hh) hh) (rfl)) (uK4 _ (by omega) (fun x hx=>by have := uJY _ x hx; omega)) rfl ?_;refine uAu rfl rfl rfl rfl rfl rfl gU (fun hh=>gA ((fun hh=>hh) hh) (gA rfl (rfl))) (uKw _ hf.at0) rfl ?_;refine uAa rfl rfl rfl (uAL rfl rfl gU (fun _ hi=>gP rfl hi)) ?_;refine uAf ?_;refine uAk (s := ⟨[(1,_,_),(3,_,_),(58,_,_),(59,_,_),(60,_,_),(71,_,_)],[(.l 1,_),(.l 3,_)],[],[]⟩) (uAi (⟨sx rfl,sx rfl,sx rfl,sx rfl,sx rfl,sx rfl,trivial⟩) (⟨sx rfl,sx rfl,trivial⟩) trivial) ?_;refine uAn rfl (fun hc6=>?_) (fun hc6=>?_)
       ·exfalso
        simp at hc6
       ·refine uAo ?_
        refine uAb ?_;refine uAa rfl rfl rfl (uAz rfl rfl gU gU rfl (IntWalk.i64_in _ (by omega))) ?_;refine uAa rfl rfl rfl (uAc rfl gU) ?_;refine uAf ?_;refine ⟨k + 1,?_,?_,uAi (⟨⟨_,rfl,?_⟩,⟨sx rfl,sx rfl,sx rfl,sx rfl,trivial⟩⟩) (⟨sx rfl,sx rfl,trivial⟩) trivial⟩
        all_goals (first|rfl|omega)
      ·try simp only [nn,uAj,T.rows_len,Gl.rows_len,Fs.rows_len,Sp.rows_len] at hc5
       refine uAJ ?_
       repeat(first|refine uAC ?_|refine uAD ?_|refine uAB rfl ?_)
       refine uAd (uAb ?_);refine uAa rfl rfl rfl (uAg rfl gU rfl rfl) ?_;refine uAa rfl rfl rfl (uAh rfl gU rfl rfl rfl rfl) ?_;refine uAI rfl rfl rfl rfl rfl gU rfl rfl ?_ (fun hh=>by simp at hh); intro hlen;refine uAa rfl rfl rfl (uAg rfl gU rfl rfl) ?_;refine uAa rfl rfl rfl (uAh rfl gU rfl rfl rfl rfl) ?_;refine uAI rfl rfl rfl rfl rfl gU rfl rfl ?_ (fun hh=>by simp at hh); intro hlen;refine uAa rfl rfl rfl (uAm rfl rfl gU gU rfl) ?_;refine uAa rfl rfl rfl (uAc rfl gU) ?_;refine uAa rfl rfl rfl (uAg rfl gU rfl rfl) ?_;refine uAa rfl rfl rfl (uAh rfl (fun hh=>hh) rfl rfl rfl rfl) ?_;refine uAa rfl rfl rfl (uA9 rfl (fun hh=>hh) rfl rfl) ?_;refine uBc (s:=⟨[(1,_,_),(80,_,_),(83,_,_)],[(.l 1,_)],[],[]⟩) (uAi (⟨sx rfl,sx rfl,sx rfl,trivial⟩) (⟨sx rfl,trivial⟩) trivial) ?_;refine uAa rfl rfl rfl (uAg rfl gU rfl rfl) ?_;refine uAa rfl rfl rfl (uAh rfl (fun hh=>hh) rfl rfl rfl rfl) ?_;refine uAa rfl rfl rfl (uA9 rfl (fun hh=>hh) rfl rfl) ?_;refine uAa rfl rfl rfl (uAm rfl rfl (fun hh=>hh) (fun hh=>hh) rfl) ?_;refine uAa rfl rfl rfl (uAP rfl rfl gU (fun _ hi=>gP rfl hi)) ?_;refine uAa rfl rfl rfl (uAe rfl gU) ?_;refine uAf ?_;refine uAp ?_
       repeat(first|refine tR ?_|refine bR ?_)
       refine uAt rfl ?_ trivial;refine uCf ?_
       simp [hl1,hl2,lS,lG,Sp.rows_len,Gl.rows_len]
  ·skip
   have hE : resE n=(nar0,(chkE uAH n).1,(chkE uAH n).2):=by rw[resE,if_pos hq]
   rw[hE] at hsr
   refine uAo ?_;refine uAd (uAb ?_);refine uAa rfl rfl rfl (uAl rfl gU rfl rfl rfl rfl rfl) ?_;refine uAu rfl rfl rfl rfl rfl rfl gU gU (hsr) rfl ?_;refine uAa rfl rfl rfl (uAc rfl gU) ?_;refine uAa rfl rfl rfl (uAs rfl gU rfl) ?_;refine uAa rfl rfl rfl (uAs rfl gU rfl) ?_;refine uAa rfl rfl rfl (uAs rfl gU rfl) ?_;refine uAq rfl (uAG rfl rfl rfl) ?_;refine uAq rfl (uAy rfl rfl rfl rfl rfl rfl rfl) ?_;refine uAa rfl rfl rfl (uAe rfl gU) ?_;refine uAa rfl rfl rfl (uAe rfl gU) ?_;refine uAf ?_;refine uAk (s:=⟨[(1,_,_),(3,_,_),(5,_,_)],[(.l 1,_),(.l 3,_)],[],[]⟩) (uAi (⟨sx rfl,sx rfl,sx rfl,trivial⟩) (⟨sx rfl,sx rfl,trivial⟩) trivial) ?_;refine uAd ?_;refine uAd (uAb ?_);refine uAa rfl rfl rfl (uAc rfl gU) ?_;refine uAa rfl rfl rfl (uAm rfl rfl gU gU rfl) ?_;refine uAf ?_;refine uAn rfl (fun hc2=>?_) (fun hc2=>?_)
   ·refine uAd (uAb ?_)
    refine uAa rfl rfl rfl (uAg rfl gU rfl rfl) ?_;refine uAa rfl rfl rfl (uAh rfl gU rfl rfl rfl rfl) ?_;refine uAI rfl rfl rfl rfl rfl gU rfl rfl ?_ (fun hh=>by simp at hh); intro hlen;refine uAa rfl rfl rfl (uAm rfl rfl gU gU rfl) ?_;refine uAa rfl rfl rfl (uAe rfl gU) ?_;refine uAf ?_;refine uAp ?_
    repeat(first|refine tR ?_|refine bR ?_)
    refine uAt rfl ?_ trivial;refine uCf ?_
    rfl
   ·exfalso
    have hz : ((chkE uAH n).2 != 0)=false:=hc2
    exact hq (by simpa using hz)
end Go.Proofs.YteidahabkfgfjaaGreat
namespace Go.Abs
def uBh (P : Program) (M : Nat) : Nat→TypeId→List C→Prop
 | 0,_,_=>False
 | n + 1,t,cs=>match P.underlying t with
  | some .bool=>∃ x,cs=[.b x]
  | some (.int k)=>∃ m,cs=[.i k m]∧(Lit.int k m).wf=true
  | some .string=>∃ l,cs=[.s l]∧l.length≤M
  | some (.slice e)=>∃ es,cs=[.sl (P.cellsOf e) es]∧es.length≤M ∧ ∀ row,row ∈ es→uBh P M n e row
  | some (.struct fs)=>uF9 (uBh P M n) fs.toList cs
  | some (.array m e)=>hasN (uBh P M n e) m cs
  | _=>False
section
variable {H : Type} {enc : TypeId × Value→H} {P : Program} {L : List TypeId} {w : World}
structure Bnd (P : Program) (L : List TypeId) (M : Nat) (B : TypeId→DataW H→Prop) : Prop where
 str : ∀ {t : TypeId} {s : List UInt8},P.underlying t=some .string→B t (.lit (.string s))→s.length≤M
 sl : ∀ {t e : TypeId} {es sp : List (DataW H)},t ∈ L→P.underlying t=some (.slice e)→B t (.slice es sp)→es.length≤M ∧ ∀ x ∈ es,B e x
 st : ∀ {t : TypeId} {fs : Array Field} {ps : List (DataW H)},P.underlying t=some (.struct fs)→B t (.agg ps) → ∀ (j : Nat) (f : Field) (x : DataW H),fs.toList[j]? = some f→ps[j]? = some x→B f.type x
 arr : ∀ {t e : TypeId} {n : Nat} {ps : List (DataW H)},P.underlying t=some (.array n e)→B t (.agg ps) → ∀ x ∈ ps,B e x
theorem uIF {M : Nat} {B : TypeId→DataW H→Prop} (hB : Bnd P L M B) (hL : uI3 P L=true) : ∀ (fuel : Nat) (t : TypeId) (vs : List Value) (d : DataW H) (p : List MemPlace),t ∈ L→B t d →
  DataW.trod enc P w 0 (fun _=>true) true fuel t vs=some (d,p) → ∃ cs,uBh P M fuel t cs∧All2 (CRep w (topG w).S) cs vs∧cs.length=P.cellsOf t
 | 0,t,vs,d,p,_,_,h=>by simp [DataW.trod] at h
 | fuel + 1,t,vs,d,p,ht,hbd,h=>by
  have IH:=uIF hB hL fuel
  have hc:=List.all_eq_true.1 hL t ht
  unfold DataW.trod at h
  split at h
  ·rename_i b hu
   simp only [hu,beq_iff_eq] at hc
   exact ⟨[.b b],by simp only [uBh,hu]; exact ⟨_,rfl⟩,⟨.b b,trivial⟩,hc.symm⟩
  ·rename_i k k' n hu
   simp only [hu,beq_iff_eq] at hc
   split at h
   ·rename_i hk
    obtain ⟨rfl,hwf⟩:=hk
    exact ⟨[.i k' n],by simp only [uBh,hu]; exact ⟨n,rfl,hwf⟩,⟨.i _ n,trivial⟩,hc.symm⟩
   ·simp at h
  ·rename_i hu; simp only [hu] at hc; simp at hc
  ·rename_i s hu
   simp only [hu,beq_iff_eq] at hc
   split at h
   ·rename_i hs
    have hs' : s.data.toList.length≤9223372036854775807:=by
     have h1 : s.data.toList.length=s.size:=rfl
     have h2 : maxLen=9223372036854775807:=by decide
     omega
    simp only [Option.some.injEq,Prod.mk.injEq] at h
    obtain ⟨rfl,_⟩:=h
    refine ⟨[.s s.data.toList],by simp only [uBh,hu]; exact ⟨_,rfl,hB.str hu hbd⟩,⟨?_,trivial⟩,hc.symm⟩
    have := CRep.s (w := w) (S := (topG w).S) s.data.toList hs'
    rwa [uLZ] at this
   ·simp at h
  ·rename_i hu; simp only [hu] at hc; simp at hc
  ·rename_i hu; simp only [hu] at hc; simp at hc
  ·rename_i e hu
   simp only [hu,Bool.and_eq_true,beq_iff_eq] at hc
   exact ⟨[.sl (P.cellsOf e) []],by simp [uBh,hu],⟨.nil _,trivial⟩,hc.1.1.symm⟩
  ·rename_i e a len cap hu
   simp only [hu,Bool.and_eq_true,beq_iff_eq,decide_eq_true_eq,bne_iff_ne] at hc
   obtain ⟨⟨hc1,heL⟩,hsz0⟩:=hc
   simp only at h
   split at h
   ·rename_i hb
    obtain ⟨_,hlc,hcm⟩:=hb
    have hmax : len≤9223372036854775807:=by
     have h2 : maxLen=9223372036854775807:=by decide
     omega
    simp only [Option.bind_eq_some_iff,if_true,Option.map_eq_some_iff] at h
    obtain ⟨elems,h1,rest,h2,hd⟩:=h
    simp only [Prod.mk.injEq] at hd
    obtain ⟨rfl,_⟩:=hd
    have hbs:=hB.sl ht hu hbd
    have hel0 : ∀ i,i < len → ∃ ci y,w.cells? 0 (a.add (i * P.cellsOf e)) (P.cellsOf e)=some ci∧DataW.trod enc P w 0 (fun _=>true) true fuel e ci=some y∧B e y.1:=by
     intro i hil
     obtain ⟨y,hy,hy2⟩:=uGp h1 (i:=i) (x:=i) (by simp [hil])
     simp only [Option.bind_eq_some_iff] at hy
     obtain ⟨ci,q1,q2⟩:=hy
     exact ⟨ci,y,q1,q2,hbs.2 _ (List.mem_map.2 ⟨y,List.mem_of_getElem? hy2,rfl⟩)⟩
    have hlen0 : elems.length=len := by have := Go.mapM_some_length h1; simpa using this
    have hel : ∀ i,i < cap → ∃ ci y,w.cells? 0 (a.add (i * P.cellsOf e)) (P.cellsOf e)=some ci∧DataW.trod enc P w 0 (fun _=>true) true fuel e ci=some y:=by
     intro i hi
     by_cases hil : i < len
     ·obtain ⟨y,hy,_⟩:=uGp h1 (i:=i) (x:=i) (by simp [hil])
      simp only [Option.bind_eq_some_iff] at hy
      obtain ⟨ci,q1,q2⟩:=hy
      exact ⟨ci,y,q1,q2⟩
     ·obtain ⟨y,hy,_⟩:=uGp h2 (i:=i - len) (x:=i - len) (by simp [show i - len < cap - len by omega])
      rw[show len + (i - len)=i by omega] at hy
      simp only [Option.bind_eq_some_iff] at hy
      obtain ⟨ci,q1,q2⟩:=hy
      exact ⟨ci,y,q1,q2⟩
    have hspot : cap≠0→a.spot=none:=by
     intro h0
     obtain ⟨ci,y,q1,_⟩:=hel 0 (by omega)
     obtain ⟨q3,q4⟩:=uJ0 q1
     have hlt : 0 < ci.length:=by omega
     have := q4 0 _ (List.getElem?_eq_getElem hlt)
     simpa [Addr.add] using World.cell?_spot this
    obtain ⟨es,hesl,hes⟩:=uC0 (R:=fun i row=>uBh P M fuel e row∧row.length=P.cellsOf e∧RowAt w (topG w).S a.block (a.off + i * P.cellsOf e) row) len (by
     intro i hi
     obtain ⟨ci,⟨y1,y2⟩,q1,q2,q3⟩:=hel0 i (by omega)
     obtain ⟨row,r1,r2,r3⟩:=IH e ci y1 y2 heL q3 q2
     refine ⟨row,r1,r3,fun j c hj=>?_⟩
     obtain ⟨v,hv,hrep⟩:=r2.get j c hj
     have hcell:=(uJ0 q1).2 j v hv
     have hsp:=hspot (by omega)
     obtain ⟨b,o,sp⟩:=a
     simp only at hsp
     subst hsp
     rw[uPB] at hcell
     exact ⟨uQu (World.block_lt_of_cell? w ⟨b,o + i * P.cellsOf e + j,none⟩ hcell),v,hcell,hrep⟩)
    refine ⟨[.sl (P.cellsOf e) es],?_,⟨?_,trivial⟩,hc1.symm⟩
    ·simp only [uBh,hu]
     refine ⟨es,rfl,by have := hbs.1; rw[List.length_map] at this; omega,fun row hr=>?_⟩
     obtain ⟨i,hi⟩:=List.getElem?_of_mem hr
     exact (hes i row hi).1
    ·exact CRep.mk_any hesl hlc hmax hspot fun i row hi=>(hes i row hi).2
   ·simp at h
  ·rename_i vs _ _ fs hu
   simp only [hu,beq_iff_eq] at hc
   split at h
   ·rename_i hlen
    simp only [Option.map_eq_some_iff] at h
    obtain ⟨xs,hxs,hd⟩:=h
    simp only [Prod.mk.injEq] at hd
    obtain ⟨rfl,_⟩:=hd
    have hbs:=hB.st hu hbd
    have key : ∀ (fs : List Field) (off : Nat) (xs : List (DataW H × List MemPlace)),uF7 P L fs off=some (P.cellsOf t) →
      (fs.mapM fun f=>DataW.trod enc P w 0 (fun _=>true) true fuel f.type ((vs.drop f.offset).take (P.cellsOf f.type)))=some xs→(∀ (j : Nat) (f : Field) (x : DataW H),fs[j]? = some f→(xs.map (·.1))[j]? = some x→B f.type x) →
      ∃ cs,uF9 (uBh P M fuel) fs cs∧All2 (CRep w (topG w).S) cs (vs.drop off)∧cs.length=P.cellsOf t - off:=by
     intro fs
     induction fs with
     | nil =>
      intro off xs hf _ _
      simp only [uF7,Option.some.injEq] at hf
      refine ⟨[],rfl,?_,by simp; omega⟩
      rw[List.drop_eq_nil_of_le (by omega)]
      trivial
     | cons f r ih =>
      intro off xs hf hm hbb
      simp only [uF7] at hf
      split at hf
      ·rename_i hfo
       obtain ⟨rfl,hfL⟩:=hfo
       simp only [List.mapM_cons,Option.bind_eq_bind,Option.bind_eq_some_iff] at hm
       obtain ⟨⟨y1,y2⟩,hy,ys,hys,hxs2⟩:=hm
       have hxs2 : (y1,y2) :: ys=xs:=by simpa using hxs2
       subst hxs2
       obtain ⟨a,a1,a2,a3⟩:=IH _ _ _ _ hfL (hbb 0 f y1 rfl rfl) hy
       obtain ⟨b,b1,b2,b3⟩:=ih _ _ hf hys (fun j f x h1 h2=>hbb (j + 1) f x (by simpa using h1) (by simpa using h2))
       have hle:=uJx hf
       refine ⟨a++b,⟨a,b,rfl,a1,b1⟩,?_,by simp; omega⟩
       have := a2.append b2
       rwa [← List.drop_drop,List.take_append_drop] at this
      ·simp at hf
    obtain ⟨cs,c1,c2,c3⟩:=key fs.toList 0 xs hc hxs hbs
    exact ⟨cs,by simp only [uBh,hu]; exact c1,by simpa using c2,by simpa using c3⟩
   ·simp at h
  ·rename_i vs _ _ n e hu
   simp only [hu,Bool.and_eq_true,beq_iff_eq,decide_eq_true_eq] at hc
   obtain ⟨heL,hct⟩:=hc
   split at h
   ·rename_i hlen
    simp only [Option.map_eq_some_iff] at h
    obtain ⟨xs,hxs,hd⟩:=h
    simp only [Prod.mk.injEq] at hd
    obtain ⟨rfl,_⟩:=hd
    have hbs:=hB.arr hu hbd
    have key : ∀ (m k : Nat),k + m=n → ∃ cs,hasN (uBh P M fuel e) m cs∧All2 (CRep w (topG w).S) cs (vs.drop (k * P.cellsOf e))∧cs.length=m * P.cellsOf e:=by
     intro m
     induction m with
     | zero =>
      intro k hk
      refine ⟨[],rfl,?_,by simp⟩
      have : k=n:=by omega
      subst this
      rw[List.drop_eq_nil_of_le (by omega)]
      trivial
     | succ m ih =>
      intro k hk
      obtain ⟨⟨y1,y2⟩,hy,hy2⟩:=uGp hxs (i:=k) (x:=k) (by simp [show k < n by omega])
      obtain ⟨a,a1,a2,a3⟩:=IH _ _ _ _ heL (hbs _ (List.mem_map.2 ⟨(y1,y2),List.mem_of_getElem? hy2,rfl⟩)) hy
      obtain ⟨b,b1,b2,b3⟩:=ih (k + 1) (by omega)
      refine ⟨a++b,⟨a,b,rfl,a1,b1⟩,?_,by simp [a3,b3,Nat.succ_mul]; omega⟩
      have := a2.append b2
      rwa [Nat.succ_mul,← List.drop_drop,List.take_append_drop] at this
    obtain ⟨cs,c1,c2,c3⟩:=key n 0 (by omega)
    exact ⟨cs,by simp only [uBh,hu]; exact c1,by simpa using c2,by rw[c3,hct]⟩
   ·simp at h
  all_goals first|(rename_i hu; simp only [hu] at hc; simp at hc)|(simp at h)|trace_state
theorem uPh {M : Nat} {B : TypeId→DataW H→Prop} (hB : Bnd P L M B) (hL : uI3 P L=true) {t : TypeId} {v : Value} {base : Nat} {d : TypeDesc} {x : DataW H} {p : List MemPlace} (ht : t ∈ L) (hd : P.underlying t=some d) (hp : rowD d=true) (hok : Value.okWide P w .any base t v)
  (hbd : B t x) (h : DataW.Trod enc P w 0 (fun _=>true) true t v x p) : ∃ n cs,uBh P M n t cs∧XRep w (topG w) (.v (.agg cs)) v:=by
 obtain ⟨n,hn⟩:=h
 obtain ⟨vs,rfl⟩:=uLT hd hp hok
 obtain ⟨cs,h1,h2,_⟩:=uIF hB hL n t _ _ _ ht hbd hn
 exact ⟨n,cs,h1,vs.toList,by simp,by simpa [Value.cells] using h2⟩
end
end Go.Abs
namespace Go.Proofs.YteidahabkfgfjaaGreat
open Go Go.Abs
theorem uC0 {α : Type} {f : α→List C} {R : List C→Prop} (h : ∀ row,R row → ∃ t : α,row=f t) : ∀ es : List (List C),(∀ row,row ∈ es→R row) → ∃ ts : List α,es=ts.map f
 | [],_=>⟨[],rfl⟩
 | e :: es,he=>by
  obtain ⟨t,ht⟩:=h e (he e (List.mem_cons_self ..))
  obtain ⟨ts,hts⟩:=uC0 h es fun row hr=>he row (List.mem_cons_of_mem _ hr)
  exact ⟨t :: ts,by rw[List.map_cons,← hts,ht]⟩
theorem own : ownKnob Tryz.prog.godebug=none:=by kernel_rfl
theorem uPS : laidOutB Tryz.prog=true:=by kernel_rfl
theorem uQI {H : Type} (d : DataW H) : 1≤Rows.uptoBulk d:=by
 cases d with
 | lit l=>cases l <;> simp [Rows.uptoBulk]
 | nil=>simp [Rows.uptoBulk]
 | ptr d=>simp [Rows.uptoBulk]
 | slice elems spare=>simp [Rows.uptoBulk]
 | agg parts=>simp [Rows.uptoBulk]
 | iface t d=>simp [Rows.uptoBulk]
 | map entries=>simp [Rows.uptoBulk]
 | held h=>simp [Rows.uptoBulk]
theorem uGu {H : Type} {d : DataW H} {l : List (DataW H)} (h : d ∈ l) : Rows.uptoBulk d≤Rows.uptoBulkAll l:=by
 induction l with
 | nil=>cases h
 | cons x r ih =>
  simp only [Rows.uptoBulkAll]
  rcases List.mem_cons.1 h with e | e
  ·subst e; omega
  ·have := ih e; omega
theorem uQr {H : Type} (l : List (DataW H)) : l.length≤Rows.uptoBulkAll l:=by
 induction l with
 | nil=>simp
 | cons x r ih=>have := uQI x; simp only [Rows.uptoBulkAll,List.length_cons]; omega
theorem uOk {H : Type} {L : List TypeId} : Bnd Tryz.prog L 1048576 (fun _ (d : DataW H)=>Rows.uptoBulk d≤1048576) where
 str:=fun _ h=>by simp only [Rows.uptoBulk] at h; omega
 sl:=fun {t e es sp} _ _ h=>by
  simp only [Rows.uptoBulk] at h
  have h1:=uQr es
  exact ⟨by omega,fun x hx=>by have := uGu hx; omega⟩
 st:=fun {t fs ps} _ h j f x _ hx=>by
  simp only [Rows.uptoBulk] at h
  have := uGu (List.mem_of_getElem? hx); omega
 arr:=fun {t e n ps} _ h x hx=>by
  simp only [Rows.uptoBulk] at h
  have := uGu hx; omega
theorem uQm : uI3 Tryz.prog [3,9,5,22,47,39,79,23,49,24,51,25,27]=true:=by kernel_rfl
theorem uOn : Tryz.prog.cellsOf 47=4:=by kernel_rfl
theorem uQp : Tryz.prog.cellsOf 9=1:=by kernel_rfl
theorem uPE : Tryz.prog.cellsOf 79=3:=by kernel_rfl
theorem uP3 : Tryz.prog.cellsOf 49=7:=by kernel_rfl
theorem uP2 : Tryz.prog.cellsOf 51=5:=by kernel_rfl
theorem uED {M n : Nat} {cs : List C} (h : uBh Tryz.prog M n 3 cs) : ∃ m,cs=[.i .i64 m]:=by
 cases n with
 | zero=>exact h.elim
 | succ n =>
  simp only [uBh,Tryz.underlying3] at h
  obtain ⟨m,h,_⟩:=h
  exact ⟨m,h⟩
theorem uDj {M n : Nat} {cs : List C} (h : uBh Tryz.prog M n 9 cs) : ∃ l,cs=[.s l]:=by
 cases n with
 | zero=>exact h.elim
 | succ n =>
  simp only [uBh,Tryz.underlying9] at h
  obtain ⟨m,h,_⟩:=h
  exact ⟨m,h⟩
theorem uKt {M n : Nat} {cs : List C} (h : uBh Tryz.prog M n 22 cs) : ∃ l : List (List UInt8),cs=[.sl 1 (strR l)]:=by
 cases n with
 | zero=>exact h.elim
 | succ n =>
  simp only [uBh,Tryz.underlying22,uQp] at h
  obtain ⟨es,h1,_,h5⟩:=h
  obtain ⟨ts,rfl⟩:=uC0 (f:=fun s : List UInt8=>[C.s s]) (fun row hr=>uDj hr) es h5
  exact ⟨ts,h1⟩
theorem uKU {M : Nat} (n : Nat) : ∀ cs : List C,uBh Tryz.prog M n 47 cs → ∃ t : T,cs=t.cells:=by
 induction n using Nat.strongRecOn with
 | ind n IH =>
  intro cs h
  cases n with
  | zero=>exact h.elim
  | succ n =>
   simp only [uBh,Tryz.underlying47,uF9] at h
   obtain ⟨a,b,rfl,h1,c,d,rfl,h2,e,f,rfl,h3,g,k,rfl,h4,rfl⟩:=h
   obtain ⟨m1,rfl⟩:=uED h1
   obtain ⟨m2,rfl⟩:=uDj h2
   obtain ⟨m3,rfl⟩:=uED h3
   cases n with
   | zero=>exact h4.elim
   | succ n =>
    simp only [uBh,Tryz.underlying39,uOn] at h4
    obtain ⟨es,rfl,_,h5⟩:=h4
    obtain ⟨ts,rfl⟩:=uC0 (f:=T.cells) (IH n (by omega)) es h5
    exact ⟨.mk m1 m2 m3 ts,by simp [T.cells,T.kind,T.name,T.sort,T.kids,T.rows_eq]⟩
theorem uM2 {M n : Nat} {cs : List C} (h : uBh Tryz.prog M n 39 cs) : ∃ ts : List T,cs=[.sl 4 (T.rows ts)]∧ts.length≤M:=by
 cases n with
 | zero=>exact h.elim
 | succ n =>
  simp only [uBh,Tryz.underlying39,uOn] at h
  obtain ⟨es,h1,h2,h5⟩:=h
  obtain ⟨ts,rfl⟩:=uC0 (f:=T.cells) (uKU n) es h5
  exact ⟨ts,by rw[h1,T.rows_eq],by simpa using h2⟩
theorem uNK {M n : Nat} {cs : List C} (h : uBh Tryz.prog M n 79 cs) : ∃ f : Fs,cs=f.cells:=by
 cases n with
 | zero=>exact h.elim
 | succ n =>
  simp only [uBh,Tryz.underlying79,uF9] at h
  obtain ⟨a,b,rfl,h1,c,d,rfl,h2,e,f,rfl,h3,rfl⟩:=h
  obtain ⟨m1,rfl⟩:=uDj h1
  obtain ⟨m2,rfl⟩:=uDj h2
  obtain ⟨m3,rfl⟩:=uED h3
  exact ⟨⟨m1,m2,m3⟩,rfl⟩
theorem uO7 {M n : Nat} {cs : List C} (h : uBh Tryz.prog M n 49 cs) : ∃ s : Sp,cs=s.cells:=by
 cases n with
 | zero=>exact h.elim
 | succ n =>
  simp only [uBh,Tryz.underlying49,uF9] at h
  obtain ⟨a,b,rfl,h1,c,d,rfl,h2,e,f,rfl,h3,g,k,rfl,h4,rfl⟩:=h
  obtain ⟨m1,rfl⟩:=uDj h1
  obtain ⟨m2,rfl⟩:=uDj h2
  obtain ⟨m3,rfl⟩:=uKU _ _ h3
  obtain ⟨m4,rfl⟩:=uED h4
  exact ⟨⟨m1,m2,m3,m4⟩,by cases m3; rfl⟩
theorem uNW {M n : Nat} {cs : List C} (h : uBh Tryz.prog M n 51 cs) : ∃ g : {g : Gl // g.data.length≤M},cs=g.1.cells:=by
 cases n with
 | zero=>exact h.elim
 | succ n =>
  simp only [uBh,Tryz.underlying51,uF9] at h
  obtain ⟨a,b,rfl,h1,c,d,rfl,h2,e,f,rfl,h3,g,k,rfl,h4,u,v,rfl,h5,rfl⟩:=h
  obtain ⟨m1,rfl⟩:=uED h1
  obtain ⟨m2,rfl⟩:=uDj h2
  obtain ⟨m3,rfl⟩:=uDj h3
  obtain ⟨m4,rfl,hl⟩:=uM2 h4
  obtain ⟨m5,rfl⟩:=uED h5
  exact ⟨⟨⟨m1,m2,m3,m4,m5⟩,hl⟩,rfl⟩
theorem uNn {M n : Nat} {cs : List C} (h : uBh Tryz.prog M n 23 cs) : ∃ l : List Fs,cs=[.sl 3 (Fs.rows l)]:=by
 cases n with
 | zero=>exact h.elim
 | succ n =>
  simp only [uBh,Tryz.underlying23,uPE] at h
  obtain ⟨es,h1,_,h5⟩:=h
  obtain ⟨ts,rfl⟩:=uC0 (f:=Fs.cells) (fun row hr=>uNK hr) es h5
  exact ⟨ts,h1⟩
theorem uMX {M n : Nat} {cs : List C} (h : uBh Tryz.prog M n 24 cs) : ∃ l : List Sp,cs=[.sl 7 (Sp.rows l)]:=by
 cases n with
 | zero=>exact h.elim
 | succ n =>
  simp only [uBh,Tryz.underlying24,uP3] at h
  obtain ⟨es,h1,_,h5⟩:=h
  obtain ⟨ts,rfl⟩:=uC0 (f:=Sp.cells) (fun row hr=>uO7 hr) es h5
  exact ⟨ts,h1⟩
theorem uNh {M n : Nat} {cs : List C} (h : uBh Tryz.prog M n 25 cs) : ∃ l : List Gl,cs=[.sl 5 (Gl.rows l)] ∧ ∀ g ∈ l,g.data.length≤M:=by
 cases n with
 | zero=>exact h.elim
 | succ n =>
  simp only [uBh,Tryz.underlying25,uP2] at h
  obtain ⟨es,h1,_,h5⟩:=h
  obtain ⟨ts,rfl⟩:=uC0 (f:=fun g : {g : Gl // g.data.length≤M}=>g.1.cells) (fun row hr=>uNW hr) es h5
  refine ⟨ts.map (·.1),by rw[h1,Gl.rows,List.map_map]; rfl,fun g hg=>?_⟩
  obtain ⟨x,_,rfl⟩:=List.mem_map.1 hg
  exact x.2
theorem uQj {n : Nat} {cs : List C} (h : uBh Tryz.prog 1048576 n 27 cs) : ∃ m : {m : Nar // ∀ g ∈ m.goals,g.data.length≤2097152},cs=m.1.cells:=by
 cases n with
 | zero=>exact h.elim
 | succ n =>
  simp only [uBh,Tryz.underlying27,uF9] at h
  obtain ⟨a,b,rfl,h1,c,d,rfl,h2,e,f,rfl,h3,g,k,rfl,h4,u,v,rfl,h5,x,y,rfl,h6,rfl⟩:=h
  obtain ⟨m1,rfl⟩:=uDj h1
  obtain ⟨m2,rfl⟩:=uKt h2
  obtain ⟨m3,rfl⟩:=uNn h3
  obtain ⟨m4,rfl⟩:=uKt h4
  obtain ⟨m5,rfl⟩:=uMX h5
  obtain ⟨m6,rfl,hl⟩:=uNh h6
  exact ⟨⟨⟨m1,m2,m3,m4,m5,m6⟩,fun g hg=>Nat.le_trans (hl g hg) (by omega)⟩,rfl⟩
end Go.Proofs.YteidahabkfgfjaaGreat
