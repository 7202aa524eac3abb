/- Our abstract program logic and contracts of this seat's functions, part 3: no statement of its own (long names of ours are shortened by a program). -/
import Derived.Test.YtnjjdbapadkomaaGreatDoorM2
import Derived.Lib.Join
import Derived.Shelf.Strings.OnBuilder
import Derived.Shelf.Small.Strs
import Derived.Shelf.Strings.SlTrimAscii
import Derived.Shelf.Strings.Prefix
import Derived.Shelf.Strings.Split
import Derived.Shelf.LaysM
import Derived.Test.YtnjjdbapadkomaaGreatDoorProg
import Derived.KernelRfl
import Derived.WalkKit
import Derived.Lib.Builder
import Derived.Lib.UnsafeStr
import Derived.Laws.Externs
set_option linter.unusedVariables false
set_option linter.unusedSimpArgs false
namespace Go.Proofs.YtnjjdbapadkomaaGreatDoor
open Go Go.Abs
def uNb (t : T) (k : Nat) : St:={ t:=[(1,true, .v (.ptr (.l 1) 0)),(4,true,xi k)],bx:=[(.l 1,t.cells)],ow:=[] }
theorem uJu : ∀ (n : Nat) (t : T),t.size≤n→n≤2000000→Ctr sys 154 [xm t] [] (xi t.nodesE) none []:=by
 intro n
 induction n with
 | zero=>intro t h _; have := t.size_pos; omega
 | succ n ih =>
  intro t ht hn
  refine uAv Tryz.func154 rfl rfl rfl rfl rfl rfl ?_;refine uAe (uAb ?_);refine uAu rfl (uAT rfl rfl rfl rfl) ?_;refine uAa rfl rfl rfl (uAd rfl gU) ?_;refine uAf ?_;refine uAe ?_;refine uAe (uAb ?_);refine uAa rfl rfl rfl (uAs rfl gU rfl rfl rfl rfl rfl) ?_;refine uAw rfl rfl rfl rfl rfl rfl gU gU (uK7 t) rfl ?_;refine uAa rfl rfl rfl (uAd rfl gU) ?_;refine uAf ?_;refine uAn (s:=⟨[(1,_,_),(3,_,_)],[(.l 1,_)],[],[]⟩) (uAj (⟨sx rfl,sx rfl,trivial⟩) (⟨sx rfl,trivial⟩) trivial) ?_;refine uAe (uAb ?_);refine uAa rfl rfl rfl (uAc rfl gU) ?_;refine uAa rfl rfl rfl (uAk rfl rfl gU gU rfl) ?_;refine uAf ?_;refine uAl rfl (fun hc=>?_) (fun hc=>?_)
  ·refine uAe (uAb ?_)
   refine uAa rfl rfl rfl (uAc rfl gU) ?_;refine uAa rfl rfl rfl (uAd rfl gU) ?_;refine uAf ?_;refine uAo ?_
   repeat (first | refine tR ?_ | refine bR ?_)
   refine uAq rfl ?_ trivial;refine uA9 ?_
   rw [T.nodesE_eq,if_pos (by simpa using hc)]
  ·refine uAp ?_
   refine uAe ?_;refine uAe (uAb ?_);refine uAa rfl rfl rfl (uAd rfl gU) ?_;refine uAf ?_;refine uAt ?_
   have hz : uBR t=0:=by simpa using hc
   refine uCA (uNb t) (fun k=>k≤t.kids.length∧T.nodesEs (t.kids.take k)=0) (fun k=>t.kids.length - k) 0 ⟨Nat.zero_le _,by simp [T.nodesEs]⟩ ?_ ?_
   ·refine uAj ⟨⟨_,rfl,rfl⟩,⟨_,rfl,rfl⟩,trivial⟩ ⟨⟨_,rfl,rfl⟩,trivial⟩ trivial
   ·rintro k ⟨hk,h0⟩
    refine uAe ?_;refine uAe (uAb ?_);refine uAa rfl rfl rfl (uAc rfl gU) ?_;refine uAa rfl rfl rfl (uAg rfl gU rfl rfl) ?_;refine uAa rfl rfl rfl (uAm rfl gU rfl rfl rfl rfl) ?_;refine uAQ rfl rfl rfl rfl rfl gU rfl rfl ?_ (fun hh=>by simp at hh); intro hlen;refine uAa rfl rfl rfl (uAk rfl rfl gU gU rfl) ?_;refine uAf ?_;refine uAn (s:=⟨[(1,_,_),(4,_,_),(15,_,_)],[(.l 1,_)],[],[]⟩) (uAj (⟨sx rfl,sx rfl,sx rfl,trivial⟩) (⟨sx rfl,trivial⟩) trivial) ?_;refine uAl rfl (fun hc2=>?_) (fun hc2=>?_)
    ·rw [T.rows_len] at hlen hc2
     have hlt : k < t.kids.length:=by simpa using hc2
     obtain ⟨x,hx⟩ : ∃ x,t.kids[k]? = some x:=⟨_,List.getElem?_eq_getElem hlt⟩
     have h3:=T.size_kid hx
     refine uAp ?_;refine uAe ?_;refine uAt ?_;refine uAe (uAb ?_);refine uAa rfl rfl rfl (uAg rfl gU rfl rfl) ?_;refine uAa rfl rfl rfl (uAm rfl gU rfl rfl rfl rfl) ?_;refine uAa rfl rfl rfl (uAc rfl gU) ?_;refine uAa rfl rfl rfl (uAy rfl rfl gU gU rfl rfl rfl (fun _=>T.rows_get hx)) ?_;refine uAa rfl rfl rfl (uAJ rfl gU rfl rfl rfl rfl) ?_;refine uAw rfl rfl rfl rfl rfl rfl gU gU (ih x (by omega) (by omega)) rfl ?_;refine uAa rfl rfl rfl (uAd rfl gU) ?_;refine uAf ?_;refine uAn (s:=⟨[(1,_,_),(4,_,_),(5,_,_)],[(.l 1,_)],[],[]⟩) (uAj (⟨sx rfl,sx rfl,sx rfl,trivial⟩) (⟨sx rfl,trivial⟩) trivial) ?_;refine uAe (uAb ?_);refine uAa rfl rfl rfl (uAc rfl gU) ?_;refine uAa rfl rfl rfl (uAk rfl rfl gU gU rfl) ?_;refine uAf ?_;refine uAl rfl (fun hc3=>?_) (fun hc3=>?_)
     ·refine uAe (uAb ?_)
      refine uAa rfl rfl rfl (uAc rfl gU) ?_;refine uAa rfl rfl rfl (uAd rfl gU) ?_;refine uAf ?_;refine uAo ?_
      repeat (first | refine tR ?_ | refine bR ?_)
      refine uAq rfl ?_ trivial;refine uA9 ?_
      rw [T.nodesE_eq t,if_neg (by simpa using hz),T.nodesEs_hit _ _ _ hx h0 (by simpa using hc3)]
     ·refine uAp ?_
      refine uAb ?_;refine uAa rfl rfl rfl (uAc rfl gU) ?_;refine uAa rfl rfl rfl (uAr rfl rfl gU gU rfl (IntWalk.i64_in _ (by omega))) ?_;refine uAa rfl rfl rfl (uAd rfl gU) ?_;refine uAf ?_;refine ⟨k + 1,⟨by omega,T.nodesEs_step _ _ _ hx h0 (by simpa using hc3)⟩,by omega,?_⟩;refine uAj ⟨⟨_,rfl,rfl⟩,⟨_,rfl,rfl⟩,trivial⟩ ⟨⟨_,rfl,rfl⟩,trivial⟩ trivial
    ·refine uAL ?_
     repeat (first | refine uAF ?_ | refine uAE ?_ | refine uAB rfl ?_)
     refine uAe (uAb ?_);refine uAa rfl rfl rfl (uAd rfl gU) ?_;refine uAf ?_;refine uAo ?_
     repeat (first | refine tR ?_ | refine bR ?_)
     refine uAq rfl ?_ trivial
     rw [T.rows_len] at hc2
     have : k=t.kids.length:=by simp at hc2; omega
     subst this
     rw [List.take_length] at h0
     refine uA9 ?_
     rw [T.nodesE_eq t,if_neg (by simpa using hz),h0]
def uNk (t : T) (k : Nat) : St:={ t:=[(1,true, .v (.ptr (.l 1) 0)),(3,true,xi (T.depths (t.kids.take k))),(4,true,xi k)],bx:=[(.l 1,t.cells)],ow:=[] }
theorem uJz : ∀ (n : Nat) (t : T),t.size≤n→n≤2000000→Ctr sys 155 [xm t] [] (xi t.depth) none []:=by
 intro n
 induction n with
 | zero=>intro t h _; have := t.size_pos; omega
 | succ n ih =>
  intro t ht hn
  refine uAv Tryz.func155 rfl rfl rfl rfl rfl rfl ?_;refine uAe (uAb ?_);refine uAu rfl (uAT rfl rfl rfl rfl) ?_;refine uAa rfl rfl rfl (uAd rfl gU) ?_;refine uAf ?_;refine uAe (uAb ?_);refine uAa rfl rfl rfl (uAd rfl gU) ?_;refine uAf ?_;refine uAe ?_;refine uAe (uAb ?_);refine uAa rfl rfl rfl (uAd rfl gU) ?_;refine uAf ?_;refine uAt ?_;refine uCA (uNk t) (fun k=>k≤t.kids.length) (fun k=>t.kids.length - k) 0 (Nat.zero_le _) ?_ ?_
  ·refine uAj ⟨⟨_,rfl,rfl⟩,⟨_,rfl,rfl⟩,⟨_,rfl,rfl⟩,trivial⟩ ⟨⟨_,rfl,rfl⟩,trivial⟩ trivial
  ·intro k hk
   have hd1:=T.depths_take_le t.kids k
   have hd2:=t.depth_le
   have hd3:=t.depth_eq
   refine uAe ?_;refine uAe (uAb ?_);refine uAa rfl rfl rfl (uAc rfl gU) ?_;refine uAa rfl rfl rfl (uAg rfl gU rfl rfl) ?_;refine uAa rfl rfl rfl (uAm rfl gU rfl rfl rfl rfl) ?_;refine uAQ rfl rfl rfl rfl rfl gU rfl rfl ?_ (fun hh=>by simp at hh); intro hlen;refine uAa rfl rfl rfl (uAk rfl rfl gU gU rfl) ?_;refine uAf ?_;refine uAn (s:=⟨[(1,_,_),(3,_,_),(4,_,_),(9,_,_)],[(.l 1,_)],[],[]⟩) (uAj (⟨sx rfl,sx rfl,sx rfl,sx rfl,trivial⟩) (⟨sx rfl,trivial⟩) trivial) ?_;refine uAl rfl (fun hc=>?_) (fun hc=>?_)
   ·rw [T.rows_len] at hlen hc
    have hlt : k < t.kids.length:=by simpa using hc
    obtain ⟨x,hx⟩ : ∃ x,t.kids[k]? = some x:=⟨_,List.getElem?_eq_getElem hlt⟩
    have h1:=T.depths_take _ _ _ hx
    have h3:=T.size_kid hx
    refine uAp ?_;refine uAe ?_;refine uAt ?_;refine uAb ?_;refine uAa rfl rfl rfl (uAc rfl gU) ?_;refine uAa rfl rfl rfl (uAg rfl gU rfl rfl) ?_;refine uAa rfl rfl rfl (uAm rfl gU rfl rfl rfl rfl) ?_;refine uAa rfl rfl rfl (uAc rfl gU) ?_;refine uAa rfl rfl rfl (uAy rfl rfl gU gU rfl rfl rfl (fun _=>T.rows_get hx)) ?_;refine uAa rfl rfl rfl (uAJ rfl gU rfl rfl rfl rfl) ?_;refine uAw rfl rfl rfl rfl rfl rfl gU gU (ih x (by omega) (by omega)) rfl ?_;refine uAa rfl rfl rfl (uID rfl rfl gU gU) ?_;refine uAa rfl rfl rfl (uAd rfl gU) ?_;refine uAf ?_;refine uAn (s:=⟨[(1,_,_),(3,_,_),(4,_,_)],[(.l 1,_)],[],[]⟩) (uAj (⟨sx rfl,sx rfl,sx rfl,trivial⟩) (⟨sx rfl,trivial⟩) trivial) ?_;refine uAb ?_;refine uAa rfl rfl rfl (uAc rfl gU) ?_;refine uAa rfl rfl rfl (uAr rfl rfl gU gU rfl (IntWalk.i64_in _ (by omega))) ?_;refine uAa rfl rfl rfl (uAd rfl gU) ?_;refine uAf ?_;refine ⟨k + 1,by omega,by omega,?_⟩;refine uAj ⟨⟨_,rfl,rfl⟩,⟨_,rfl,?_⟩,⟨_,rfl,rfl⟩,trivial⟩ ⟨⟨_,rfl,rfl⟩,trivial⟩ trivial
    rw [h1]; simp; omega
   ·refine uAL ?_
    repeat (first | refine uAF ?_ | refine uAE ?_ | refine uAB rfl ?_)
    refine uAe (uAb ?_);refine uAa rfl rfl rfl (uAc rfl gU) ?_;refine uAa rfl rfl rfl (uAr rfl rfl gU gU rfl (IntWalk.i64_in _ (by omega))) ?_;refine uAa rfl rfl rfl (uAd rfl gU) ?_;refine uAf ?_;refine uAo ?_
    repeat (first | refine tR ?_ | refine bR ?_)
    refine uAq rfl ?_ trivial
    rw [T.rows_len] at hc
    have : k=t.kids.length:=by simp at hc; omega
    subst this
    refine uA9 ?_
    rw [List.take_length,t.depth_eq]
    simp
theorem uJD (t : T) (h : t.size≤2000000) : Ctr sys 121 [xm t] [] (xi (uC3 t)) none []:=by
 refine uAv Tryz.func121 rfl rfl rfl rfl rfl rfl ?_;refine uAe (uAb ?_);refine uAu rfl (uAT rfl rfl rfl rfl) ?_;refine uAa rfl rfl rfl (uAd rfl gU) ?_;refine uAf ?_;refine uAe ?_;refine uAe (uAb ?_);refine uAa rfl rfl rfl (uAs rfl gU rfl rfl rfl rfl rfl) ?_;refine uAw rfl rfl rfl rfl rfl rfl gU gU (uJu _ t (Nat.le_refl _) h) rfl ?_;refine uAa rfl rfl rfl (uAd rfl gU) ?_;refine uAf ?_;refine uAn (s:=⟨[(1,_,_),(3,_,_)],[(.l 1,_)],[],[]⟩) (uAj (⟨sx rfl,sx rfl,trivial⟩) (⟨sx rfl,trivial⟩) trivial) ?_;refine uAe (uAb ?_);refine uAa rfl rfl rfl (uAc rfl gU) ?_;refine uAa rfl rfl rfl (uAk rfl rfl gU gU rfl) ?_;refine uAf ?_;refine uAl rfl (fun hc=>?_) (fun hc=>?_)
 ·refine uAe (uAb ?_)
  refine uAa rfl rfl rfl (uAc rfl gU) ?_;refine uAa rfl rfl rfl (uAd rfl gU) ?_;refine uAf ?_;refine uAo ?_
  repeat (first | refine tR ?_ | refine bR ?_)
  refine uAq rfl ?_ trivial;refine uA9 ?_
  rw [uC3,if_pos (by simpa using hc)]
 ·refine uAp ?_
  refine uAe ?_;refine uAe (uAb ?_);refine uAa rfl rfl rfl (uAs rfl gU rfl rfl rfl rfl rfl) ?_;refine uAw rfl rfl rfl rfl rfl rfl gU gU (uFo _ t (Nat.le_refl _) h) rfl ?_;refine uAa rfl rfl rfl (uAk rfl rfl gU gU rfl) ?_;refine uAa rfl rfl rfl (uAc rfl gU) ?_;refine uAa rfl rfl rfl (uAs rfl gU rfl rfl rfl rfl rfl) ?_;refine uAw rfl rfl rfl rfl rfl rfl gU (fun hh=>gA ((fun hh=>hh) hh) (rfl)) (uJz _ t (Nat.le_refl _) h) rfl ?_;refine uAa rfl rfl rfl (uAk rfl rfl (fun hh=>hh) gU rfl) ?_;refine uAa rfl rfl rfl (uAM rfl rfl gU (fun _ hi=>gP rfl hi)) ?_;refine uAf ?_;refine uAn (s:=⟨[(16,_,_)],[],[],[]⟩) (uAj (⟨sx rfl,trivial⟩) trivial trivial) ?_
  have hz : t.nodesE=0:=by simpa using hc
  refine uAl rfl (fun hc2=>?_) (fun hc2=>?_)
  ·refine uAe (uAb ?_)
   refine uAa rfl rfl rfl (uAd rfl gU) ?_;refine uAf ?_;refine uAo ?_
   repeat (first | refine tR ?_ | refine bR ?_)
   refine uAq rfl ?_ trivial;refine uA9 ?_
   simp only [Bool.or_eq_true,decide_eq_true_eq] at hc2
   rw [uC3,if_neg (by simpa using hz),if_pos (by omega)]
  ·refine uAp ?_
   refine uAe (uAb ?_);refine uAa rfl rfl rfl (uAd rfl gU) ?_;refine uAf ?_;refine uAo ?_
   repeat (first | refine tR ?_ | refine bR ?_)
   refine uAq rfl ?_ trivial;refine uA9 ?_
   simp only [Bool.or_eq_false_iff,decide_eq_false_iff_not] at hc2
   rw [uC3,if_neg (by simpa using hz),if_neg (by omega)]
def uM3 (t : T) (lv n d : Int) : St:={ t:=[(1,true,xi lv),(2,true, .v (.ptr (.o 0) 0)),(3,true, .v (.ptr (.o 1) 0)),(4,true, .v (.ptr (.l 4) 0))],bx:=[(.l 4,t.cells),(.o 0,[.i .i64 (n + 1)]),(.o 1,[.i .i64 (max d lv)])],ow:=[] }
def uM5 (t : T) (lv n d : Int) (k : Nat) : St:={ t:=[(1,true,xi lv),(2,true, .v (.ptr (.o 0) 0)),(3,true, .v (.ptr (.o 1) 0)),(57,true,xl t.kids),(58,true,xi t.kids.length),(59,true,xi k)],bx:=[(.o 0,[.i .i64 (T.chks (t.kids.take k) (lv + 1) (n + 1) (max d lv)).n]),(.o 1,[.i .i64 (T.chks (t.kids.take k) (lv + 1) (n + 1) (max d lv)).d])],ow:=[] }
theorem uJU : ∀ (b : Nat) (t : T) (lv n d : Int),t.size≤b→b≤2000000→0≤n→n + t.size≤2000000→0≤lv→lv + t.size≤2000000 →
  Ctr sys 153 [xm t,xi lv, .v (.ptr (.o 0) 0), .v (.ptr (.o 1) 0)] [[.i .i64 n],[.i .i64 d]] (xi t.nodesE) none [[.i .i64 (t.chk lv n d).n],[.i .i64 (t.chk lv n d).d]]:=by
 intro b
 induction b with
 | zero=>intro t _ _ _ h; have := t.size_pos; omega
 | succ b ih =>
  intro t lv n d ht hb hn hn2 hl hl2
  have hsz:=t.size_pos
  have hbad : uBR t≠0→t.nodesE=uBR t∧t.chk lv n d=⟨uBR t,n + 1,max d lv⟩:=fun h=>⟨by rw [T.nodesE_eq,if_pos h],by rw [T.chk_eq,if_pos h]⟩
  refine uAv Tryz.func153 rfl rfl rfl rfl rfl rfl ?_;refine uAe (uAb ?_);refine uAu rfl (uAT rfl rfl rfl rfl) ?_;refine uAa rfl rfl rfl (uAd rfl gU) ?_;refine uAf ?_;refine uAe (uAb ?_);refine uAa rfl rfl rfl (uAc rfl gU) ?_;refine uAa rfl rfl rfl (uAx rfl gU) ?_;refine uAa rfl rfl rfl (uAm rfl gU rfl rfl rfl rfl) ?_;refine uAa rfl rfl rfl (uAr rfl rfl gU gU rfl (IntWalk.i64_in _ (by omega))) ?_;refine uAa rfl rfl rfl (uAx rfl gU) ?_;refine uAu rfl (uAz rfl rfl rfl rfl rfl rfl rfl) ?_;refine uAf ?_;refine uAn (s:=⟨[(1,_,_),(2,_,_),(3,_,_),(4,_,_)],[(.l 4,_),(.o 0,_),(.o 1,_)],[],[]⟩) (uAj (⟨sx rfl,sx rfl,sx rfl,sx rfl,trivial⟩) (⟨sx rfl,sx rfl,sx rfl,trivial⟩) trivial) ?_;refine uAe (uAb ?_);refine uAa rfl rfl rfl (uAc rfl gU) ?_;refine uAa rfl rfl rfl (uAc rfl gU) ?_;refine uAa rfl rfl rfl (uAx rfl gU) ?_;refine uAa rfl rfl rfl (uAm rfl gU rfl rfl rfl rfl) ?_;refine uAa rfl rfl rfl (uAc rfl gU) ?_;refine uAa rfl rfl rfl (uID rfl rfl gU gU) ?_;refine uAa rfl rfl rfl (uAx rfl gU) ?_;refine uAu rfl (uAz rfl rfl rfl rfl rfl rfl rfl) ?_;refine uAf ?_;refine uAn (s:=⟨[(1,_,_),(2,_,_),(3,_,_),(4,_,_)],[(.l 4,_),(.o 0,_),(.o 1,_)],[],[]⟩) (uAj (⟨sx rfl,sx rfl,sx rfl,sx rfl,trivial⟩) (⟨sx rfl,sx rfl,sx rfl,trivial⟩) trivial) ?_
  refine uMF (uM3 t lv n d) ((t.kind=1∨t.kind=2)∧0≤t.sort∧t.sort≤5∧t.kids.length=0∨t.kind=3∧t.sort=0) ?_ (fun hj=>?_)
  ·have h1 : ∀ h : ¬ ((t.kind=1∨t.kind=2)∧0≤t.sort∧t.sort≤5∧t.kids.length=0∨t.kind=3∧t.sort=0),t.nodesE=1∧t.chk lv n d=⟨1,n + 1,max d lv⟩:=by
    intro h
    have hq : uBR t=1:=by rw [uBR,if_neg h]
    have := hbad (by rw [hq]; omega)
    rw [hq] at this; exact this
   refine uAe (uAb ?_);refine uAa rfl rfl rfl (uAg rfl gU rfl rfl) ?_;refine uAa rfl rfl rfl (uAm rfl gU rfl rfl rfl rfl) ?_;refine uAf ?_;refine uAt ?_;refine uAe ?_;refine uAe (uAb ?_);refine uAa rfl rfl rfl (uAk rfl rfl gU gU rfl) ?_;refine uAa rfl rfl rfl (uAd rfl gU) ?_;refine uAf ?_;refine uAl rfl (fun hc=>?_) (fun hc=>?_)
   ·refine uAp ?_
    refine uAl rfl (fun hc2=>?_) (fun hc2=>?_)
    ·refine uAe (uAb ?_)
     refine uAa rfl rfl rfl (uAg rfl gU rfl rfl) ?_;refine uAa rfl rfl rfl (uAm rfl gU rfl rfl rfl rfl) ?_;refine uAa rfl rfl rfl (uAk rfl rfl gU gU rfl) ?_;refine uAa rfl rfl rfl (uAc rfl gU) ?_;refine uAa rfl rfl rfl (uAg rfl gU rfl rfl) ?_;refine uAa rfl rfl rfl (uAm rfl (fun hh=>hh) rfl rfl rfl rfl) ?_;refine uAa rfl rfl rfl (uAk rfl rfl (fun hh=>hh) gU rfl) ?_;refine uAa rfl rfl rfl (uAM rfl rfl gU (fun _ hi=>gP rfl hi)) ?_;refine uAa rfl rfl rfl (uAc rfl gU) ?_;refine uAa rfl rfl rfl (uAg rfl gU rfl rfl) ?_;refine uAa rfl rfl rfl (uAm rfl (fun hh=>hh) rfl rfl rfl rfl) ?_;refine uAa rfl rfl rfl (uBb rfl (fun hh=>hh) rfl rfl) ?_;refine uAa rfl rfl rfl (uAk rfl rfl (fun hh=>hh) gU rfl) ?_;refine uAa rfl rfl rfl (uAM rfl rfl gU (fun _ hi=>gP rfl hi)) ?_;refine uAf ?_;refine uAn (s:=⟨[(1,_,_),(2,_,_),(3,_,_),(4,_,_),(42,_,_)],[(.l 4,_),(.o 0,_),(.o 1,_)],[],[]⟩) (uAj (⟨sx rfl,sx rfl,sx rfl,sx rfl,sx rfl,trivial⟩) (⟨sx rfl,sx rfl,sx rfl,trivial⟩) trivial) ?_;refine uAl rfl (fun hc3=>?_) (fun hc3=>?_)
     ·refine uAe (uAb ?_)
      refine uAa rfl rfl rfl (uAd rfl gU) ?_;refine uAf ?_;refine uAo ?_
      repeat (first | refine tR ?_ | refine bR ?_)
      refine uAq rfl ?_ (⟨⟨_,rfl,?_⟩,⟨⟨_,rfl,?_⟩,trivial⟩⟩)
      all_goals (
       have hno:=h1 (by
        simp only [Bool.or_eq_true,decide_eq_true_eq,decide_eq_false_iff_not,beq_iff_eq,bne_iff_ne,ne_eq,beq_eq_false_iff_ne,T.rows_len] at hc hc3
        rintro (⟨q1,q2,q3,q4⟩ | ⟨q1,q2⟩) <;> omega)
       first | exact uA9 hno.1.symm | (rw [hno.2]; done) | (rw [hno.2]; rfl))
     ·refine uAp ?_
      refine ⟨.inl ?_,?_⟩
      ·simp only [Bool.or_eq_false_iff,decide_eq_false_iff_not,beq_iff_eq,T.rows_len] at hc hc3
       omega
      ·refine uAj ⟨⟨_,rfl,rfl⟩,⟨_,rfl,rfl⟩,⟨_,rfl,rfl⟩,⟨_,rfl,rfl⟩,trivial⟩ ⟨⟨_,rfl,rfl⟩,⟨_,rfl,rfl⟩,⟨_,rfl,rfl⟩,trivial⟩ trivial
    ·rw [hc] at hc2; simp at hc2
   ·refine uAb ?_
    refine uAa rfl rfl rfl (uAk rfl rfl gU gU rfl) ?_;refine uAa rfl rfl rfl (uAd rfl gU) ?_;refine uAf ?_;refine uAn (s:=⟨[(1,_,_),(2,_,_),(3,_,_),(4,_,_),(25,_,_),(26,_,_)],[(.l 4,_),(.o 0,_),(.o 1,_)],[],[]⟩) (uAj (⟨sx rfl,sx rfl,sx rfl,sx rfl,sx rfl,sx rfl,trivial⟩) (⟨sx rfl,sx rfl,sx rfl,trivial⟩) trivial) ?_;refine uAl rfl (fun hc2=>?_) (fun hc2=>?_)
    ·refine uAe (uAb ?_)
     refine uAa rfl rfl rfl (uAg rfl gU rfl rfl) ?_;refine uAa rfl rfl rfl (uAm rfl gU rfl rfl rfl rfl) ?_;refine uAa rfl rfl rfl (uAk rfl rfl gU gU rfl) ?_;refine uAa rfl rfl rfl (uAc rfl gU) ?_;refine uAa rfl rfl rfl (uAg rfl gU rfl rfl) ?_;refine uAa rfl rfl rfl (uAm rfl (fun hh=>hh) rfl rfl rfl rfl) ?_;refine uAa rfl rfl rfl (uAk rfl rfl (fun hh=>hh) gU rfl) ?_;refine uAa rfl rfl rfl (uAM rfl rfl gU (fun _ hi=>gP rfl hi)) ?_;refine uAa rfl rfl rfl (uAc rfl gU) ?_;refine uAa rfl rfl rfl (uAg rfl gU rfl rfl) ?_;refine uAa rfl rfl rfl (uAm rfl (fun hh=>hh) rfl rfl rfl rfl) ?_;refine uAa rfl rfl rfl (uBb rfl (fun hh=>hh) rfl rfl) ?_;refine uAa rfl rfl rfl (uAk rfl rfl (fun hh=>hh) gU rfl) ?_;refine uAa rfl rfl rfl (uAM rfl rfl gU (fun _ hi=>gP rfl hi)) ?_;refine uAf ?_;refine uAn (s:=⟨[(1,_,_),(2,_,_),(3,_,_),(4,_,_),(42,_,_)],[(.l 4,_),(.o 0,_),(.o 1,_)],[],[]⟩) (uAj (⟨sx rfl,sx rfl,sx rfl,sx rfl,sx rfl,trivial⟩) (⟨sx rfl,sx rfl,sx rfl,trivial⟩) trivial) ?_;refine uAl rfl (fun hc3=>?_) (fun hc3=>?_)
     ·refine uAe (uAb ?_)
      refine uAa rfl rfl rfl (uAd rfl gU) ?_;refine uAf ?_;refine uAo ?_
      repeat (first | refine tR ?_ | refine bR ?_)
      refine uAq rfl ?_ (⟨⟨_,rfl,?_⟩,⟨⟨_,rfl,?_⟩,trivial⟩⟩)
      all_goals (
       have hno:=h1 (by
        simp only [Bool.or_eq_true,decide_eq_true_eq,decide_eq_false_iff_not,beq_iff_eq,bne_iff_ne,ne_eq,beq_eq_false_iff_ne,T.rows_len] at hc hc2 hc3
        rintro (⟨q1,q2,q3,q4⟩ | ⟨q1,q2⟩) <;> omega)
       first | exact uA9 hno.1.symm | (rw [hno.2]; done) | (rw [hno.2]; rfl))
     ·refine uAp ?_
      refine ⟨.inl ?_,?_⟩
      ·simp only [Bool.or_eq_false_iff,decide_eq_false_iff_not,beq_iff_eq,T.rows_len] at hc2 hc3
       omega
      ·refine uAj ⟨⟨_,rfl,rfl⟩,⟨_,rfl,rfl⟩,⟨_,rfl,rfl⟩,⟨_,rfl,rfl⟩,trivial⟩ ⟨⟨_,rfl,rfl⟩,⟨_,rfl,rfl⟩,⟨_,rfl,rfl⟩,trivial⟩ trivial
    ·refine uAe (uAb ?_)
     refine uAa rfl rfl rfl (uAk rfl rfl gU gU rfl) ?_;refine uAa rfl rfl rfl (uAd rfl gU) ?_;refine uAf ?_;refine uAl rfl (fun hc3=>?_) (fun hc3=>?_)
     ·refine uAe (uAb ?_)
      refine uAa rfl rfl rfl (uAg rfl gU rfl rfl) ?_;refine uAa rfl rfl rfl (uAm rfl gU rfl rfl rfl rfl) ?_;refine uAa rfl rfl rfl (uAk rfl rfl gU gU rfl) ?_;refine uAf ?_;refine uAn (s:=⟨[(1,_,_),(2,_,_),(3,_,_),(4,_,_),(47,_,_)],[(.l 4,_),(.o 0,_),(.o 1,_)],[],[]⟩) (uAj (⟨sx rfl,sx rfl,sx rfl,sx rfl,sx rfl,trivial⟩) (⟨sx rfl,sx rfl,sx rfl,trivial⟩) trivial) ?_;refine uAl rfl (fun hc4=>?_) (fun hc4=>?_)
      ·refine uAe (uAb ?_)
       refine uAa rfl rfl rfl (uAd rfl gU) ?_;refine uAf ?_;refine uAo ?_
       repeat (first | refine tR ?_ | refine bR ?_)
       refine uAq rfl ?_ (⟨⟨_,rfl,?_⟩,⟨⟨_,rfl,?_⟩,trivial⟩⟩)
       all_goals (
        have hno:=h1 (by
         simp only [Bool.or_eq_true,decide_eq_true_eq,decide_eq_false_iff_not,beq_iff_eq,bne_iff_ne,ne_eq,beq_eq_false_iff_ne,T.rows_len] at hc hc2 hc3 hc4
         rintro (⟨q1,q2,q3,q4⟩ | ⟨q1,q2⟩) <;> omega)
        first | exact uA9 hno.1.symm | (rw [hno.2]; done) | (rw [hno.2]; rfl))
      ·refine uAp ?_
       refine ⟨.inr ?_,?_⟩
       ·simp only [bne_eq_false_iff_eq,beq_iff_eq] at hc3 hc4
        exact ⟨hc3,hc4⟩
       ·refine uAj ⟨⟨_,rfl,rfl⟩,⟨_,rfl,rfl⟩,⟨_,rfl,rfl⟩,⟨_,rfl,rfl⟩,trivial⟩ ⟨⟨_,rfl,rfl⟩,⟨_,rfl,rfl⟩,⟨_,rfl,rfl⟩,trivial⟩ trivial
     ·refine uAe (uAb ?_)
      refine uAa rfl rfl rfl (uAd rfl gU) ?_;refine uAf ?_;refine uAo ?_
      repeat (first | refine tR ?_ | refine bR ?_)
      refine uAq rfl ?_ (⟨⟨_,rfl,?_⟩,⟨⟨_,rfl,?_⟩,trivial⟩⟩)
      all_goals (
       have hno:=h1 (by
        simp only [Bool.or_eq_true,decide_eq_true_eq,decide_eq_false_iff_not,beq_iff_eq,bne_iff_ne,ne_eq,beq_eq_false_iff_ne,T.rows_len] at hc hc2 hc3
        rintro (⟨q1,q2,q3,q4⟩ | ⟨q1,q2⟩) <;> omega)
       first | exact uA9 hno.1.symm | (rw [hno.2]; done) | (rw [hno.2]; rfl))
  ·refine uAe ?_
   refine uAe (uAb ?_);refine uAa rfl rfl rfl (uAg rfl gU rfl rfl) ?_;refine uAa rfl rfl rfl (uAm rfl gU rfl rfl rfl rfl) ?_;refine uAw rfl rfl rfl rfl rfl rfl gU gU (uIa _) rfl ?_;refine uAa rfl rfl rfl (uA1 rfl gU) ?_;refine uAf ?_;refine uAl rfl (fun hc=>?_) (fun hc=>?_)
   ·refine uAe (uAb ?_)
    refine uAa rfl rfl rfl (uAd rfl gU) ?_;refine uAf ?_;refine uAo ?_
    repeat (first | refine tR ?_ | refine bR ?_)
    refine uAq rfl ?_ (⟨⟨_,rfl,?_⟩,⟨⟨_,rfl,?_⟩,trivial⟩⟩)
    all_goals (
     have hq : uBR t=2:=by
      simp only [Bool.not_eq_true'] at hc
      rw [uBR,if_pos hj,if_neg (by rw [hc]; simp)]
     have hno:=hbad (by rw [hq]; omega)
     rw [hq] at hno
     first | exact uA9 hno.1.symm | (rw [hno.2]; done) | (rw [hno.2]; rfl))
   ·simp only [Bool.not_eq_false'] at hc
    refine uAp ?_;refine uAe ?_;refine uAe (uAb ?_);refine uAa rfl rfl rfl (uAg rfl gU rfl rfl) ?_;refine uAa rfl rfl rfl (uAm rfl gU rfl rfl rfl rfl) ?_;refine uAQ rfl rfl rfl rfl rfl gU rfl rfl ?_ (fun hh=>by simp at hh); intro hlen;refine uAa rfl rfl rfl (uAk rfl rfl gU gU rfl) ?_;refine uAf ?_;refine uAn (s:=⟨[(1,_,_),(2,_,_),(3,_,_),(4,_,_),(55,_,_)],[(.l 4,_),(.o 0,_),(.o 1,_)],[],[]⟩) (uAj (⟨sx rfl,sx rfl,sx rfl,sx rfl,sx rfl,trivial⟩) (⟨sx rfl,sx rfl,sx rfl,trivial⟩) trivial) ?_;refine uAl rfl (fun hc2=>?_) (fun hc2=>?_)
    ·refine uAe (uAb ?_)
     refine uAa rfl rfl rfl (uAd rfl gU) ?_;refine uAf ?_;refine uAo ?_
     repeat (first | refine tR ?_ | refine bR ?_)
     refine uAq rfl ?_ (⟨⟨_,rfl,?_⟩,⟨⟨_,rfl,?_⟩,trivial⟩⟩)
     all_goals (
      have hq : uBR t=3:=by
       simp only [T.rows_len,decide_eq_true_eq] at hc2
       rw [uBR,if_pos hj,if_pos hc,if_pos (by omega)]
      have hno:=hbad (by rw [hq]; omega)
      rw [hq] at hno
      first | exact uA9 hno.1.symm | (rw [hno.2]; done) | (rw [hno.2]; rfl))
    ·have hz : uBR t=0:=by
      simp only [T.rows_len,decide_eq_false_iff_not] at hc2
      rw [uBR,if_pos hj,if_pos hc,if_neg (by omega)]
     have hchk : t.chk lv n d=T.chks t.kids (lv + 1) (n + 1) (max d lv):=by rw [T.chk_eq,if_neg (by simpa using hz)]
     have hE : t.nodesE=T.nodesEs t.kids:=by rw [T.nodesE_eq,if_neg (by simpa using hz)]
     have hsE:=t.size_eq
     refine uAp ?_;refine uAe ?_;refine uAe (uAb ?_);refine uAa rfl rfl rfl (uAg rfl gU rfl rfl) ?_;refine uAa rfl rfl rfl (uAm rfl gU rfl rfl rfl rfl) ?_;refine uAQ rfl rfl rfl rfl rfl gU rfl rfl ?_ (fun hh=>by simp at hh); intro hlen;refine uAa rfl rfl rfl (uAc rfl gU) ?_;refine uAf ?_;refine uAt ?_
     have hlk : t.kids.length≤9223372036854775807:=by rw [T.rows_len] at hlen; exact hlen
     refine uCA (uM5 t lv n d) (fun k=>k≤t.kids.length∧(T.chks (t.kids.take k) (lv + 1) (n + 1) (max d lv)).e=0) (fun k=>t.kids.length - k) 0 ⟨Nat.zero_le _,by simp [T.chks]⟩ ?_ ?_
     ·refine uAj ⟨⟨_,rfl,rfl⟩,⟨_,rfl,rfl⟩,⟨_,rfl,rfl⟩,⟨_,rfl,rfl⟩,⟨_,rfl,by rw [T.rows_len]⟩,⟨_,rfl,rfl⟩,trivial⟩ ⟨⟨_,rfl,by simp [T.chks]⟩,⟨_,rfl,by simp [T.chks]⟩,trivial⟩ trivial
     ·rintro k ⟨hk,h0⟩
      have hr:=T.chks_n (t.kids.take k) (lv + 1) (n + 1) (max d lv)
      have hrE:=T.chks_e (t.kids.take k) (lv + 1) (n + 1) (max d lv)
      refine uAe (uAb ?_);refine uAa rfl rfl rfl (uAk rfl rfl gU gU rfl) ?_;refine uAf ?_;refine uAe ?_;refine uAl rfl (fun hc3=>?_) (fun hc3=>?_)
      ·have hlt : k < t.kids.length:=by simpa using hc3
       obtain ⟨x,hx⟩ : ∃ x,t.kids[k]? = some x:=⟨_,List.getElem?_eq_getElem hlt⟩
       have q1:=T.sizes_take _ _ _ hx
       have q2:=T.sizes_take_le t.kids (k + 1)
       have q4:=x.size_pos
       refine uAp ?_;refine uAe ?_;refine uAt ?_;refine uAe (uAb ?_);refine uAa rfl rfl rfl (uAy rfl rfl gU gU rfl rfl rfl (fun _=>T.rows_get hx)) ?_;refine uAa rfl rfl rfl (uAJ rfl gU rfl rfl rfl rfl) ?_;refine uAu rfl (uAP rfl rfl rfl) ?_;refine uAu rfl (uAz rfl rfl rfl rfl rfl rfl rfl) ?_;refine uAf ?_;refine uAe (uAb ?_);refine uAa rfl rfl rfl (uAs rfl gU rfl rfl rfl rfl rfl) ?_;refine uAa rfl rfl rfl (uAc rfl gU) ?_;refine uAa rfl rfl rfl (uAr rfl rfl gU gU rfl (IntWalk.i64_in _ (by omega))) ?_;refine uAa rfl rfl rfl (uAc rfl gU) ?_;refine uAa rfl rfl rfl (uAc rfl gU) ?_;refine uGd [⟨.o 0,0,[.i .i64 (T.chks (t.kids.take k) (lv + 1) (n + 1) (max d lv)).n],[.i .i64 (x.chk (lv + 1) (T.chks (t.kids.take k) (lv + 1) (n + 1) (max d lv)).n (T.chks (t.kids.take k) (lv + 1) (n + 1) (max d lv)).d).n]⟩,⟨.o 1,0,[.i .i64 (T.chks (t.kids.take k) (lv + 1) (n + 1) (max d lv)).d],[.i .i64 (x.chk (lv + 1) (T.chks (t.kids.take k) (lv + 1) (n + 1) (max d lv)).n (T.chks (t.kids.take k) (lv + 1) (n + 1) (max d lv)).d).d]⟩] rfl rfl rfl rfl (by rfl) (by rfl) (by intro p hp; simp only [List.mem_cons,List.not_mem_nil,or_false] at hp; first | (subst hp; rfl) | (rcases hp with hp | hp <;> subst hp <;> rfl)) (by rfl) (ih x (lv + 1) (T.chks (t.kids.take k) (lv + 1) (n + 1) (max d lv)).n (T.chks (t.kids.take k) (lv + 1) (n + 1) (max d lv)).d (by omega) (by omega) (by omega) (by omega) (by omega) (by omega)) rfl rfl rfl ?_
       refine uAa rfl rfl rfl (uAd rfl gU) ?_;refine uAf ?_;refine uAn (s:=⟨[(1,_,_),(2,_,_),(3,_,_),(11,_,_),(57,_,_),(58,_,_),(59,_,_)],[(.o 0,_),(.o 1,_)],[],[]⟩) (uAj (⟨sx rfl,sx rfl,sx rfl,sx rfl,sx rfl,sx rfl,sx rfl,trivial⟩) (⟨sx rfl,sx rfl,trivial⟩) trivial) ?_;refine uAe (uAb ?_);refine uAa rfl rfl rfl (uAc rfl gU) ?_;refine uAa rfl rfl rfl (uAk rfl rfl gU gU rfl) ?_;refine uAf ?_;refine uAl rfl (fun hc4=>?_) (fun hc4=>?_)
       ·refine uAe (uAb ?_)
        refine uAa rfl rfl rfl (uAc rfl gU) ?_;refine uAa rfl rfl rfl (uAd rfl gU) ?_;refine uAf ?_;refine uAo ?_
        repeat (first | refine tR ?_ | refine bR ?_)
        refine uAq rfl ?_ (⟨⟨_,rfl,?_⟩,⟨⟨_,rfl,?_⟩,trivial⟩⟩)
        ·have := T.chks_hit (lv := lv + 1) (n := n + 1) (d := max d lv) hx h0 (by simpa using hc4)
         refine uA9 ?_
         rw [hE,← T.chks_e t.kids (lv + 1) (n + 1) (max d lv),this,T.chk_e]
        ·have := T.chks_hit (lv := lv + 1) (n := n + 1) (d := max d lv) hx h0 (by simpa using hc4)
         rw [hchk,this]; rfl
        ·have := T.chks_hit (lv := lv + 1) (n := n + 1) (d := max d lv) hx h0 (by simpa using hc4)
         rw [hchk,this]; rfl
       ·have hx0 : x.nodesE=0:=by simpa using hc4
        have hst:=T.chks_step (lv:=lv + 1) (n:=n + 1) (d:=max d lv) hx h0 hx0
        refine uAp ?_;refine uAb ?_;refine uAa rfl rfl rfl (uAr rfl rfl gU gU rfl (IntWalk.i64_in _ (by omega))) ?_;refine uAa rfl rfl rfl (uAc rfl gU) ?_;refine uAf ?_;refine ⟨k + 1,⟨by omega,by rw [hst,T.chk_e,hx0]⟩,by omega,?_⟩;refine uAj ⟨⟨_,rfl,rfl⟩,⟨_,rfl,rfl⟩,⟨_,rfl,rfl⟩,⟨_,rfl,rfl⟩,⟨_,rfl,rfl⟩,⟨_,rfl,rfl⟩,trivial⟩ ⟨⟨_,rfl,by rw [hst]; rfl⟩,⟨_,rfl,by rw [hst]; rfl⟩,trivial⟩ trivial
      ·have hk' : k=t.kids.length:=by simp at hc3; omega
       subst hk'
       rw [List.take_length] at h0
       refine uAL ?_
       repeat (first | refine uAF ?_ | refine uAE ?_ | refine uAB rfl ?_)
       refine uAe (uAb ?_);refine uAa rfl rfl rfl (uAd rfl gU) ?_;refine uAf ?_;refine uAo ?_
       repeat (first | refine tR ?_ | refine bR ?_)
       refine uAq rfl ?_ (⟨⟨_,rfl,?_⟩,⟨⟨_,rfl,?_⟩,trivial⟩⟩)
       ·refine uA9 ?_
        rw [hE,← T.chks_e t.kids (lv + 1) (n + 1) (max d lv),h0]
       ·rw [hchk,List.take_length]
       ·rw [hchk,List.take_length]
theorem uI2 (t : T) (h : t.size≤900000) : Ctr sys 117 [xm t] [] (xi (uC3 t)) none []:=by
 have q1:=T.chk_n t 1 0 0
 have q2:=T.chk_d t 1 0 0
 have q3:=t.depth_eq
 refine uAv Tryz.func117 rfl rfl rfl rfl rfl rfl ?_;refine uAe (uAb ?_);refine uAu rfl (uAT rfl rfl rfl rfl) ?_;refine uAa rfl rfl rfl (uAd rfl gU) ?_;refine uAf ?_;refine uAe (uAb ?_);refine uAu rfl (uAP rfl rfl rfl) ?_;refine uAu rfl (uAP rfl rfl rfl) ?_;refine uAu rfl (uAz rfl rfl rfl rfl rfl rfl rfl) ?_;refine uAu rfl (uAz rfl rfl rfl rfl rfl rfl rfl) ?_;refine uAf ?_;refine uAe ?_;refine uAe (uAb ?_);refine uAa rfl rfl rfl (uAs rfl gU rfl rfl rfl rfl rfl) ?_;refine uGd [⟨.l 3,0,[.i .i64 0],[.i .i64 (t.chk 1 0 0).n]⟩,⟨.l 4,0,[.i .i64 0],[.i .i64 (t.chk 1 0 0).d]⟩] rfl rfl rfl rfl (by rfl) (by rfl) (by intro p hp; simp only [List.mem_cons,List.not_mem_nil,or_false] at hp; first | (subst hp; rfl) | (rcases hp with hp | hp <;> subst hp <;> rfl)) (by rfl) (uJU _ t 1 0 0 (Nat.le_refl _) (by omega) (by omega) (by omega) (by omega) (by omega)) rfl rfl rfl ?_;refine uAa rfl rfl rfl (uAd rfl gU) ?_;refine uAf ?_;refine uAn (s:=⟨[(3,_,_),(4,_,_),(5,_,_)],[(.l 3,_),(.l 4,_)],[],[]⟩) (uAj (⟨sx rfl,sx rfl,sx rfl,trivial⟩) (⟨sx rfl,sx rfl,trivial⟩) trivial) ?_;refine uAe (uAb ?_);refine uAa rfl rfl rfl (uAc rfl gU) ?_;refine uAa rfl rfl rfl (uAk rfl rfl gU gU rfl) ?_;refine uAf ?_;refine uAl rfl (fun hc=>?_) (fun hc=>?_)
 ·refine uAe (uAb ?_)
  refine uAa rfl rfl rfl (uAc rfl gU) ?_;refine uAa rfl rfl rfl (uAd rfl gU) ?_;refine uAf ?_;refine uAo ?_
  repeat (first | refine tR ?_ | refine bR ?_)
  refine uAq rfl ?_ trivial;refine uA9 ?_
  rw [uC3,if_pos (by simpa using hc)]
 ·have hz : t.nodesE=0:=by simpa using hc
  have q4:=q1.2.2 hz
  have q5:=q2 hz
  refine uAp ?_;refine uAe ?_;refine uAe (uAb ?_);refine uAa rfl rfl rfl (uAm rfl gU rfl rfl rfl rfl) ?_;refine uAa rfl rfl rfl (uAk rfl rfl gU gU rfl) ?_;refine uAa rfl rfl rfl (uAc rfl gU) ?_;refine uAa rfl rfl rfl (uAm rfl gU rfl rfl rfl rfl) ?_;refine uAa rfl rfl rfl (uAk rfl rfl (fun hh=>hh) gU rfl) ?_;refine uAa rfl rfl rfl (uAM rfl rfl gU (fun _ hi=>gP rfl hi)) ?_;refine uAf ?_;refine uAn (s:=⟨[(16,_,_)],[],[],[]⟩) (uAj (⟨sx rfl,trivial⟩) trivial trivial) ?_;refine uAl rfl (fun hc2=>?_) (fun hc2=>?_)
  ·refine uAe (uAb ?_)
   refine uAa rfl rfl rfl (uAd rfl gU) ?_;refine uAf ?_;refine uAo ?_
   repeat (first | refine tR ?_ | refine bR ?_)
   refine uAq rfl ?_ trivial;refine uA9 ?_
   simp only [Bool.or_eq_true,decide_eq_true_eq] at hc2
   rw [uC3,if_neg (by simpa using hz),if_pos (by omega)]
  ·refine uAp ?_
   refine uAe (uAb ?_);refine uAa rfl rfl rfl (uAd rfl gU) ?_;refine uAf ?_;refine uAo ?_
   repeat (first | refine tR ?_ | refine bR ?_)
   refine uAq rfl ?_ trivial;refine uA9 ?_
   simp only [Bool.or_eq_false_iff,decide_eq_false_iff_not] at hc2
   rw [uC3,if_neg (by simpa using hz),if_neg (by omega)]
end Go.Proofs.YtnjjdbapadkomaaGreatDoor
namespace Go.Proofs.YtnjjdbapadkomaaGreatDoor
open Go Go.Abs
theorem T.len_sizes : ∀ l : List T,l.length≤T.sizes l
 | []=>by simp [T.sizes]
 | t :: l=>by have h1:=T.len_sizes l; have h2:=t.size_pos; simp only [T.sizes,List.length_cons]; omega
theorem T.rows_succ {ts : List T} {k : Nat} {x : T} (h : ts[k]? = some x) : T.rows (ts.take (k + 1))=T.rows (ts.take k)++[x.cells]:=by
 rw [T.take_succ h,T.rows_eq,T.rows_eq,List.map_append]; rfl
theorem T.rows_take {ts : List T} {k : Nat} (h : k < ts.length) : T.rows (ts.take (k + 1))=T.rows (ts.take k)++[(ts.getD k default).cells]:=T.rows_succ (T.getD_some h)
theorem uJv : ∀ (n : Nat) (t : T),t.size≤n→n≤2000000→Ctr sys 104 [xm t] [] (xi t.size) none []:=by
 intro n
 induction n with
 | zero=>intro t h; have := t.size_pos; omega
 | succ n ih =>
  intro t ht hn
  have hse:=t.size_eq
  have hrl:=T.rows_len t.kids
  have hls:=T.len_sizes t.kids
  refine uAv Tryz.func104 rfl rfl rfl rfl rfl rfl ?_;refine uAe (uAb ?_);refine uAu rfl (uAT rfl rfl rfl rfl) ?_;refine uAa rfl rfl rfl (uAd rfl gU) ?_;refine uAf ?_;refine uAe (uAb ?_);refine uAa rfl rfl rfl (uAd rfl gU) ?_;refine uAf ?_;refine uAe ?_;refine uAe (uAb ?_);refine uAa rfl rfl rfl (uAg rfl gU rfl rfl) ?_;refine uAa rfl rfl rfl (uAm rfl gU rfl rfl rfl rfl) ?_;refine uAQ rfl rfl rfl rfl rfl gU rfl rfl ?_ (fun hh=>by simp at hh); intro hlen;refine uAa rfl rfl rfl (uAc rfl gU) ?_;refine uAf ?_;refine uAn (s:=⟨[(3,_,_),(7,_,_),(8,_,_),(9,_,_)],[],[],[]⟩) (uAj (⟨sx rfl,sx rfl,sx rfl,sx rfl,trivial⟩) trivial trivial) ?_;refine uAt ?_;refine uAW (ι:=Nat) { t:=[(7,_,_),(8,_,_)],bx:=[],ow:=[] } (fun k=>[(9,true,xi (k : Int)),(3,true,xi (1 + T.sizes (t.kids.take k) : Nat))]) (fun k=>[]) (fun k=>k≤t.kids.length) (fun k=>t.kids.length - k) (0) (by simp) (uAj (⟨sx rfl,sx rfl,sx rfl,sx rfl,trivial⟩) trivial trivial) ?_
  intro k hok
  dsimp only [List.cons_append,List.nil_append]
  refine uAe (uAb ?_);refine uAa rfl rfl rfl (uAk rfl rfl gU gU rfl) ?_;refine uAf ?_;refine uAe ?_;refine uAl rfl (fun hc=>?_) (fun hc=>?_)
  ·try simp only [nn,T.rows_len,uAh] at hc
   have hlt : k < t.kids.length:=by omega
   have h1:=T.sizes_take _ _ _ (T.getD_some hlt)
   have h2:=T.getD_size hlt
   refine uAp ?_;refine uAe ?_;refine uAt ?_;refine uAe (uAb ?_);refine uAa rfl rfl rfl (uAy rfl rfl gU gU rfl rfl rfl (fun hh=>T.rows_at (by first | omega | (simp at hh; omega)))) ?_;refine uAa rfl rfl rfl (uAJ rfl gU rfl rfl rfl rfl) ?_;refine uAu rfl (uAP rfl rfl rfl) ?_;refine uAu rfl (uAz rfl rfl rfl rfl rfl rfl rfl) ?_;refine uAf ?_;refine uAb ?_;refine uAa rfl rfl rfl (uAc rfl gU) ?_;refine uAa rfl rfl rfl (uAs rfl gU rfl rfl rfl rfl rfl) ?_;refine uAw rfl rfl rfl rfl rfl rfl gU gU (ih (t.kids.getD k default) (by omega) (by omega)) rfl ?_;refine uAa rfl rfl rfl (uAr rfl rfl gU gU rfl (IntWalk.i64_in _ (by omega))) ?_;refine uAa rfl rfl rfl (uAd rfl gU) ?_;refine uAf ?_;refine uAn (s:=⟨[(3,_,_),(7,_,_),(8,_,_),(9,_,_)],[],[],[]⟩) (uAj (⟨sx rfl,sx rfl,sx rfl,sx rfl,trivial⟩) trivial trivial) ?_;refine uAb ?_;refine uAa rfl rfl rfl (uAr rfl rfl gU gU rfl (IntWalk.i64_in _ (by omega))) ?_;refine uAa rfl rfl rfl (uAc rfl gU) ?_;refine uAf ?_;refine ⟨k + 1,?_,?_,uAj (⟨⟨_,rfl,?_⟩,⟨⟨_,rfl,?_⟩,⟨sx rfl,sx rfl,trivial⟩⟩⟩) trivial trivial⟩
   all_goals first | rfl | omega | exact tx (uA9 (by rw [h1]; push_cast; omega))
  ·try simp only [nn,T.rows_len,uAh] at hc
   have : k=t.kids.length:=by omega
   subst this
   rw [List.take_length]
   refine uAL ?_
   repeat (first | refine uAF ?_ | refine uAE ?_ | refine uAB rfl ?_)
   refine uAe (uAb ?_);refine uAa rfl rfl rfl (uAc rfl gU) ?_;refine uAa rfl rfl rfl (uAd rfl gU) ?_;refine uAf ?_;refine uAo ?_
   repeat (first | refine tR ?_ | refine bR ?_)
   refine uAq rfl ?_ trivial;exact uA9 (by omega)
theorem uJJ : ∀ (n : Nat) (t : T),t.size≤n→n≤2000000→Ctr sys 174 [xm t] [] (xm t) none []:=by
 intro n
 induction n with
 | zero=>intro t h; have := t.size_pos; omega
 | succ n ih =>
  intro t ht hn
  have hse:=t.size_eq
  have hrl:=T.rows_len t.kids
  have hls:=T.len_sizes t.kids
  refine uAv Tryz.func174 rfl rfl rfl rfl rfl rfl ?_;refine uAe (uAb ?_);refine uAu rfl (uAT rfl rfl rfl rfl) ?_;refine uAu rfl (uAP rfl rfl rfl) ?_;refine uAf ?_;refine uAe (uAb ?_);refine uAa rfl rfl rfl (uAg rfl gU rfl rfl) ?_;refine uAa rfl rfl rfl (uAm rfl gU rfl rfl rfl rfl) ?_;refine uAa rfl rfl rfl (uAd rfl gU) ?_;refine uAf ?_;refine uAn (s:=⟨[(1,_,_),(2,_,_),(3,_,_)],[(.l 1,_),(.l 2,_)],[],[]⟩) (uAj (⟨sx rfl,sx rfl,sx rfl,trivial⟩) (⟨sx rfl,sx rfl,trivial⟩) trivial) ?_;refine uAe (uAb ?_);refine uAa rfl rfl rfl (uAg rfl gU rfl rfl) ?_;refine uAu rfl (uG9 rfl rfl rfl rfl rfl rfl) ?_;refine uAf ?_;refine uAe ?_;refine uAe (uAb ?_);refine uAa rfl rfl rfl (uAc rfl gU) ?_;refine uAQ rfl rfl rfl rfl rfl gU rfl rfl ?_ (fun hh=>by simp at hh); intro hlen;refine uAa rfl rfl rfl (uAc rfl gU) ?_;refine uAf ?_;refine uAt ?_;refine uAW (ι:=Nat) { t:=[(1,_,_),(2,_,_),(9,_,_),(10,_,_)],bx:=[(.l 2,_)],ow:=[(.b (.l 1) 3,_)] } (fun k=>[(11,true,xi (k : Int))]) (fun k=>[((.l 1),[.i .i64 t.kind, .s t.name, .i .i64 t.sort, .sl 4 (T.rows (t.kids.take k))])]) (fun k=>k≤t.kids.length) (fun k=>t.kids.length - k) (0) (by simp) (uAj (⟨sx rfl,sx rfl,sx rfl,sx rfl,sx rfl,trivial⟩) (⟨sx rfl,sx rfl,trivial⟩) (⟨rfl,trivial⟩)) ?_
  intro k hok
  dsimp only [List.cons_append,List.nil_append]
  have hrk:=T.rows_len (t.kids.take k)
  have htk : (t.kids.take k).length≤t.kids.length:=by rw [List.length_take]; omega
  refine uAe (uAb ?_);refine uAa rfl rfl rfl (uAk rfl rfl gU gU rfl) ?_;refine uAf ?_;refine uAe ?_;refine uAl rfl (fun hc=>?_) (fun hc=>?_)
  ·try simp only [nn,T.rows_len,uAh] at hc
   have hlt : k < t.kids.length:=by omega
   have h2:=T.getD_size hlt
   refine uAp ?_;refine uAe ?_;refine uAt ?_;refine uAe (uAb ?_);refine uAa rfl rfl rfl (uAy rfl rfl gU gU rfl rfl rfl (fun hh=>T.rows_at (by first | omega | (simp at hh; omega)))) ?_;refine uAa rfl rfl rfl (uAJ rfl gU rfl rfl rfl rfl) ?_;refine uAu rfl (uAP rfl rfl rfl) ?_;refine uAu rfl (uAz rfl rfl rfl rfl rfl rfl rfl) ?_;refine uAf ?_;refine awp_drawn' (by kernel_rfl) ?_;refine uAi rfl rfl rfl rfl (uAg rfl gU rfl rfl) ?_;refine uBW rfl rfl rfl rfl rfl rfl rfl rfl rfl rfl rfl rfl ?_;refine uBQ rfl rfl rfl rfl rfl rfl rfl gU rfl rfl rfl rfl rfl ?_;refine uBa rfl rfl rfl rfl rfl rfl rfl gU gU (ih (t.kids.getD k default) (by omega) (by omega)) rfl ?_;refine uCp (xs:=[_]) rfl rfl rfl rfl rfl rfl rfl rfl rfl rfl gU rfl ?_;refine uBT rfl rfl rfl rfl rfl rfl rfl rfl rfl rfl rfl (by first | omega | (simp only [List.length_append,List.length_singleton]; omega)) (by first | omega | (simp only [List.length_append,List.length_singleton]; omega)) ?_;refine uAi rfl rfl rfl rfl (uAg rfl gU rfl rfl) ?_;refine uBZ rfl rfl rfl rfl rfl rfl rfl rfl rfl rfl rfl rfl ?_;refine uBg (by kernel_rfl) ?_;refine uAn (s:=⟨[(1,_,_),(2,_,_),(9,_,_),(10,_,_),(11,_,_)],[(.l 1,_),(.l 2,_)],[(.b (.l 1) 3,_)],[]⟩) (uAj (⟨sx rfl,sx rfl,sx rfl,sx rfl,sx rfl,trivial⟩) (⟨sx rfl,sx rfl,trivial⟩) (⟨rfl,trivial⟩)) ?_
   refine uAb ?_;refine uAa rfl rfl rfl (uAr rfl rfl gU gU rfl (IntWalk.i64_in _ (by omega))) ?_;refine uAa rfl rfl rfl (uAc rfl gU) ?_;refine uAf ?_;refine ⟨k + 1,?_,?_,uAj (⟨⟨_,rfl,?_⟩,⟨sx rfl,sx rfl,sx rfl,sx rfl,trivial⟩⟩) (⟨⟨_,rfl,?_⟩,⟨sx rfl,trivial⟩⟩) (⟨rfl,trivial⟩)⟩
   ·omega
   ·omega
   ·rfl
   ·rw [T.rows_take hlt]; rfl
  ·try simp only [nn,T.rows_len,uAh] at hc
   have : k=t.kids.length:=by omega
   subst this
   rw [List.take_length]
   refine uAL ?_
   repeat (first | refine uAF ?_ | refine uAE ?_ | refine uAB rfl ?_)
   refine uAe (uAb ?_);refine uAa rfl rfl rfl (uAs rfl gU rfl rfl rfl rfl rfl) ?_;refine uAu rfl (uAz rfl rfl rfl rfl rfl rfl rfl) ?_;refine uAf ?_;refine uAo ?_
   repeat (first | refine tR ?_ | refine bR ?_)
   refine uAq rfl ?_ trivial
   rfl
theorem uMg (t : T) (h : t.size≤2000000) : Ctr sys 162 [xm t, .v (.c (.sl 1 []))] [] (.tup [.agg t.cells, .c (.i .i64 0)]) none []:=by
 refine uAv Tryz.func162 rfl rfl rfl rfl rfl rfl ?_;refine uAe (uAb ?_);refine uAu rfl (uAT rfl rfl rfl rfl) ?_;refine uAu rfl (uAP rfl rfl rfl) ?_;refine uAa rfl rfl rfl (uAd rfl gU) ?_;refine uAf ?_;refine uAe ?_;refine uAe (uAb ?_);refine uAa rfl rfl rfl (uAc rfl gU) ?_;refine uAQ rfl rfl rfl rfl rfl gU rfl rfl ?_ (fun hh=>by simp at hh); intro hlen;refine uAa rfl rfl rfl (uAc rfl gU) ?_;refine uAf ?_;refine uAn (s:=⟨[(2,_,_),(4,_,_),(8,_,_),(9,_,_),(10,_,_)],[(.l 2,_),(.l 4,_)],[],[]⟩) (uAj (⟨sx rfl,sx rfl,sx rfl,sx rfl,sx rfl,trivial⟩) (⟨sx rfl,sx rfl,trivial⟩) trivial) ?_;refine uAt ?_;refine uAW (ι:=Nat) { t:=[(2,_,_),(4,_,_),(8,_,_),(9,_,_)],bx:=[(.l 2,_),(.l 4,_)],ow:=[] } (fun k=>[(10,true,xi (k : Int))]) (fun k=>[]) (fun k=>k=0) (fun k=>0) (0) (by simp) (uAj (⟨sx rfl,sx rfl,sx rfl,sx rfl,sx rfl,trivial⟩) (⟨sx rfl,sx rfl,trivial⟩) trivial) ?_
 intro k hok
 dsimp only [List.cons_append,List.nil_append]
 refine uAe (uAb ?_);refine uAa rfl rfl rfl (uAk rfl rfl gU gU rfl) ?_;refine uAf ?_;refine uAe ?_;refine uAl rfl (fun hc=>?_) (fun hc=>?_)
 ·try simp only [nn,T.rows_len,uAh] at hc
  exfalso; simp at hc; omega
 ·try simp only [nn,T.rows_len,uAh] at hc
  refine uAL ?_
  repeat (first | refine uAF ?_ | refine uAE ?_ | refine uAB rfl ?_)
  refine uAe (uAb ?_);refine uAa rfl rfl rfl (uAs rfl gU rfl rfl rfl rfl rfl) ?_;refine uAw rfl rfl rfl rfl rfl rfl gU gU (uJJ _ _ (Nat.le_refl _) (by omega)) rfl ?_;refine uAu rfl (uAz rfl rfl rfl rfl rfl rfl rfl) ?_;refine uAa rfl rfl rfl (uAd rfl gU) ?_;refine uAf ?_;refine uAo ?_
  repeat (first | refine tR ?_ | refine bR ?_)
  refine uAq rfl ?_ trivial
  rfl
theorem uFy (t : T) (h : t.size≤2000000) : Ctr sys 138 [xm t] [] (xm t) none []:=by
 refine uAv Tryz.func138 rfl rfl rfl rfl rfl rfl ?_;refine uAe (uAb ?_);refine uAu rfl (uAT rfl rfl rfl rfl) ?_;refine uAu rfl (uAP rfl rfl rfl) ?_;refine uAf ?_;refine uAe (uAb ?_);refine uAa rfl rfl rfl (uAs rfl gU rfl rfl rfl rfl rfl) ?_;refine uAw rfl rfl rfl rfl rfl rfl gU gU (uMg _ (by omega)) rfl ?_;refine uAa rfl rfl rfl (uAc rfl gU) ?_;refine uAa rfl rfl rfl (uAG rfl gU rfl) ?_;refine uAa rfl rfl rfl (uAG rfl gU rfl) ?_;refine uAu rfl (uAP rfl rfl rfl) ?_;refine uAu rfl (uAz rfl rfl rfl rfl rfl rfl rfl) ?_;refine uAa rfl rfl rfl (uAd rfl gU) ?_;refine uAf ?_;refine uAn (s:=⟨[(2,_,_),(3,_,_)],[(.l 2,_),(.l 3,_)],[],[]⟩) (uAj (⟨sx rfl,sx rfl,trivial⟩) (⟨sx rfl,sx rfl,trivial⟩) trivial) ?_;refine uAe (uAb ?_);refine uAa rfl rfl rfl (uAs rfl gU rfl rfl rfl rfl rfl) ?_;refine uAu rfl (uAz rfl rfl rfl rfl rfl rfl rfl) ?_;refine uAf ?_;refine uAo ?_
 repeat (first | refine tR ?_ | refine bR ?_)
 refine uAq rfl ?_ trivial
 rfl
end Go.Proofs.YtnjjdbapadkomaaGreatDoor
namespace Go.Proofs.YtnjjdbapadkomaaGreatDoor
open Go Go.Abs
namespace T
def cmp0 (a b : T) : Int :=
 if uBH a.size b.size≠0 then uBH a.size b.size else if uBH a.kind b.kind≠0 then uBH a.kind b.kind
 else if Op.bytesLess a.name b.name=true then -1 else if (!(Op.bytesLess a.name b.name || a.name == b.name))=true then 1
 else if uBH a.sort b.sort≠0 then uBH a.sort b.sort else uBH a.kids.length b.kids.length
mutual
def cmp : T→T→Int
 | mk k n s ks,b=>if cmp0 (mk k n s ks) b≠0 then cmp0 (mk k n s ks) b else cmps ks b.kids
def cmps : List T→List T→Int
 | [],_=>0
 | _ :: _,[]=>0
 | x :: xs,y :: ys=>if cmp x y≠0 then cmp x y else cmps xs ys
end
theorem cmp_eq (a b : T) : a.cmp b=if cmp0 a b≠0 then cmp0 a b else cmps a.kids b.kids:=by cases a; rw [cmp]; rfl
theorem cmps_hit : ∀ (a b : List T) (k : Nat) (x y : T),a[k]? = some x→b[k]? = some y→cmps (a.take k) (b.take k)=0→x.cmp y≠0→cmps a b=x.cmp y
 | [],b,k,x,y,h,_,_,_=>by simp at h
 | _ :: _,[],k,x,y,_,h,_,_=>by simp at h
 | a :: ar,b :: br,0,x,y,h,h',_,hx=>by simp at h h'; subst h; subst h'; rw [cmps,if_pos hx]
 | a :: ar,b :: br,k + 1,x,y,h,h',h0,hx=>by
  rw [List.take_succ_cons,List.take_succ_cons,cmps] at h0
  rw [cmps]
  by_cases ht : a.cmp b=0
  ·rw [if_neg (by simpa using ht)] at h0
   rw [if_neg (by simpa using ht)]
   exact cmps_hit ar br k x y (by simpa using h) (by simpa using h') h0 hx
  ·rw [if_pos ht] at h0; exact absurd h0 ht
theorem cmps_step : ∀ (a b : List T) (k : Nat) (x y : T),a[k]? = some x→b[k]? = some y→cmps (a.take k) (b.take k)=0→x.cmp y=0→cmps (a.take (k + 1)) (b.take (k + 1))=0
 | [],b,k,x,y,h,_,_,_=>by simp at h
 | _ :: _,[],k,x,y,_,h,_,_=>by simp at h
 | a :: ar,b :: br,0,x,y,h,h',_,hx=>by simp at h h'; subst h; subst h'; simp [cmps,hx]
 | a :: ar,b :: br,k + 1,x,y,h,h',h0,hx=>by
  rw [List.take_succ_cons,List.take_succ_cons,cmps] at h0
  rw [List.take_succ_cons,List.take_succ_cons,cmps]
  by_cases ht : a.cmp b=0
  ·rw [if_neg (by simpa using ht)] at h0
   rw [if_neg (by simpa using ht)]
   exact cmps_step ar br k x y (by simpa using h) (by simpa using h') h0 hx
  ·rw [if_pos ht] at h0; exact absurd h0 ht
end T
theorem uIp {a b : Int} (h : uBH a b=0) : a=b:=by
 unfold uBH at h; split at h
 ·omega
 ·split at h <;> omega
def uNB (a b : T) (k : Nat) : St:={ t:=[(2,true, .v (.ptr (.l 2) 0)),(3,true, .v (.ptr (.l 3) 0)),(9,true,xi k)],bx:=[(.l 2,a.cells),(.l 3,b.cells)],ow:=[] }
theorem uH1 : ∀ (n : Nat) (a b : T),a.size≤n→n≤2000000→b.size≤2000000→Ctr sys 71 [xm a,xm b] [] (xi (a.cmp b)) none []:=by
 intro n
 induction n with
 | zero=>intro t _ h; have := t.size_pos; omega
 | succ n ih =>
  intro a b ha hn hb
  have hls:=T.len_sizes a.kids
  have hse:=a.size_eq
  refine uAv Tryz.func71 rfl rfl rfl rfl rfl rfl ?_;refine uAe (uAb ?_);refine uAu rfl (uAT rfl rfl rfl rfl) ?_;refine uAu rfl (uAT rfl rfl rfl rfl) ?_;refine uAa rfl rfl rfl (uAd rfl gU) ?_;refine uAf ?_;refine uAe ?_;refine uAe ?_;refine awp_drawn' (by kernel_rfl) ?_;refine uBQ rfl rfl rfl rfl rfl rfl rfl gU rfl rfl rfl rfl rfl ?_;refine uBa rfl rfl rfl rfl rfl rfl rfl gU gU (uFo _ a (Nat.le_refl _) (by omega)) rfl ?_;refine uBQ rfl rfl rfl rfl rfl rfl rfl gU rfl rfl rfl rfl rfl ?_;refine uBa rfl rfl rfl rfl rfl rfl rfl gU gU (uFo _ b (Nat.le_refl _) hb) rfl ?_;refine uBa rfl rfl rfl rfl rfl rfl rfl gU gU (uEb _ _) rfl ?_;refine uAi rfl rfl rfl rfl (uAd rfl gU) ?_;refine uBg (by kernel_rfl) ?_;refine uAn (s:=⟨[(2,_,_),(3,_,_),(5,_,_)],[(.l 2,_),(.l 3,_)],[],[]⟩) (uAj (⟨sx rfl,sx rfl,sx rfl,trivial⟩) (⟨sx rfl,sx rfl,trivial⟩) trivial) ?_;refine uAe (uAb ?_);refine uAa rfl rfl rfl (uAc rfl gU) ?_;refine uAa rfl rfl rfl (uAk rfl rfl gU gU rfl) ?_;refine uAf ?_;refine uAl rfl (fun hc=>?_) (fun hc=>?_)
  ·refine uAe (uAb ?_)
   refine uAa rfl rfl rfl (uAc rfl gU) ?_;refine uAa rfl rfl rfl (uAd rfl gU) ?_;refine uAf ?_;refine uAo ?_
   repeat (first | refine tR ?_ | refine bR ?_)
   refine uAq rfl ?_ trivial;refine uA9 ?_
   rw [T.cmp_eq]
   have h0 : T.cmp0 a b=uBH a.size b.size:=by rw [T.cmp0,if_pos (by simpa using hc)]
   rw [h0,if_pos (by simpa using hc)]
  ·have e1 : ¬ uBH (a.size : Int) (b.size : Int)≠0:=by simpa using hc
   refine uAp ?_;refine uAe ?_;refine uAe (uAb ?_);refine uAa rfl rfl rfl (uAg rfl gU rfl rfl) ?_;refine uAa rfl rfl rfl (uAm rfl gU rfl rfl rfl rfl) ?_;refine uAa rfl rfl rfl (uAg rfl gU rfl rfl) ?_;refine uAa rfl rfl rfl (uAm rfl gU rfl rfl rfl rfl) ?_;refine uAw rfl rfl rfl rfl rfl rfl gU gU (uEb _ _) rfl ?_;refine uAa rfl rfl rfl (uAd rfl gU) ?_;refine uAf ?_;refine uAn (s:=⟨[(2,_,_),(3,_,_),(6,_,_)],[(.l 2,_),(.l 3,_)],[],[]⟩) (uAj (⟨sx rfl,sx rfl,sx rfl,trivial⟩) (⟨sx rfl,sx rfl,trivial⟩) trivial) ?_;refine uAe (uAb ?_);refine uAa rfl rfl rfl (uAc rfl gU) ?_;refine uAa rfl rfl rfl (uAk rfl rfl gU gU rfl) ?_;refine uAf ?_;refine uAl rfl (fun hc2=>?_) (fun hc2=>?_)
   ·refine uAe (uAb ?_)
    refine uAa rfl rfl rfl (uAc rfl gU) ?_;refine uAa rfl rfl rfl (uAd rfl gU) ?_;refine uAf ?_;refine uAo ?_
    repeat (first | refine tR ?_ | refine bR ?_)
    refine uAq rfl ?_ trivial;refine uA9 ?_
    have h0 : T.cmp0 a b=uBH a.kind b.kind:=by rw [T.cmp0,if_neg e1,if_pos (by simpa using hc2)]
    rw [T.cmp_eq,h0,if_pos (by simpa using hc2)]
   ·have e2 : ¬ uBH a.kind b.kind≠0:=by simpa using hc2
    refine uAp ?_;refine uAe ?_;refine uAe (uAb ?_);refine uAa rfl rfl rfl (uAg rfl gU rfl rfl) ?_;refine uAa rfl rfl rfl (uAm rfl gU rfl rfl rfl rfl) ?_;refine uAa rfl rfl rfl (uAg rfl gU rfl rfl) ?_;refine uAa rfl rfl rfl (uAm rfl gU rfl rfl rfl rfl) ?_;refine uAa rfl rfl rfl (uAY rfl rfl gU gU rfl) ?_;refine uAf ?_;refine uAn (s:=⟨[(2,_,_),(3,_,_),(31,_,_)],[(.l 2,_),(.l 3,_)],[],[]⟩) (uAj (⟨sx rfl,sx rfl,sx rfl,trivial⟩) (⟨sx rfl,sx rfl,trivial⟩) trivial) ?_;refine uAl rfl (fun hc3=>?_) (fun hc3=>?_)
    ·refine uAe (uAb ?_)
     refine uAa rfl rfl rfl (uAd rfl gU) ?_;refine uAf ?_;refine uAo ?_
     repeat (first | refine tR ?_ | refine bR ?_)
     refine uAq rfl ?_ trivial;refine uA9 ?_
     have h0 : T.cmp0 a b = -1:=by rw [T.cmp0,if_neg e1,if_neg e2,if_pos hc3]
     rw [T.cmp_eq,h0]; rfl
    ·refine uAp ?_
     refine uAe ?_;refine uAe (uAb ?_);refine uAa rfl rfl rfl (uAg rfl gU rfl rfl) ?_;refine uAa rfl rfl rfl (uAm rfl gU rfl rfl rfl rfl) ?_;refine uAa rfl rfl rfl (uAg rfl gU rfl rfl) ?_;refine uAa rfl rfl rfl (uAm rfl gU rfl rfl rfl rfl) ?_;refine uAa rfl rfl rfl (uAY rfl rfl gU gU rfl) ?_;refine uAf ?_;refine uAn (s:=⟨[(2,_,_),(3,_,_),(36,_,_)],[(.l 2,_),(.l 3,_)],[],[]⟩) (uAj (⟨sx rfl,sx rfl,sx rfl,trivial⟩) (⟨sx rfl,sx rfl,trivial⟩) trivial) ?_;refine uAl rfl (fun hc4=>?_) (fun hc4=>?_)
     ·refine uAe (uAb ?_)
      refine uAa rfl rfl rfl (uAd rfl gU) ?_;refine uAf ?_;refine uAo ?_
      repeat (first | refine tR ?_ | refine bR ?_)
      refine uAq rfl ?_ trivial;refine uA9 ?_
      have h0 : T.cmp0 a b=1:=by rw [T.cmp0,if_neg e1,if_neg e2,if_neg (by rw [hc3]; simp),if_pos hc4]
      rw [T.cmp_eq,h0]; rfl
     ·refine uAp ?_
      refine uAe ?_;refine uAe (uAb ?_);refine uAa rfl rfl rfl (uAg rfl gU rfl rfl) ?_;refine uAa rfl rfl rfl (uAm rfl gU rfl rfl rfl rfl) ?_;refine uAa rfl rfl rfl (uAg rfl gU rfl rfl) ?_;refine uAa rfl rfl rfl (uAm rfl gU rfl rfl rfl rfl) ?_;refine uAw rfl rfl rfl rfl rfl rfl gU gU (uEb _ _) rfl ?_;refine uAa rfl rfl rfl (uAd rfl gU) ?_;refine uAf ?_;refine uAn (s:=⟨[(2,_,_),(3,_,_),(7,_,_)],[(.l 2,_),(.l 3,_)],[],[]⟩) (uAj (⟨sx rfl,sx rfl,sx rfl,trivial⟩) (⟨sx rfl,sx rfl,trivial⟩) trivial) ?_;refine uAe (uAb ?_);refine uAa rfl rfl rfl (uAc rfl gU) ?_;refine uAa rfl rfl rfl (uAk rfl rfl gU gU rfl) ?_;refine uAf ?_;refine uAl rfl (fun hc5=>?_) (fun hc5=>?_)
      ·refine uAe (uAb ?_)
       refine uAa rfl rfl rfl (uAc rfl gU) ?_;refine uAa rfl rfl rfl (uAd rfl gU) ?_;refine uAf ?_;refine uAo ?_
       repeat (first | refine tR ?_ | refine bR ?_)
       refine uAq rfl ?_ trivial;refine uA9 ?_
       have h0 : T.cmp0 a b=uBH a.sort b.sort:=by rw [T.cmp0,if_neg e1,if_neg e2,if_neg (by rw [hc3]; simp),if_neg (by rw [hc4]; simp),if_pos (by simpa using hc5)]
       rw [T.cmp_eq,h0,if_pos (by simpa using hc5)]
      ·have e5 : ¬ uBH a.sort b.sort≠0:=by simpa using hc5
       have h0 : T.cmp0 a b=uBH a.kids.length b.kids.length:=by rw [T.cmp0,if_neg e1,if_neg e2,if_neg (by rw [hc3]; simp),if_neg (by rw [hc4]; simp),if_neg e5]
       refine uAp ?_;refine uAe ?_;refine uAe (uAb ?_);refine uAa rfl rfl rfl (uAg rfl gU rfl rfl) ?_;refine uAa rfl rfl rfl (uAm rfl gU rfl rfl rfl rfl) ?_;refine uAQ rfl rfl rfl rfl rfl gU rfl rfl ?_ (fun hh=>by simp at hh); intro hlen;refine uAa rfl rfl rfl (uAg rfl gU rfl rfl) ?_;refine uAa rfl rfl rfl (uAm rfl gU rfl rfl rfl rfl) ?_;refine uAQ rfl rfl rfl rfl rfl gU rfl rfl ?_ (fun hh=>by simp at hh); intro hlen;refine uAw rfl rfl rfl rfl rfl rfl gU gU (uEb _ _) rfl ?_;refine uAa rfl rfl rfl (uAd rfl gU) ?_;refine uAf ?_;refine uAn (s:=⟨[(2,_,_),(3,_,_),(8,_,_)],[(.l 2,_),(.l 3,_)],[],[]⟩) (uAj (⟨sx rfl,sx rfl,sx rfl,trivial⟩) (⟨sx rfl,sx rfl,trivial⟩) trivial) ?_;refine uAe (uAb ?_);refine uAa rfl rfl rfl (uAc rfl gU) ?_;refine uAa rfl rfl rfl (uAk rfl rfl gU gU rfl) ?_;refine uAf ?_;refine uAl rfl (fun hc6=>?_) (fun hc6=>?_)
       ·refine uAe (uAb ?_)
        refine uAa rfl rfl rfl (uAc rfl gU) ?_;refine uAa rfl rfl rfl (uAd rfl gU) ?_;refine uAf ?_;refine uAo ?_
        repeat (first | refine tR ?_ | refine bR ?_)
        refine uAq rfl ?_ trivial;refine uA9 ?_
        simp only [T.rows_len] at hc6 ⊢
        rw [T.cmp_eq,h0,if_pos (by simpa using hc6)]
       ·simp only [T.rows_len] at hc6
        have e6 : uBH (a.kids.length : Int) (b.kids.length : Int)=0:=by simpa using hc6
        have hll:=uIp e6
        have hll' : a.kids.length=b.kids.length:=by omega
        have hC : a.cmp b=T.cmps a.kids b.kids:=by rw [T.cmp_eq,h0,if_neg (by simpa using e6)]
        refine uAp ?_;refine uAe ?_;refine uAe (uAb ?_);refine uAa rfl rfl rfl (uAd rfl gU) ?_;refine uAf ?_;refine uAt ?_;refine uCA (uNB a b) (fun k=>k≤a.kids.length∧T.cmps (a.kids.take k) (b.kids.take k)=0) (fun k=>a.kids.length - k) 0 ⟨Nat.zero_le _,by simp [T.cmps]⟩ ?_ ?_
        ·refine uAj ⟨⟨_,rfl,rfl⟩,⟨_,rfl,rfl⟩,⟨_,rfl,rfl⟩,trivial⟩ ⟨⟨_,rfl,rfl⟩,⟨_,rfl,rfl⟩,trivial⟩ trivial
        ·rintro k ⟨hk,hz⟩
         refine uAe ?_;refine uAe (uAb ?_);refine uAa rfl rfl rfl (uAc rfl gU) ?_;refine uAa rfl rfl rfl (uAg rfl gU rfl rfl) ?_;refine uAa rfl rfl rfl (uAm rfl gU rfl rfl rfl rfl) ?_;refine uAQ rfl rfl rfl rfl rfl gU rfl rfl ?_ (fun hh=>by simp at hh); intro hlen;refine uAa rfl rfl rfl (uAk rfl rfl gU gU rfl) ?_;refine uAf ?_;refine uAn (s:=⟨[(2,_,_),(3,_,_),(9,_,_),(59,_,_)],[(.l 2,_),(.l 3,_)],[],[]⟩) (uAj (⟨sx rfl,sx rfl,sx rfl,sx rfl,trivial⟩) (⟨sx rfl,sx rfl,trivial⟩) trivial) ?_;refine uAl rfl (fun hc7=>?_) (fun hc7=>?_)
         ·rw [T.rows_len] at hc7
          have hlt : k < a.kids.length:=by simpa using hc7
          obtain ⟨x,hx⟩ : ∃ x,a.kids[k]? = some x:=⟨_,List.getElem?_eq_getElem hlt⟩
          obtain ⟨y,hy⟩ : ∃ y,b.kids[k]? = some y:=⟨_,List.getElem?_eq_getElem (by omega)⟩
          have q1:=T.size_kid hx
          have q2:=T.size_kid hy
          refine uAp ?_;refine uAe ?_;refine uAt ?_;refine uAe ?_;refine awp_drawn' (by kernel_rfl) ?_;refine uAi rfl rfl rfl rfl (uAg rfl gU rfl rfl) ?_;refine uAV rfl rfl rfl rfl rfl rfl rfl gU rfl rfl rfl rfl ?_;refine uAi rfl rfl rfl rfl (uAc rfl gU) ?_;refine uAi rfl rfl rfl rfl (uAy rfl rfl gU gU rfl rfl rfl (fun _=>T.rows_get hx)) ?_;refine uAi rfl rfl rfl rfl (uAJ rfl gU rfl rfl rfl rfl) ?_;refine uAi rfl rfl rfl rfl (uAg rfl gU rfl rfl) ?_;refine uAV rfl rfl rfl rfl rfl rfl rfl gU rfl rfl rfl rfl ?_;refine uAi rfl rfl rfl rfl (uAc rfl gU) ?_;refine uAi rfl rfl rfl rfl (uAy rfl rfl gU gU rfl rfl rfl (fun _=>T.rows_get hy)) ?_;refine uAi rfl rfl rfl rfl (uAJ rfl gU rfl rfl rfl rfl) ?_;refine uBa rfl rfl rfl rfl rfl rfl rfl gU gU (ih x y (by omega) (by omega) (by omega)) rfl ?_;refine uAi rfl rfl rfl rfl (uAd rfl gU) ?_;refine uBg (by kernel_rfl) ?_;refine uAn (s:=⟨[(2,_,_),(3,_,_),(9,_,_),(10,_,_)],[(.l 2,_),(.l 3,_)],[],[]⟩) (uAj (⟨sx rfl,sx rfl,sx rfl,sx rfl,trivial⟩) (⟨sx rfl,sx rfl,trivial⟩) trivial) ?_;refine uAe (uAb ?_);refine uAa rfl rfl rfl (uAc rfl gU) ?_;refine uAa rfl rfl rfl (uAk rfl rfl gU gU rfl) ?_;refine uAf ?_;refine uAl rfl (fun hc8=>?_) (fun hc8=>?_)
          ·refine uAe (uAb ?_)
           refine uAa rfl rfl rfl (uAc rfl gU) ?_;refine uAa rfl rfl rfl (uAd rfl gU) ?_;refine uAf ?_;refine uAo ?_
           repeat (first | refine tR ?_ | refine bR ?_)
           refine uAq rfl ?_ trivial;exact uA9 (by rw [hC,T.cmps_hit _ _ _ _ _ hx hy hz (by simpa using hc8)])
          ·refine uAp ?_
           refine uAb ?_;refine uAa rfl rfl rfl (uAc rfl gU) ?_;refine uAa rfl rfl rfl (uAr rfl rfl gU gU rfl (IntWalk.i64_in _ (by omega))) ?_;refine uAa rfl rfl rfl (uAd rfl gU) ?_;refine uAf ?_;refine ⟨k + 1,⟨by omega,T.cmps_step _ _ _ _ _ hx hy hz (by simpa using hc8)⟩,by omega,?_⟩;refine uAj ⟨⟨_,rfl,rfl⟩,⟨_,rfl,rfl⟩,⟨_,rfl,rfl⟩,trivial⟩ ⟨⟨_,rfl,rfl⟩,⟨_,rfl,rfl⟩,trivial⟩ trivial
         ·refine uAL ?_
          repeat (first | refine uAF ?_ | refine uAE ?_ | refine uAB rfl ?_)
          refine uAe (uAb ?_);refine uAa rfl rfl rfl (uAd rfl gU) ?_;refine uAf ?_;refine uAo ?_
          repeat (first | refine tR ?_ | refine bR ?_)
          refine uAq rfl ?_ trivial
          rw [T.rows_len] at hc7
          have hke : k=a.kids.length:=by simp at hc7; omega
          subst hke
          rw [List.take_length,hll',List.take_length] at hz
          exact uA9 (by rw [hC,hz])
theorem uLw (a b : T) (ha : a.size≤2000000) (hb : b.size≤2000000) : Ctr sys 20 [xm a,xm b] [] (xb (a.cmp b == 0)) none []:=by
 refine uAv Tryz.func20 rfl rfl rfl rfl rfl rfl ?_;refine uAe (uAb ?_);refine uAu rfl (uAT rfl rfl rfl rfl) ?_;refine uAu rfl (uAT rfl rfl rfl rfl) ?_;refine uAa rfl rfl rfl (uAd rfl gU) ?_;refine uAf ?_;refine uAe (uAb ?_);refine uAa rfl rfl rfl (uAs rfl gU rfl rfl rfl rfl rfl) ?_;refine uAa rfl rfl rfl (uAs rfl gU rfl rfl rfl rfl rfl) ?_;refine uAw rfl rfl rfl rfl rfl rfl gU gU (uH1 _ a b (Nat.le_refl _) ha hb) rfl ?_;refine uAa rfl rfl rfl (uAk rfl rfl gU gU rfl) ?_;refine uAa rfl rfl rfl (uAd rfl gU) ?_;refine uAf ?_;refine uAo ?_
 repeat (first | refine tR ?_ | refine bR ?_)
 refine uAq rfl ?_ trivial
 rfl
end Go.Proofs.YtnjjdbapadkomaaGreatDoor
namespace Go.Proofs.YtnjjdbapadkomaaGreatDoor
open Go Go.Abs
end Go.Proofs.YtnjjdbapadkomaaGreatDoor
namespace Go.Proofs.YtnjjdbapadkomaaGreatDoor
open Go Go.Abs
def Tk.nl (t : Tk) (b : Bool) : Tk:=if b=true then t else t.onl 0
def uBD (s : List UInt8) : List UInt8:=s.take (uB7 true s)
theorem uDr {i : Bool} {c : UInt8} {r : List UInt8} (h1 : ¬(i=true∧c.toNat=92)) (h2 : ¬((if c.toNat=34 then !i else i)=false∧c.toNat=35∧(r.getD 0 0).toNat=35)) :
  uB7 i (c :: r)=uB7 (if c.toNat=34 then !i else i) r + 1:=by
 cases r with
 | nil=>simp [uB7]
 | cons d l =>
  rw [List.getD_cons_zero] at h2
  rw [uB7,if_neg h1,if_neg h2]
theorem uCh {c : UInt8} {r : List UInt8} (hc : c.toNat≠34) (h2 : ¬(c.toNat=35∧(r.getD 0 0).toNat=35)) : uA5 (c :: r)=c :: uA5 r:=by
 unfold uA5
 rw [uDr (by simp) (by rw [if_neg hc]; rintro ⟨-, q⟩; exact h2 q),if_neg hc,List.take_succ_cons]
theorem uCP {c : UInt8} {r : List UInt8} (hc : c.toNat=34) : uA5 (c :: r)=c :: uBD r:=by
 unfold uA5 uBD
 rw [uDr (by simp) (by rintro ⟨-, q,-⟩; omega),if_pos hc,List.take_succ_cons]; rfl
theorem uFl {c : UInt8} {r : List UInt8} (hc : c.toNat=35) (hd : (r.getD 0 0).toNat=35) : uA5 (c :: r)=[]:=by
 cases r with
 | nil=>simp at hd
 | cons d l =>
  rw [List.getD_cons_zero] at hd
  unfold uA5
  rw [uB7,if_neg (by simp),if_pos ⟨by rw [if_neg (by omega)],hc,hd⟩]; rfl
theorem uIu {c : UInt8} {r : List UInt8} (hc : c.toNat=34) : uBD (c :: r)=c :: uA5 r:=by
 unfold uA5 uBD
 rw [uDr (by rintro ⟨-, q⟩; omega) (by rintro ⟨-, q,-⟩; omega),if_pos hc,List.take_succ_cons]; rfl
theorem uC5 {c : UInt8} {r : List UInt8} (h1 : c.toNat≠34) (h2 : c.toNat≠92) : uBD (c :: r)=c :: uBD r:=by
 unfold uBD
 rw [uDr (by rintro ⟨-, q⟩; omega) (by rw [if_neg h1]; rintro ⟨q,-⟩; simp at q),if_neg h1,List.take_succ_cons]
theorem uLr {c d : UInt8} {r : List UInt8} (h : c.toNat=92) : uBD (c :: d :: r)=c :: d :: uBD r:=by
 unfold uBD
 rw [uB7,if_pos ⟨rfl,h⟩]; rfl
theorem uKV (c : UInt8) : uBD [c]=[c]:=by unfold uBD; rw [uB7]; rfl
theorem uE7 : uA5 []=[]:=rfl
theorem uKK : uBD []=[]:=rfl
theorem uKu (b : UInt8) (l : List UInt8) : ([35,35] : List UInt8).isPrefixOf (b :: l)=(decide (b.toNat=35) && decide ((l.getD 0 0).toNat=35)):=by
 have hb : ∀ x : UInt8,((35 : UInt8) == x)=decide (x.toNat=35):=by
  intro x
  rw [Bool.eq_iff_iff]
  simp only [beq_iff_eq,decide_eq_true_eq]
  exact ⟨fun h=>by subst h; rfl,fun h=>UInt8.toNat_inj.1 (by rw [h]; rfl)⟩
 cases l with
 | nil=>simp [List.isPrefixOf,hb]
 | cons c r=>simp [List.isPrefixOf,hb]
theorem uHr : ∀ (l : List UInt8),wdN (uA5 l)=nmP l∧(uA5 l).take (nmP l)=l.take (nmP l)∧(uA5 l).drop (nmP l)=uA5 (l.drop (nmP l))
 | []=>by simp [uE7,wdN,nmP]
 | b :: r=>by
  by_cases h : uBN (b.toNat : Int)=true ∧ ¬(b.toNat=35∧(r.getD 0 0).toNat=35)
  ·have h34 : b.toNat≠34:=by
    intro q
    have := h.1
    rw [q] at this
    revert this; decide
   obtain ⟨i1,i2,i3⟩:=uHr r
   rw [uCh h34 h.2,wdN,if_pos h.1,nmP,if_pos h,i1]
   exact ⟨rfl,by rw [List.take_succ_cons,List.take_succ_cons,i2],by rw [List.drop_succ_cons,List.drop_succ_cons,i3]⟩
  ·have hn : nmP (b :: r)=0:=by rw [nmP,if_neg h]
   rw [hn]
   refine ⟨?_,by simp,by simp⟩
   by_cases hq : b.toNat=35∧(r.getD 0 0).toNat=35
   ·rw [uFl hq.1 hq.2]; rfl
   ·have hp : ¬uBN (b.toNat : Int)=true:=fun q=>h ⟨q,hq⟩
    by_cases h34 : b.toNat=34
    ·rw [uCP h34,wdN,if_neg hp]
    ·rw [uCh h34 hq,wdN,if_neg hp]
theorem uIM : ∀ (l : List UInt8) (n : Nat) (v : Int),numA (uA5 l) n v=numA l n v∧((numA l n v).1=true → ∃ j,(numA l n v).2.1=n + j∧(uA5 l).drop j=uA5 (l.drop j))
 | [],n,v=>by rw [uE7]; exact ⟨rfl,fun _=>⟨0,rfl,rfl⟩⟩
 | b :: r,n,v=>by
  by_cases h : uBt (b.toNat : Int)=true
  ·have hd : (48 : Int)≤b.toNat∧(b.toNat : Int)≤57:=by simpa [uBt] using h
   rw [uCh (by omega) (by omega),numA,if_pos h,numA,if_pos h]
   split
   ·exact ⟨rfl,fun q=>by simp at q⟩
   ·obtain ⟨i1,i2⟩:=uIM r (n + 1) (10 * v + ((b.toNat : Int) - 48))
    refine ⟨i1,fun q=>?_⟩
    obtain ⟨j,q1,q2⟩:=i2 q
    exact ⟨j + 1,by omega,by rw [List.drop_succ_cons,List.drop_succ_cons,q2]⟩
  ·have e : numA (b :: r) n v=(true,n,v):=by rw [numA,if_neg h]
   rw [e]
   refine ⟨?_,fun _=>⟨0,rfl,rfl⟩⟩
   by_cases hq : b.toNat=35∧(r.getD 0 0).toNat=35
   ·rw [uFl hq.1 hq.2]; rfl
   ·by_cases h34 : b.toNat=34
    ·rw [uCP h34,numA,if_neg h]
    ·rw [uCh h34 hq,numA,if_neg h]
theorem uDQ {c : UInt8} (h : hexB c=true) : c.toNat≠34∧c.toNat≠92:=by
 simp [hexB] at h
 omega
theorem take_getD' {α : Type} {l : List α} {d : α} {k j : Nat} (h : j < (l.take k).length) : (l.take k).getD j d=l.getD j d∧j < l.length:=by
 rw [List.length_take] at h
 refine ⟨?_,by omega⟩
 simp only [List.getD_eq_getElem?_getD]; rw [List.getElem?_take,if_pos (by omega)]
theorem uL9 (d : UInt8) (r : List UInt8) : escE (d :: uBD r)=escE (d :: r)∧((escE (d :: r)).2≠0→(d :: uBD r).drop (escE (d :: r)).2=uBD ((d :: r).drop (escE (d :: r)).2)):=by
 have hx : (2≤(uBD r).length∧hexB ((uBD r).getD 0 0)=true∧hexB ((uBD r).getD 1 0)=true) ↔ (2≤r.length∧hexB (r.getD 0 0)=true∧hexB (r.getD 1 0)=true):=by
  constructor
  ·rintro ⟨q1,q2,q3⟩
   obtain ⟨e1,e2⟩:=take_getD' (l:=r) (d:=0) (k:=uB7 true r) (j:=0) (by show 0 < (uBD r).length; omega)
   obtain ⟨e3,e4⟩:=take_getD' (l:=r) (d:=0) (k:=uB7 true r) (j:=1) (by show 1 < (uBD r).length; omega)
   exact ⟨by omega,by rw [← e1]; exact q2,by rw [← e3]; exact q3⟩
  ·rintro ⟨q1,q2,q3⟩
   match r,q1 with
   | a :: b :: r,_ =>
    simp only [List.getD_cons_zero,List.getD_cons_succ] at q2 q3
    rw [uC5 (uDQ q2).1 (uDQ q2).2,uC5 (uDQ q3).1 (uDQ q3).2]
    exact ⟨by simp,q2,q3⟩
 by_cases hh : 2≤r.length∧hexB (r.getD 0 0)=true∧hexB (r.getD 1 0)=true
 ·have hb : ∃ a b t,r=a :: b :: t∧uBD r=a :: b :: uBD t:=by
   match r,hh with
   | a :: b :: t,⟨_,q2,q3⟩ =>
    simp only [List.getD_cons_zero,List.getD_cons_succ] at q2 q3
    exact ⟨a,b,t,rfl,by rw [uC5 (uDQ q2).1 (uDQ q2).2,uC5 (uDQ q3).1 (uDQ q3).2]⟩
  obtain ⟨a,b,t,rfl,hb⟩:=hb
  have e : escE (d :: uBD (a :: b :: t))=escE (d :: a :: b :: t):=by
   rw [hb,escE,escE]
   simp
  refine ⟨e,fun _=>?_⟩
  have h3 : (escE (d :: a :: b :: t)).2=1∨(escE (d :: a :: b :: t)).2=3∨(escE (d :: a :: b :: t)).2=0:=by
   rw [escE]
   repeat' split
   all_goals simp
  rcases h3 with h | h | h
  ·rw [h]; rfl
  ·rw [h,hb]; rfl
  ·contradiction
 ·have hh' : ¬(2≤(uBD r).length∧hexB ((uBD r).getD 0 0)=true∧hexB ((uBD r).getD 1 0)=true):=fun q=>hh (hx.1 q)
  have key : ∀ l : List UInt8,¬(2≤l.length∧hexB (l.getD 0 0)=true∧hexB (l.getD 1 0)=true)→escE (d :: l)=if d.toNat=110 then (10,1) else if d.toNat=116 then (9,1) else if d.toNat=34∨d.toNat=92 then (d,1) else (0,0):=by
   intro l hl
   rw [escE]
   repeat' (split <;> try rfl)
   rename_i q
   exact absurd q.2 hl
  rw [key _ hh',key _ hh]
  refine ⟨rfl,fun q=>?_⟩
  have h1 : (if d.toNat=110 then ((10 : UInt8),1) else if d.toNat=116 then (9,1) else if d.toNat=34∨d.toNat=92 then (d,1) else (0,0)).2=1:=by
   revert q
   repeat' split
   all_goals simp
  rw [h1]; rfl
theorem uF6 : ∀ (N : Nat) (r : List UInt8),r.length≤N → ∀ (n m i : Nat) (out : List UInt8),r.length < n→(uBD r).length < m →
  litA m (uBD r) i out=litA n r i out∧((litA n r i out).2≠0 → ∃ j,(litA n r i out).2=i + j∧(uBD r).drop j=uA5 (r.drop j))
 | N,[],_,n,m,i,out,hn,hm=>by
  obtain ⟨n,rfl⟩ : ∃ k,n=k + 1:=⟨n - 1,by simp at hn; omega⟩
  obtain ⟨m,rfl⟩ : ∃ k,m=k + 1:=⟨m - 1,by omega⟩
  rw [uKK]
  exact ⟨rfl,fun q=>by simp [litA] at q⟩
 | 0,c :: r,h,_,_,_,_,_,_=>by simp at h
 | N + 1,c :: r,h,n,m,i,out,hn,hm=>by
  obtain ⟨n,rfl⟩ : ∃ k,n=k + 1:=⟨n - 1,by omega⟩
  obtain ⟨m,rfl⟩ : ∃ k,m=k + 1:=⟨m - 1,by omega⟩
  simp only [List.length_cons] at h hn
  by_cases h34 : c.toNat=34
  ·rw [uIu h34,litA,if_pos h34,litA,if_pos h34]
   exact ⟨rfl,fun _=>⟨1,rfl,rfl⟩⟩
  by_cases h92 : c.toNat=92
  ·cases r with
   | nil =>
    rw [uKV,litA,if_neg h34,if_pos h92,litA,if_neg h34,if_pos h92]
    exact ⟨rfl,fun q=>by simp [escE] at q⟩
   | cons d r =>
    obtain ⟨e1,e2⟩:=uL9 d r
    rw [uLr h92] at hm ⊢
    rw [litA,if_neg h34,if_pos h92,litA,if_neg h34,if_pos h92,e1]
    split
    ·exact ⟨rfl,fun q=>by simp at q⟩
    ·rename_i hz
     rw [e2 hz]
     have hle:=uHV (d :: r)
     have hl2 : (uBD ((d :: r).drop (escE (d :: r)).2)).length < m:=by
      rw [← e2 hz,List.length_drop]
      simp only [List.length_cons] at hm ⊢
      omega
     obtain ⟨i1,i2⟩:=uF6 N ((d :: r).drop (escE (d :: r)).2) (by rw [List.length_drop]; omega) n m (i + 1 + (escE (d :: r)).2) (out++[(escE (d :: r)).1]) (by rw [List.length_drop]; omega) hl2
     refine ⟨i1,fun q=>?_⟩
     obtain ⟨j,q1,q2⟩:=i2 q
     refine ⟨1 + (escE (d :: r)).2 + j,by omega,?_⟩
     rw [show 1 + (escE (d :: r)).2 + j=((escE (d :: r)).2 + j) + 1 by omega,List.drop_succ_cons,List.drop_succ_cons,← List.drop_drop,← List.drop_drop,e2 hz,q2]
  ·rw [uC5 h34 h92] at hm ⊢
   rw [litA,if_neg h34,if_neg h92,litA,if_neg h34,if_neg h92]
   split
   ·exact ⟨rfl,fun q=>by simp at q⟩
   ·obtain ⟨i1,i2⟩:=uF6 N r (by omega) n m (i + 1) (out++[c]) (by omega) (by simp only [List.length_cons] at hm; omega)
    refine ⟨i1,fun q=>?_⟩
    obtain ⟨j,q1,q2⟩:=i2 q
    exact ⟨j + 1,by omega,by rw [List.drop_succ_cons,List.drop_succ_cons,q2]⟩
theorem uKF {c : UInt8} {r : List UInt8} (hc : c.toNat=34) : litE (uA5 (c :: r))=litE (c :: r)∧((litE (c :: r)).2≠0→(uA5 (c :: r)).drop (litE (c :: r)).2=uA5 ((c :: r).drop (litE (c :: r)).2)):=by
 rw [uCP hc]
 unfold litE
 simp only [List.drop_succ_cons,List.drop_zero,List.length_cons]
 obtain ⟨i1,i2⟩:=uF6 r.length r (Nat.le_refl _) (r.length + 1 + 1) ((uBD r).length + 1 + 1) 1 [] (by omega) (by omega)
 refine ⟨i1,fun q=>?_⟩
 obtain ⟨j,q1,q2⟩:=i2 q
 rw [q1,Nat.add_comm,List.drop_succ_cons,List.drop_succ_cons,q2]
theorem uLh {c : UInt8} {r : List UInt8} (k : Int) (h : ¬(c.toNat=35∧(r.getD 0 0).toNat=35)) :
  (uBv (uA5 (c :: r)) k).2.2=(uBz (c :: r)).2.2∧((uBz (c :: r)).2.2=0→(uBv (uA5 (c :: r)) k).1=(uBz (c :: r)).1.onl k∧(uBv (uA5 (c :: r)) k).2.1=(uBz (c :: r)).2.1 ∧
   (uA5 (c :: r)).drop (uBz (c :: r)).2.1=uA5 ((c :: r).drop (uBz (c :: r)).2.1)):=by
 have h0 : (uA5 (c :: r)).getD 0 0=c:=by
  by_cases h34 : c.toNat=34
  ·rw [uCP h34]; rfl
  ·rw [uCh h34 h]; rfl
 unfold uBv uBz
 rw [h0,List.getD_cons_zero]
 by_cases hl : uBd (c.toNat : Int)=true
 ·have hnl : nlE (c :: r)=nmP (c :: r):=by
   rw [nlE,nmP,if_pos ⟨by simp [uBN,hl],h⟩]; simp; omega
  obtain ⟨i1,i2,i3⟩:=uHr (c :: r)
  rw [if_pos hl,if_pos hl,i1,hnl]
  split
  ·exact ⟨rfl,fun q=>by simp at q⟩
  ·rw [i2]
   exact ⟨rfl,fun _=>⟨rfl,rfl,i3⟩⟩
 rw [if_neg hl,if_neg hl]
 by_cases hd : uBt (c.toNat : Int)=true
 ·obtain ⟨i1,i2⟩:=uIM (c :: r) 0 0
  rw [if_pos hd,if_pos hd,i1]
  split
  ·rename_i hq
   obtain ⟨j,q1,q2⟩:=i2 hq
   refine ⟨rfl,fun _=>⟨rfl,rfl,?_⟩⟩
   dsimp only
   rw [q1,Nat.zero_add,q2]
  ·exact ⟨rfl,fun q=>by simp at q⟩
 rw [if_neg hd,if_neg hd]
 by_cases h34 : c.toNat=34
 ·obtain ⟨i1,i2⟩:=uKF (r:=r) h34
  rw [if_pos h34,if_pos h34,i1]
  split
  ·exact ⟨rfl,fun q=>by simp at q⟩
  ·rename_i hq
   exact ⟨rfl,fun _=>⟨rfl,rfl,i2 hq⟩⟩
 rw [if_neg h34,if_neg h34]
 split
 ·rw [uCh h34 h]
  exact ⟨rfl,fun _=>⟨rfl,rfl,rfl⟩⟩
 ·exact ⟨rfl,fun q=>by simp at q⟩
theorem uCX : ∀ (N : Nat) (l : List UInt8),l.length≤N→(∀ b ∈ l,b.toNat≠10) → ∀ (n m : Nat) (k : Int) (out : List Tk),l.length < n→(uA5 l).length < m→uCx m (uA5 l) k out=uBi n l k out
 | N,[],_,_,n,m,k,out,hn,hm=>by
  obtain ⟨n,rfl⟩ : ∃ k,n=k + 1:=⟨n - 1,by simp at hn; omega⟩
  obtain ⟨m,rfl⟩ : ∃ k,m=k + 1:=⟨m - 1,by omega⟩
  rw [uE7,uCx,uBi,if_pos (.inl rfl)]
 | 0,c :: r,h,_,_,_,_,_,_,_=>by simp at h
 | N + 1,c :: r,h,hno,n,m,k,out,hn,hm=>by
  obtain ⟨n,rfl⟩ : ∃ k,n=k + 1:=⟨n - 1,by omega⟩
  obtain ⟨m,rfl⟩ : ∃ k,m=k + 1:=⟨m - 1,by omega⟩
  simp only [List.length_cons] at h hn
  have hc10:=hno c (by simp)
  by_cases hw : uCe c=true
  ·have hw2 : c.toNat=32∨c.toNat=9∨c.toNat=13:=by simp [uCe] at hw; omega
   have hin : wsp.contains c=true:=by
    rcases hw2 with q | q | q
    ·rw [show c=32 from UInt8.toNat_inj.1 q]; rfl
    ·rw [show c=9 from UInt8.toNat_inj.1 q]; rfl
    ·rw [show c=13 from UInt8.toNat_inj.1 q]; rfl
   have ht : uBl (c :: r)=uBl r:=by
    unfold uBl
    rw [List.dropWhile_cons,if_pos hin]
   have e1 : uBi (n + 1) (c :: r) k out=uBi (n + 1) r k out:=by rw [uBi,uBi,ht]
   have hb : uA5 (c :: r)=c :: uA5 r:=uCh (by omega) (by omega)
   rw [hb] at hm ⊢
   rw [uCx,if_pos hw,e1]
   exact uCX N r (by omega) (fun b hb=>hno b (by simp [hb])) (n + 1) m k out (by omega) (by simp only [List.length_cons] at hm; omega)
  ·have hin : ¬wsp.contains c=true:=by
    intro q
    apply hw
    have : c=32∨c=9∨c=13:=by simpa [wsp] using q
    rcases this with rfl | rfl | rfl <;> rfl
   have ht : uBl (c :: r)=c :: r:=by
    unfold uBl
    rw [List.dropWhile_cons,if_neg hin]
   by_cases h35 : c.toNat=35∧(r.getD 0 0).toNat=35
   ·rw [uFl h35.1 h35.2,uCx,uBi,ht,if_pos (.inr (by rw [uKu]; simp only [h35.1,h35.2,decide_true,Bool.and_self]))]
   ·obtain ⟨e1,e2⟩:=uLh (c:=c) (r:=r) k h35
    have hne : 0 < (c :: r).length:=by simp
    have hnx:=uEI hne
    have hb : ∃ t,uA5 (c :: r)=c :: t:=by
     by_cases h34 : c.toNat=34
     ·exact ⟨_,uCP h34⟩
     ·exact ⟨_,uCh h34 h35⟩
    obtain ⟨t,hb⟩:=hb
    have hb1 : 1≤(uA5 (c :: r)).length:=by rw [hb]; simp
    rw [uBi,ht,if_neg (by
     rintro (q | q)
     ·cases q
     ·rw [uKu] at q; simp at q; exact h35 q)]
    have e3 : uCx (m + 1) (uA5 (c :: r)) k out=if (uBv (uA5 (c :: r)) k).2.2≠0 then ([],(uBv (uA5 (c :: r)) k).2.2) else uCx m ((uA5 (c :: r)).drop (uBv (uA5 (c :: r)) k).2.1) k (out++[(uBv (uA5 (c :: r)) k).1]):=by
     rw [hb,uCx,if_neg hw]
    rw [e3,e1]
    split
    ·rfl
    ·rename_i hz
     have hz:=Decidable.not_not.1 hz
     obtain ⟨q1,q2,q3⟩:=e2 hz
     have hge:=hnx.2 hz
     rw [q1,q2,q3]
     refine uCX N _ (by rw [List.length_drop]; simp only [List.length_cons]; omega) (fun b hb=>hno b (List.mem_of_mem_drop hb)) n m k _ (by rw [List.length_drop]; simp only [List.length_cons]; omega) ?_
     rw [← q3,List.length_drop]
     omega
def fin : List (List UInt8)→List (List UInt8)
 | []=>[]
 | [x]=>if x=[] then [] else [x]
 | x :: y :: r=>x :: fin (y :: r)
theorem uGb : ∀ (s line : List UInt8) (out : List (List UInt8)),∀ x r,spl s=x :: r→lnsA s line out=out++fin ((line++x) :: r)
 | [],line,out,x,r,h=>by
  simp only [spl,List.cons.injEq] at h
  obtain ⟨rfl,rfl⟩:=h
  rw [lnsA,fin,List.append_nil]
  split <;> simp
 | b :: l,line,out,x,r,h=>by
  rw [lnsA]
  rw [spl] at h
  split at h
  ·rename_i hb
   rw [if_pos hb]
   simp only [List.cons.injEq] at h
   obtain ⟨rfl,rfl⟩:=h
   cases hs : spl l with
   | nil=>exact absurd hs (uGI l)
   | cons y r =>
    rw [uGb l [] (out++[line]) y r hs,fin]
    simp
  ·rename_i hb
   rw [if_neg hb]
   split at h
   ·rename_i hs; exact absurd hs (uGI l)
   ·rename_i y t hs
    simp only [List.cons.injEq] at h
    obtain ⟨rfl,rfl⟩:=h
    rw [uGb l (line++[b]) out y t hs]
    simp
theorem uMf (s : List UInt8) : lnsR s=fin (spl s):=by
 cases hs : spl s with
 | nil=>exact absurd hs (uGI s)
 | cons x r =>
  unfold lnsR
  rw [uGb s [] [] x r hs]
  simp
theorem uE1 : ∀ (s : List UInt8),∀ x ∈ spl s,∀ b ∈ x,b.toNat≠10
 | [],x,hx,b,hb=>by simp [spl] at hx; subst hx; simp at hb
 | c :: l,x,hx,b,hb=>by
  have ih:=uE1 l
  rw [spl] at hx
  split at hx
  ·rcases List.mem_cons.1 hx with q | q
   ·subst q; simp at hb
   ·exact ih x q b hb
  ·rename_i hc
   split at hx
   ·simp at hx; subst hx; simp at hb; subst hb; exact hc
   ·rename_i y t hs
    rw [hs] at ih
    rcases List.mem_cons.1 hx with q | q
    ·subst q
     rcases List.mem_cons.1 hb with z | z
     ·subst z; exact hc
     ·exact ih y (by simp) b z
    ·exact ih x (by simp [q]) b hb
theorem uIY : ∀ (L : List (List UInt8)),(∀ x ∈ L,∀ b ∈ x,b.toNat≠10) → ∀ (k : Nat) (out : List Tk),uEO (fin L) k out=uCv L k out
 | [],_,k,out=>rfl
 | [x],h,k,out=>by
  have hl:=uCX x.length x (Nat.le_refl _) (h x (by simp)) (x.length + 1) ((uA5 x).length + 1) (k : Int) out (by omega) (by omega)
  rw [fin]
  split
  ·rename_i hx
   subst hx
   rw [uCv,show (uBi (([] : List UInt8).length + 1) [] (k : Int) out)=(out,0) by rw [uBi,if_pos (.inl rfl)]]
   rfl
  ·rw [uCv,uEO,hl]
   rfl
 | x :: y :: r,h,k,out=>by
  have hl:=uCX x.length x (Nat.le_refl _) (h x (by simp)) (x.length + 1) ((uA5 x).length + 1) (k : Int) out (by omega) (by omega)
  rw [fin,uCv,uEO,hl]
  split
  ·rfl
  ·exact uIY (y :: r) (fun z hz=>h z (List.mem_cons_of_mem _ hz)) (k + 1) _
theorem uM9 (s : List UInt8) : tokR s=tokP s:=by
 unfold tokR tokP
 rw [uMf,uIY _ (uE1 s)]
end Go.Proofs.YtnjjdbapadkomaaGreatDoor
namespace Go.Proofs.YtnjjdbapadkomaaGreatDoor
open Go Go.Abs
theorem uH8 : ∀ (l : List UInt8),nmP l=l.length→l.all (fun b=>uBN (b.toNat : Int))=true
 | [],_=>rfl
 | b :: l,h=>by
  rw [nmP] at h
  split at h
  ·rename_i hq
   rw [List.all_cons,hq.1,uH8 l (by simpa using h)]; rfl
  ·simp at h
theorem uFh {b : UInt8} (h : uBN (b.toNat : Int)=true) : b.toNat≠10:=by
 intro q
 rw [q] at h
 revert h; decide
theorem uKD : ∀ (s : List UInt8),(∀ b ∈ s,b.toNat≠10)→spl s=[s]
 | [],_=>rfl
 | c :: l,h=>by
  rw [spl,if_neg (h c (by simp)),uKD l fun b hb=>h b (by simp [hb])]
theorem uH3 {c : UInt8} (h : uBd (c.toNat : Int)=true) : wsp.contains c=false:=by
 rw [Bool.eq_false_iff]
 intro q
 have : c=32∨c=9∨c=13:=by simpa [wsp] using q
 rcases this with rfl | rfl | rfl <;> revert h <;> decide
theorem uHQ (n : Nat) (k : Int) (out : List Tk) : uBi n [] k out=(out,0):=by
 cases n with
 | zero=>rfl
 | succ n=>rw [uBi,if_pos (.inl rfl)]
theorem uHs : ∀ (n : Nat) (l : List UInt8) (k : Int) (out : List Tk),(uBi n l k out).2=0 → ∃ e,(uBi n l k out).1=out++e
 | 0,l,k,out,_=>⟨[],by simp [uBi]⟩
 | n + 1,l,k,out,h=>by
  rw [uBi] at h ⊢
  split
  ·exact ⟨[],by simp⟩
  ·rename_i h1
   rw [if_neg h1] at h
   split at h
   ·rename_i h2; exact absurd h h2
   ·rename_i h2
    rw [if_neg h2]
    obtain ⟨e,he⟩:=uHs n _ k _ h
    exact ⟨[(uBz (uBl l)).1.onl k]++e,by rw [he,List.append_assoc]⟩
def uAN (s : List UInt8) : Bool:=(((decide (s≠[])) && uBd ((s.getD 0 0).toNat : Int)) && decide (nlE s=s.length)) && decide (s.length≤24)
def rnmE (s : List UInt8) : Bool:=(((decide ((tokR s).2.2=0) && decide ((tokR s).1.length=1)) && decide (((tokR s).1.getD 0 tk0).kind=1)) && decide (((tokR s).1.getD 0 tk0).text=s)) && uCB s
theorem uHU {s : List UInt8} (hl : uBd ((s.getD 0 0).toNat : Int)=true) (hne : s≠[]) (hno : ∀ b ∈ s,b.toNat≠10) (h24 : nlE s≤24) (hs : s.length≤65536) :
  ∃ n,tokP s=if (uBi n (s.drop (nlE s)) 1 [⟨1,s.take (nlE s),0,[],1⟩]).2≠0 then ([],1,(uBi n (s.drop (nlE s)) 1 [⟨1,s.take (nlE s),0,[],1⟩]).2) else ((uBi n (s.drop (nlE s)) 1 [⟨1,s.take (nlE s),0,[],1⟩]).1,0,0):=by
 obtain ⟨c,r,rfl⟩ : ∃ c r,s=c :: r:=by
  cases s with
  | nil=>exact absurd rfl hne
  | cons c r=>exact ⟨c,r,rfl⟩
 rw [List.getD_cons_zero] at hl
 have ht : uBl (c :: r)=c :: r:=by
  unfold uBl
  rw [List.dropWhile_cons,uH3 hl]; rfl
 have hnx : uBz (c :: r)=(⟨1,(c :: r).take (nlE (c :: r)),0,[],0⟩,nlE (c :: r),0):=by
  rw [uBz,List.getD_cons_zero,if_pos hl,if_neg (by omega)]
 have h35 : c.toNat≠35:=by
  intro q
  rw [q] at hl
  revert hl; decide
 have hq1 : ¬(c :: r=[]∨[35,35].isPrefixOf (c :: r)=true):=by
  rintro (q | q)
  ·cases q
  ·rw [uKu] at q
   simp only [Bool.and_eq_true,decide_eq_true_eq] at q
   exact h35 q.1
 have hL : uBi ((c :: r).length + 1) (c :: r) ((1 : Nat) : Int) []=uBi (c :: r).length ((c :: r).drop (nlE (c :: r))) 1 [⟨1,(c :: r).take (nlE (c :: r)),0,[],1⟩]:=by
  rw [uBi,ht,if_neg hq1,hnx,if_neg (by simp)]; rfl
 refine ⟨(c :: r).length,?_⟩
 unfold tokP
 rw [if_neg (by omega),uKD _ hno,uCv,hL]; rfl
theorem uLB (s : List UInt8) (hs : s.length≤65536) : uAN s=rnmE s:=by
 unfold rnmE
 rw [uM9,Bool.eq_iff_iff]
 constructor
 ·intro h
  simp only [uAN,Bool.and_eq_true,decide_eq_true_eq] at h
  obtain ⟨⟨⟨h1,h2⟩,h3⟩,h4⟩:=h
  have hp:=List.length_pos_iff.2 h1
  have hall : s.all (fun b=>uBN (b.toNat : Int))=true:=by
   obtain ⟨c,r,rfl⟩ : ∃ c r,s=c :: r:=by
    cases s with
    | nil=>exact absurd rfl h1
    | cons c r=>exact ⟨c,r,rfl⟩
   rw [List.getD_cons_zero] at h2
   have := uH8 r (by unfold nlE at h3; simp at h3; omega)
   rw [List.all_cons,this,Bool.and_true]
   simp [uBN,h2]
  have hno : ∀ b ∈ s,b.toNat≠10 := fun b hb=>uFh (by have := List.all_eq_true.1 hall b hb; exact this)
  obtain ⟨n,hn⟩:=uHU h2 h1 hno (by omega) hs
  rw [h3,List.drop_length,List.take_length,uHQ] at hn
  rw [if_neg (by simp)] at hn
  rw [hn]
  simp [uCB,hall,h4,h2]
  exact ⟨by omega,by simpa using h2⟩
 ·intro h
  simp only [Bool.and_eq_true,decide_eq_true_eq] at h
  obtain ⟨⟨⟨⟨h1,h2⟩,h3⟩,h4⟩,h5⟩:=h
  simp only [uCB,Bool.and_eq_true,decide_eq_true_eq] at h5
  obtain ⟨⟨⟨g1,g2⟩,g3⟩,g4⟩:=h5
  have hne : s≠[]:=fun q=>by subst q; simp at g1
  have hno : ∀ b ∈ s,b.toNat≠10 := fun b hb=>uFh (by have := List.all_eq_true.1 g4 b hb; exact this)
  have hle:=uJ0 (s:=s) (by omega)
  obtain ⟨n,hn⟩:=uHU g3 hne hno (by omega) hs
  have hfull : nlE s=s.length:=by
   by_cases hz : (uBi n (s.drop (nlE s)) 1 [⟨1,s.take (nlE s),0,[],1⟩]).2=0
   ·obtain ⟨e,he⟩:=uHs n _ 1 _ hz
    rw [if_neg (by rw [hz]; simp)] at hn
    rw [hn,he] at h4
    have h4 : s.take (nlE s)=s:=h4
    have := congrArg List.length h4
    rw [List.length_take] at this
    omega
   ·rw [if_pos hz] at hn
    rw [hn] at h1
    exact absurd h1 hz
  simp only [uAN,Bool.and_eq_true,decide_eq_true_eq]
  exact ⟨⟨⟨hne,g3⟩,hfull⟩,g2⟩
end Go.Proofs.YtnjjdbapadkomaaGreatDoor
namespace Go.Proofs.YtnjjdbapadkomaaGreatDoor
open Go Go.Abs
def errs {α : Type} (f : α→Int) : List α→Int
 | []=>0
 | x :: r=>if f x≠0 then f x else errs f r
theorem errs_zero {α : Type} {f : α→Int} : ∀ {l : List α},errs f l=0 ↔ ∀ x ∈ l,f x=0
 | []=>by simp [errs]
 | x :: r=>by
  rw [errs]
  split
  ·rename_i h; simp [h]
  ·rename_i h; rw [errs_zero (l:=r)]; simp at h ⊢; exact fun _=>h
abbrev NmB:=List UInt8→Bool
mutual
def rawE (nm : NmB) : T→Int
 | .mk k n s ks=>if k=1∨s≠0 then 10 else if nm n=false then 2 else uFC nm ks
def uFC (nm : NmB) : List T→Int
 | []=>0
 | t :: ts=>if rawE nm t≠0 then rawE nm t else uFC nm ts
end
theorem uKn (nm : NmB) (t : T) : rawE nm t=if t.kind=1∨t.sort≠0 then 10 else if nm t.name=false then 2 else uFC nm t.kids:=by cases t; rw [rawE]; rfl
theorem uED (nm : NmB) : ∀ ts : List T,uFC nm ts=errs (rawE nm) ts
 | []=>by rw [uFC]; rfl
 | t :: ts=>by rw [uFC,uED nm ts]; rfl
def uC0 (nm : NmB) (t : T) : Int:=if uC3 t≠0 then uC3 t else rawE nm t
def msgE (nm : NmB) (t : T) : Int:=if uC0 nm t≠0 then uC0 nm t else if 40 < t.size then 3 else 0
def uDe (nm : NmB) (g : Gl) : Int:=if g.kind < 1∨5 < g.kind then 10 else if nm g.role=false∨(uBC g.kind=true∧nm g.wth=false) then 2 else if uBC g.kind=false∧g.wth≠[] then 1
 else if (uBC g.kind=true∧(g.data.length < 1∨4 < g.data.length))∨(uBC g.kind=false∧g.data.length≠1) then 6 else errs (msgE nm) g.data
def frE (nm : NmB) (f : Fs) : Int:=if nm f.role=false∨nm f.name=false then 2 else if f.sort < 2∨4 < f.sort then 10 else 0
def cntE (n : Nar) : Int:=if n.roles.length < 2 then 8 else if 4 < n.roles.length∨12 < n.fresh.length∨8 < n.tags.length then 3 else if n.steps.length=0 then 8 else if 8 < n.steps.length∨8 < n.goals.length then 3 else 0
def uGU (nm : NmB) (n : Nar) : Int:=if nm n.name=false then 2 else if cntE n≠0 then cntE n else if n.roles.all nm=false then 2 else if errs (frE nm) n.fresh≠0 then errs (frE nm) n.fresh else if n.tags.all nm=false then 2 else 0
def spE (nm : NmB) (s : Sp) : Int:=if nm s.frm=false∨nm s.dst=false then 2 else msgE nm s.msg
def narE (nm : NmB) (n : Nar) : Int:=if uGU nm n≠0 then uGU nm n else if errs (spE nm) n.steps≠0 then errs (spE nm) n.steps else errs (uDe nm) n.goals
def uCd (t : T) : Bool:=decide (t.kind=3) && decide (t.name=wPair) && decide (t.kids.length=2)
def untA : Nat→T→List T
 | 0,t=>[t]
 | n + 1,t=>if uCd t=true then t.kids.getD 0 default :: untA n (t.kids.getD 1 default) else [t]
def untE (t : T) : List T:=untA t.size t
def uDd : Nat→T→List UInt8
 | 0,_=>[]
 | n + 1,t=>if t.kind=2 then t.name else if uCd t=true then [60]++Lib.join ((untE t).map (uDd n)) [44,32]++[62] else t.name++[40]++Lib.join (t.kids.map (uDd n)) [44,32]++[41]
def uBI (t : T) : List UInt8:=uDd t.size t
def uB4 (l : List T) : List UInt8:=Lib.join (l.map uBI) [44,32]
theorem uM2 {t : T} (h : uCd t=true) : ∃ a b,t.kids=[a,b]:=by
 simp only [uCd,Bool.and_eq_true,decide_eq_true_eq] at h
 obtain ⟨_,h⟩:=h
 match hk : t.kids,h with
 | [a,b],_=>exact ⟨a,b,rfl⟩
theorem uCk {t : T} (h : uCd t=true) : t.size=1 + (t.kids.getD 0 default).size + (t.kids.getD 1 default).size:=by
 obtain ⟨a,b,hk⟩:=uM2 h
 rw [T.size_eq,hk]
 simp [T.sizes]; omega
theorem uKr : ∀ (n : Nat) (t x : T),x ∈ untA n t→x.size≤t.size
 | 0,t,x,h=>by simp [untA] at h; subst h; omega
 | n + 1,t,x,h=>by
  rw [untA] at h
  split at h
  ·rename_i hp
   have hs:=uCk hp
   rcases List.mem_cons.1 h with q | q
   ·subst q; omega
   ·have := uKr n _ x q; omega
  ·simp at h; subst h; omega
theorem uHf : ∀ (n : Nat) (t : T),T.sizes (untA n t)≤t.size
 | 0,t=>by simp [untA,T.sizes]
 | n + 1,t=>by
  rw [untA]
  split
  ·rename_i hp
   have hs:=uCk hp
   have := uHf n (t.kids.getD 1 default)
   rw [T.sizes]; omega
  ·simp [T.sizes]
theorem uF0 : ∀ (n : Nat) (t : T),1≤(untA n t).length∧(untA n t).length≤t.size
 | 0,t=>by have := t.size_pos; simp [untA]; omega
 | n + 1,t=>by
  rw [untA]
  split
  ·rename_i hp
   have hs:=uCk hp
   have := uF0 n (t.kids.getD 1 default)
   have := (t.kids.getD 0 default).size_pos
   rw [List.length_cons]; omega
  ·have := t.size_pos; simp; omega
theorem uIO : ∀ (n m : Nat) (t : T),t.size≤n→t.size≤m→untA n t=untA m t
 | 0,_,t,h,_=>by have := t.size_pos; omega
 | _,0,t,_,h=>by have := t.size_pos; omega
 | n + 1,m + 1,t,hn,hm=>by
  rw [untA,untA]
  split
  ·rename_i hp
   have hs:=uCk hp
   have := (t.kids.getD 0 default).size_pos
   rw [uIO n m _ (by omega) (by omega)]
  ·rfl
theorem uET (t : T) : untE t=if uCd t=true then t.kids.getD 0 default :: untE (t.kids.getD 1 default) else [t]:=by
 obtain ⟨m,hm⟩ : ∃ m,t.size=m + 1 := ⟨t.size - 1,by have := t.size_pos; omega⟩
 unfold untE
 rw [hm,untA]
 split
 ·rename_i hp
  have hs:=uCk hp
  rw [uIO m _ _ (by omega) (Nat.le_refl _)]
 ·rfl
theorem uGV {t x : T} (hp : uCd t=true) (hx : x ∈ untE t) : x.size < t.size:=by
 have hs:=uCk hp
 have h0:=(t.kids.getD 0 default).size_pos
 rw [uET,if_pos hp] at hx
 rcases List.mem_cons.1 hx with q | q
 ·subst q; have := (t.kids.getD 1 default).size_pos; omega
 ·have := uKr _ _ _ q; omega
theorem uDE {t : T} (hp : uCd t=true) : T.sizes (untE t) < t.size:=by
 have hs:=uCk hp
 rw [uET,if_pos hp,T.sizes]
 have := uHf (t.kids.getD 1 default).size (t.kids.getD 1 default)
 unfold untE; omega
theorem uGj {x : T} : ∀ {l : List T},x ∈ l→x.size≤T.sizes l
 | [],h=>by simp at h
 | y :: l,h=>by
  rw [T.sizes]
  rcases List.mem_cons.1 h with q | q
  ·subst q; omega
  ·have := uGj q; omega
theorem uDM {t x : T} (h : x ∈ t.kids) : x.size < t.size:=by
 have := uGj h; have := t.size_eq; omega
theorem uDq : ∀ (n m : Nat) (t : T),t.size≤n→t.size≤m→uDd n t=uDd m t
 | 0,_,t,h,_=>by have := t.size_pos; omega
 | _,0,t,_,h=>by have := t.size_pos; omega
 | n + 1,m + 1,t,hn,hm=>by
  rw [uDd,uDd]
  split
  ·rfl
  split
  ·rename_i hp
   have e : (untE t).map (uDd n)=(untE t).map (uDd m):=List.map_congr_left fun x hx=>by
    have := uGV hp hx
    exact uDq n m x (by omega) (by omega)
   rw [e]
  ·have e : t.kids.map (uDd n)=t.kids.map (uDd m):=List.map_congr_left fun x hx=>by
    have := uDM hx
    exact uDq n m x (by omega) (by omega)
   rw [e]
theorem uGf (t : T) : uBI t=if t.kind=2 then t.name else if uCd t=true then [60]++uB4 (untE t)++[62] else t.name++[40]++uB4 t.kids++[41]:=by
 obtain ⟨m,hm⟩ : ∃ m,t.size=m + 1 := ⟨t.size - 1,by have := t.size_pos; omega⟩
 unfold uB4
 conv=>lhs; unfold uBI
 rw [hm,uDd]
 split
 ·rfl
 split
 ·rename_i hp
  have e : (untE t).map (uDd m)=(untE t).map uBI:=List.map_congr_left fun x hx=>by
   have := uGV hp hx
   exact uDq m x.size x (by omega) (by omega)
  rw [e]
 ·have e : t.kids.map (uDd m)=t.kids.map uBI:=List.map_congr_left fun x hx=>by
   have := uDM hx
   exact uDq m x.size x (by omega) (by omega)
  rw [e]
mutual
def okB : T→Bool
 | .mk k n _ ks=>(decide (k=2) || decide (k=3)) && decide (n.length≤24) && okBs ks
def okBs : List T→Bool
 | []=>true
 | t :: ts=>okB t && okBs ts
end
theorem uL0 (t : T) : okB t=((decide (t.kind=2) || decide (t.kind=3)) && decide (t.name.length≤24) && okBs t.kids):=by cases t; rw [okB]; rfl
theorem uJi : ∀ {l : List T},okBs l=true → ∀ x ∈ l,okB x=true
 | [],_,x,h=>by simp at h
 | y :: l,h,x,hx=>by
  rw [okBs,Bool.and_eq_true] at h
  rcases List.mem_cons.1 hx with q | q
  ·subst q; exact h.1
  ·exact uJi h.2 x q
theorem uFX {t : T} (h : okB t=true) : ∀ x ∈ t.kids,okB x=true:=by
 rw [uL0,Bool.and_eq_true] at h
 exact uJi h.2
theorem uD1 {t : T} (h : okB t=true) : (t.kind=2∨t.kind=3)∧t.name.length≤24:=by
 rw [uL0] at h
 simp only [Bool.and_eq_true,Bool.or_eq_true,decide_eq_true_eq] at h
 exact h.1
theorem uFZ : ∀ (n : Nat) {t : T},okB t=true → ∀ x ∈ untA n t,okB x=true
 | 0,t,h,x,hx=>by simp [untA] at hx; subst hx; exact h
 | n + 1,t,h,x,hx=>by
  rw [untA] at hx
  split at hx
  ·rename_i hp
   obtain ⟨a,b,hk⟩:=uM2 hp
   have hkk:=uFX h
   rw [hk] at hx hkk
   rcases List.mem_cons.1 hx with q | q
   ·subst q; exact hkk _ (by simp)
   ·exact uFZ n (hkk b (by simp)) x q
  ·simp at hx; subst hx; exact h
theorem uMW {t : T} (h : uBR t=0) : (t.kind=1∨t.kind=2∨t.kind=3)∧t.name.length≤24:=by
 unfold uBR at h
 split at h
 ·split at h
  ·rename_i hq hn
   simp only [uCB,Bool.and_eq_true,decide_eq_true_eq] at hn
   exact ⟨by omega,hn.1.1.2⟩
  ·simp at h
 ·simp at h
mutual
theorem uMZ (nm : NmB) : ∀ (t : T),t.nodesE=0→rawE nm t=0→okB t=true
 | .mk k n s ks,h1,h2=>by
  rw [T.nodesE] at h1
  rw [rawE] at h2
  rw [okB]
  split at h1
  ·rename_i hz; exact absurd h1 hz
  ·rename_i hz
   have hz:=Decidable.not_not.1 hz
   split at h2
   ·simp at h2
   ·rename_i hk
    split at h2
    ·simp at h2
    ·rw [uMa nm ks h1 h2]
     have hq:=uMW hz
     have q1 : k=1∨k=2∨k=3:=hq.1
     have q2 : n.length≤24:=hq.2
     simp only [Bool.and_true,Bool.and_eq_true,Bool.or_eq_true,decide_eq_true_eq]
     exact ⟨by omega,q2⟩
theorem uMa (nm : NmB) : ∀ (ts : List T),T.nodesEs ts=0→uFC nm ts=0→okBs ts=true
 | [],_,_=>rfl
 | t :: ts,h1,h2=>by
  rw [T.nodesEs] at h1
  rw [uFC] at h2
  rw [okBs]
  split at h1
  ·rename_i hz; exact absurd h1 hz
  ·rename_i hz
   split at h2
   ·rename_i hy; exact absurd h2 hy
   ·rename_i hy
    rw [uMZ nm t (Decidable.not_not.1 hz) (Decidable.not_not.1 hy),uMa nm ts h1 h2]; rfl
end
theorem uJA {nm : NmB} {t : T} (h : uC0 nm t=0) : okB t=true∧t.size≤400:=by
 unfold uC0 at h
 split at h
 ·rename_i hz; exact absurd h hz
 ·rename_i hz
  have hz:=Decidable.not_not.1 hz
  unfold uC3 at hz
  split at hz
  ·rename_i hy; exact absurd hz hy
  ·rename_i hy
   split at hz
   ·simp at hz
   ·exact ⟨uMZ nm t (Decidable.not_not.1 hy) h,by omega⟩
def uDT (L : List (List UInt8)) : Nat:=(L.map fun x=>x.length + 2).sum
theorem uHE : ∀ (L : List (List UInt8)),(Lib.joinTail [44,32] L).length=uDT L
 | []=>rfl
 | x :: L=>by
  have e : Lib.joinTail [44,32] (x :: L)=[44,32]++(x++Lib.joinTail [44,32] L):=by simp [Lib.joinTail]
  rw [e]
  have := uHE L
  simp only [List.length_append,List.length_cons,List.length_nil,uDT,List.map_cons,List.sum_cons] at this ⊢
  omega
theorem uEi : ∀ (L : List (List UInt8)),(Lib.join L [44,32]).length≤uDT L∧(L≠[]→(Lib.join L [44,32]).length + 2=uDT L)
 | []=>by simp [Lib.join_nil]
 | x :: L=>by
  have := uHE L
  rw [Lib.join_cons,List.length_append]
  simp only [uDT,List.map_cons,List.sum_cons] at this ⊢
  exact ⟨by omega,fun _=>by omega⟩
theorem uC9 : ∀ (l : List T),(∀ x ∈ l,(uBI x).length + 2≤28 * x.size)→uDT (l.map uBI)≤28 * T.sizes l
 | [],_=>by simp [uDT,T.sizes]
 | x :: l,h=>by
  have h1:=h x (by simp)
  have h2:=uC9 l fun y hy=>h y (by simp [hy])
  simp only [uDT,List.map_cons,List.sum_cons,T.sizes] at h2 ⊢
  omega
theorem text_len : ∀ (n : Nat) (t : T),t.size≤n→okB t=true→(uBI t).length + 2≤28 * t.size
 | 0,t,h,_=>by have := t.size_pos; omega
 | n + 1,t,h,ho=>by
  have hp:=t.size_pos
  have hn:=(uD1 ho).2
  rw [uGf]
  split
  ·omega
  split
  ·rename_i hq
   have h1 := uC9 (untE t) fun x hx=>text_len n x (by have := uGV hq hx; omega) (uFZ _ ho x hx)
   have h2:=uDE hq
   have h3 := (uEi ((untE t).map uBI)).2 (by have := (uF0 t.size t).1; intro q; rw [← List.length_map (f := uBI)] at this; show False; unfold untE at q; rw [q] at this; simp at this)
   unfold uB4
   simp only [List.length_append,List.length_cons,List.length_nil]
   omega
  ·have h1 := uC9 t.kids fun x hx=>text_len n x (by have := uDM hx; omega) (uFX ho x hx)
   have h2:=t.size_eq
   have h3:=uEi (t.kids.map uBI)
   unfold uB4
   simp only [List.length_append,List.length_cons,List.length_nil]
   by_cases hk : t.kids.map uBI=[]
   ·rw [hk,Lib.join_nil]; simp; omega
   ·have := h3.2 hk; omega
theorem uES {t : T} (h : okB t=true) : (uBI t).length + 2≤28 * t.size:=text_len t.size t (Nat.le_refl _) h
theorem uGx {l : List T} (h : ∀ x ∈ l,okB x=true) : (uB4 l).length≤28 * T.sizes l:=by
 have h1:=uC9 l fun x hx=>uES (h x hx)
 have h2:=(uEi (l.map uBI)).1
 unfold uB4; omega
def uGP (g : Gl) : List UInt8:=kindW.getD (g.kind - 1).toNat []++[32]++g.role++(if uBC g.kind=true then [32]++g.wth else [])++[58,32]++uB4 g.data
def hFresh : List UInt8:=[32,32,102,114,101,115,104,32]
def hProt : List UInt8:=[112,114,111,116,111,99,111,108,32]
def hRole : List UInt8:=[32,32,114,111,108,101,32]
def hTag : List UInt8:=[32,32,116,97,103,32]
def hMsg : List UInt8:=[32,32,109,101,115,115,97,103,101,32]
def hGoal : List UInt8:=[32,32,103,111,97,108,32]
def arrow : List UInt8:=[32,45,62,32]
end Go.Proofs.YtnjjdbapadkomaaGreatDoor
namespace Go.Proofs.YtnjjdbapadkomaaGreatDoor
open Go Go.Proofs Go.Shelf
def uJ7 : Go.Shelf.Ren:=⟨fun | 99=>25 | 206=>77 | n=>n,fun | 9=>9 | 4=>4 | 3=>3 | n=>n,fun | n=>n⟩
theorem uNh : Go.Proofs.Lays.n99 Tryz.prog uJ7:={
 mixed:=by kernel_rfl
 f99:=Tryz.func25.trans (congrArg some (by kernel_rfl))
 f206:=Tryz.func77.trans (congrArg some (by kernel_rfl))
 t3:=Tryz.underlying3
 a3:=Tryz.isAgg3
 z3:=Tryz.sizeOf3
 v3:=Tryz.zeroValue3
 t4:=Tryz.underlying4
 a4:=Tryz.isAgg4
 z4:=Tryz.sizeOf4
 v4:=Tryz.zeroValue4
 t9:=Tryz.underlying9
 a9:=Tryz.isAgg9
 z9:=Tryz.sizeOf9
 v9:=Tryz.zeroValue9 }
def uJb : Go.Shelf.Ren:=⟨fun | 137=>151 | 217=>167 | 266=>177 | n=>n,fun | 9=>9 | 5=>5 | 3=>3 | n=>n,fun | n=>n⟩
theorem uMJ : Go.Proofs.Lays.n137 Tryz.prog uJb:={
 mixed:=by kernel_rfl
 f137:=Tryz.func151.trans (congrArg some (by kernel_rfl))
 f217:=Tryz.func167.trans (congrArg some (by kernel_rfl))
 f266:=Tryz.func177.trans (congrArg some (by kernel_rfl))
 t3:=Tryz.underlying3
 a3:=Tryz.isAgg3
 z3:=Tryz.sizeOf3
 v3:=Tryz.zeroValue3
 t5:=Tryz.underlying5
 a5:=Tryz.isAgg5
 z5:=Tryz.sizeOf5
 v5:=Tryz.zeroValue5
 t9:=Tryz.underlying9
 a9:=Tryz.isAgg9
 z9:=Tryz.sizeOf9
 v9:=Tryz.zeroValue9 }
def uJg : Go.Shelf.Ren:=⟨fun | 161=>107 | 231=>145 | 227=>146 | 233=>147 | 235=>148 | 228=>163 | 197=>164 | 151=>165 | 260=>175 | 152=>176 | 137=>151 | 119=>182 | 224=>180 | 225=>179 | 217=>167 | 266=>177 | n=>n,fun | 9=>9 | 4=>4 | 3=>3 | 5=>5 | 117=>159 | 116=>158 | 0=>0 | 124=>162 | 105=>178 | 21=>21 | 119=>186 | 46=>185 | 139=>189 | 138=>188 | n=>n,fun | 3=>1 | 4=>2 | n=>n⟩
theorem uMU : Go.Proofs.Lays.n161 Tryz.prog uJg:={
 mixed:=by kernel_rfl
 f119:=Tryz.func182.trans (congrArg some (by kernel_rfl))
 f137:=Tryz.func151.trans (congrArg some (by kernel_rfl))
 f151:=Tryz.func165.trans (congrArg some (by kernel_rfl))
 f152:=Tryz.func176.trans (congrArg some (by kernel_rfl))
 f161:=Tryz.func107.trans (congrArg some (by kernel_rfl))
 f197:=Tryz.func164.trans (congrArg some (by kernel_rfl))
 f217:=Tryz.func167.trans (congrArg some (by kernel_rfl))
 f224:=Tryz.func180.trans (congrArg some (by kernel_rfl))
 f225:=Tryz.func179.trans (congrArg some (by kernel_rfl))
 f227:=Tryz.func146.trans (congrArg some (by kernel_rfl))
 f228:=Tryz.func163.trans (congrArg some (by kernel_rfl))
 f231:=Tryz.func145.trans (congrArg some (by kernel_rfl))
 f233:=Tryz.func147.trans (congrArg some (by kernel_rfl))
 f235:=Tryz.func148.trans (congrArg some (by kernel_rfl))
 f260:=Tryz.func175.trans (congrArg some (by kernel_rfl))
 f266:=Tryz.func177.trans (congrArg some (by kernel_rfl))
 t0:=Tryz.underlying0
 a0:=Tryz.isAgg0
 z0:=Tryz.sizeOf0
 v0:=Tryz.zeroValue0
 t3:=Tryz.underlying3
 a3:=Tryz.isAgg3
 z3:=Tryz.sizeOf3
 v3:=Tryz.zeroValue3
 t4:=Tryz.underlying4
 a4:=Tryz.isAgg4
 z4:=Tryz.sizeOf4
 v4:=Tryz.zeroValue4
 t5:=Tryz.underlying5
 a5:=Tryz.isAgg5
 z5:=Tryz.sizeOf5
 v5:=Tryz.zeroValue5
 t9:=Tryz.underlying9
 a9:=Tryz.isAgg9
 z9:=Tryz.sizeOf9
 v9:=Tryz.zeroValue9
 t21:=Tryz.underlying21
 a21:=Tryz.isAgg21
 z21:=Tryz.sizeOf21
 v21:=Tryz.zeroValue21
 t46:=Tryz.underlying185
 a46:=Tryz.isAgg185
 z46:=Tryz.sizeOf185
 v46:=Tryz.zeroValue185
 t105:=Tryz.underlying178
 a105:=Tryz.isAgg178
 z105:=Tryz.sizeOf178
 v105:=Tryz.zeroValue178
 t116:=Tryz.underlying158
 a116:=Tryz.isAgg158
 z116:=Tryz.sizeOf158
 t117:=Tryz.underlying159
 a117:=Tryz.isAgg159
 z117:=Tryz.sizeOf159
 v117:=Tryz.zeroValue159
 t119:=Tryz.underlying186
 a119:=Tryz.isAgg186
 z119:=Tryz.sizeOf186
 t124:=Tryz.underlying162
 a124:=Tryz.isAgg162
 z124:=Tryz.sizeOf162
 v124:=Tryz.zeroValue162
 t138:=Tryz.underlying188
 a138:=Tryz.isAgg188
 z138:=Tryz.sizeOf188
 v138:=Tryz.zeroValue188
 t139:=Tryz.underlying189
 a139:=Tryz.isAgg189
 z139:=Tryz.sizeOf189
 v139:=Tryz.zeroValue189
 g3:=by kernel_rfl
 g4:=by kernel_rfl }
def uFH : Go.Shelf.Ren:=⟨fun | 156=>40 | 165=>89 | 166=>90 | 169=>91 | 240=>134 | 241=>135 | 276=>160 | 277=>161 | n=>n,fun | 31=>22 | 9=>9 | 3=>3 | 4=>4 | 0=>0 | 20=>20 | 72=>121 | 76=>125 | 70=>119 | 37=>45 | 75=>124 | 127=>150 | 164=>173 | 5=>5 | 80=>127 | n=>n,fun | n=>n⟩
theorem uKy : Go.Proofs.Lays.n156 Tryz.prog uFH:={
 mixed:=by kernel_rfl
 f156:=Tryz.func40.trans (congrArg some (by kernel_rfl))
 f165:=Tryz.func89.trans (congrArg some (by kernel_rfl))
 f166:=Tryz.func90.trans (congrArg some (by kernel_rfl))
 f169:=Tryz.func91.trans (congrArg some (by kernel_rfl))
 f240:=Tryz.func134.trans (congrArg some (by kernel_rfl))
 f241:=Tryz.func135.trans (congrArg some (by kernel_rfl))
 f276:=Tryz.func160.trans (congrArg some (by kernel_rfl))
 f277:=Tryz.func161.trans (congrArg some (by kernel_rfl))
 t0:=Tryz.underlying0
 a0:=Tryz.isAgg0
 z0:=Tryz.sizeOf0
 v0:=Tryz.zeroValue0
 t3:=Tryz.underlying3
 a3:=Tryz.isAgg3
 z3:=Tryz.sizeOf3
 v3:=Tryz.zeroValue3
 t4:=Tryz.underlying4
 a4:=Tryz.isAgg4
 z4:=Tryz.sizeOf4
 v4:=Tryz.zeroValue4
 t9:=Tryz.underlying9
 a9:=Tryz.isAgg9
 z9:=Tryz.sizeOf9
 v9:=Tryz.zeroValue9
 t20:=Tryz.underlying20
 a20:=Tryz.isAgg20
 z20:=Tryz.sizeOf20
 v20:=Tryz.zeroValue20
 t31:=Tryz.underlying22
 a31:=Tryz.isAgg22
 z31:=Tryz.sizeOf22
 v31:=Tryz.zeroValue22
 t37:=Tryz.underlying45
 a37:=Tryz.isAgg45
 z37:=Tryz.sizeOf45
 v37:=Tryz.zeroValue45
 t70:=Tryz.underlying119
 a70:=Tryz.isAgg119
 z70:=Tryz.sizeOf119
 v70:=Tryz.zeroValue119
 t72:=Tryz.underlying121
 a72:=Tryz.isAgg121
 z72:=Tryz.sizeOf121
 v72:=Tryz.zeroValue121
 t75:=Tryz.underlying124
 a75:=Tryz.isAgg124
 z75:=Tryz.sizeOf124
 v75:=Tryz.zeroValue124
 t76:=Tryz.underlying125
 a76:=Tryz.isAgg125
 z76:=Tryz.sizeOf125
 v76:=Tryz.zeroValue125
 t127:=Tryz.underlying150
 a127:=Tryz.isAgg150
 z127:=Tryz.sizeOf150
 v127:=Tryz.zeroValue150
 t164:=Tryz.underlying173
 a164:=Tryz.isAgg173
 z164:=Tryz.sizeOf173
 v164:=Tryz.zeroValue173 }
def uIj : Go.Shelf.Ren:=⟨fun | 146=>88 | 221=>133 | 268=>157 | 138=>158 | 143=>159 | 195=>171 | 197=>164 | 218=>172 | 219=>173 | 260=>175 | 217=>167 | 225=>179 | 224=>180 | 267=>181 | 266=>177 | 314=>183 | n=>n,fun | 9=>9 | 31=>22 | 3=>3 | 4=>4 | 0=>0 | 105=>178 | 21=>21 | 5=>5 | 46=>185 | 119=>186 | 139=>189 | 138=>188 | 146=>192 | 51=>191 | n=>n,fun | 1=>0 | 3=>1 | 4=>2 | n=>n⟩
theorem laysM146 : Go.Proofs.LaysM.n146 Tryz.prog uIj:={
 mixed:=by kernel_rfl
 f138:=Tryz.func158.trans (congrArg some (by kernel_rfl))
 f143:=Tryz.func159.trans (congrArg some (by kernel_rfl))
 f146:=Tryz.func88.trans (congrArg some (by kernel_rfl))
 f195:=Tryz.func171.trans (congrArg some (by kernel_rfl))
 f197:=Tryz.func164.trans (congrArg some (by kernel_rfl))
 f217:=Tryz.func167.trans (congrArg some (by kernel_rfl))
 f218:=Tryz.func172.trans (congrArg some (by kernel_rfl))
 f219:=Tryz.func173.trans (congrArg some (by kernel_rfl))
 f221:=Tryz.func133.trans (congrArg some (by kernel_rfl))
 f224:=Tryz.func180.trans (congrArg some (by kernel_rfl))
 f225:=Tryz.func179.trans (congrArg some (by kernel_rfl))
 f260:=Tryz.func175.trans (congrArg some (by kernel_rfl))
 f266:=Tryz.func177.trans (congrArg some (by kernel_rfl))
 f267:=Tryz.func181.trans (congrArg some (by kernel_rfl))
 f268:=Tryz.func157.trans (congrArg some (by kernel_rfl))
 f314:=Tryz.func183.trans (congrArg some (by kernel_rfl))
 t0:=Tryz.underlying0
 a0:=Tryz.isAgg0
 z0:=Tryz.sizeOf0
 v0:=Tryz.zeroValue0
 t3:=Tryz.underlying3
 a3:=Tryz.isAgg3
 z3:=Tryz.sizeOf3
 v3:=Tryz.zeroValue3
 t4:=Tryz.underlying4
 a4:=Tryz.isAgg4
 z4:=Tryz.sizeOf4
 v4:=Tryz.zeroValue4
 t5:=Tryz.underlying5
 a5:=Tryz.isAgg5
 z5:=Tryz.sizeOf5
 v5:=Tryz.zeroValue5
 t9:=Tryz.underlying9
 a9:=Tryz.isAgg9
 z9:=Tryz.sizeOf9
 v9:=Tryz.zeroValue9
 t21:=Tryz.underlying21
 a21:=Tryz.isAgg21
 z21:=Tryz.sizeOf21
 v21:=Tryz.zeroValue21
 t31:=Tryz.underlying22
 a31:=Tryz.isAgg22
 z31:=Tryz.sizeOf22
 v31:=Tryz.zeroValue22
 t46:=Tryz.underlying185
 a46:=Tryz.isAgg185
 z46:=Tryz.sizeOf185
 v46:=Tryz.zeroValue185
 t51:=Tryz.underlying191
 a51:=Tryz.isAgg191
 z51:=Tryz.sizeOf191
 v51:=Tryz.zeroValue191
 t105:=Tryz.underlying178
 a105:=Tryz.isAgg178
 z105:=Tryz.sizeOf178
 v105:=Tryz.zeroValue178
 t119:=Tryz.underlying186
 a119:=Tryz.isAgg186
 z119:=Tryz.sizeOf186
 t138:=Tryz.underlying188
 a138:=Tryz.isAgg188
 z138:=Tryz.sizeOf188
 v138:=Tryz.zeroValue188
 t139:=Tryz.underlying189
 a139:=Tryz.isAgg189
 z139:=Tryz.sizeOf189
 v139:=Tryz.zeroValue189
 t146:=Tryz.underlying192
 a146:=Tryz.isAgg192
 z146:=Tryz.sizeOf192
 v146:=Tryz.zeroValue192
 g1:=by kernel_rfl
 g3:=by kernel_rfl
 g4:=by kernel_rfl
 i0:=by kernel_rfl
 i3:=by kernel_rfl
 i4:=by kernel_rfl
 i5:=by kernel_rfl
 i9:=by kernel_rfl
 i21:=by kernel_rfl
 i31:=by kernel_rfl
 i46:=by kernel_rfl
 i51:=by kernel_rfl
 i105:=by kernel_rfl
 i138:=by kernel_rfl
 i139:=by kernel_rfl
 i146:=by kernel_rfl
 m1:=by kernel_rfl
 s1_3:=fun w h=>Go.Proofs.cell_of_shapedOpen_int (zero:=#[.int .i64 0]) (t:=3) h (of_decide_eq_true (by kernel_rfl)) (by kernel_rfl) rfl (by kernel_rfl) (by kernel_rfl) Tryz.underlying3
 m3:=by kernel_rfl
 m4:=by kernel_rfl }
theorem uDG : Builder.Extra Tryz.prog uFH:={
 sizeBuilder:=by kernel_rfl
 liesBuilder:=by kernel_rfl
 t5:=Tryz.underlying5
 a5:=Tryz.isAgg5
 z5:=Tryz.sizeOf5
 v5:=Tryz.zeroValue5
 infoByte:=by kernel_rfl
 cellsByte:=by kernel_rfl
 sizeByte:=by kernel_rfl
 neB5:=by decide }
end Go.Proofs.YtnjjdbapadkomaaGreatDoor
namespace Go.Proofs.YtnjjdbapadkomaaGreatDoor
open Go Go.Abs
open Go.RowKit (Below)
theorem uDR (s p : List UInt8) : Ctr sys 25 [xs s,xs p] [] (xb (p.isPrefixOf s)) none []:=by
 refine uJo [.string ⟨s.toArray⟩, .string ⟨p.toArray⟩] ⟨_,Tryz.func25,by kernel_rfl,by kernel_rfl⟩ (fun w G vs h=>?_) (fun w=>Any.strings_HasPrefix uNh ⟨s.toArray⟩ ⟨p.toArray⟩ w) (fun w G=>CRep.b _)
 match vs,h with
 | [u,v],⟨h1,h2,_⟩=>rw [XRep.str h1,XRep.str h2]
theorem uMA {c : UInt8} {n : Int} (h : n=(c.toNat : Int)) : n.toNat.toUInt8=c:=by
 subst h
 rw [Int.toNat_natCast]
 exact UInt8.ofNat_toNat
theorem uCY (s : List UInt8) (c : UInt8) (n : Int) (h : n=(c.toNat : Int)) : Ctr sys 151 [xs s,xu n] [] (xi (Lib.indexByte s c)) none []:=by
 refine uJo [.string ⟨s.toArray⟩, .int .u8 n] ⟨_,Tryz.func151,by kernel_rfl,by kernel_rfl⟩ (fun w G vs hv=>?_) (fun w=>by
  have := Any.strings_IndexByte uMJ ⟨s.toArray⟩ n w
  rw [uMA h] at this
  exact this) (fun w G=>CRep.i _ _)
 match vs,hv with
 | [u,v],⟨h1,h2,_⟩=>rw [XRep.str h1,XRep.int h2]
theorem uG6 (s : List UInt8) (hs : s.length≤2000000) : Ctr sys 107 [xs s,xs [32,9,13]] [] (xs (uBl s)) none []:=by
 have hl:=uFe s
 refine uHz (v:=.string ⟨(uBl s).toArray⟩) ⟨_,Tryz.func107,by kernel_rfl,by kernel_rfl⟩ (fun w G vs hv hwf hgl=>?_) (fun w G=>CRep.s _ (by omega))
 have := Any.strings_TrimLeft_laid uMU (by kernel_rfl) ⟨s.toArray⟩ ⟨#[32,9,13]⟩ w (by decide) (fun j b hj=>by
  match j,hj with
  | 0,hj=>simp at hj; subst hj; decide
  | 1,hj=>simp at hj; subst hj; decide
  | 2,hj=>simp at hj; subst hj; decide
  | j + 3,hj=>simp at hj)
 match vs,hv with
 | [u,v],⟨h1,h2,_⟩ =>
  rw [XRep.str h1,XRep.str h2]
  exact this
theorem uII {b : UInt8} {l : List UInt8} (hb : b≠10) : ∀ (k : Nat),Lib.splitK [10] 0 k (b :: l)=match Lib.splitK [10] 0 k l with
  | []=>[[b]]
  | x :: r=>(b :: x) :: r
 | 0=>rfl
 | k + 1=>by
  have hp : ([10] : List UInt8).isPrefixOf (b :: l)=false:=by simp [List.isPrefixOf,Ne.symm hb]
  have hix : Lib.index (b :: l) [10]=if Lib.index l [10] == -1 then -1 else Lib.index l [10] + 1:=by rw [Lib.index,hp]; simp
  have hge:=Lib.index_ge l [10]
  rw [Lib.splitK,Lib.splitK,hix]
  by_cases hm : Lib.index l [10] = -1
  ·rw [hm]; rfl
  ·rw [if_neg (c:=(Lib.index l [10] == -1)=true) (by simpa using hm),if_neg (c:=(Lib.index l [10] + 1 == -1)=true) (by simp; omega),if_neg (c:=(Lib.index l [10] == -1)=true) (by simpa using hm)]
   have e : (Lib.index l [10] + 1).toNat=(Lib.index l [10]).toNat + 1:=by omega
   rw [e]
   simp only [Nat.add_zero,List.take_succ_cons,List.length_cons,List.length_nil,Nat.zero_add]
   congr 1
theorem uIw : ∀ (s : List UInt8),Lib.splitK [10] 0 (Lib.count s [10]) s=spl s
 | []=>rfl
 | b :: l=>by
  have ih:=uIw l
  by_cases hb : b=10
  ·subst hb
   have hix : Lib.index (10 :: l) [10]=0:=by rw [Lib.index]; simp [List.isPrefixOf]
   rw [Lib.count_cons_eq,Nat.add_comm,Lib.splitK,hix]
   simp only [spl]
   rw [if_neg (by decide),if_pos (by rfl)]
   simp only [List.length_cons,List.length_nil,Int.toNat_zero,Nat.zero_add,List.take_zero,List.drop_succ_cons,List.drop_zero]
   rw [ih]
  ·rw [Lib.count_cons_ne b 10 l hb,uII hb,ih,spl,if_neg (c:=b.toNat=10) (fun q=>hb (UInt8.toNat_inj.1 q))]
   all_goals (cases spl l <;> rfl)
theorem uLk (s : List UInt8) : (Lib.splitB ⟨#[10]⟩ 0 (Lib.countB ⟨s.toArray⟩ ⟨#[10]⟩) ⟨s.toArray⟩).map (·.data.toList)=spl s:=by
 rw [Lib.splitB_data]
 exact uIw s
theorem uI5 {w : World} {S : Nat→Nat→Prop} : ∀ (bs : List ByteArray),(∀ b ∈ bs,b.data.toList.length≤9223372036854775807)→All2 (CRep w S) (bs.map fun b=>C.s b.data.toList) (bs.map Value.string)
 | [],_=>trivial
 | b :: bs,h=>⟨CRep.s b.data.toList (h b (by simp)),uI5 bs fun x hx=>h x (by simp [hx])⟩
theorem uGh (s : List UInt8) (hs : s.length≤2000000) : Ctr sys 88 [xs s,xs [10]] [] (xss (spl s)) none []:=by
 have hsp:=uLk s
 have hlen:=uFY s
 have hl2 : (Lib.splitB ⟨#[10]⟩ 0 (Lib.countB ⟨s.toArray⟩ ⟨#[10]⟩) ⟨s.toArray⟩).length=(spl s).length:=by rw [← hsp,List.length_map]
 have hcnt:=Lib.splitB_all ⟨#[10]⟩ (by decide) 0 (Lib.countB ⟨s.toArray⟩ ⟨#[10]⟩) ⟨s.toArray⟩ rfl
 have key:=uLb (Z:=sys) (f:=88) (args:=[xs s,xs [10]]) (cs:=(Lib.splitB ⟨#[10]⟩ 0 (Lib.countB ⟨s.toArray⟩ ⟨#[10]⟩) ⟨s.toArray⟩).map fun b=>C.s b.data.toList) (vals:=(Lib.splitB ⟨#[10]⟩ 0 (Lib.countB ⟨s.toArray⟩ ⟨#[10]⟩) ⟨s.toArray⟩).map Value.string) (ty:=9)
  ⟨_,Tryz.func88,by kernel_rfl,by kernel_rfl⟩ (by rw [List.length_map]; omega) (fun w S=>uI5 _ fun b hb=>by
   have h1 : b.data.toList ∈ spl s:=by rw [← hsp]; exact List.mem_map_of_mem (f:=(·.data.toList)) hb
   have := uHZ s _ h1
   omega) (fun w G vs hv hgl=>by
   obtain ⟨m,hm⟩:=(hgl (0,intAt) (by simp [sys])).2.1.cell
   have := Any.strings_Split { laysM146 with } (by kernel_rfl) ⟨s.toArray⟩ ⟨#[10]⟩ m w (by show s.length < _; omega) hm (by decide)
   match vs,hv with
   | [u,v],⟨h1,h2,_⟩ =>
    rw [XRep.str h1,XRep.str h2]
    refine this.mono ?_
    rintro e w' ⟨he,hw⟩
    refine ⟨?_,hw⟩
    rw [he,List.length_map,hcnt])
 have e : ((Lib.splitB ⟨#[10]⟩ 0 (Lib.countB ⟨s.toArray⟩ ⟨#[10]⟩) ⟨s.toArray⟩).map fun b=>C.s b.data.toList).map (fun c=>[c])=strR (spl s):=by
  rw [← hsp,strR,List.map_map,List.map_map]
  rfl
 rw [e] at key
 exact key
end Go.Proofs.YtnjjdbapadkomaaGreatDoor
namespace Go.Proofs.YtnjjdbapadkomaaGreatDoor
open Go Go.Proofs Go.RowKit
open Go.Abs (uCQ BdSys)
theorem uNx : (Tryz.prog.info? 121).map (·.size)=some 2:=by kernel_rfl
theorem uMX : ∃ j,Tryz.prog.info? 121=some j∧j.size=2:=Option.map_eq_some_iff.1 uNx
set_option maxHeartbeats 2000000 in
set_option maxRecDepth 100000 in
theorem uGe (b : Nat) (w : World) (h0 : w.cell? ⟨b,0,none⟩=some (.pointer (some ⟨b,0,none⟩))) :
  Calls Tryz.prog 134 #[.pointer (some ⟨b,0,none⟩)] w fun e w'=>e = .returned (.tuple #[])∧w'=w:=by
 obtain ⟨j,hj,_⟩:=uMX
 go_enter Tryz.func134,Tryz.ntmps134
 go_wp2
 rw [Lib.run_neq_ptr_same w _ Tryz.underlying119 hj]
 go_wp2
 go_end0
 exact ⟨rfl,rfl⟩
set_option maxHeartbeats 2000000 in
set_option maxRecDepth 100000 in
theorem uFR (b : Nat) (w : World) (h0 : w.cell? ⟨b,0,none⟩=some (.pointer none)) (hsh : w.shape? b=some (121,2)) (hfz : w.frozen? ⟨b,0,none⟩=false) :
  Calls Tryz.prog 134 #[.pointer (some ⟨b,0,none⟩)] w fun e w'=>e = .returned (.tuple #[])∧w'=w.setCell ⟨b,0,none⟩ (.pointer (some ⟨b,0,none⟩)):=by
 obtain ⟨j,hj,hjs⟩:=uMX
 go_enter Tryz.func134,Tryz.ntmps134
 go_wp2
 rw [Lib.run_to_unsafe w ⟨b,0,none⟩ Tryz.underlying119 Tryz.underlying173 hj (by rw [hjs]; decide) hsh (Nat.zero_lt_succ 1)]
 simp only [Result.andThen]
 rw [Oper.upon_value]
 go_wp2
 rw [run_callFunc_extern Tryz.func160 (by kernel_rfl) (by kernel_rfl) (by kernel_rfl) (e:=Extern.AbiNoEscape.same) (by kernel_rfl)]
 rw [Lib.run_noEscape]
 simp only [Result.andThen]
 rw [Oper.upon_value]
 go_wp2
 rw [Lib.run_from_unsafe w ⟨b,0,none⟩ Tryz.underlying173 Tryz.underlying119 hj hsh (by kernel_rfl)]
 simp only [Result.andThen]
 rw [Oper.upon_value]
 go_wp2
 go_end0
 exact ⟨rfl,rfl⟩
theorem uGt {P : Program} {ops : Array Oper} {rest : List Oper} {o : Oper} {a : Act} {w w1 : World} {Q : Exit→Act→World→Prop} {v : Value} (hgd : o.guard=none)
  (hrun : (execOp a.eval o).run P w = .ok (.value v) w1) (h : wpList P ops Q rest (a.put o.dst v) w1) : wpList P ops Q (o :: rest) a w:=by
 unfold wpList
 have hw : Region.wanted o (yielded ops a.tmps)=true:=by simp [Region.wanted,hgd]
 rw [hw]
 simp only [if_true]
 refine .inl ?_
 unfold Oper.wp
 rw [hrun,Oper.upon_value]
 exact h
theorem uEn (b : Nat) (w w0 : World) (h : uCQ b w w0) (hsh : w.shape? b=some (121,2)) (hfz : w.frozen? ⟨b,0,none⟩=false) :
  Calls Tryz.prog 134 #[.pointer (some ⟨b,0,none⟩)] w fun e w'=>e = .returned (.tuple #[])∧w'=w0:=by
 rcases h with ⟨h,rfl⟩ | ⟨h,rfl⟩
 ·exact uFR b w h hsh hfz
 ·exact uGe b _ h
set_option maxHeartbeats 2000000 in
set_option maxRecDepth 100000 in
theorem uFi (b : Nat) (w w0 w1 : World) (v' : Value) (uo : Option Addr) (un uc : Nat) (s : ByteArray) (h : uCQ b w w0) (hsh : w.shape? b=some (121,2)) (hfz : w.frozen? ⟨b,0,none⟩=false)
  (h1 : w0.cell? ⟨b,1,none⟩=some v') (hap : (Builtin.append_ #[45,9] 45 #[v', .string s]).run Tryz.prog w0 = .ok (.slice uo un uc) w1) (h2 : w1.cell? ⟨b,1,none⟩=some v') (hf1 : w1.frozen? ⟨b,1,none⟩=false) :
  Calls Tryz.prog 90 #[.pointer (some ⟨b,0,none⟩), .string s] w fun e w'=>e = .returned (.tuple #[.int .i64 s.size, .nilIface])∧w'=w1.setCell ⟨b,1,none⟩ (.slice uo un uc):=by
 go_enter Tryz.func90,Tryz.ntmps90
 go_wp2_with (go_at_call 134; refine (uEn b w w0 h hsh hfz).mono ?_)
 rintro e w' ⟨rfl,rfl⟩
 go_wp2_with (at_builtin; refine uGt rfl (v:=.slice uo un uc) (w1:=w1) ?hr ?_)
 case hr=>simp [execOp,Go.resolve,invoke,builtin,Act.eval,Act.put,hap]
 go_wp2
 go_ret2
 exact ⟨rfl,rfl⟩
set_option maxHeartbeats 2000000 in
set_option maxRecDepth 100000 in
theorem uGL (b : Nat) (w w0 w1 : World) (v' : Value) (uo : Option Addr) (un uc : Nat) (c : Int) (h : uCQ b w w0) (hsh : w.shape? b=some (121,2)) (hfz : w.frozen? ⟨b,0,none⟩=false)
  (h1 : w0.cell? ⟨b,1,none⟩=some v') (hap : (Builtin.append_ #[45,45] 45 #[v', .slice (some ⟨w0.heap.size,0,none⟩) 1 1]).run Tryz.prog (w0.alloc (.cells #[.int .u8 c] 5)) = .ok (.slice uo un uc) w1) (h2 : w1.cell? ⟨b,1,none⟩=some v') (hf1 : w1.frozen? ⟨b,1,none⟩=false) :
  Calls Tryz.prog 166 #[.pointer (some ⟨b,0,none⟩), .int .u8 c] w fun e w'=>e = .returned .nilIface∧w'=w1.setCell ⟨b,1,none⟩ (.slice uo un uc):=by
 go_enter Tryz.func166,Tryz.ntmps166
 go_wp2_with (go_at_call 134; refine (uEn b w w0 h hsh hfz).mono ?_)
 rintro e w' ⟨rfl,rfl⟩
 go_wp2_with (at_builtin; refine uGt rfl (v:=.slice uo un uc) (w1:=w1) ?hr ?_)
 case hr=>simp [execOp,Go.resolve,invoke,builtin,Act.eval,Act.put,hap]
 go_wp2
 go_ret
 exact ⟨rfl,rfl⟩
set_option maxHeartbeats 2000000 in
set_option maxRecDepth 100000 in
theorem uJf (b : Nat) (w w1 w2 : World) (ao : Option Addr) (n cap : Nat) (p : Value) (s : ByteArray) (h1 : w.cell? ⟨b,1,none⟩=some (.slice ao n cap))
  (hsd : (Builtin.unsafeSliceData_ #[45] 150 #[.slice ao n cap]).run Tryz.prog w.drew = .ok p w1) (h2 : w1.cell? ⟨b,1,none⟩=some (.slice ao n cap))
  (hus : (Builtin.unsafeString_ #[150,3] 9 #[p, .int .i64 n]).run Tryz.prog w1 = .ok (.string s) w2) :
  Calls Tryz.prog 91 #[.pointer (some ⟨b,0,none⟩)] w fun e w'=>e = .returned (.string s)∧w'=w2:=by
 have c1 : w.drew.cell? ⟨b,1,none⟩=some (.slice ao n cap):=h1
 go_enter Tryz.func91,Tryz.ntmps91
 go_wp2
 go_region
 all_goals (go_wp2; go_ret; exact ⟨rfl,rfl⟩)
theorem uNf : (Tryz.prog.info? 5).map (fun j=>(j.size,j.bytes,j.zero))=some (1,1,some (.int .u8 0)):=by kernel_rfl
theorem infoU : ∃ j,Tryz.prog.info? 5=some j∧j.size=1∧j.bytes=1∧j.zero=some (.int .u8 0):=by
 obtain ⟨j,h1,h2⟩:=Option.map_eq_some_iff.1 uNf
 simp only [Prod.mk.injEq] at h2
 exact ⟨j,h1,h2⟩
theorem enW0 : Abs.Enters sys 90:=⟨_,Tryz.func90,by kernel_rfl,by kernel_rfl⟩
theorem enB0 : Abs.Enters sys 166:=⟨_,Tryz.func166,by kernel_rfl,by kernel_rfl⟩
theorem enS0 : Abs.Enters sys 91:=⟨_,Tryz.func91,by kernel_rfl,by kernel_rfl⟩
noncomputable def bds : BdSys sys where
 tB:=121
 tS:=45
 tStr:=9
 tU:=5
 tPU:=150
 tI:=3
 tN:=121 * 4096 + 5
 hN1:=rfl
 hN2:=rfl
 fW:=90
 fB:=166
 hasB:=true
 fS:=91
 jf:=infoU.choose
 hu:=Tryz.underlying45
 hstr:=Tryz.underlying9
 hpu:=Tryz.underlying150
 hinfo:=infoU.choose_spec.1
 hsz:=infoU.choose_spec.2.1
 hby:=infoU.choose_spec.2.2.1
 hze:=infoU.choose_spec.2.2.2
 hcells:=(show Tryz.prog.cellsOf 5=1 by kernel_rfl)
 enW:=enW0
 enB:=fun _=>enB0
 enS:=enS0
 ws:=fun b w w0 w1 v' uo un uc s h1 h2 h3 h4 h5 h6 h7=>uFi b w w0 w1 v' uo un uc s h1 h2 h3 h4 h5 h6 h7
 wb:=fun _ b w w0 w1 v' uo un uc c h1 h2 h3 h4 h5 h6 h7=>uGL b w w0 w1 v' uo un uc c h1 h2 h3 h4 h5 h6 h7
 st:=fun b w w1 w2 ao n cap p s h1 h2 h3 h4=>uJf b w w1 w2 ao n cap p s h1 h2 h3 h4
end Go.Proofs.YtnjjdbapadkomaaGreatDoor
namespace Go.Proofs.YtnjjdbapadkomaaGreatDoor
open Go Go.Abs
theorem uDy (n : Int) : Ctr sys 141 [xu n] [] (xb (uBd n)) none []:=by
 refine uAv Tryz.func141 rfl rfl rfl rfl rfl rfl ?_;refine uAe (uAb ?_);refine uAa rfl rfl rfl (uAd rfl gU) ?_;refine uAf ?_;refine uAe (uAb ?_);refine uAa rfl rfl rfl (uAc rfl gU) ?_;refine uAa rfl rfl rfl (uAk rfl rfl gU gU rfl) ?_;refine uAa rfl rfl rfl (uAc rfl gU) ?_;refine uAa rfl rfl rfl (uAc rfl gU) ?_;refine uAa rfl rfl rfl (uAk rfl rfl (fun hh=>hh) gU rfl) ?_;refine uAa rfl rfl rfl (uAO rfl rfl gU (fun _ hi=>gP rfl hi)) ?_;refine uAa rfl rfl rfl (uAc rfl gU) ?_;refine uAa rfl rfl rfl (uAc rfl gU) ?_;refine uAa rfl rfl rfl (uAk rfl rfl (fun hh=>hh) gU rfl) ?_;refine uAa rfl rfl rfl (uAc rfl (fun hh=>hh)) ?_;refine uAa rfl rfl rfl (uAc rfl gU) ?_;refine uAa rfl rfl rfl (uAk rfl rfl (fun hh=>hh) gU rfl) ?_;refine uAa rfl rfl rfl (uAO rfl rfl (fun hh=>hh) (fun hh hi=>gP hh hi)) ?_;refine uAa rfl rfl rfl (uAM rfl rfl gU (fun _ hi=>gP rfl hi)) ?_;refine uAa rfl rfl rfl (uAd rfl gU) ?_;refine uAf ?_;refine uAo ?_
 repeat (first | refine tR ?_ | refine bR ?_)
 refine uAq rfl ?_ trivial
 rfl
theorem uDO (n : Int) : Ctr sys 149 [xu n] [] (xb (uBt n)) none []:=by
 refine uAv Tryz.func149 rfl rfl rfl rfl rfl rfl ?_;refine uAe (uAb ?_);refine uAa rfl rfl rfl (uAd rfl gU) ?_;refine uAf ?_;refine uAe (uAb ?_);refine uAa rfl rfl rfl (uAc rfl gU) ?_;refine uAa rfl rfl rfl (uAk rfl rfl gU gU rfl) ?_;refine uAa rfl rfl rfl (uAc rfl gU) ?_;refine uAa rfl rfl rfl (uAc rfl gU) ?_;refine uAa rfl rfl rfl (uAk rfl rfl (fun hh=>hh) gU rfl) ?_;refine uAa rfl rfl rfl (uAO rfl rfl gU (fun _ hi=>gP rfl hi)) ?_;refine uAa rfl rfl rfl (uAd rfl gU) ?_;refine uAf ?_;refine uAo ?_
 repeat (first | refine tR ?_ | refine bR ?_)
 refine uAq rfl ?_ trivial
 rfl
theorem pre2 (b : UInt8) (l : List UInt8) : ([35,35] : List UInt8).isPrefixOf (b :: l)=(decide (b.toNat=35) && decide ((l.getD 0 0).toNat=35)):=by
 have hb : ∀ x : UInt8,((35 : UInt8) == x)=decide (x.toNat=35):=by
  intro x
  rw [Bool.eq_iff_iff]
  simp only [beq_iff_eq,decide_eq_true_eq]
  exact ⟨fun h=>by subst h; rfl,fun h=>UInt8.toNat_inj.1 (by rw [h]; rfl)⟩
 cases l with
 | nil=>simp [List.isPrefixOf,hb]
 | cons c r=>simp [List.isPrefixOf,hb]
theorem uDK (s : List UInt8) (hs : s.length≤9223372036854775807) : Ctr sys 142 [xs s] [] (xi (nlE s : Nat)) none []:=by
 refine uAv Tryz.func142 rfl rfl rfl rfl rfl rfl ?_;refine uAe (uAb ?_);refine uAa rfl rfl rfl (uAd rfl gU) ?_;refine uAf ?_;refine uAe (uAb ?_);refine uAa rfl rfl rfl (uAd rfl gU) ?_;refine uAf ?_;refine uAe ?_;refine uAt ?_;refine uAW (ι:=Nat) { t:=[(0,_,_)],bx:=[],ow:=[] } (fun k=>[(3,true,xi (k : Int))]) (fun k=>[]) (fun k=>1≤k∧(k≤s.length∨k=1)∧nmP (s.drop k) + k=nlE s) (fun k=>s.length - k) (1) (⟨by omega,by omega,by unfold nlE; omega⟩) (uAj (⟨sx rfl,sx rfl,trivial⟩) trivial trivial) ?_
 intro k hok
 dsimp only [List.cons_append,List.nil_append]
 obtain ⟨hk1,hk,hi⟩:=hok
 refine uAe ?_;refine uAe (uAb ?_);refine uAa rfl rfl rfl (uAc rfl gU) ?_;refine uAa rfl rfl rfl (uAc rfl gU) ?_;refine uBj rfl rfl rfl rfl rfl gU (Tryz.underlying9) ?_ (fun hh=>by simp at hh); intro hlen;refine uAa rfl rfl rfl (uAk rfl rfl gU gU rfl) ?_;refine uAa rfl rfl rfl (uAc rfl gU) ?_;refine uAa rfl rfl rfl (uAc rfl gU) ?_;refine uAa rfl rfl rfl (uAc rfl gU) ?_;refine uAa rfl rfl rfl (uAC (j:=k) rfl rfl (fun hh=>hh) (fun hh=>hh) Tryz.underlying9 (by first | omega | (simp at hh ⊢; omega)) (fun hh=>by first | omega | (simp at hh ⊢; omega))) ?_;refine uAw rfl rfl rfl rfl rfl rfl gU (fun hh=>gA ((fun hh=>hh) hh) (rfl)) (uDy _) rfl ?_;refine uAa rfl rfl rfl (uAc rfl (fun hh=>hh)) ?_;refine uAa rfl rfl rfl (uAc rfl gU) ?_;refine uAa rfl rfl rfl (uAc rfl gU) ?_;refine uBq (s:=⟨[(0,_,_),(3,_,_),(8,_,_),(13,_,_),(14,_,_),(15,_,_)],[],[],[]⟩) (uAj (⟨sx rfl,sx rfl,sx rfl,sx rfl,sx rfl,sx rfl,trivial⟩) trivial trivial) ?_;refine uAa rfl rfl rfl (uAC (j:=k) rfl rfl (fun hh=>hh) (fun hh=>hh) Tryz.underlying9 (by first | omega | (simp at hh ⊢; omega)) (fun hh=>by first | omega | (simp at hh ⊢; omega))) ?_;refine uAw rfl rfl rfl rfl rfl rfl gU (fun hh=>gA ((fun hh=>hh) hh) (rfl)) (uDO _) rfl ?_;refine uAa rfl rfl rfl (uAM rfl rfl (fun hh=>hh) (fun hh hi=>gP hh hi)) ?_
 refine uAa rfl rfl rfl (uAc rfl (fun hh=>hh)) ?_;refine uAa rfl rfl rfl (uAc rfl gU) ?_;refine uAa rfl rfl rfl (uAc rfl gU) ?_;refine uAa rfl rfl rfl (uAC (j:=k) rfl rfl (fun hh=>hh) (fun hh=>hh) Tryz.underlying9 (by first | omega | (simp at hh ⊢; omega)) (fun hh=>by first | omega | (simp at hh ⊢; omega))) ?_;refine uAa rfl rfl rfl (uAk rfl rfl (fun hh=>hh) gU rfl) ?_;refine uAa rfl rfl rfl (uAM rfl rfl (fun hh=>hh) (fun hh hi=>gP hh hi)) ?_;refine uAa rfl rfl rfl (uAc rfl (fun hh=>hh)) ?_;refine uAa rfl rfl rfl (uAc rfl gU) ?_;refine uAa rfl rfl rfl (uAc rfl gU) ?_;refine uBq (s:=⟨[(0,_,_),(3,_,_),(8,_,_),(25,_,_),(26,_,_),(27,_,_)],[],[],[]⟩) (uAj (⟨sx rfl,sx rfl,sx rfl,sx rfl,sx rfl,sx rfl,trivial⟩) trivial trivial) ?_;refine uAa rfl rfl rfl (uAC (j:=k) rfl rfl (fun hh=>hh) (fun hh=>hh) Tryz.underlying9 (by first | omega | (simp at hh ⊢; omega)) (fun hh=>by first | omega | (simp at hh ⊢; omega))) ?_;refine uAa rfl rfl rfl (uAk rfl rfl (fun hh=>hh) gU rfl) ?_;refine uAa rfl rfl rfl (uAM rfl rfl (fun hh=>hh) (fun hh hi=>gP hh hi)) ?_;refine uAa rfl rfl rfl (uAO rfl rfl gU (fun _ hi=>gP rfl hi)) ?_;refine uAf ?_;refine uAl rfl (fun hc=>?_) (fun hc=>?_)
 ·try simp only [nn] at hc
  rw [uA6 (by omega),nmP] at hi
  refine uAp ?_;refine uAt ?_;refine uAe ?_;refine uAe (uAb ?_);refine uAa rfl rfl rfl (uAc rfl gU) ?_;refine uAa rfl rfl rfl (uAc rfl gU) ?_;refine uAa rfl rfl rfl (uBe (l:=k) rfl gU Tryz.underlying9 (fun _=>⟨_,_,_,rfl,gU,by first | omega | (simp at hh ⊢; omega)⟩) (fun _=>rfl) (fun hh=>by first | omega | (simp at hh ⊢; omega)) (fun hh=>by first | omega | (simp at hh ⊢; omega))) ?_;refine uAw rfl rfl rfl rfl rfl rfl gU gU (uDR _ _) rfl ?_;refine uAf ?_;refine uAn (s:=⟨[(0,_,_),(3,_,_),(35,_,_)],[],[],[]⟩) (uAj (⟨sx rfl,sx rfl,sx rfl,trivial⟩) trivial trivial) ?_;refine uAl rfl (fun hc2=>?_) (fun hc2=>?_)
  ·try simp only [nn] at hc2
   rw [List.take_length,uA6 (by omega),pre2] at hc2
   refine uAL ?_
   repeat (first | refine uAF ?_ | refine uAE ?_ | refine uAB rfl ?_)
   refine uAe (uAb ?_);refine uAa rfl rfl rfl (uAc rfl gU) ?_;refine uAa rfl rfl rfl (uAd rfl gU) ?_;refine uAf ?_;refine uAo ?_
   repeat (first | refine tR ?_ | refine bR ?_)
   refine uAq rfl ?_ trivial
   (have hn:=hi; rw [if_neg (by intro q; simp only [Bool.and_eq_true,decide_eq_true_eq] at hc2; exact q.2 hc2)] at hn; exact uA9 (by omega))
  ·try simp only [nn] at hc2
   rw [List.take_length,uA6 (by omega),pre2] at hc2
   have hn:=hi
   rw [if_pos ⟨by simp only [uBN]; grind,by simpa using hc2⟩] at hn
   refine uAp ?_;refine uAb ?_;refine uAa rfl rfl rfl (uAc rfl gU) ?_;refine uAa rfl rfl rfl (uAr rfl rfl gU gU rfl (IntWalk.i64_in _ (by omega))) ?_;refine uAa rfl rfl rfl (uAd rfl gU) ?_;refine uAf ?_;refine ⟨k + 1,?_,?_,uAj (⟨⟨_,rfl,?_⟩,⟨sx rfl,trivial⟩⟩) trivial trivial⟩
   all_goals (first | rfl | omega | exact ⟨by omega,by omega,by omega⟩)
 ·try simp only [nn] at hc
  refine uAL ?_
  repeat (first | refine uAF ?_ | refine uAE ?_ | refine uAB rfl ?_)
  refine uAe (uAb ?_);refine uAa rfl rfl rfl (uAc rfl gU) ?_;refine uAa rfl rfl rfl (uAd rfl gU) ?_;refine uAf ?_;refine uAo ?_
  repeat (first | refine tR ?_ | refine bR ?_)
  refine uAq rfl ?_ trivial
  (have hn : nmP (s.drop k)=0:=by { by_cases hlt : k < s.length; { rw [uA6 hlt,nmP,if_neg (by simp only [uBN]; grind)] }; { rw [List.drop_of_length_le (by omega)]; rfl } }; exact uA9 (by omega))
theorem hexI : ∀ n : Fin 256,Lib.indexByte hexs (UInt8.ofNat n.val)=if hexB (UInt8.ofNat n.val)=true then hexV (UInt8.ofNat n.val) else -1:=by decide +kernel
theorem uHe (c : UInt8) : Lib.indexByte hexs c=if hexB c=true then hexV c else -1:=by
 have := hexI ⟨c.toNat,c.toNat_lt⟩
 rwa [show UInt8.ofNat c.toNat=c from UInt8.ofNat_toNat] at this
theorem uDu {c : UInt8} (h : hexB c=true) : 0≤hexV c∧hexV c≤15:=by
 simp [hexB] at h
 unfold hexV
 split <;> omega
theorem symI : ∀ n : Fin 256,(decide (0≤Lib.indexByte syms (UInt8.ofNat n.val)))=symB (UInt8.ofNat n.val):=by decide +kernel
theorem uLy (c : UInt8) : decide (0≤Lib.indexByte syms c)=symB c:=by
 have := symI ⟨c.toNat,c.toNat_lt⟩
 rwa [show UInt8.ofNat c.toNat=c from UInt8.ofNat_toNat] at this
theorem uMe {x : Int} {n : Nat} (h : x=n) (hn : n < 256) : x=((UInt8.ofNat n).toNat : Int):=by
 rw [h,UInt8.toNat_ofNat']; omega
theorem uIv {n i : Nat} {l out : List UInt8} (h : l=[]) : litA n l i out=([],0):=by subst h; cases n <;> rfl
end Go.Proofs.YtnjjdbapadkomaaGreatDoor
namespace Go.Proofs.YtnjjdbapadkomaaGreatDoor
open Go Go.Abs
theorem uKd {s : List UInt8} {k : Nat} (h : k < s.length) : escE (s.drop k)=if (s.getD k 0).toNat=110 then (10,1) else if (s.getD k 0).toNat=116 then (9,1) else if (s.getD k 0).toNat=34∨(s.getD k 0).toNat=92 then (s.getD k 0,1)
  else if (s.getD k 0).toNat=120∧k + 2 < s.length∧hexB (s.getD (k + 1) 0)=true∧hexB (s.getD (k + 2) 0)=true then (UInt8.ofNat (16 * hexV (s.getD (k + 1) 0) + hexV (s.getD (k + 2) 0)).toNat,3) else (0,0):=by
 have e : (2≤s.length - (k + 1))=(k + 2 < s.length):=propext (by omega)
 rw [uA6 h,escE,uHj,uHj,List.length_drop]
 simp only [e,Nat.add_zero]
theorem uLT {s : List UInt8} {k : Nat} (h : s.length≤k) : escE (s.drop k)=(0,0):=by
 rw [List.drop_of_length_le h]; rfl
theorem uHh {s out : List UInt8} {n k : Nat} (h : k < s.length) : litA (n + 1) (s.drop k) k out=if (s.getD k 0).toNat=34 then (out,k + 1)
  else if (s.getD k 0).toNat=92 then (if (escE (s.drop (k + 1))).2=0 then ([],0) else litA n (s.drop (k + 1 + (escE (s.drop (k + 1))).2)) (k + 1 + (escE (s.drop (k + 1))).2) (out++[(escE (s.drop (k + 1))).1]))
  else if (s.getD k 0).toNat < 32∨126 < (s.getD k 0).toNat then ([],0) else litA n (s.drop (k + 1)) (k + 1) (out++[s.getD k 0]):=by
 rw [uA6 h,litA,List.drop_drop]
theorem uKi {c : UInt8} (h : ¬Lib.indexByte hexs c < 0) : hexB c=true∧Lib.indexByte hexs c=hexV c:=by
 rw [uHe] at h ⊢
 by_cases hb : hexB c=true
 ·rw [if_pos hb]; exact ⟨hb,rfl⟩
 ·rw [if_neg hb] at h; omega
theorem hex_neg' {c : UInt8} (h : Lib.indexByte hexs c < 0) : hexB c≠true:=by
 intro hb
 rw [uHe,if_pos hb] at h
 have := uDu hb
 omega
theorem uK5 (s : List UInt8) (h : 0 < s.length) (hs : s.length≤2000000) : Ctr sys 150 [xs s] [] (xsn (litE s)) none []:=by
 refine uAv Tryz.func150 rfl rfl rfl rfl rfl rfl ?_;refine uAe (uAb ?_);refine uAa rfl rfl rfl (uAd rfl gU) ?_;refine uAa rfl rfl rfl (uAd rfl gU) ?_;refine uAf ?_;refine uAe (uAb ?_);refine uAu rfl (uIh (u:=495621) rfl rfl rfl rfl rfl) ?_;refine uAf ?_;refine uAe ?_;refine uAe (uAb ?_);refine uAa rfl rfl rfl (uAd rfl gU) ?_;refine uAf ?_;refine uAt ?_;refine uAW (ι:=Nat × List UInt8) { t:=[(0,_,_),(4,_,_)],bx:=[],ow:=[((.b (.bd 495621 4) 1),_)] } (fun p=>[(5,true,xi (p.1 : Int))]) (fun p=>[((.bd 495621 4),[.bl, .sl 1 (uBh p.2)])]) (fun p=>p.1≤s.length∧p.2.length≤p.1 ∧ ∃ n,s.length < n + p.1∧litA n (s.drop p.1) p.1 p.2=litE s) (fun p=>s.length - p.1) ((1,[])) (⟨by dsimp only; omega,by simp,s.length + 1,by dsimp only; omega,rfl⟩) (uAj (⟨sx rfl,sx rfl,sx rfl,trivial⟩) (⟨sx rfl,trivial⟩) (⟨rfl,trivial⟩)) ?_
 intro p hok
 dsimp only [List.cons_append,List.nil_append] at *
 obtain ⟨k,out⟩:=p
 dsimp only at hok ⊢
 obtain ⟨hk,ho,n,hn,hi⟩:=hok
 obtain ⟨n,rfl⟩ : ∃ m,n=m + 1:=⟨n - 1,by omega⟩
 have hu:=(s.getD k 0).toNat_lt
 have hu1:=(s.getD (k + 1) 0).toNat_lt
 refine uAe ?_;refine uAe (uAb ?_);refine uAa rfl rfl rfl (uAc rfl gU) ?_;refine uAa rfl rfl rfl (uAc rfl gU) ?_;refine uBj rfl rfl rfl rfl rfl gU (Tryz.underlying9) ?_ (fun hh=>by simp at hh); intro hlen;refine uAa rfl rfl rfl (uAk rfl rfl gU gU rfl) ?_;refine uAf ?_;refine uAl rfl (fun hc=>?_) (fun hc=>?_)
 ·try simp only [nn] at hc
  rw [uHh (by omega)] at hi
  refine uAp ?_;refine uAe ?_;refine uAt ?_;refine uAe (uAb ?_);refine uAa rfl rfl rfl (uAc rfl gU) ?_;refine uAa rfl rfl rfl (uAc rfl gU) ?_;refine uAa rfl rfl rfl (uAC (j:=k) rfl rfl gU gU Tryz.underlying9 (by omega) (fun hh=>by omega)) ?_;refine uAa rfl rfl rfl (uAd rfl gU) ?_;refine uAf ?_;refine uAn (s:=⟨[(0,_,_),(4,_,_),(5,_,_),(6,_,_)],[(.bd 495621 4,_)],[((.b (.bd 495621 4) 1),_)],[]⟩) (uAj (⟨sx rfl,sx rfl,sx rfl,sx rfl,trivial⟩) (⟨sx rfl,trivial⟩) (⟨rfl,trivial⟩)) ?_;refine uAt ?_;refine uAe (uAb ?_);refine uAa rfl rfl rfl (uAc rfl gU) ?_;refine uAa rfl rfl rfl (uAk rfl rfl gU gU rfl) ?_;refine uAa rfl rfl rfl (uAd rfl gU) ?_;refine uAf ?_;refine uAl rfl (fun hc2=>?_) (fun hc2=>?_)
  ·try simp only [nn] at hc2
   rw [if_pos (by omega)] at hi
   refine uAe (uAb ?_);refine uNt bds rfl rfl rfl rfl rfl rfl rfl rfl ?_;refine uAa rfl rfl rfl (uAc rfl gU) ?_;refine uAa rfl rfl rfl (uAr rfl rfl gU gU rfl (IntWalk.i64_in _ (by omega))) ?_;refine uAa rfl rfl rfl (uAd rfl gU) ?_;refine uAa rfl rfl rfl (uAd rfl gU) ?_;refine uAf ?_;refine uAo ?_
   repeat (first | refine tR ?_ | refine bR ?_)
   refine uAq rfl ?_ trivial
   (rw [← hi]; rfl)
  ·try simp only [nn] at hc2
   rw [if_neg (by omega)] at hi
   refine uAe (uAb ?_);refine uAa rfl rfl rfl (uAc rfl gU) ?_;refine uAa rfl rfl rfl (uAk rfl rfl gU gU rfl) ?_;refine uAa rfl rfl rfl (uAd rfl gU) ?_;refine uAf ?_;refine uAn (s:=⟨[(0,_,_),(4,_,_),(5,_,_),(6,_,_),(24,_,_)],[(.bd 495621 4,_)],[((.b (.bd 495621 4) 1),_)],[]⟩) (uAj (⟨sx rfl,sx rfl,sx rfl,sx rfl,sx rfl,trivial⟩) (⟨sx rfl,trivial⟩) (⟨rfl,trivial⟩)) ?_;refine uAl rfl (fun hc3=>?_) (fun hc3=>?_)
   ·try simp only [nn] at hc3
    rw [if_pos (by omega)] at hi
    refine uAe (uAb ?_);refine uAa rfl rfl rfl (uAc rfl gU) ?_;refine uAa rfl rfl rfl (uAr rfl rfl gU gU rfl (IntWalk.i64_in _ (by omega))) ?_;refine uAa rfl rfl rfl (uAd rfl gU) ?_;refine uAf ?_;refine uAe ?_;refine uAe (uAb ?_);refine uAa rfl rfl rfl (uAc rfl gU) ?_;refine uAa rfl rfl rfl (uAc rfl gU) ?_;refine uBj rfl rfl rfl rfl rfl gU (Tryz.underlying9) ?_ (fun hh=>by simp at hh); intro hlen;refine uAa rfl rfl rfl (uAk rfl rfl gU gU rfl) ?_;refine uAf ?_;refine uAn (s:=⟨[(0,_,_),(4,_,_),(5,_,_),(32,_,_)],[(.bd 495621 4,_)],[((.b (.bd 495621 4) 1),_)],[]⟩) (uAj (⟨sx rfl,sx rfl,sx rfl,sx rfl,trivial⟩) (⟨sx rfl,trivial⟩) (⟨rfl,trivial⟩)) ?_;refine uAl rfl (fun hc4=>?_) (fun hc4=>?_)
    ·try simp only [nn] at hc4
     rw [uLT (by omega),if_pos rfl] at hi
     refine uAe (uAb ?_);refine uAa rfl rfl rfl (uAd rfl gU) ?_;refine uAa rfl rfl rfl (uAd rfl gU) ?_;refine uAf ?_;refine uAo ?_
     repeat (first | refine tR ?_ | refine bR ?_)
     refine uAq rfl ?_ trivial
     (rw [← hi]; rfl)
    ·try simp only [nn] at hc4
     have he:=uKd (s:=s) (k:=k + 1) (by omega)
     refine uAp ?_;refine uAe (uAb ?_);refine uAa rfl rfl rfl (uAc rfl gU) ?_;refine uAa rfl rfl rfl (uAc rfl gU) ?_;refine uAa rfl rfl rfl (uAC (j:=k + 1) rfl rfl gU gU Tryz.underlying9 (by omega) (fun hh=>by omega)) ?_;refine uAf ?_;refine uAt ?_;refine uAe (uAb ?_);refine uAa rfl rfl rfl (uAk rfl rfl gU gU rfl) ?_;refine uAa rfl rfl rfl (uAd rfl gU) ?_;refine uAf ?_;refine uAn (s:=⟨[(0,_,_),(4,_,_),(5,_,_),(35,_,_),(36,_,_)],[(.bd 495621 4,_)],[((.b (.bd 495621 4) 1),_)],[]⟩) (uAj (⟨sx rfl,sx rfl,sx rfl,sx rfl,sx rfl,trivial⟩) (⟨sx rfl,trivial⟩) (⟨rfl,trivial⟩)) ?_;refine uAl rfl (fun hc5=>?_) (fun hc5=>?_)
     ·try simp only [nn] at hc5
      rw [if_pos (by omega)] at he
      rw [he,if_neg (by simp)] at hi
      refine uAb ?_;refine uE4 bds (c:=10) rfl rfl rfl rfl rfl rfl rfl rfl rfl (by (try simp only [List.length_append,List.length_singleton]); omega) ?_;refine uAf ?_;refine uAb ?_;refine uAa rfl rfl rfl (uAc rfl gU) ?_;refine uAa rfl rfl rfl (uAr rfl rfl gU gU rfl (IntWalk.i64_in _ (by omega))) ?_;refine uAa rfl rfl rfl (uAd rfl gU) ?_;refine uAf ?_;refine ⟨(k + 2,out++[10]),?_,?_,uAj (⟨⟨_,rfl,?_⟩,⟨sx rfl,sx rfl,trivial⟩⟩) (⟨⟨_,rfl,?_⟩,trivial⟩) (⟨rfl,trivial⟩)⟩
      all_goals (first | rfl | omega | (refine ⟨by omega,by simp; omega,n,by omega,hi⟩))
     ·try simp only [nn] at hc5
      rw [if_neg (by omega)] at he
      refine uAe (uAb ?_);refine uAa rfl rfl rfl (uAk rfl rfl gU gU rfl) ?_;refine uAa rfl rfl rfl (uAd rfl gU) ?_;refine uAf ?_;refine uAl rfl (fun hc6=>?_) (fun hc6=>?_)
      ·try simp only [nn] at hc6
       rw [if_pos (by omega)] at he
       rw [he,if_neg (by simp)] at hi
       refine uAb ?_;refine uE4 bds (c:=9) rfl rfl rfl rfl rfl rfl rfl rfl rfl (by (try simp only [List.length_append,List.length_singleton]); omega) ?_;refine uAf ?_;refine uAb ?_;refine uAa rfl rfl rfl (uAc rfl gU) ?_;refine uAa rfl rfl rfl (uAr rfl rfl gU gU rfl (IntWalk.i64_in _ (by omega))) ?_;refine uAa rfl rfl rfl (uAd rfl gU) ?_;refine uAf ?_;refine ⟨(k + 2,out++[9]),?_,?_,uAj (⟨⟨_,rfl,?_⟩,⟨sx rfl,sx rfl,trivial⟩⟩) (⟨⟨_,rfl,?_⟩,trivial⟩) (⟨rfl,trivial⟩)⟩
       all_goals (first | rfl | omega | (refine ⟨by omega,by simp; omega,n,by omega,hi⟩))
      ·try simp only [nn] at hc6
       rw [if_neg (by omega)] at he
       refine uAe ?_;refine uAe (uAb ?_);refine uAa rfl rfl rfl (uAk rfl rfl gU gU rfl) ?_;refine uAa rfl rfl rfl (uAd rfl gU) ?_;refine uAf ?_;refine uAl rfl (fun hc7=>?_) (fun hc7=>?_)
       ·try simp only [nn] at hc7
        rw [if_pos (by omega)] at he
        rw [he,if_neg (by simp)] at hi
        refine uAp ?_;refine uAl rfl (fun hc8=>?_) (fun hc8=>?_)
        ·try simp only [nn] at hc8
         refine uAb ?_;refine uAa rfl rfl rfl (uAc rfl gU) ?_;refine uAa rfl rfl rfl (uAc rfl gU) ?_;refine uAa rfl rfl rfl (uAC (j:=k + 1) rfl rfl gU gU Tryz.underlying9 (by omega) (fun hh=>by omega)) ?_;refine uE4 bds (c:=s.getD (k + 1) 0) rfl rfl rfl rfl rfl rfl (by rfl) rfl rfl (by (try simp only [List.length_append,List.length_singleton]); omega) ?_;refine uAf ?_;refine uAn (s:=⟨[(0,_,_),(4,_,_),(5,_,_)],[(.bd 495621 4,_)],[((.b (.bd 495621 4) 1),_)],[]⟩) (uAj (⟨sx rfl,sx rfl,sx rfl,trivial⟩) (⟨sx rfl,trivial⟩) (⟨rfl,trivial⟩)) ?_;refine uAb ?_;refine uAa rfl rfl rfl (uAc rfl gU) ?_;refine uAa rfl rfl rfl (uAr rfl rfl gU gU rfl (IntWalk.i64_in _ (by omega))) ?_;refine uAa rfl rfl rfl (uAd rfl gU) ?_;refine uAf ?_;refine ⟨(k + 2,out++[s.getD (k + 1) 0]),?_,?_,uAj (⟨⟨_,rfl,?_⟩,⟨sx rfl,sx rfl,trivial⟩⟩) (⟨⟨_,rfl,?_⟩,trivial⟩) (⟨rfl,trivial⟩)⟩
         all_goals (first | rfl | omega | (refine ⟨by omega,by simp; omega,n,by omega,hi⟩))
        ·try simp only [nn] at hc8
         exfalso; omega
       ·try simp only [nn] at hc7
        refine uAb ?_;refine uAa rfl rfl rfl (uAk rfl rfl gU gU rfl) ?_;refine uAa rfl rfl rfl (uAd rfl gU) ?_;refine uAf ?_;refine uAn (s:=⟨[(0,_,_),(4,_,_),(5,_,_),(35,_,_),(42,_,_)],[(.bd 495621 4,_)],[((.b (.bd 495621 4) 1),_)],[]⟩) (uAj (⟨sx rfl,sx rfl,sx rfl,sx rfl,sx rfl,trivial⟩) (⟨sx rfl,trivial⟩) (⟨rfl,trivial⟩)) ?_;refine uAl rfl (fun hc8=>?_) (fun hc8=>?_)
        ·try simp only [nn] at hc8
         rw [if_pos (by omega)] at he
         rw [he,if_neg (by simp)] at hi
         refine uAb ?_;refine uAa rfl rfl rfl (uAc rfl gU) ?_;refine uAa rfl rfl rfl (uAc rfl gU) ?_;refine uAa rfl rfl rfl (uAC (j:=k + 1) rfl rfl gU gU Tryz.underlying9 (by omega) (fun hh=>by omega)) ?_;refine uE4 bds (c:=s.getD (k + 1) 0) rfl rfl rfl rfl rfl rfl (by rfl) rfl rfl (by (try simp only [List.length_append,List.length_singleton]); omega) ?_;refine uAf ?_;refine uAb ?_;refine uAa rfl rfl rfl (uAc rfl gU) ?_;refine uAa rfl rfl rfl (uAr rfl rfl gU gU rfl (IntWalk.i64_in _ (by omega))) ?_;refine uAa rfl rfl rfl (uAd rfl gU) ?_;refine uAf ?_;refine ⟨(k + 2,out++[s.getD (k + 1) 0]),?_,?_,uAj (⟨⟨_,rfl,?_⟩,⟨sx rfl,sx rfl,trivial⟩⟩) (⟨⟨_,rfl,?_⟩,trivial⟩) (⟨rfl,trivial⟩)⟩
         all_goals (first | rfl | omega | (refine ⟨by omega,by simp; omega,n,by omega,hi⟩))
        ·try simp only [nn] at hc8
         rw [if_neg (by omega)] at he
         refine uAe (uAb ?_);refine uAa rfl rfl rfl (uAk rfl rfl gU gU rfl) ?_;refine uAa rfl rfl rfl (uAd rfl gU) ?_;refine uAf ?_;refine uAl rfl (fun hc9=>?_) (fun hc9=>?_)
         ·try simp only [nn] at hc9
          refine uAe ?_;refine uAe (uAb ?_);refine uAa rfl rfl rfl (uAc rfl gU) ?_;refine uAa rfl rfl rfl (uAr rfl rfl gU gU rfl (IntWalk.i64_in _ (by omega))) ?_;refine uAa rfl rfl rfl (uAc rfl gU) ?_;refine uBj rfl rfl rfl rfl rfl gU (Tryz.underlying9) ?_ (fun hh=>by simp at hh); intro hlen;refine uAa rfl rfl rfl (uAk rfl rfl gU gU rfl) ?_;refine uAf ?_;refine uAn (s:=⟨[(0,_,_),(4,_,_),(5,_,_),(55,_,_)],[(.bd 495621 4,_)],[((.b (.bd 495621 4) 1),_)],[]⟩) (uAj (⟨sx rfl,sx rfl,sx rfl,sx rfl,trivial⟩) (⟨sx rfl,trivial⟩) (⟨rfl,trivial⟩)) ?_;refine uAl rfl (fun hca=>?_) (fun hca=>?_)
          ·try simp only [nn] at hca
           rw [if_neg (by omega)] at he
           rw [he,if_pos rfl] at hi
           refine uAe (uAb ?_);refine uAa rfl rfl rfl (uAd rfl gU) ?_;refine uAa rfl rfl rfl (uAd rfl gU) ?_;refine uAf ?_;refine uAo ?_
           repeat (first | refine tR ?_ | refine bR ?_)
           refine uAq rfl ?_ trivial
           (rw [← hi]; rfl)
          ·try simp only [nn] at hca
           refine uAp ?_;refine uAe ?_;refine awp_drawn' (by kernel_rfl) ?_;refine uAi rfl rfl rfl rfl (uAc rfl gU) ?_;refine uAi rfl rfl rfl rfl (uAc rfl gU) ?_;refine uAi rfl rfl rfl rfl (uAr rfl rfl gU gU rfl (IntWalk.i64_in _ (by omega))) ?_;refine uAi rfl rfl rfl rfl (uAC (j:=k + 1 + 1) rfl rfl gU gU Tryz.underlying9 (by omega) (fun hh=>by omega)) ?_;refine uBa rfl rfl rfl rfl rfl rfl rfl gU gU (uCY hexs _ _ rfl) rfl ?_;refine uAi rfl rfl rfl rfl (uAc rfl gU) ?_;refine uAi rfl rfl rfl rfl (uAc rfl gU) ?_;refine uAi rfl rfl rfl rfl (uAr rfl rfl gU gU rfl (IntWalk.i64_in _ (by omega))) ?_;refine uAi rfl rfl rfl rfl (uAC (j:=k + 1 + 2) rfl rfl gU gU Tryz.underlying9 (by omega) (fun hh=>by omega)) ?_;refine uBa rfl rfl rfl rfl rfl rfl rfl gU gU (uCY hexs _ _ rfl) rfl ?_;refine uAi rfl rfl rfl rfl (uAd rfl gU) ?_;refine uAi rfl rfl rfl rfl (uAd rfl gU) ?_;refine uBg (by kernel_rfl) ?_;refine uAn (s:=⟨[(0,_,_),(4,_,_),(5,_,_),(7,_,_),(8,_,_)],[(.bd 495621 4,_)],[((.b (.bd 495621 4) 1),_)],[]⟩) (uAj (⟨sx rfl,sx rfl,sx rfl,sx rfl,sx rfl,trivial⟩) (⟨sx rfl,trivial⟩) (⟨(ak rfl (ak rfl (ak rfl (ak rfl (ak rfl (ak rfl (ak rfl (ak rfl (ak rfl (ak rfl (ak rfl (ak rfl (rfl))))))))))))),trivial⟩)) ?_;refine uAe ?_;refine uAe (uAb ?_);refine uAa rfl rfl rfl (uAc rfl gU) ?_
           refine uAa rfl rfl rfl (uAk rfl rfl gU gU rfl) ?_;refine uAa rfl rfl rfl (uAc rfl gU) ?_;refine uAa rfl rfl rfl (uAc rfl gU) ?_;refine uAa rfl rfl rfl (uAk rfl rfl (fun hh=>hh) gU rfl) ?_;refine uAa rfl rfl rfl (uAM rfl rfl gU (fun _ hi=>gP rfl hi)) ?_;refine uAf ?_;refine uAn (s:=⟨[(0,_,_),(4,_,_),(5,_,_),(7,_,_),(8,_,_),(71,_,_)],[(.bd 495621 4,_)],[((.b (.bd 495621 4) 1),_)],[]⟩) (uAj (⟨sx rfl,sx rfl,sx rfl,sx rfl,sx rfl,sx rfl,trivial⟩) (⟨sx rfl,trivial⟩) (⟨rfl,trivial⟩)) ?_;refine uAl rfl (fun hcb=>?_) (fun hcb=>?_)
           ·try simp only [nn] at hcb
            have hx : ¬(hexB (s.getD (k + 1 + 1) 0)=true∧hexB (s.getD (k + 1 + 2) 0)=true):=by
             intro q
             rcases hcb with hq | hq
             ·exact hex_neg' hq q.1
             ·exact hex_neg' hq q.2
            rw [if_neg (fun q=>hx q.2.2)] at he
            rw [he,if_pos rfl] at hi
            refine uAe (uAb ?_);refine uAa rfl rfl rfl (uAd rfl gU) ?_;refine uAa rfl rfl rfl (uAd rfl gU) ?_;refine uAf ?_;refine uAo ?_
            repeat (first | refine tR ?_ | refine bR ?_)
            refine uAq rfl ?_ trivial
            (rw [← hi]; rfl)
           ·try simp only [nn] at hcb
            obtain ⟨x1,x2⟩:=uKi (c:=s.getD (k + 1 + 1) 0) (by omega)
            obtain ⟨y1,y2⟩:=uKi (c:=s.getD (k + 1 + 2) 0) (by omega)
            have x3:=uDu x1
            have y3:=uDu y1
            rw [if_pos ⟨by omega,by omega,x1,y1⟩] at he
            rw [he,if_neg (by simp)] at hi
            refine uAp ?_;refine uAe (uAb ?_);refine uAa rfl rfl rfl (uAc rfl gU) ?_;refine uAa rfl rfl rfl (uAr rfl rfl gU gU rfl (IntWalk.i64_in _ (by omega))) ?_;refine uAa rfl rfl rfl (uAc rfl gU) ?_;refine uAa rfl rfl rfl (uAr rfl rfl gU gU rfl (IntWalk.i64_in _ (by omega))) ?_;refine uAa rfl rfl rfl (uCV rfl gU ⟨_,Tryz.underlying3⟩ (Tryz.underlying5) (IntWalk.u8_in _ (by omega))) ?_;refine uE4 bds (c:=UInt8.ofNat (16 * hexV (s.getD (k + 1 + 1) 0) + hexV (s.getD (k + 1 + 2) 0)).toNat) rfl rfl rfl rfl rfl rfl (by exact uMe (by omega) (by omega)) rfl rfl (by (try simp only [List.length_append,List.length_singleton]); omega) ?_;refine uAf ?_;refine uAn (s:=⟨[(0,_,_),(4,_,_),(5,_,_)],[(.bd 495621 4,_)],[((.b (.bd 495621 4) 1),_)],[]⟩) (uAj (⟨sx rfl,sx rfl,sx rfl,trivial⟩) (⟨sx rfl,trivial⟩) (⟨rfl,trivial⟩)) ?_;refine uAb ?_;refine uAa rfl rfl rfl (uAc rfl gU) ?_;refine uAa rfl rfl rfl (uAr rfl rfl gU gU rfl (IntWalk.i64_in _ (by omega))) ?_;refine uAa rfl rfl rfl (uAd rfl gU) ?_;refine uAf ?_;refine uAb ?_;refine uAa rfl rfl rfl (uAc rfl gU) ?_;refine uAa rfl rfl rfl (uAr rfl rfl gU gU rfl (IntWalk.i64_in _ (by omega))) ?_;refine uAa rfl rfl rfl (uAd rfl gU) ?_;refine uAf ?_;refine ⟨(k + 4,out++[UInt8.ofNat (16 * hexV (s.getD (k + 1 + 1) 0) + hexV (s.getD (k + 1 + 2) 0)).toNat]),?_,?_,uAj (⟨⟨_,rfl,?_⟩,⟨sx rfl,sx rfl,trivial⟩⟩) (⟨⟨_,rfl,?_⟩,trivial⟩) (⟨rfl,trivial⟩)⟩
            all_goals (first | rfl | omega | (refine ⟨by omega,by simp; omega,n,by omega,hi⟩))
         ·try simp only [nn] at hc9
          rw [if_neg (by omega)] at he
          rw [he,if_pos rfl] at hi
          refine uAe (uAb ?_);refine uAa rfl rfl rfl (uAd rfl gU) ?_;refine uAa rfl rfl rfl (uAd rfl gU) ?_;refine uAf ?_;refine uAo ?_
          repeat (first | refine tR ?_ | refine bR ?_)
          refine uAq rfl ?_ trivial
          (rw [← hi]; rfl)
   ·try simp only [nn] at hc3
    rw [if_neg (by omega)] at hi
    refine uAe (uAb ?_);refine uAa rfl rfl rfl (uAc rfl gU) ?_;refine uAa rfl rfl rfl (uAk rfl rfl gU gU rfl) ?_;refine uAa rfl rfl rfl (uAc rfl gU) ?_;refine uAa rfl rfl rfl (uAc rfl gU) ?_;refine uAa rfl rfl rfl (uAk rfl rfl (fun hh=>hh) gU rfl) ?_;refine uAa rfl rfl rfl (uAO rfl rfl gU (fun _ hi=>gP rfl hi)) ?_;refine uAa rfl rfl rfl (uAd rfl gU) ?_;refine uAf ?_;refine uAn (s:=⟨[(0,_,_),(4,_,_),(5,_,_),(6,_,_),(80,_,_)],[(.bd 495621 4,_)],[((.b (.bd 495621 4) 1),_)],[]⟩) (uAj (⟨sx rfl,sx rfl,sx rfl,sx rfl,sx rfl,trivial⟩) (⟨sx rfl,trivial⟩) (⟨rfl,trivial⟩)) ?_;refine uAl rfl (fun hc4=>?_) (fun hc4=>?_)
    ·try simp only [nn] at hc4
     rw [if_neg (by omega)] at hi
     refine uAb ?_;refine uAa rfl rfl rfl (uAc rfl gU) ?_;refine uE4 bds (c:=s.getD k 0) rfl rfl rfl rfl rfl rfl (by rfl) rfl rfl (by (try simp only [List.length_append,List.length_singleton]); omega) ?_;refine uAf ?_;refine uAb ?_;refine uAa rfl rfl rfl (uAc rfl gU) ?_;refine uAa rfl rfl rfl (uAr rfl rfl gU gU rfl (IntWalk.i64_in _ (by omega))) ?_;refine uAa rfl rfl rfl (uAd rfl gU) ?_;refine uAf ?_;refine ⟨(k + 1,out++[s.getD k 0]),?_,?_,uAj (⟨⟨_,rfl,?_⟩,⟨sx rfl,sx rfl,trivial⟩⟩) (⟨⟨_,rfl,?_⟩,trivial⟩) (⟨rfl,trivial⟩)⟩
     all_goals (first | rfl | omega | (refine ⟨by omega,by simp; omega,n,by omega,hi⟩))
    ·try simp only [nn] at hc4
     rw [if_pos (by omega)] at hi
     refine uAe (uAb ?_);refine uAa rfl rfl rfl (uAd rfl gU) ?_;refine uAa rfl rfl rfl (uAd rfl gU) ?_;refine uAf ?_;refine uAo ?_
     repeat (first | refine tR ?_ | refine bR ?_)
     refine uAq rfl ?_ trivial
     (rw [← hi]; rfl)
 ·try simp only [nn] at hc
  rw [uIv (List.drop_of_length_le (by omega))] at hi
  refine uAL ?_
  repeat (first | refine uAF ?_ | refine uAE ?_ | refine uAB rfl ?_)
  refine uAe (uAb ?_);refine uAa rfl rfl rfl (uAd rfl gU) ?_;refine uAa rfl rfl rfl (uAd rfl gU) ?_;refine uAf ?_;refine uAo ?_
  repeat (first | refine tR ?_ | refine bR ?_)
  refine uAq rfl ?_ trivial
  (rw [← hi]; rfl)
end Go.Proofs.YtnjjdbapadkomaaGreatDoor
namespace Go.Proofs.YtnjjdbapadkomaaGreatDoor
open Go Go.Abs
theorem uHy {n : Int} (h : uBt n=true) : 48≤n∧n≤57:=by simpa [uBt] using h
theorem uKR (s : List UInt8) (h : 0 < s.length) (hs : s.length≤2000000) : Ctr sys 108 [xs s] [] (xnx (uBz s)) none []:=by
 have h1:=uJ0 h
 have h3:=uH2 s h
 refine uAv Tryz.func108 rfl rfl rfl rfl rfl rfl ?_;refine uAe (uAb ?_);refine uAu rfl (uAP rfl rfl rfl) ?_;refine uAa rfl rfl rfl (uAd rfl gU) ?_;refine uAa rfl rfl rfl (uAd rfl gU) ?_;refine uAf ?_;refine uAe ?_;refine uAe (uAb ?_);refine uAa rfl rfl rfl (uAc rfl gU) ?_;refine uAa rfl rfl rfl (uAC (j:=0) rfl rfl gU gU Tryz.underlying9 (by first | omega | (simp at hh ⊢; omega)) (fun hh=>by first | omega | (simp at hh ⊢; omega))) ?_;refine uAa rfl rfl rfl (uAd rfl gU) ?_;refine uAf ?_;refine uAn (s:=⟨[(0,_,_),(2,_,_),(5,_,_)],[(.l 2,_)],[],[]⟩) (uAj (⟨sx rfl,sx rfl,sx rfl,trivial⟩) (⟨sx rfl,trivial⟩) trivial) ?_;refine uAt ?_;refine uAe (uAb ?_);refine uAa rfl rfl rfl (uAc rfl gU) ?_;refine uAw rfl rfl rfl rfl rfl rfl gU gU (uDy _) rfl ?_;refine uAa rfl rfl rfl (uAd rfl gU) ?_;refine uAf ?_;refine uAl rfl (fun hc=>?_) (fun hc=>?_)
 ·try simp only [nn] at hc
  rw [uBz,if_pos hc]
  refine uAe (uAb ?_);refine uAa rfl rfl rfl (uAc rfl gU) ?_;refine uAw rfl rfl rfl rfl rfl rfl gU gU (uDK _ (by omega)) rfl ?_;refine uAa rfl rfl rfl (uAd rfl gU) ?_;refine uAf ?_;refine uAn (s:=⟨[(0,_,_),(2,_,_),(6,_,_)],[(.l 2,_)],[],[]⟩) (uAj (⟨sx rfl,sx rfl,sx rfl,trivial⟩) (⟨sx rfl,trivial⟩) trivial) ?_;refine uAe ?_;refine uAe (uAb ?_);refine uAa rfl rfl rfl (uAc rfl gU) ?_;refine uAa rfl rfl rfl (uAk rfl rfl gU gU rfl) ?_;refine uAf ?_;refine uAl rfl (fun hc2=>?_) (fun hc2=>?_)
  ·try simp only [nn] at hc2
   refine uAe (uAb ?_);refine uAa rfl rfl rfl (uAU rfl Tryz.underlying50 rfl gU) ?_;refine uAu rfl (uAz rfl rfl rfl rfl rfl rfl rfl) ?_;refine uAa rfl rfl rfl (uAd rfl gU) ?_;refine uAa rfl rfl rfl (uAd rfl gU) ?_;refine uAf ?_;refine uAo ?_
   repeat (first | refine tR ?_ | refine bR ?_)
   refine uAq rfl ?_ trivial
   (rw [if_pos (by omega)]; rfl)
  ·try simp only [nn] at hc2
   refine uAp ?_;refine uAe (uAb ?_);refine uAa rfl rfl rfl (uAc rfl gU) ?_;refine uAa rfl rfl rfl (uAc rfl gU) ?_;refine uAa rfl rfl rfl (uBe (h':=(nlE s)) rfl gU Tryz.underlying9 (fun _=>rfl) (fun _=>⟨_,_,_,rfl,gU,by first | omega | (simp at hh ⊢; omega)⟩) (fun hh=>by first | omega | (simp at hh ⊢; omega)) (fun hh=>by first | omega | (simp at hh ⊢; omega))) ?_;refine uAa rfl rfl rfl (uAU rfl Tryz.underlying50 rfl gU) ?_;refine uAa rfl rfl rfl (uAc rfl gU) ?_;refine uAu rfl (uAz rfl rfl rfl rfl rfl rfl rfl) ?_;refine uAa rfl rfl rfl (uAd rfl gU) ?_;refine uAa rfl rfl rfl (uAd rfl gU) ?_;refine uAf ?_;refine uAo ?_
   repeat (first | refine tR ?_ | refine bR ?_)
   refine uAq rfl ?_ trivial
   (rw [if_neg (by omega)]; rfl)
 ·try simp only [nn] at hc
  rw [uBz,if_neg (by rw [hc]; exact Bool.false_ne_true)]
  refine uAe (uAb ?_);refine uAa rfl rfl rfl (uAc rfl gU) ?_;refine uAw rfl rfl rfl rfl rfl rfl gU gU (uDO _) rfl ?_;refine uAa rfl rfl rfl (uAd rfl gU) ?_;refine uAf ?_;refine uAn (s:=⟨[(0,_,_),(2,_,_),(5,_,_),(27,_,_)],[(.l 2,_)],[],[]⟩) (uAj (⟨sx rfl,sx rfl,sx rfl,sx rfl,trivial⟩) (⟨sx rfl,trivial⟩) trivial) ?_;refine uAl rfl (fun hc2=>?_) (fun hc2=>?_)
  ·try simp only [nn] at hc2
   rw [if_pos hc2]
   refine uAe (uAb ?_);refine uAa rfl rfl rfl (uAd rfl gU) ?_;refine uAa rfl rfl rfl (uAd rfl gU) ?_;refine uAf ?_;refine uAe ?_;refine uAt ?_;refine uAW (ι:=Nat × Int) { t:=[(0,_,_),(2,_,_)],bx:=[(.l 2,_)],ow:=[] } (fun p=>[(7,true,xi (p.1 : Int)),(8,true,xi p.2)]) (fun p=>[]) (fun p=>p.1≤s.length∧0≤p.2∧p.2≤9223372036854775807∧numA (s.drop p.1) p.1 p.2=numA s 0 0) (fun p=>s.length - p.1) ((0,0)) (⟨by simp,by simp,by simp,rfl⟩) (uAj (⟨sx rfl,sx rfl,sx rfl,sx rfl,trivial⟩) (⟨sx rfl,trivial⟩) trivial) ?_
   intro p hok
   dsimp only [List.cons_append,List.nil_append] at *
   obtain ⟨k,v⟩:=p
   dsimp only at hok ⊢
   obtain ⟨hk,hv0,hv1,hi⟩:=hok
   refine uAe ?_;refine uAe (uAb ?_);refine uAa rfl rfl rfl (uAc rfl gU) ?_;refine uAa rfl rfl rfl (uAc rfl gU) ?_;refine uBj rfl rfl rfl rfl rfl gU (Tryz.underlying9) ?_ (fun hh=>by simp at hh); intro hlen;refine uAa rfl rfl rfl (uAk rfl rfl gU gU rfl) ?_;refine uAa rfl rfl rfl (uAc rfl gU) ?_;refine uAa rfl rfl rfl (uAc rfl gU) ?_;refine uAa rfl rfl rfl (uAc rfl gU) ?_;refine uAa rfl rfl rfl (uAC (j:=k) rfl rfl (fun hh=>hh) (fun hh=>hh) Tryz.underlying9 (by first | omega | (simp at hh ⊢; omega)) (fun hh=>by first | omega | (simp at hh ⊢; omega))) ?_;refine uAw rfl rfl rfl rfl rfl rfl gU (fun hh=>gA ((fun hh=>hh) hh) (rfl)) (uDO _) rfl ?_;refine uAa rfl rfl rfl (uAO rfl rfl gU (fun _ hi=>gP rfl hi)) ?_;refine uAf ?_;refine uAn (s:=⟨[(0,_,_),(2,_,_),(7,_,_),(8,_,_),(39,_,_)],[(.l 2,_)],[],[]⟩) (uAj (⟨sx rfl,sx rfl,sx rfl,sx rfl,sx rfl,trivial⟩) (⟨sx rfl,trivial⟩) trivial) ?_;refine uAl rfl (fun hc3=>?_) (fun hc3=>?_)
   ·try simp only [nn] at hc3
    have hd:=uHy hc3.2
    rw [uA6 (by omega),numA,if_pos hc3.2] at hi
    refine uAp ?_;refine uAt ?_;refine uAe (uAb ?_);refine uAa rfl rfl rfl (uAc rfl gU) ?_;refine uAa rfl rfl rfl (uAc rfl gU) ?_;refine uAa rfl rfl rfl (uAC (j:=k) rfl rfl gU gU Tryz.underlying9 (by first | omega | (simp at hh ⊢; omega)) (fun hh=>by first | omega | (simp at hh ⊢; omega))) ?_;refine uAa rfl rfl rfl (uAr rfl rfl gU gU rfl (IntWalk.u8_in _ (by omega))) ?_;refine uAa rfl rfl rfl (uCV rfl gU ⟨_,Tryz.underlying5⟩ (Tryz.underlying2) (IntWalk.i64_in _ (by omega))) ?_;refine uAa rfl rfl rfl (uAd rfl gU) ?_;refine uAf ?_;refine uAn (s:=⟨[(0,_,_),(2,_,_),(7,_,_),(8,_,_),(9,_,_)],[(.l 2,_)],[],[]⟩) (uAj (⟨sx rfl,sx rfl,sx rfl,sx rfl,sx rfl,trivial⟩) (⟨sx rfl,trivial⟩) trivial) ?_;refine uAe ?_;refine uAe (uAb ?_);refine uAa rfl rfl rfl (uAc rfl gU) ?_;refine uAa rfl rfl rfl (uAc rfl gU) ?_;refine uAa rfl rfl rfl (uAr rfl rfl gU gU rfl (IntWalk.i64_in _ (by omega))) ?_;refine uAa rfl rfl rfl (uHm rfl rfl gU gU (fun hh=>by first | omega | (simp at hh ⊢; omega)) (fun hh=>(congrArg IntKind.i64.wrap (Int.tdiv_eq_ediv_of_nonneg (by first | omega | (simp at hh ⊢; omega)))).trans (IntWalk.i64_in _ (by omega)))) ?_;refine uAa rfl rfl rfl (uAk rfl rfl gU gU rfl) ?_;refine uAf ?_;refine uAn (s:=⟨[(0,_,_),(2,_,_),(7,_,_),(8,_,_),(9,_,_),(49,_,_)],[(.l 2,_)],[],[]⟩) (uAj (⟨sx rfl,sx rfl,sx rfl,sx rfl,sx rfl,sx rfl,trivial⟩) (⟨sx rfl,trivial⟩) trivial) ?_
    refine uAl rfl (fun hc4=>?_) (fun hc4=>?_)
    ·try simp only [nn] at hc4
     rw [if_pos (by omega)] at hi
     refine uAe (uAb ?_);refine uAa rfl rfl rfl (uAU rfl Tryz.underlying50 rfl gU) ?_;refine uAu rfl (uAz rfl rfl rfl rfl rfl rfl rfl) ?_;refine uAa rfl rfl rfl (uAd rfl gU) ?_;refine uAa rfl rfl rfl (uAd rfl gU) ?_;refine uAf ?_;refine uAo ?_
     repeat (first | refine tR ?_ | refine bR ?_)
     refine uAq rfl ?_ trivial
     (rw [← hi]; rfl)
    ·try simp only [nn] at hc4
     rw [if_neg (by omega)] at hi
     refine uAp ?_;refine uAe (uAb ?_);refine uAa rfl rfl rfl (uAc rfl gU) ?_;refine uAa rfl rfl rfl (uAr rfl rfl gU gU rfl (IntWalk.i64_in _ (by omega))) ?_;refine uAa rfl rfl rfl (uAc rfl gU) ?_;refine uAa rfl rfl rfl (uAr rfl rfl gU gU rfl (IntWalk.i64_in _ (by omega))) ?_;refine uAa rfl rfl rfl (uAd rfl gU) ?_;refine uAf ?_;refine uAn (s:=⟨[(0,_,_),(2,_,_),(7,_,_),(8,_,_)],[(.l 2,_)],[],[]⟩) (uAj (⟨sx rfl,sx rfl,sx rfl,sx rfl,trivial⟩) (⟨sx rfl,trivial⟩) trivial) ?_;refine uAb ?_;refine uAa rfl rfl rfl (uAc rfl gU) ?_;refine uAa rfl rfl rfl (uAr rfl rfl gU gU rfl (IntWalk.i64_in _ (by omega))) ?_;refine uAa rfl rfl rfl (uAd rfl gU) ?_;refine uAf ?_;refine ⟨(k + 1,10 * v + (((s.getD k 0).toNat : Int) - 48)),?_,?_,uAj (⟨⟨_,rfl,?_⟩,⟨⟨_,rfl,?_⟩,⟨sx rfl,sx rfl,trivial⟩⟩⟩) (⟨sx rfl,trivial⟩) trivial⟩
     all_goals (first | rfl | omega | exact ⟨by omega,by omega,by omega,hi⟩)
   ·try simp only [nn] at hc3
    have hn : numA (s.drop k) k v=(true,k,v):=by
     by_cases hlt : k < s.length
     ·rw [uA6 hlt,numA,if_neg]
      intro q
      rcases hc3 with z | z
      ·omega
      ·rw [q] at z; simp at z
     ·rw [List.drop_of_length_le (by omega)]; rfl
    rw [hn] at hi
    refine uAL ?_
    repeat (first | refine uAF ?_ | refine uAE ?_ | refine uAB rfl ?_)
    refine uAe (uAb ?_);refine uAa rfl rfl rfl (uAc rfl gU) ?_;refine uAa rfl rfl rfl (uAU rfl Tryz.underlying50 rfl gU) ?_;refine uAa rfl rfl rfl (uAc rfl gU) ?_;refine uAu rfl (uAz rfl rfl rfl rfl rfl rfl rfl) ?_;refine uAa rfl rfl rfl (uAd rfl gU) ?_;refine uAa rfl rfl rfl (uAd rfl gU) ?_;refine uAf ?_;refine uAo ?_
    repeat (first | refine tR ?_ | refine bR ?_)
    refine uAq rfl ?_ trivial
    (rw [← hi]; rfl)
  ·try simp only [nn] at hc2
   rw [if_neg (by rw [hc2]; exact Bool.false_ne_true)]
   refine uAe (uAb ?_);refine uAa rfl rfl rfl (uAc rfl gU) ?_;refine uAa rfl rfl rfl (uAk rfl rfl gU gU rfl) ?_;refine uAa rfl rfl rfl (uAd rfl gU) ?_;refine uAf ?_;refine uAl rfl (fun hc3=>?_) (fun hc3=>?_)
   ·try simp only [nn] at hc3
    rw [if_pos (by omega)]
    refine uAe (uAb ?_);refine uAa rfl rfl rfl (uAc rfl gU) ?_;refine uAw rfl rfl rfl rfl rfl rfl gU gU (uK5 _ (by omega) (by omega)) rfl ?_;refine uAa rfl rfl rfl (uAc rfl gU) ?_;refine uAa rfl rfl rfl (uAG rfl gU rfl) ?_;refine uAa rfl rfl rfl (uAG rfl gU rfl) ?_;refine uAa rfl rfl rfl (uAd rfl gU) ?_;refine uAa rfl rfl rfl (uAd rfl gU) ?_;refine uAf ?_;refine uAn (s:=⟨[(2,_,_),(10,_,_),(11,_,_)],[(.l 2,_)],[],[]⟩) (uAj (⟨sx rfl,sx rfl,sx rfl,trivial⟩) (⟨sx rfl,trivial⟩) trivial) ?_;refine uAe ?_;refine uAe (uAb ?_);refine uAa rfl rfl rfl (uAc rfl gU) ?_;refine uAa rfl rfl rfl (uAk rfl rfl gU gU rfl) ?_;refine uAf ?_;refine uAl rfl (fun hc4=>?_) (fun hc4=>?_)
    ·try simp only [nn] at hc4
     refine uAe (uAb ?_);refine uAa rfl rfl rfl (uAU rfl Tryz.underlying50 rfl gU) ?_;refine uAu rfl (uAz rfl rfl rfl rfl rfl rfl rfl) ?_;refine uAa rfl rfl rfl (uAd rfl gU) ?_;refine uAa rfl rfl rfl (uAd rfl gU) ?_;refine uAf ?_;refine uAo ?_
     repeat (first | refine tR ?_ | refine bR ?_)
     refine uAq rfl ?_ trivial
     (rw [if_pos (by omega)]; rfl)
    ·try simp only [nn] at hc4
     refine uAp ?_;refine uAe (uAb ?_);refine uAa rfl rfl rfl (uAc rfl gU) ?_;refine uAa rfl rfl rfl (uAU rfl Tryz.underlying50 rfl gU) ?_;refine uAa rfl rfl rfl (uAc rfl gU) ?_;refine uAu rfl (uAz rfl rfl rfl rfl rfl rfl rfl) ?_;refine uAa rfl rfl rfl (uAd rfl gU) ?_;refine uAa rfl rfl rfl (uAd rfl gU) ?_;refine uAf ?_;refine uAo ?_
     repeat (first | refine tR ?_ | refine bR ?_)
     refine uAq rfl ?_ trivial
     (rw [if_neg (by omega)]; rfl)
   ·try simp only [nn] at hc3
    rw [if_neg (by omega)]
    have hs4:=uLy (s.getD 0 0)
    refine uAe (uAb ?_);refine uAa rfl rfl rfl (uAc rfl gU) ?_;refine uAw rfl rfl rfl rfl rfl rfl gU gU (uCY syms (s.getD 0 0) _ rfl) rfl ?_;refine uAa rfl rfl rfl (uAk rfl rfl gU gU rfl) ?_;refine uAa rfl rfl rfl (uAd rfl gU) ?_;refine uAf ?_;refine uAn (s:=⟨[(0,_,_),(2,_,_),(74,_,_)],[(.l 2,_)],[],[]⟩) (uAj (⟨sx rfl,sx rfl,sx rfl,trivial⟩) (⟨sx rfl,trivial⟩) trivial) ?_;refine uAl rfl (fun hc4=>?_) (fun hc4=>?_)
    ·try simp only [nn] at hc4
     rw [if_pos (by rw [← hs4]; exact decide_eq_true (by omega))]
     refine uAe (uAb ?_);refine uAa rfl rfl rfl (uAc rfl gU) ?_;refine uAa rfl rfl rfl (uBe (h':=1) rfl gU Tryz.underlying9 (fun _=>rfl) (fun _=>⟨_,_,_,rfl,gU,by first | omega | (simp at hh ⊢; omega)⟩) (fun hh=>by first | omega | (simp at hh ⊢; omega)) (fun hh=>by first | omega | (simp at hh ⊢; omega))) ?_;refine uAa rfl rfl rfl (uAU rfl Tryz.underlying50 rfl gU) ?_;refine uAu rfl (uAz rfl rfl rfl rfl rfl rfl rfl) ?_;refine uAa rfl rfl rfl (uAd rfl gU) ?_;refine uAa rfl rfl rfl (uAd rfl gU) ?_;refine uAf ?_;refine uAo ?_
     repeat (first | refine tR ?_ | refine bR ?_)
     refine uAq rfl ?_ trivial
     rfl
    ·try simp only [nn] at hc4
     rw [if_neg (by rw [← hs4,decide_eq_false (by omega)]; exact Bool.false_ne_true)]
     refine uAp ?_;refine uAe (uAb ?_);refine uAa rfl rfl rfl (uAU rfl Tryz.underlying50 rfl gU) ?_;refine uAu rfl (uAz rfl rfl rfl rfl rfl rfl rfl) ?_;refine uAa rfl rfl rfl (uAd rfl gU) ?_;refine uAa rfl rfl rfl (uAd rfl gU) ?_;refine uAf ?_;refine uAo ?_
     repeat (first | refine tR ?_ | refine bR ?_)
     refine uAq rfl ?_ trivial
     rfl
end Go.Proofs.YtnjjdbapadkomaaGreatDoor
namespace Go.Proofs.YtnjjdbapadkomaaGreatDoor
open Go Go.Abs
theorem uJ3 {n : Nat} {l : List UInt8} {k : Int} {out : List Tk} (h : ¬(uBl l=[]∨[35,35].isPrefixOf (uBl l)=true)) (he : (uBz (uBl l)).2.2=0) :
  uBi (n + 1) l k out=uBi n ((uBl l).drop (uBz (uBl l)).2.1) k (out++[(uBz (uBl l)).1.onl k]):=by
 rw [uBi,if_neg h,if_neg (by rw [he]; exact fun q=>q rfl)]
theorem uFO (s : List UInt8) (hs : s.length≤9223372036854775807) : Ctr sys 58 [xs s] [] (uMY (tokP s)) none []:=by
 have hsl:=uFY s
 refine uAv Tryz.func58 rfl rfl rfl rfl rfl rfl ?_;refine uAe (uAb ?_);refine uAu rfl (uBn (.inr rfl) rfl rfl) ?_;refine uAa rfl rfl rfl (uAd rfl gU) ?_;refine uAa rfl rfl rfl (uAd rfl gU) ?_;refine uAf ?_;refine uAe ?_;refine uAe (uAb ?_);refine uAa rfl rfl rfl (uAc rfl gU) ?_;refine uBj rfl rfl rfl rfl rfl gU (Tryz.underlying9) ?_ (fun hh=>by simp at hh); intro hlen;refine uAa rfl rfl rfl (uAk rfl rfl gU gU rfl) ?_;refine uAf ?_;refine uAn (s:=⟨[(0,_,_),(13,_,_)],[],[],[]⟩) (uAj (⟨sx rfl,sx rfl,trivial⟩) trivial trivial) ?_;refine uAl rfl (fun hc=>?_) (fun hc=>?_)
 ·try simp only [nn,uAh,Tk.rows_len] at hc
  refine uAe (uAb ?_);refine uAu rfl (uBn (.inr rfl) rfl rfl) ?_;refine uAa rfl rfl rfl (uAd rfl gU) ?_;refine uAa rfl rfl rfl (uAd rfl gU) ?_;refine uAf ?_;refine uAo ?_
  repeat (first | refine tR ?_ | refine bR ?_)
  refine uAq rfl ?_ trivial
  (rw [tokP,if_pos (by omega)]; rfl)
 ·try simp only [nn,uAh,Tk.rows_len] at hc
  rw [tokP,if_neg (by omega)]
  refine uAp ?_;refine uAe (uAb ?_);refine uAu rfl (uBn (.inr rfl) rfl rfl) ?_;refine uAf ?_;refine uAe ?_;refine uAe (uAb ?_);refine uAa rfl rfl rfl (uAc rfl gU) ?_;refine uAw rfl rfl rfl rfl rfl rfl gU gU (uGh _ (by omega)) rfl ?_;refine uAQ rfl rfl rfl rfl rfl gU rfl rfl ?_ (fun hh=>by simp at hh); intro hlen;refine uAa rfl rfl rfl (uAc rfl gU) ?_;refine uAf ?_;refine uAn (s:=⟨[(5,_,_),(15,_,_),(16,_,_),(17,_,_)],[],[(.t 5,_)],[]⟩) (uAj (⟨sx rfl,sx rfl,sx rfl,sx rfl,trivial⟩) trivial (⟨rfl,trivial⟩)) ?_;refine uAt ?_;refine uAW (ι:=Nat × List Tk) { t:=[(15,_,_),(16,_,_)],bx:=[],ow:=[(.t 5,_)] } (fun p=>[(17,true,xi (p.1 : Int)),(5,true,xts p.2)]) (fun p=>[]) (fun p=>p.1≤(spl s).length∧p.2.length≤70000 * p.1∧uCv ((spl s).drop p.1) (p.1 + 1) p.2=uCv (spl s) 1 []) (fun p=>(spl s).length - p.1) ((0,[])) (⟨by simp,by simp,rfl⟩) (uAj (⟨sx rfl,sx rfl,sx rfl,sx rfl,trivial⟩) trivial (⟨rfl,trivial⟩)) ?_
  intro p hok
  dsimp only [List.cons_append,List.nil_append] at *
  obtain ⟨k,out⟩:=p
  dsimp only at hok ⊢
  obtain ⟨hk,ho,hi⟩:=hok
  refine uAe (uAb ?_);refine uAa rfl rfl rfl (uAk rfl rfl gU gU rfl) ?_;refine uAf ?_;refine uAe ?_;refine uAl rfl (fun hc2=>?_) (fun hc2=>?_)
  ·try simp only [nn,uAh,Tk.rows_len] at hc2
   rw [uI8 (d:=[]) (by omega),uCv] at hi
   have hL:=uMI s k
   refine uAp ?_;refine uAe ?_;refine uAt ?_;refine uAe (uAb ?_);refine uAa rfl rfl rfl (uAc rfl gU) ?_;refine uAa rfl rfl rfl (uAy rfl rfl gU gU rfl rfl rfl (fun hh=>uCK (by first | omega | (simp at hh ⊢; omega)))) ?_;refine uAa rfl rfl rfl (uAX rfl gU rfl rfl rfl) ?_;refine uAa rfl rfl rfl (uAd rfl gU) ?_;refine uAa rfl rfl rfl (uAd rfl gU) ?_;refine uAf ?_;refine uAn (s:=⟨[(5,_,_),(6,_,_),(7,_,_),(15,_,_),(16,_,_),(17,_,_)],[],[(.t 5,_)],[]⟩) (uAj (⟨sx rfl,sx rfl,sx rfl,sx rfl,sx rfl,sx rfl,trivial⟩) trivial (⟨rfl,trivial⟩)) ?_;refine uAt ?_;refine uAW (ι:=List UInt8 × List Tk) { t:=[(6,_,_),(15,_,_),(16,_,_),(17,_,_)],bx:=[],ow:=[(.t 5,_)] } (fun q=>[(7,true,xs q.1),(5,true,xts q.2)]) (fun q=>[]) (fun q=>q.1.length≤((spl s).getD k []).length∧q.2.length + q.1.length≤out.length + ((spl s).getD k []).length ∧ ∃ n,q.1.length < n∧uBi n q.1 ((k + 1 : Nat) : Int) q.2=uBi (((spl s).getD k []).length + 1) ((spl s).getD k []) ((k + 1 : Nat) : Int) out) (fun q=>q.1.length) (((spl s).getD k [],out)) (⟨by simp,by simp,_,by dsimp only; omega,rfl⟩) (uAj (⟨sx rfl,sx rfl,sx rfl,sx rfl,sx rfl,sx rfl,trivial⟩) trivial (⟨rfl,trivial⟩)) ?_
   intro q hokq
   dsimp only [List.cons_append,List.nil_append] at *
   obtain ⟨l,o2⟩:=q
   dsimp only at hokq ⊢
   obtain ⟨hl,ho2,n,hn,hi2⟩:=hokq
   obtain ⟨n,rfl⟩ : ∃ m,n=m + 1:=⟨n - 1,by omega⟩
   have htl:=uFe l
   refine uAt ?_;refine uAe (uAb ?_);refine uAa rfl rfl rfl (uAc rfl gU) ?_;refine uAw rfl rfl rfl rfl rfl rfl gU gU (uG6 _ (by omega)) rfl ?_;refine uAa rfl rfl rfl (uAd rfl gU) ?_;refine uAf ?_;refine uAe ?_;refine uAe (uAb ?_);refine uAa rfl rfl rfl (uAc rfl gU) ?_;refine uAa rfl rfl rfl (uAY rfl rfl gU gU rfl) ?_;refine uAa rfl rfl rfl (uAc rfl gU) ?_;refine uAa rfl rfl rfl (uAc rfl gU) ?_;refine uAw rfl rfl rfl rfl rfl rfl gU (fun hh=>gA ((fun hh=>hh) hh) (gA rfl (rfl))) (uDR _ _) rfl ?_;refine uAa rfl rfl rfl (uAM rfl rfl gU (fun _ hi=>gP rfl hi)) ?_;refine uAf ?_;refine uAn (s:=⟨[(5,_,_),(6,_,_),(7,_,_),(15,_,_),(16,_,_),(17,_,_),(29,_,_)],[],[(.t 5,_)],[]⟩) (uAj (⟨sx rfl,sx rfl,sx rfl,sx rfl,sx rfl,sx rfl,sx rfl,trivial⟩) trivial (⟨rfl,trivial⟩)) ?_;refine uAl rfl (fun hc3=>?_) (fun hc3=>?_)
   ·try simp only [nn,uAh,Tk.rows_len] at hc3
    rw [uBi,if_pos hc3] at hi2
    rw [← hi2] at hi
    refine uAL ?_
    repeat (first | refine uAF ?_ | refine uAE ?_ | refine uAB rfl ?_)
    refine uAb ?_;refine uAa rfl rfl rfl (uAr rfl rfl gU gU rfl (IntWalk.i64_in _ (by omega))) ?_;refine uAa rfl rfl rfl (uAc rfl gU) ?_;refine uAf ?_;refine ⟨(k + 1,o2),?_,?_,uAj (⟨⟨_,rfl,?_⟩,⟨⟨_,rfl,?_⟩,⟨sx rfl,sx rfl,trivial⟩⟩⟩) trivial (⟨rfl,trivial⟩)⟩
    all_goals first | rfl | omega | (refine ⟨by dsimp only; omega,by dsimp only; omega,?_⟩; exact hi)
   ·try simp only [nn,uAh,Tk.rows_len] at hc3
    have hne : 0 < (uBl l).length:=List.length_pos_iff.2 fun q=>hc3.1 q
    have hnx:=uEI hne
    refine uAp ?_;refine uAe (uAb ?_);refine uAa rfl rfl rfl (uAc rfl gU) ?_;refine uAw rfl rfl rfl rfl rfl rfl gU gU (uKR _ hne (by omega)) rfl ?_;refine uAa rfl rfl rfl (uAc rfl gU) ?_;refine uAa rfl rfl rfl (uAG rfl gU rfl) ?_;refine uAa rfl rfl rfl (uAG rfl gU rfl) ?_;refine uAa rfl rfl rfl (uAG rfl gU rfl) ?_;refine uAu rfl (uAP rfl rfl rfl) ?_;refine uAu rfl (uAz rfl rfl rfl rfl rfl rfl rfl) ?_;refine uAa rfl rfl rfl (uAd rfl gU) ?_;refine uAa rfl rfl rfl (uAd rfl gU) ?_;refine uAf ?_;refine uAn (s:=⟨[(5,_,_),(6,_,_),(7,_,_),(8,_,_),(9,_,_),(10,_,_),(15,_,_),(16,_,_),(17,_,_)],[(.l 8,_)],[(.t 5,_)],[]⟩) (uAj (⟨sx rfl,sx rfl,sx rfl,sx rfl,sx rfl,sx rfl,sx rfl,sx rfl,sx rfl,trivial⟩) (⟨sx rfl,trivial⟩) (⟨rfl,trivial⟩)) ?_;refine uAe ?_;refine uAe (uAb ?_);refine uAa rfl rfl rfl (uAc rfl gU) ?_;refine uAa rfl rfl rfl (uAk rfl rfl gU gU rfl) ?_;refine uAf ?_;refine uAl rfl (fun hc4=>?_) (fun hc4=>?_)
    ·try simp only [nn,uAh,Tk.rows_len] at hc4
     rw [uBi,if_neg (by intro q; rcases q with q | q; exact hc3.1 q; rw [q] at hc3; simp at hc3),if_pos hc4] at hi2
     rw [← hi2,if_pos hc4] at hi
     refine uAe (uAb ?_);refine uAa rfl rfl rfl (uAc rfl gU) ?_;refine uAa rfl rfl rfl (uAr rfl rfl gU gU rfl (IntWalk.i64_in _ (by omega))) ?_;refine uAa rfl rfl rfl (uAc rfl gU) ?_;refine uAu rfl (uBn (.inr rfl) rfl rfl) ?_;refine uAa rfl rfl rfl (uAd rfl gU) ?_;refine uAa rfl rfl rfl (uAd rfl gU) ?_;refine uAf ?_;refine uAo ?_
     repeat (first | refine tR ?_ | refine bR ?_)
     refine uAq rfl ?_ trivial
     (rw [← hi]; rfl)
    ·try simp only [nn,uAh,Tk.rows_len] at hc4
     have h4:=hnx.2 hc4
     rw [uJ3 (by intro q; rcases q with q | q; exact hc3.1 q; rw [q] at hc3; simp at hc3) hc4] at hi2
     refine uAp ?_;refine uAe (uAb ?_);refine uAa rfl rfl rfl (uAc rfl gU) ?_;refine uAa rfl rfl rfl (uAr rfl rfl gU gU rfl (IntWalk.i64_in _ (by omega))) ?_;refine uAa rfl rfl rfl (uAg rfl gU rfl rfl) ?_;refine uAu rfl (uAz rfl rfl rfl rfl rfl rfl rfl) ?_;refine uAf ?_;refine uAn (s:=⟨[(5,_,_),(6,_,_),(7,_,_),(8,_,_),(9,_,_),(15,_,_),(16,_,_),(17,_,_)],[(.l 8,_)],[(.t 5,_)],[]⟩) (uAj (⟨sx rfl,sx rfl,sx rfl,sx rfl,sx rfl,sx rfl,sx rfl,sx rfl,trivial⟩) (⟨sx rfl,trivial⟩) (⟨rfl,trivial⟩)) ?_;refine uAe (uAb ?_);refine uAu rfl (uAH (.inl rfl) rfl rfl rfl) ?_;refine uAa rfl rfl rfl (uAs rfl gU rfl rfl rfl rfl rfl) ?_;refine uAK (xs:=[_]) rfl rfl rfl rfl rfl rfl rfl rfl rfl gU rfl ?_;refine uAu rfl (uAZ rfl rfl rfl rfl rfl rfl rfl (by first | omega | (simp only [List.length_append,List.length_singleton,Tk.rows_len,uAh]; omega)) (by first | omega | (simp only [List.length_append,List.length_singleton,Tk.rows_len,uAh]; omega))) ?_;refine uAu rfl (uAH (.inr rfl) rfl rfl rfl) ?_;refine uAf ?_;refine uAn (s:=⟨[(5,_,_),(6,_,_),(7,_,_),(9,_,_),(15,_,_),(16,_,_),(17,_,_)],[],[(.t 5,_)],[]⟩) (uAj (⟨sx rfl,sx rfl,sx rfl,sx rfl,sx rfl,sx rfl,sx rfl,trivial⟩) trivial (⟨rfl,trivial⟩)) ?_;refine uAb ?_
     refine uAa rfl rfl rfl (uAc rfl gU) ?_;refine uAa rfl rfl rfl (uAc rfl gU) ?_;refine uAa rfl rfl rfl (uBe (l:=(uBz (uBl l)).2.1) rfl gU Tryz.underlying9 (fun _=>⟨_,_,_,rfl,gU,by first | omega | (simp at hh ⊢; omega)⟩) (fun _=>rfl) (fun hh=>by first | omega | (simp at hh ⊢; omega)) (fun hh=>by first | omega | (simp at hh ⊢; omega))) ?_;refine uAa rfl rfl rfl (uAd rfl gU) ?_;refine uAf ?_;refine ⟨((uBl l).drop (uBz (uBl l)).2.1,o2++[(uBz (uBl l)).1.onl ((k + 1 : Nat) : Int)]),?_,?_,uAj (⟨⟨_,rfl,?_⟩,⟨⟨_,rfl,?_⟩,⟨sx rfl,sx rfl,sx rfl,sx rfl,trivial⟩⟩⟩) trivial (⟨rfl,trivial⟩)⟩
     all_goals first | rfl | exact tx (uJp o2 ((uBz (uBl l)).1.onl ((k + 1 : Nat) : Int))) | exact tx (congrArg xs (by rw [List.take_length])) | (simp only [List.take_length,List.length_drop,List.length_append,List.length_singleton]; omega) | (refine ⟨?_,?_,n,?_,hi2⟩ <;> (simp only [List.length_drop,List.length_append,List.length_singleton]; omega))
  ·try simp only [nn,uAh,Tk.rows_len] at hc2
   rw [List.drop_of_length_le (by omega),uCv] at hi
   refine uAL ?_
   repeat (first | refine uAF ?_ | refine uAE ?_ | refine uAB rfl ?_)
   refine uAe (uAb ?_);refine uAu rfl (uAH (.inl rfl) rfl rfl rfl) ?_;refine uAu rfl (uAH (.inr rfl) rfl rfl rfl) ?_;refine uAa rfl rfl rfl (uAd rfl gU) ?_;refine uAa rfl rfl rfl (uAd rfl gU) ?_;refine uAf ?_;refine uAo ?_
   repeat (first | refine tR ?_ | refine bR ?_)
   refine uAq rfl ?_ trivial
   (rw [← hi]; rfl)
end Go.Proofs.YtnjjdbapadkomaaGreatDoor
namespace Go.Proofs.YtnjjdbapadkomaaGreatDoor
open Go Go.Abs
theorem uC4 (c : UInt8) (n : Int) (h : n=(c.toNat : Int)) : Ctr sys 73 [xu n] [] (xi (clsE c)) none []:=by
 subst h
 have hu:=c.toNat_lt
 have h18 : syms.length=18:=rfl
 refine uAv Tryz.func73 rfl rfl rfl rfl rfl rfl ?_;refine uAe (uAb ?_);refine uAa rfl rfl rfl (uAd rfl gU) ?_;refine uAf ?_;refine uAe ?_;refine uAt ?_;refine uAe (uAb ?_);refine uAa rfl rfl rfl (uAc rfl gU) ?_;refine uAa rfl rfl rfl (uAk rfl rfl gU gU rfl) ?_;refine uAa rfl rfl rfl (uAc rfl gU) ?_;refine uAa rfl rfl rfl (uAc rfl gU) ?_;refine uAa rfl rfl rfl (uAk rfl rfl (fun hh=>hh) gU rfl) ?_;refine uAa rfl rfl rfl (uAM rfl rfl gU (fun _ hi=>gP rfl hi)) ?_;refine uAa rfl rfl rfl (uAc rfl gU) ?_;refine uAa rfl rfl rfl (uAc rfl gU) ?_;refine uAa rfl rfl rfl (uAk rfl rfl (fun hh=>hh) gU rfl) ?_;refine uAa rfl rfl rfl (uAM rfl rfl gU (fun _ hi=>gP rfl hi)) ?_;refine uAa rfl rfl rfl (uAc rfl gU) ?_;refine uBq (s:=⟨[(0,_,_),(16,_,_)],[],[],[]⟩) (uAj (⟨sx rfl,sx rfl,trivial⟩) trivial trivial) ?_;refine uAa rfl rfl rfl (uAc rfl gU) ?_;refine uAa rfl rfl rfl (uAk rfl rfl (fun hh=>hh) gU rfl) ?_;refine uAa rfl rfl rfl (uAM rfl rfl gU (fun _ hi=>gP rfl hi)) ?_;refine uAa rfl rfl rfl (uAd rfl gU) ?_;refine uAf ?_;refine uAl rfl (fun hc=>?_) (fun hc=>?_)
 ·try simp only [nn] at hc
  refine uAe (uAb ?_);refine uAa rfl rfl rfl (uAd rfl gU) ?_;refine uAf ?_;refine uAo ?_
  repeat (first | refine tR ?_ | refine bR ?_)
  refine uAq rfl ?_ trivial;exact uA9 (by rw [clsE,if_pos (by simp [uCe]; omega)])
 ·try simp only [nn] at hc
  have hw : ¬uCe c=true:=by simp [uCe]; omega
  refine uAe (uAb ?_);refine uAa rfl rfl rfl (uAc rfl gU) ?_;refine uAa rfl rfl rfl (uAk rfl rfl gU gU rfl) ?_;refine uAa rfl rfl rfl (uAc rfl gU) ?_;refine uAa rfl rfl rfl (uAc rfl gU) ?_;refine uAa rfl rfl rfl (uAk rfl rfl (fun hh=>hh) gU rfl) ?_;refine uAa rfl rfl rfl (uAO rfl rfl gU (fun _ hi=>gP rfl hi)) ?_;refine uAa rfl rfl rfl (uAc rfl gU) ?_;refine uAa rfl rfl rfl (uAc rfl gU) ?_;refine uBq (s:=⟨[(0,_,_),(27,_,_),(28,_,_)],[],[],[]⟩) (uAj (⟨sx rfl,sx rfl,sx rfl,trivial⟩) trivial trivial) ?_;refine uAa rfl rfl rfl (uAk rfl rfl (fun hh=>hh) gU rfl) ?_;refine uAa rfl rfl rfl (uAc rfl (fun hh=>hh)) ?_;refine uAa rfl rfl rfl (uAc rfl gU) ?_;refine uAa rfl rfl rfl (uAk rfl rfl (fun hh=>hh) gU rfl) ?_;refine uAa rfl rfl rfl (uAO rfl rfl (fun hh=>hh) (fun hh hi=>gP hh hi)) ?_;refine uAa rfl rfl rfl (uAM rfl rfl gU (fun _ hi=>gP rfl hi)) ?_;refine uAa rfl rfl rfl (uAd rfl gU) ?_;refine uAf ?_;refine uAn (s:=⟨[(0,_,_),(20,_,_)],[],[],[]⟩) (uAj (⟨sx rfl,sx rfl,trivial⟩) trivial trivial) ?_;refine uAl rfl (fun hc2=>?_) (fun hc2=>?_)
  ·try simp only [nn] at hc2
   refine uAe (uAb ?_);refine uAa rfl rfl rfl (uAd rfl gU) ?_;refine uAf ?_;refine uAo ?_
   repeat (first | refine tR ?_ | refine bR ?_)
   refine uAq rfl ?_ trivial;exact uA9 (by rw [clsE,if_neg hw,if_pos (by simp [uBd]; omega)])
  ·try simp only [nn] at hc2
   have hl : ¬uBd (c.toNat : Int)=true:=by simp [uBd]; omega
   refine uAe (uAb ?_);refine uAa rfl rfl rfl (uAc rfl gU) ?_;refine uAa rfl rfl rfl (uAk rfl rfl gU gU rfl) ?_;refine uAa rfl rfl rfl (uAc rfl gU) ?_;refine uAa rfl rfl rfl (uAc rfl gU) ?_;refine uAa rfl rfl rfl (uAk rfl rfl (fun hh=>hh) gU rfl) ?_;refine uAa rfl rfl rfl (uAO rfl rfl gU (fun _ hi=>gP rfl hi)) ?_;refine uAa rfl rfl rfl (uAd rfl gU) ?_;refine uAf ?_;refine uAn (s:=⟨[(0,_,_),(35,_,_)],[],[],[]⟩) (uAj (⟨sx rfl,sx rfl,trivial⟩) trivial trivial) ?_;refine uAl rfl (fun hc3=>?_) (fun hc3=>?_)
   ·try simp only [nn] at hc3
    refine uAe (uAb ?_);refine uAa rfl rfl rfl (uAd rfl gU) ?_;refine uAf ?_;refine uAo ?_
    repeat (first | refine tR ?_ | refine bR ?_)
    refine uAq rfl ?_ trivial;exact uA9 (by rw [clsE,if_neg hw,if_neg hl,if_pos (by simp [uBt]; omega)])
   ·try simp only [nn] at hc3
    have hd : ¬uBt (c.toNat : Int)=true:=by simp [uBt]; omega
    refine uAe (uAb ?_);refine uAa rfl rfl rfl (uAc rfl gU) ?_;refine uAa rfl rfl rfl (uAk rfl rfl gU gU rfl) ?_;refine uAa rfl rfl rfl (uAd rfl gU) ?_;refine uAf ?_;refine uAl rfl (fun hc4=>?_) (fun hc4=>?_)
    ·try simp only [nn] at hc4
     refine uAe (uAb ?_);refine uAa rfl rfl rfl (uAd rfl gU) ?_;refine uAf ?_;refine uAo ?_
     repeat (first | refine tR ?_ | refine bR ?_)
     refine uAq rfl ?_ trivial;exact uA9 (by rw [clsE,if_neg hw,if_neg hl,if_neg hd,if_pos (by omega)])
    ·try simp only [nn] at hc4
     have hx : clsE c=if symB c=true then 4 else 0:=by rw [clsE,if_neg hw,if_neg hl,if_neg hd,if_neg (by omega)]
     rw [hx]
     refine uAp ?_;refine uAe (uAb ?_);refine uAa rfl rfl rfl (uAd rfl gU) ?_;refine uAf ?_;refine uAe ?_;refine uAe (uAb ?_);refine uAa rfl rfl rfl (uAd rfl gU) ?_;refine uAf ?_;refine uAn (s:=⟨[(0,_,_),(3,_,_),(4,_,_)],[],[],[]⟩) (uAj (⟨sx rfl,sx rfl,sx rfl,trivial⟩) trivial trivial) ?_;refine uAt ?_;refine uAW (ι:=Nat) { t:=[(0,_,_),(3,_,_)],bx:=[],ow:=[] } (fun k=>[(4,true,xi (k : Int))]) (fun k=>[]) (fun k=>k≤18∧(syms.drop k).contains c=symB c) (fun k=>18 - k) (0) (⟨by omega,rfl⟩) (uAj (⟨sx rfl,sx rfl,sx rfl,trivial⟩) trivial trivial) ?_
     intro k hok
     dsimp only [List.cons_append,List.nil_append]
     obtain ⟨hk,hi⟩:=hok
     refine uAe ?_;refine uAe (uAb ?_);refine uAa rfl rfl rfl (uAc rfl gU) ?_;refine uAa rfl rfl rfl (uAc rfl gU) ?_;refine uBj rfl rfl rfl rfl rfl gU (Tryz.underlying9) ?_ (fun hh=>by simp at hh); intro hlen;refine uAa rfl rfl rfl (uAk rfl rfl gU gU rfl) ?_;refine uAf ?_;refine uAl rfl (fun hc5=>?_) (fun hc5=>?_)
     ·try simp only [nn] at hc5
      have hk2 : k < syms.length:=by rw [h18]; simp at hc5; omega
      rw [uA6 hk2,List.contains_cons] at hi
      refine uAp ?_;refine uAe ?_;refine uAt ?_;refine uAe (uAb ?_);refine uAa rfl rfl rfl (uAc rfl gU) ?_;refine uAa rfl rfl rfl (uAc rfl gU) ?_;refine uAa rfl rfl rfl (uAC (j:=k) rfl rfl gU gU Tryz.underlying9 (by first | omega | (show _ < 18; omega) | (simp at hh ⊢; omega)) (fun hh=>by first | omega | (show _ < 18; omega) | (simp at hh ⊢; omega))) ?_;refine uAa rfl rfl rfl (uAc rfl gU) ?_;refine uAa rfl rfl rfl (uAk rfl rfl gU gU rfl) ?_;refine uAf ?_;refine uAn (s:=⟨[(0,_,_),(3,_,_),(4,_,_),(55,_,_)],[],[],[]⟩) (uAj (⟨sx rfl,sx rfl,sx rfl,sx rfl,trivial⟩) trivial trivial) ?_;refine uAl rfl (fun hc6=>?_) (fun hc6=>?_)
      ·try simp only [nn] at hc6
       have he : c=syms.getD k 0:=UInt8.toNat_inj.1 (by have : ((syms.getD k 0).toNat : Int)=(c.toNat : Int):=hc6; omega)
       refine uAe (uAb ?_);refine uAa rfl rfl rfl (uAd rfl gU) ?_;refine uAf ?_;refine uAo ?_
       repeat (first | refine tR ?_ | refine bR ?_)
       refine uAq rfl ?_ trivial;exact uA9 (by rw [← hi,he]; simp)
      ·try simp only [nn] at hc6
       have he : (c == syms.getD k 0)=false:=by
        rw [beq_eq_false_iff_ne]
        intro q
        exact hc6 (by show ((syms.getD k 0).toNat : Int)=(c.toNat : Int); rw [q])
       rw [he,Bool.false_or] at hi
       refine uAp ?_;refine uAb ?_;refine uAa rfl rfl rfl (uAc rfl gU) ?_;refine uAa rfl rfl rfl (uAr rfl rfl gU gU rfl (IntWalk.i64_in _ (by omega))) ?_;refine uAa rfl rfl rfl (uAd rfl gU) ?_;refine uAf ?_;refine ⟨k + 1,?_,?_,uAj (⟨⟨_,rfl,?_⟩,⟨sx rfl,sx rfl,trivial⟩⟩) trivial trivial⟩
       all_goals (first | rfl | omega | exact ⟨by omega,hi⟩)
     ·try simp only [nn] at hc5
      have hk2 : k=18:=by simp at hc5; omega
      rw [List.drop_of_length_le (by rw [h18]; omega)] at hi
      refine uAL ?_
      repeat (first | refine uAF ?_ | refine uAE ?_ | refine uAB rfl ?_)
      refine uAe (uAb ?_);refine uAa rfl rfl rfl (uAd rfl gU) ?_;refine uAf ?_;refine uAo ?_
      repeat (first | refine tR ?_ | refine bR ?_)
      refine uAq rfl ?_ trivial;exact uA9 (by rw [← hi]; rfl)
theorem uDs (c : UInt8) : (clsE c=2 ↔ uBd (c.toNat : Int)=true)∧(clsE c=3 ↔ uBt (c.toNat : Int)=true)∧(clsE c=1 ↔ uCe c=true):=by
 unfold clsE
 have h1 : uCe c=true→uBd (c.toNat : Int)≠true∧uBt (c.toNat : Int)≠true:=by simp [uCe,uBd,uBt]; omega
 have h2 : uBd (c.toNat : Int)=true→uBt (c.toNat : Int)≠true:=by simp [uBd,uBt]; omega
 refine ⟨?_,?_,?_⟩
 all_goals (repeat' split)
 all_goals simp_all
theorem uIz (c : UInt8) : uBN (c.toNat : Int)=true ↔ ((clsE c=2∨clsE c=3)∨c.toNat=95)∨c.toNat=35:=by
 rw [(uDs c).1,(uDs c).2.1]
 have e1 : ((c.toNat : Int)=95)=(c.toNat=95):=propext (by omega)
 have e2 : ((c.toNat : Int)=35)=(c.toNat=35):=propext (by omega)
 simp only [uBN,Bool.or_eq_true,beq_iff_eq,e1,e2]
theorem uLn (s : List UInt8) (hs : s.length≤2000000) : Ctr sys 124 [xs s] [] (xs (s.take (wdN s))) none []:=by
 refine uAv Tryz.func124 rfl rfl rfl rfl rfl rfl ?_;refine uAe (uAb ?_);refine uAa rfl rfl rfl (uAd rfl gU) ?_;refine uAf ?_;refine uAe (uAb ?_);refine uAa rfl rfl rfl (uAd rfl gU) ?_;refine uAf ?_;refine uAe ?_;refine uAt ?_;refine uAW (ι:=Nat) { t:=[(0,_,_)],bx:=[],ow:=[] } (fun k=>[(3,true,xi (k : Int))]) (fun k=>[]) (fun k=>k≤s.length∧wdN (s.drop k) + k=wdN s) (fun k=>s.length - k) (0) (⟨by omega,rfl⟩) (uAj (⟨sx rfl,sx rfl,trivial⟩) trivial trivial) ?_
 intro k hok
 dsimp only [List.cons_append,List.nil_append]
 obtain ⟨hk,hi⟩:=hok
 refine uAe ?_;refine uAe (uAb ?_);refine uAa rfl rfl rfl (uAc rfl gU) ?_;refine uAa rfl rfl rfl (uAc rfl gU) ?_;refine uBj rfl rfl rfl rfl rfl gU (Tryz.underlying9) ?_ (fun hh=>by simp at hh); intro hlen;refine uAa rfl rfl rfl (uAk rfl rfl gU gU rfl) ?_;refine uAa rfl rfl rfl (uAc rfl gU) ?_;refine uAa rfl rfl rfl (uAc rfl gU) ?_;refine uAa rfl rfl rfl (uAc rfl gU) ?_;refine uAa rfl rfl rfl (uAC (j:=k) rfl rfl (fun hh=>hh) (fun hh=>hh) Tryz.underlying9 (by first | omega | (simp at hh ⊢; omega)) (fun hh=>by first | omega | (simp at hh ⊢; omega))) ?_;refine uAw rfl rfl rfl rfl rfl rfl gU (fun hh=>gA ((fun hh=>hh) hh) (rfl)) (uC4 _ _ rfl) rfl ?_;refine uAa rfl rfl rfl (uAk rfl rfl (fun hh=>hh) gU rfl) ?_;refine uAa rfl rfl rfl (uAc rfl (fun hh=>hh)) ?_;refine uAa rfl rfl rfl (uAc rfl gU) ?_;refine uBq (s:=⟨[(0,_,_),(3,_,_),(8,_,_),(14,_,_),(15,_,_)],[],[],[]⟩) (uAj (⟨sx rfl,sx rfl,sx rfl,sx rfl,sx rfl,trivial⟩) trivial trivial) ?_;refine uAa rfl rfl rfl (uAc rfl gU) ?_;refine uAa rfl rfl rfl (uAC (j:=k) rfl rfl (fun hh=>hh) (fun hh=>hh) Tryz.underlying9 (by first | omega | (simp at hh ⊢; omega)) (fun hh=>by first | omega | (simp at hh ⊢; omega))) ?_;refine uAw rfl rfl rfl rfl rfl rfl gU (fun hh=>gA ((fun hh=>hh) hh) (rfl)) (uC4 _ _ rfl) rfl ?_
 refine uAa rfl rfl rfl (uAk rfl rfl (fun hh=>hh) gU rfl) ?_;refine uAa rfl rfl rfl (uAM rfl rfl (fun hh=>hh) (fun hh hi=>gP hh hi)) ?_;refine uAa rfl rfl rfl (uAc rfl (fun hh=>hh)) ?_;refine uAa rfl rfl rfl (uAc rfl gU) ?_;refine uAa rfl rfl rfl (uAc rfl gU) ?_;refine uAa rfl rfl rfl (uAC (j:=k) rfl rfl (fun hh=>hh) (fun hh=>hh) Tryz.underlying9 (by first | omega | (simp at hh ⊢; omega)) (fun hh=>by first | omega | (simp at hh ⊢; omega))) ?_;refine uAa rfl rfl rfl (uAk rfl rfl (fun hh=>hh) gU rfl) ?_;refine uAa rfl rfl rfl (uAM rfl rfl (fun hh=>hh) (fun hh hi=>gP hh hi)) ?_;refine uAa rfl rfl rfl (uAc rfl (fun hh=>hh)) ?_;refine uBq (s:=⟨[(0,_,_),(3,_,_),(8,_,_),(27,_,_)],[],[],[]⟩) (uAj (⟨sx rfl,sx rfl,sx rfl,sx rfl,trivial⟩) trivial trivial) ?_;refine uAa rfl rfl rfl (uAc rfl gU) ?_;refine uAa rfl rfl rfl (uAc rfl gU) ?_;refine uAa rfl rfl rfl (uAC (j:=k) rfl rfl (fun hh=>hh) (fun hh=>hh) Tryz.underlying9 (by first | omega | (simp at hh ⊢; omega)) (fun hh=>by first | omega | (simp at hh ⊢; omega))) ?_;refine uAa rfl rfl rfl (uAk rfl rfl (fun hh=>hh) gU rfl) ?_;refine uAa rfl rfl rfl (uAM rfl rfl (fun hh=>hh) (fun hh hi=>gP hh hi)) ?_;refine uAa rfl rfl rfl (uAO rfl rfl gU (fun _ hi=>gP rfl hi)) ?_;refine uAf ?_;refine uAn (s:=⟨[(0,_,_),(3,_,_),(33,_,_)],[],[],[]⟩) (uAj (⟨sx rfl,sx rfl,sx rfl,trivial⟩) trivial trivial) ?_
 refine uAl rfl (fun hc=>?_) (fun hc=>?_)
 ·try simp only [nn] at hc
  rw [uA6 (by omega),wdN,if_pos ((uIz _).2 (by omega))] at hi
  refine uAp ?_;refine uAt ?_;refine uAb ?_;refine uAa rfl rfl rfl (uAc rfl gU) ?_;refine uAa rfl rfl rfl (uAr rfl rfl gU gU rfl (IntWalk.i64_in _ (by omega))) ?_;refine uAa rfl rfl rfl (uAd rfl gU) ?_;refine uAf ?_;refine ⟨k + 1,?_,?_,uAj (⟨⟨_,rfl,?_⟩,⟨sx rfl,trivial⟩⟩) trivial trivial⟩
  all_goals (first | rfl | omega)
 ·try simp only [nn] at hc
  have hn : wdN (s.drop k)=0:=by
   by_cases hlt : k < s.length
   ·rw [uA6 hlt,wdN,if_neg (fun q=>by have := (uIz _).1 q; omega)]
   ·rw [List.drop_of_length_le (by omega)]; rfl
  have hn2 : wdN s=k:=by omega
  rw [hn2]
  refine uAL ?_
  repeat (first | refine uAF ?_ | refine uAE ?_ | refine uAB rfl ?_)
  refine uAe (uAb ?_);refine uAa rfl rfl rfl (uAc rfl gU) ?_;refine uAa rfl rfl rfl (uAc rfl gU) ?_;refine uAa rfl rfl rfl (uBe (h':=k) rfl gU Tryz.underlying9 (fun _=>rfl) (fun _=>⟨_,_,_,rfl,gU,by first | omega | (simp at hh ⊢; omega)⟩) (fun hh=>by first | omega | (simp at hh ⊢; omega)) (fun hh=>by first | omega | (simp at hh ⊢; omega))) ?_;refine uAa rfl rfl rfl (uAd rfl gU) ?_;refine uAf ?_;refine uAo ?_
  repeat (first | refine tR ?_ | refine bR ?_)
  refine uAq rfl ?_ trivial
  rfl
theorem uLi (s : List UInt8) (hs : s.length≤2000000) : Ctr sys 72 [xs s] [] (xs (uA5 s)) none []:=by
 refine uAv Tryz.func72 rfl rfl rfl rfl rfl rfl ?_;refine uAe (uAb ?_);refine uAa rfl rfl rfl (uAd rfl gU) ?_;refine uAf ?_;refine uAe (uAb ?_);refine uAa rfl rfl rfl (uAd rfl gU) ?_;refine uAf ?_;refine uAe ?_;refine uAe (uAb ?_);refine uAa rfl rfl rfl (uAd rfl gU) ?_;refine uAf ?_;refine uAt ?_;refine uAW (ι:=Nat × Bool) { t:=[(0,_,_)],bx:=[],ow:=[] } (fun p=>[(4,true,xi (p.1 : Int)),(3,true,xb p.2)]) (fun p=>[]) (fun p=>p.1≤s.length + 1∧s.take (uB7 p.2 (s.drop p.1) + p.1)=uA5 s) (fun p=>s.length + 1 - p.1) ((0,false)) (⟨by simp,rfl⟩) (uAj (⟨sx rfl,sx rfl,sx rfl,trivial⟩) trivial trivial) ?_
 intro p hok
 dsimp only [List.cons_append,List.nil_append] at *
 obtain ⟨k,ins⟩:=p
 dsimp only at hok ⊢
 obtain ⟨hk,hi⟩:=hok
 refine uAe ?_;refine uAe (uAb ?_);refine uAa rfl rfl rfl (uAc rfl gU) ?_;refine uAa rfl rfl rfl (uAc rfl gU) ?_;refine uBj rfl rfl rfl rfl rfl gU (Tryz.underlying9) ?_ (fun hh=>by simp at hh); intro hlen;refine uAa rfl rfl rfl (uAk rfl rfl gU gU rfl) ?_;refine uAf ?_;refine uAl rfl (fun hc=>?_) (fun hc=>?_)
 ·try simp only [nn] at hc
  have hd : s.drop k=s.getD k 0 :: s.drop (k + 1):=uA6 (by omega)
  refine uAp ?_;refine uAe ?_;refine uAt ?_;refine uAe ?_;refine uAe (uAb ?_);refine uAa rfl rfl rfl (uAc rfl gU) ?_;refine uAa rfl rfl rfl (uAc rfl gU) ?_;refine uAa rfl rfl rfl (uAc rfl gU) ?_;refine uAa rfl rfl rfl (uAc rfl gU) ?_;refine uAa rfl rfl rfl (uAC (j:=k) rfl rfl (fun hh=>hh) (fun hh=>hh) Tryz.underlying9 (by first | omega | (simp at hh ⊢; omega)) (fun hh=>by first | omega | (simp at hh ⊢; omega))) ?_;refine uAa rfl rfl rfl (uAk rfl rfl (fun hh=>hh) gU rfl) ?_;refine uAa rfl rfl rfl (uAO rfl rfl gU (fun _ hi=>gP rfl hi)) ?_;refine uAf ?_;refine uAn (s:=⟨[(0,_,_),(3,_,_),(4,_,_),(17,_,_)],[],[],[]⟩) (uAj (⟨sx rfl,sx rfl,sx rfl,sx rfl,trivial⟩) trivial trivial) ?_;refine uAl rfl (fun hc2=>?_) (fun hc2=>?_)
  ·try simp only [nn] at hc2
   have hq : ins=true∧(s.getD k 0).toNat=92:=⟨hc2.1,by omega⟩
   have hi2 : s.take (uB7 true (s.drop (k + 2)) + (k + 2))=uA5 s:=by
    rw [← hi,hd]
    by_cases hlt : k + 1 < s.length
    ·rw [uA6 hlt,uB7,if_pos hq,show k + 1 + 1=k + 2 from rfl]
     congr 1; omega
    ·rw [List.drop_of_length_le (by omega),List.drop_of_length_le (by omega),uB7,uB7,List.take_of_length_le (by omega),List.take_of_length_le (by omega)]
   refine uAe (uAb ?_);refine uAa rfl rfl rfl (uAc rfl gU) ?_;refine uAa rfl rfl rfl (uAr rfl rfl gU gU rfl (IntWalk.i64_in _ (by omega))) ?_;refine uAa rfl rfl rfl (uAd rfl gU) ?_;refine uAf ?_;refine uAL ?_
   repeat (first | refine uAF ?_ | refine uAE ?_ | refine uAB rfl ?_)
   refine uAb ?_;refine uAa rfl rfl rfl (uAc rfl gU) ?_;refine uAa rfl rfl rfl (uAr rfl rfl gU gU rfl (IntWalk.i64_in _ (by omega))) ?_;refine uAa rfl rfl rfl (uAd rfl gU) ?_;refine uAf ?_;refine ⟨(k + 2,true),?_,?_,uAj (⟨⟨_,rfl,?_⟩,⟨⟨_,rfl,?_⟩,⟨sx rfl,trivial⟩⟩⟩) trivial trivial⟩
   all_goals (first | rfl | omega | exact ⟨by omega,hi2⟩ | exact tx (uCu hq.1))
  ·try simp only [nn] at hc2
   have hq : ¬(ins=true∧(s.getD k 0).toNat=92):=by
    rintro ⟨q1,q2⟩
    rcases hc2 with z | z
    ·rw [q1] at z; simp at z
    ·omega
   have hlast : k + 1=s.length → ∀ i2 : Bool,s.take (uB7 i2 (s.drop (k + 1)) + (k + 1))=uA5 s:=by
    intro e i2
    rw [← hi,hd,List.drop_of_length_le (by omega),List.take_of_length_le (by omega),uB7,List.take_of_length_le (by omega)]
   have hcut : k + 1 < s.length→(if (s.getD k 0).toNat=34 then !ins else ins)=false∧(s.getD k 0).toNat=35∧(s.getD (k + 1) 0).toNat=35→s.take k=uA5 s:=by
    intro e q
    rw [← hi,hd,uA6 e,uB7,if_neg hq,if_pos q,Nat.zero_add]
   have hnext : k + 1 < s.length → ¬((if (s.getD k 0).toNat=34 then !ins else ins)=false∧(s.getD k 0).toNat=35∧(s.getD (k + 1) 0).toNat=35)→s.take (uB7 (if (s.getD k 0).toNat=34 then !ins else ins) (s.drop (k + 1)) + (k + 1))=uA5 s:=by
    intro e q
    rw [← hi,hd,uA6 e,uB7,if_neg hq,if_neg q]
    congr 1; omega
   have h35 : k + 1 < s.length→((s.take (k + 2)).drop k=[35,35] ↔ (s.getD k 0).toNat=35∧(s.getD (k + 1) 0).toNat=35):=by
    intro e
    have e1 : (s.take (k + 2)).drop k=[s.getD k 0,s.getD (k + 1) 0]:=by
     rw [uA6 (by simp; omega),uA6 (by simp; omega),List.drop_of_length_le (by simp; omega),uFb _ _ (by omega),uFb _ _ (by omega)]
    rw [e1]
    constructor
    ·intro q; simp only [List.cons.injEq,and_true] at q; rw [q.1,q.2]; exact ⟨rfl,rfl⟩
    ·rintro ⟨q1,q2⟩
     rw [UInt8.toNat_inj.1 (show (s.getD k 0).toNat=(35 : UInt8).toNat from q1),UInt8.toNat_inj.1 (show (s.getD (k + 1) 0).toNat=(35 : UInt8).toNat from q2)]
   refine uAp ?_;refine uAe ?_;refine uAe (uAb ?_);refine uAa rfl rfl rfl (uAc rfl gU) ?_;refine uAa rfl rfl rfl (uAc rfl gU) ?_;refine uAa rfl rfl rfl (uAC (j:=k) rfl rfl gU gU Tryz.underlying9 (by first | omega | (simp at hh ⊢; omega)) (fun hh=>by first | omega | (simp at hh ⊢; omega))) ?_;refine uAa rfl rfl rfl (uAk rfl rfl gU gU rfl) ?_;refine uAf ?_;refine uAl rfl (fun hc3=>?_) (fun hc3=>?_)
   ·try simp only [nn] at hc3
    rw [if_pos (by omega)] at hcut hnext
    refine uAb ?_;refine uAa rfl rfl rfl (uAc rfl gU) ?_;refine uAa rfl rfl rfl (uA1 rfl gU) ?_;refine uAa rfl rfl rfl (uAd rfl gU) ?_;refine uAf ?_;refine uAn (s:=⟨[(0,_,_),(3,_,_),(4,_,_)],[],[],[]⟩) (uAj (⟨sx rfl,sx rfl,sx rfl,trivial⟩) trivial trivial) ?_;refine uAe (uAb ?_);refine uAa rfl rfl rfl (uAc rfl gU) ?_;refine uAa rfl rfl rfl (uA1 rfl gU) ?_;refine uAa rfl rfl rfl (uAc rfl gU) ?_;refine uAa rfl rfl rfl (uAc rfl gU) ?_;refine uAa rfl rfl rfl (uAr rfl rfl (fun hh=>hh) gU rfl (IntWalk.i64_in _ (by omega))) ?_;refine uAa rfl rfl rfl (uAc rfl gU) ?_;refine uAa rfl rfl rfl (uBK rfl (fun hh=>hh) (Tryz.underlying9)) ?_;refine uAa rfl rfl rfl (uAk rfl rfl (fun hh=>hh) (fun hh=>hh) rfl) ?_;refine uAa rfl rfl rfl (uAO rfl rfl gU (fun _ hi=>gP rfl hi)) ?_;refine uAa rfl rfl rfl (uAc rfl gU) ?_;refine uAa rfl rfl rfl (uAc rfl gU) ?_;refine uAa rfl rfl rfl (uAc rfl gU) ?_;refine uBq (s:=⟨[(0,_,_),(3,_,_),(4,_,_),(35,_,_),(36,_,_),(37,_,_)],[],[],[]⟩) (uAj (⟨sx rfl,sx rfl,sx rfl,sx rfl,sx rfl,sx rfl,trivial⟩) trivial trivial) ?_;refine uAa rfl rfl rfl (uAc rfl gU) ?_;refine uAa rfl rfl rfl (uAr rfl rfl (fun hh=>hh) gU rfl (IntWalk.i64_in _ (by omega))) ?_;refine uAa rfl rfl rfl (uBe (l:=k) (h':=(k + 2)) rfl (fun hh=>hh) Tryz.underlying9 (fun _=>⟨_,_,_,rfl,(fun hh=>hh),by first | omega | (simp at hh ⊢; omega)⟩) (fun _=>⟨_,_,_,rfl,(fun hh=>hh),by first | omega | (simp at hh ⊢; omega)⟩) (fun hh=>by first | omega | (simp at hh ⊢; omega)) (fun hh=>by first | omega | (simp at hh ⊢; omega))) ?_
    refine uAa rfl rfl rfl (uAY rfl rfl (fun hh=>hh) gU rfl) ?_;refine uAa rfl rfl rfl (uAO rfl rfl gU (fun _ hi=>gP rfl hi)) ?_;refine uAf ?_;refine uAn (s:=⟨[(0,_,_),(3,_,_),(4,_,_),(42,_,_)],[],[],[]⟩) (uAj (⟨sx rfl,sx rfl,sx rfl,sx rfl,trivial⟩) trivial trivial) ?_;refine uAl rfl (fun hc4=>?_) (fun hc4=>?_)
    ·try simp only [nn] at hc4
     exfalso
     have := (h35 (by omega)).1 hc4.2
     omega
    ·try simp only [nn] at hc4
     have hfin : s.take (uB7 (!ins) (s.drop (k + 1)) + (k + 1))=uA5 s:=by
      by_cases hlt : k + 1 < s.length
      ·exact hnext hlt (by omega)
      ·exact hlast (by omega) _
     refine uAp ?_;refine uAb ?_;refine uAa rfl rfl rfl (uAc rfl gU) ?_;refine uAa rfl rfl rfl (uAr rfl rfl gU gU rfl (IntWalk.i64_in _ (by omega))) ?_;refine uAa rfl rfl rfl (uAd rfl gU) ?_;refine uAf ?_;refine ⟨(k + 1,!ins),?_,?_,uAj (⟨⟨_,rfl,?_⟩,⟨⟨_,rfl,?_⟩,⟨sx rfl,trivial⟩⟩⟩) trivial trivial⟩
     all_goals (first | rfl | omega | exact ⟨by omega,hfin⟩)
   ·try simp only [nn] at hc3
    rw [if_neg (by omega)] at hcut hnext
    refine uAp ?_;refine uAe (uAb ?_);refine uAa rfl rfl rfl (uAc rfl gU) ?_;refine uAa rfl rfl rfl (uA1 rfl gU) ?_;refine uAa rfl rfl rfl (uAc rfl gU) ?_;refine uAa rfl rfl rfl (uAc rfl gU) ?_;refine uAa rfl rfl rfl (uAr rfl rfl (fun hh=>hh) gU rfl (IntWalk.i64_in _ (by omega))) ?_;refine uAa rfl rfl rfl (uAc rfl gU) ?_;refine uAa rfl rfl rfl (uBK rfl (fun hh=>hh) (Tryz.underlying9)) ?_;refine uAa rfl rfl rfl (uAk rfl rfl (fun hh=>hh) (fun hh=>hh) rfl) ?_;refine uBq (s:=⟨[(0,_,_),(3,_,_),(4,_,_),(28,_,_),(33,_,_)],[],[],[]⟩) (uAj (⟨sx rfl,sx rfl,sx rfl,sx rfl,sx rfl,trivial⟩) trivial trivial) ?_;refine uAa rfl rfl rfl (uAO rfl rfl gU (fun _ hi=>gP rfl hi)) ?_;refine uAa rfl rfl rfl (uAc rfl gU) ?_;refine uAa rfl rfl rfl (uAc rfl gU) ?_;refine uAa rfl rfl rfl (uAc rfl gU) ?_;refine uAa rfl rfl rfl (uAc rfl gU) ?_;refine uAa rfl rfl rfl (uAr rfl rfl (fun hh=>hh) gU rfl (IntWalk.i64_in _ (by omega))) ?_;refine uAa rfl rfl rfl (uBe (l:=k) (h':=(k + 2)) rfl (fun hh=>hh) Tryz.underlying9 (fun _=>⟨_,_,_,rfl,(fun hh=>hh),by first | omega | (simp at hh ⊢; omega)⟩) (fun _=>⟨_,_,_,rfl,(fun hh=>hh),by first | omega | (simp at hh ⊢; omega)⟩) (fun hh=>by first | omega | (simp at hh ⊢; omega)) (fun hh=>by first | omega | (simp at hh ⊢; omega))) ?_
    refine uAa rfl rfl rfl (uAY rfl rfl (fun hh=>hh) gU rfl) ?_;refine uAa rfl rfl rfl (uAO rfl rfl gU (fun _ hi=>gP rfl hi)) ?_;refine uAf ?_;refine uAn (s:=⟨[(0,_,_),(3,_,_),(4,_,_),(42,_,_)],[],[],[]⟩) (uAj (⟨sx rfl,sx rfl,sx rfl,sx rfl,trivial⟩) trivial trivial) ?_;refine uAl rfl (fun hc4=>?_) (fun hc4=>?_)
    ·try simp only [nn] at hc4
     have := (h35 (by omega)).1 hc4.2
     have hfin:=hcut (by omega) ⟨hc4.1.1,this⟩
     refine uAe (uAb ?_);refine uAa rfl rfl rfl (uAc rfl gU) ?_;refine uAa rfl rfl rfl (uAc rfl gU) ?_;refine uAa rfl rfl rfl (uBe (h':=k) rfl gU Tryz.underlying9 (fun _=>rfl) (fun _=>⟨_,_,_,rfl,gU,by first | omega | (simp at hh ⊢; omega)⟩) (fun hh=>by first | omega | (simp at hh ⊢; omega)) (fun hh=>by first | omega | (simp at hh ⊢; omega))) ?_;refine uAa rfl rfl rfl (uAd rfl gU) ?_;refine uAf ?_;refine uAo ?_
     repeat (first | refine tR ?_ | refine bR ?_)
     refine uAq rfl ?_ trivial
     (rw [← hfin]; rfl)
    ·try simp only [nn] at hc4
     have hfin : s.take (uB7 ins (s.drop (k + 1)) + (k + 1))=uA5 s:=by
      by_cases hlt : k + 1 < s.length
      ·refine hnext hlt ?_
       rintro ⟨q1,q2⟩
       have q3:=(h35 hlt).2 q2
       rcases hc4 with z | z
       ·rcases z with z | z
        ·rw [q1] at z; simp at z
        ·omega
       ·exact z q3
      ·exact hlast (by omega) _
     refine uAp ?_;refine uAb ?_;refine uAa rfl rfl rfl (uAc rfl gU) ?_;refine uAa rfl rfl rfl (uAr rfl rfl gU gU rfl (IntWalk.i64_in _ (by omega))) ?_;refine uAa rfl rfl rfl (uAd rfl gU) ?_;refine uAf ?_;refine ⟨(k + 1,ins),?_,?_,uAj (⟨⟨_,rfl,?_⟩,⟨⟨_,rfl,?_⟩,⟨sx rfl,trivial⟩⟩⟩) trivial trivial⟩
     all_goals (first | rfl | omega | exact ⟨by omega,hfin⟩)
 ·try simp only [nn] at hc
  rw [List.take_of_length_le (by omega)] at hi
  refine uAL ?_
  repeat (first | refine uAF ?_ | refine uAE ?_ | refine uAB rfl ?_)
  refine uAe (uAb ?_);refine uAa rfl rfl rfl (uAc rfl gU) ?_;refine uAa rfl rfl rfl (uAd rfl gU) ?_;refine uAf ?_;refine uAo ?_
  repeat (first | refine tR ?_ | refine bR ?_)
  refine uAq rfl ?_ trivial
  (rw [← hi]; rfl)
def uEW : List UInt8→Nat→UInt8→Int→Int
 | [],_,_,r=>r
 | b :: l,k,c,r=>uEW l (k + 1) c (if c.toNat=b.toNat then (k : Int) else r)
theorem uNC : ∀ n : Fin 256,uEW hexs 0 (UInt8.ofNat n.val) (-1)=if hexB (UInt8.ofNat n.val)=true then hexV (UInt8.ofNat n.val) else -1:=by decide +kernel
theorem uJY (c : UInt8) : uEW hexs 0 c (-1)=if hexB c=true then hexV c else -1:=by
 have := uNC ⟨c.toNat,c.toNat_lt⟩
 rwa [show UInt8.ofNat c.toNat=c from UInt8.ofNat_toNat] at this
def forms : List UInt8:=[110,10,116,9,34,34,92,92]
def uHc : List UInt8→UInt8→Option UInt8
 | a :: b :: l,c=>if c.toNat=a.toNat then some b else uHc l c
 | _,_=>none
theorem uMD {a b : Int} {n m : Int} (h : a=b) (hn : n=m) : X.tup [.c (.i .u8 a), .c (.i .i64 n)]=X.tup [.c (.i .u8 b), .c (.i .i64 m)]:=by rw [h,hn]
theorem uJs (s : List UInt8) (hs : s.length≤2000000) : Ctr sys 156 [xs s] [] (.tup [.c (.i .u8 ((escE s).1.toNat : Int)), .c (.i .i64 ((escE s).2 : Int))]) none []:=by
 have h8 : forms.length=8:=rfl
 have h16 : hexs.length=16:=rfl
 refine uAv Tryz.func156 rfl rfl rfl rfl rfl rfl ?_;refine uAe (uAb ?_);refine uAa rfl rfl rfl (uAd rfl gU) ?_;refine uAa rfl rfl rfl (uAd rfl gU) ?_;refine uAf ?_;refine uAe ?_;refine uAe (uAb ?_);refine uAa rfl rfl rfl (uAc rfl gU) ?_;refine uBj rfl rfl rfl rfl rfl gU (Tryz.underlying9) ?_ (fun hh=>by simp at hh); intro hlen;refine uAa rfl rfl rfl (uAk rfl rfl gU gU rfl) ?_;refine uAf ?_;refine uAn (s:=⟨[(0,_,_),(12,_,_)],[],[],[]⟩) (uAj (⟨sx rfl,sx rfl,trivial⟩) trivial trivial) ?_;refine uAl rfl (fun hc=>?_) (fun hc=>?_)
 ·try simp only [nn] at hc
  have : s=[]:=by cases s; rfl; simp at hc; omega
  subst this
  refine uAe (uAb ?_);refine uAa rfl rfl rfl (uAd rfl gU) ?_;refine uAa rfl rfl rfl (uAd rfl gU) ?_;refine uAf ?_;refine uAo ?_
  repeat (first | refine tR ?_ | refine bR ?_)
  refine uAq rfl ?_ trivial
  rfl
 ·try simp only [nn] at hc
  have he:=uKd (s:=s) (k:=0) (by omega)
  rw [List.drop_zero,Nat.zero_add,Nat.zero_add] at he
  have hu:=(s.getD 0 0).toNat_lt
  refine uAp ?_;refine uAe (uAb ?_);refine uAa rfl rfl rfl (uAd rfl gU) ?_;refine uAf ?_;refine uAe ?_;refine uAe (uAb ?_);refine uAa rfl rfl rfl (uAd rfl gU) ?_;refine uAf ?_;refine uAt ?_;refine uAW (ι:=Nat) { t:=[(0,_,_),(4,_,_)],bx:=[],ow:=[] } (fun k=>[(5,true,xi (k : Int))]) (fun k=>[]) (fun k=>k≤8∧k % 2=0∧uHc (forms.drop k) (s.getD 0 0)=uHc forms (s.getD 0 0)) (fun k=>8 - k) (0) (⟨by omega,by omega,rfl⟩) (uAj (⟨sx rfl,sx rfl,sx rfl,trivial⟩) trivial trivial) ?_
  intro k hok
  dsimp only [List.cons_append,List.nil_append]
  obtain ⟨hk,hk2,hi⟩:=hok
  refine uAe ?_;refine uAe (uAb ?_);refine uAa rfl rfl rfl (uAc rfl gU) ?_;refine uAa rfl rfl rfl (uAc rfl gU) ?_;refine uBj rfl rfl rfl rfl rfl gU (Tryz.underlying9) ?_ (fun hh=>by simp at hh); intro hlen;refine uAa rfl rfl rfl (uAk rfl rfl gU gU rfl) ?_;refine uAf ?_;refine uAl rfl (fun hc2=>?_) (fun hc2=>?_)
  ·try simp only [nn] at hc2
   have hk3 : k < 7:=by simp at hc2; omega
   rw [uA6 (by omega),uA6 (by omega),uHc] at hi
   refine uAp ?_;refine uAe ?_;refine uAt ?_;refine uAe ?_;refine awp_drawn' (by kernel_rfl) ?_;refine uAi rfl rfl rfl rfl (uAc rfl gU) ?_;refine uAi rfl rfl rfl rfl (uAC (j:=0) rfl rfl gU gU Tryz.underlying9 (by first | omega | (show _ < 8; omega) | (simp at hh ⊢; omega)) (fun hh=>by first | omega | (show _ < 8; omega) | (simp at hh ⊢; omega))) ?_;refine uAi rfl rfl rfl rfl (uAc rfl gU) ?_;refine uAi rfl rfl rfl rfl (uAc rfl gU) ?_;refine uAi rfl rfl rfl rfl (uAC (j:=k) rfl rfl gU gU Tryz.underlying9 (by first | omega | (show _ < 8; omega) | (simp at hh ⊢; omega)) (fun hh=>by first | omega | (show _ < 8; omega) | (simp at hh ⊢; omega))) ?_;refine uAi rfl rfl rfl rfl (uAk rfl rfl gU gU rfl) ?_;refine uBg (by kernel_rfl) ?_;refine uAn (s:=⟨[(0,_,_),(4,_,_),(5,_,_),(24,_,_)],[],[],[]⟩) (uAj (⟨sx rfl,sx rfl,sx rfl,sx rfl,trivial⟩) trivial trivial) ?_;refine uAl rfl (fun hc3=>?_) (fun hc3=>?_)
   ·try simp only [nn] at hc3
    have hq : (s.getD 0 0).toNat=(forms.getD k 0).toNat:=by have : ((s.getD 0 0).toNat : Int)=((forms.getD k 0).toNat : Int):=hc3; omega
    rw [if_pos hq] at hi
    have hesc : escE s=(forms.getD (k + 1) 0,1):=by
     have hks : k=0∨k=2∨k=4∨k=6:=by omega
     rw [he]
     rcases hks with rfl | rfl | rfl | rfl
     ·rw [if_pos (by rw [hq]; rfl)]; rfl
     ·rw [if_neg (by rw [hq]; decide),if_pos (by rw [hq]; rfl)]; rfl
     ·rw [if_neg (by rw [hq]; decide),if_neg (by rw [hq]; decide),if_pos (by rw [hq]; decide),UInt8.toNat_inj.1 hq]; rfl
     ·rw [if_neg (by rw [hq]; decide),if_neg (by rw [hq]; decide),if_pos (by rw [hq]; decide),UInt8.toNat_inj.1 hq]; rfl
    rw [hesc]
    refine uAe (uAb ?_);refine uAa rfl rfl rfl (uAc rfl gU) ?_;refine uAa rfl rfl rfl (uAc rfl gU) ?_;refine uAa rfl rfl rfl (uAr rfl rfl gU gU rfl (IntWalk.i64_in _ (by omega))) ?_;refine uAa rfl rfl rfl (uAC (j:=k + 1) rfl rfl gU gU Tryz.underlying9 (by first | omega | (show _ < 8; omega) | (simp at hh ⊢; omega)) (fun hh=>by first | omega | (show _ < 8; omega) | (simp at hh ⊢; omega))) ?_;refine uAa rfl rfl rfl (uAd rfl gU) ?_;refine uAa rfl rfl rfl (uAd rfl gU) ?_;refine uAf ?_;refine uAo ?_
    repeat (first | refine tR ?_ | refine bR ?_)
    refine uAq rfl ?_ trivial
    rfl
   ·try simp only [nn] at hc3
    have hq : ¬(s.getD 0 0).toNat=(forms.getD k 0).toNat:=by intro q; exact hc3 (by show ((s.getD 0 0).toNat : Int)=((forms.getD k 0).toNat : Int); rw [q])
    rw [if_neg hq] at hi
    refine uAp ?_;refine uAb ?_;refine uAa rfl rfl rfl (uAc rfl gU) ?_;refine uAa rfl rfl rfl (uAr rfl rfl gU gU rfl (IntWalk.i64_in _ (by omega))) ?_;refine uAa rfl rfl rfl (uAd rfl gU) ?_;refine uAf ?_;refine ⟨k + 2,?_,?_,uAj (⟨⟨_,rfl,?_⟩,⟨sx rfl,sx rfl,trivial⟩⟩) trivial trivial⟩
    all_goals (first | rfl | omega | exact ⟨by omega,by omega,hi⟩)
  ·try simp only [nn] at hc2
   have hk3 : k=8:=by simp at hc2; omega
   rw [List.drop_of_length_le (by omega),show uHc [] (s.getD 0 0)=none from rfl] at hi
   have hno : (s.getD 0 0).toNat≠110∧(s.getD 0 0).toNat≠116∧(s.getD 0 0).toNat≠34∧(s.getD 0 0).toNat≠92:=by
    have hf : ∀ c : UInt8,uHc forms c=if c.toNat=110 then some 10 else if c.toNat=116 then some 9 else if c.toNat=34 then some 34 else if c.toNat=92 then some 92 else none:=fun c=>rfl
    rw [hf] at hi
    refine ⟨fun q=>?_,fun q=>?_,fun q=>?_,fun q=>?_⟩
    ·rw [if_pos q] at hi; cases hi
    ·rw [if_neg (by omega),if_pos q] at hi; cases hi
    ·rw [if_neg (by omega),if_neg (by omega),if_pos q] at hi; cases hi
    ·rw [if_neg (by omega),if_neg (by omega),if_neg (by omega),if_pos q] at hi; cases hi
   rw [if_neg hno.1,if_neg hno.2.1,if_neg (by omega)] at he
   refine uAL ?_
   repeat (first | refine uAF ?_ | refine uAE ?_ | refine uAB rfl ?_)
   refine uAe (uAb ?_);refine uAa rfl rfl rfl (uAd rfl gU) ?_;refine uAf ?_;refine uAn (s:=⟨[(0,_,_),(6,_,_)],[],[],[]⟩) (uAj (⟨sx rfl,sx rfl,trivial⟩) trivial trivial) ?_;refine uAe ?_;refine uAe (uAb ?_);refine uAa rfl rfl rfl (uAc rfl gU) ?_;refine uAa rfl rfl rfl (uAC (j:=0) rfl rfl gU gU Tryz.underlying9 (by first | omega | (show _ < 16; omega) | (simp at hh ⊢; omega)) (fun hh=>by first | omega | (show _ < 16; omega) | (simp at hh ⊢; omega))) ?_;refine uAa rfl rfl rfl (uAk rfl rfl gU gU rfl) ?_;refine uAa rfl rfl rfl (uAc rfl gU) ?_;refine uAa rfl rfl rfl (uAc rfl gU) ?_;refine uAa rfl rfl rfl (uBK rfl (fun hh=>hh) (Tryz.underlying9)) ?_;refine uAa rfl rfl rfl (uAk rfl rfl (fun hh=>hh) gU rfl) ?_;refine uAa rfl rfl rfl (uAM rfl rfl gU (fun _ hi=>gP rfl hi)) ?_;refine uAf ?_;refine uAn (s:=⟨[(0,_,_),(6,_,_),(36,_,_)],[],[],[]⟩) (uAj (⟨sx rfl,sx rfl,sx rfl,trivial⟩) trivial trivial) ?_;refine uAl rfl (fun hc3=>?_) (fun hc3=>?_)
   ·try simp only [nn] at hc3
    rw [if_neg (by omega)] at he
    rw [he]
    refine uAe (uAb ?_);refine uAa rfl rfl rfl (uAd rfl gU) ?_;refine uAa rfl rfl rfl (uAd rfl gU) ?_;refine uAf ?_;refine uAo ?_
    repeat (first | refine tR ?_ | refine bR ?_)
    refine uAq rfl ?_ trivial
    rfl
   ·try simp only [nn] at hc3
    refine uAp ?_;refine uAe (uAb ?_);refine uAa rfl rfl rfl (uAd rfl gU) ?_;refine uAa rfl rfl rfl (uAd rfl gU) ?_;refine uAf ?_;refine uAe ?_;refine uAe (uAb ?_);refine uAa rfl rfl rfl (uAd rfl gU) ?_;refine uAf ?_;refine uAt ?_;refine uAW (ι:=Nat × Int × Int) { t:=[(0,_,_),(6,_,_)],bx:=[],ow:=[] } (fun q=>[(9,true,xi (q.1 : Int)),(7,true,xi q.2.1),(8,true,xi q.2.2)]) (fun q=>[]) (fun q=>q.1≤16 ∧ -1≤q.2.1∧q.2.1≤16 ∧ -1≤q.2.2∧q.2.2≤16∧uEW (hexs.drop q.1) q.1 (s.getD 1 0) q.2.1=uEW hexs 0 (s.getD 1 0) (-1)∧uEW (hexs.drop q.1) q.1 (s.getD 2 0) q.2.2=uEW hexs 0 (s.getD 2 0) (-1)) (fun q=>16 - q.1) ((0,-1,-1)) (⟨by simp,by simp,by simp,by simp,by simp,rfl,rfl⟩) (uAj (⟨sx rfl,sx rfl,sx rfl,sx rfl,sx rfl,trivial⟩) trivial trivial) ?_
    intro q hok
    dsimp only [List.cons_append,List.nil_append] at *
    obtain ⟨j,a,b⟩:=q
    dsimp only at hok ⊢
    obtain ⟨hj,ha0,ha1,hb0,hb1,hi1,hi2⟩:=hok
    refine uAe ?_;refine uAe (uAb ?_);refine uAa rfl rfl rfl (uAc rfl gU) ?_;refine uAa rfl rfl rfl (uAc rfl gU) ?_;refine uBj rfl rfl rfl rfl rfl gU (Tryz.underlying9) ?_ (fun hh=>by simp at hh); intro hlen;refine uAa rfl rfl rfl (uAk rfl rfl gU gU rfl) ?_;refine uAf ?_;refine uAl rfl (fun hc4=>?_) (fun hc4=>?_)
    ·try simp only [nn] at hc4
     have hj2 : j < 16:=by simp at hc4; omega
     rw [uA6 (by omega),uEW] at hi1 hi2
     refine uAp ?_;refine uAe ?_;refine uAt ?_;refine uAe ?_;refine uAe ?_;refine awp_drawn' (by kernel_rfl) ?_;refine uAi rfl rfl rfl rfl (uAc rfl gU) ?_;refine uAi rfl rfl rfl rfl (uAC (j:=1) rfl rfl gU gU Tryz.underlying9 (by first | omega | (show _ < 16; omega) | (simp at hh ⊢; omega)) (fun hh=>by first | omega | (show _ < 16; omega) | (simp at hh ⊢; omega))) ?_;refine uAi rfl rfl rfl rfl (uAc rfl gU) ?_;refine uAi rfl rfl rfl rfl (uAc rfl gU) ?_;refine uAi rfl rfl rfl rfl (uAC (j:=j) rfl rfl gU gU Tryz.underlying9 (by first | omega | (show _ < 16; omega) | (simp at hh ⊢; omega)) (fun hh=>by first | omega | (show _ < 16; omega) | (simp at hh ⊢; omega))) ?_;refine uAi rfl rfl rfl rfl (uAk rfl rfl gU gU rfl) ?_;refine uBg (by kernel_rfl) ?_;refine uAn (s:=⟨[(0,_,_),(6,_,_),(7,_,_),(8,_,_),(9,_,_),(48,_,_)],[],[],[]⟩) (uAj (⟨sx rfl,sx rfl,sx rfl,sx rfl,sx rfl,sx rfl,trivial⟩) trivial trivial) ?_;refine uAl rfl (fun hc5=>?_) (fun hc5=>?_)
     ·try simp only [nn] at hc5
      rw [if_pos (by have : ((s.getD 1 0).toNat : Int)=((hexs.getD j 0).toNat : Int):=hc5; omega)] at hi1
      refine uAb ?_;refine uAa rfl rfl rfl (uAc rfl gU) ?_;refine uAa rfl rfl rfl (uAd rfl gU) ?_;refine uAf ?_;refine uAe ?_;refine awp_drawn' (by kernel_rfl) ?_;refine uAi rfl rfl rfl rfl (uAc rfl gU) ?_;refine uAi rfl rfl rfl rfl (uAC (j:=2) rfl rfl gU gU Tryz.underlying9 (by first | omega | (show _ < 16; omega) | (simp at hh ⊢; omega)) (fun hh=>by first | omega | (show _ < 16; omega) | (simp at hh ⊢; omega))) ?_;refine uAi rfl rfl rfl rfl (uAc rfl gU) ?_;refine uAi rfl rfl rfl rfl (uAc rfl gU) ?_;refine uAi rfl rfl rfl rfl (uAC (j:=j) rfl rfl gU gU Tryz.underlying9 (by first | omega | (show _ < 16; omega) | (simp at hh ⊢; omega)) (fun hh=>by first | omega | (show _ < 16; omega) | (simp at hh ⊢; omega))) ?_;refine uAi rfl rfl rfl rfl (uAk rfl rfl gU gU rfl) ?_;refine uBg (by kernel_rfl) ?_;refine uAn (s:=⟨[(0,_,_),(6,_,_),(7,_,_),(8,_,_),(9,_,_),(55,_,_)],[],[],[]⟩) (uAj (⟨sx rfl,sx rfl,sx rfl,sx rfl,sx rfl,sx rfl,trivial⟩) trivial trivial) ?_;refine uAl rfl (fun hc6=>?_) (fun hc6=>?_)
      ·try simp only [nn] at hc6
       rw [if_pos (by have : ((s.getD 2 0).toNat : Int)=((hexs.getD j 0).toNat : Int):=hc6; omega)] at hi2
       refine uAb ?_;refine uAa rfl rfl rfl (uAc rfl gU) ?_;refine uAa rfl rfl rfl (uAd rfl gU) ?_;refine uAf ?_;refine uAb ?_;refine uAa rfl rfl rfl (uAc rfl gU) ?_;refine uAa rfl rfl rfl (uAr rfl rfl gU gU rfl (IntWalk.i64_in _ (by omega))) ?_;refine uAa rfl rfl rfl (uAd rfl gU) ?_;refine uAf ?_;refine ⟨(j + 1,(j : Int),(j : Int)),?_,?_,uAj (⟨⟨_,rfl,?_⟩,⟨⟨_,rfl,?_⟩,⟨⟨_,rfl,?_⟩,⟨sx rfl,sx rfl,trivial⟩⟩⟩⟩) trivial trivial⟩
       all_goals (first | rfl | omega | (refine ⟨?_,?_,?_,?_,?_,hi1,hi2⟩ <;> (dsimp only; omega)))
      ·try simp only [nn] at hc6
       rw [if_neg (by intro q; exact hc6 (by show ((s.getD 2 0).toNat : Int)=((hexs.getD j 0).toNat : Int); rw [q]))] at hi2
       refine uAp ?_;refine uAb ?_;refine uAa rfl rfl rfl (uAc rfl gU) ?_;refine uAa rfl rfl rfl (uAr rfl rfl gU gU rfl (IntWalk.i64_in _ (by omega))) ?_;refine uAa rfl rfl rfl (uAd rfl gU) ?_;refine uAf ?_;refine ⟨(j + 1,(j : Int),b),?_,?_,uAj (⟨⟨_,rfl,?_⟩,⟨⟨_,rfl,?_⟩,⟨⟨_,rfl,?_⟩,⟨sx rfl,sx rfl,trivial⟩⟩⟩⟩) trivial trivial⟩
       all_goals (first | rfl | omega | (refine ⟨?_,?_,?_,?_,?_,hi1,hi2⟩ <;> (dsimp only; omega)))
     ·try simp only [nn] at hc5
      rw [if_neg (by intro q; exact hc5 (by show ((s.getD 1 0).toNat : Int)=((hexs.getD j 0).toNat : Int); rw [q]))] at hi1
      refine uAp ?_;refine uAe ?_;refine awp_drawn' (by kernel_rfl) ?_;refine uAi rfl rfl rfl rfl (uAc rfl gU) ?_;refine uAi rfl rfl rfl rfl (uAC (j:=2) rfl rfl gU gU Tryz.underlying9 (by first | omega | (show _ < 16; omega) | (simp at hh ⊢; omega)) (fun hh=>by first | omega | (show _ < 16; omega) | (simp at hh ⊢; omega))) ?_;refine uAi rfl rfl rfl rfl (uAc rfl gU) ?_;refine uAi rfl rfl rfl rfl (uAc rfl gU) ?_;refine uAi rfl rfl rfl rfl (uAC (j:=j) rfl rfl gU gU Tryz.underlying9 (by first | omega | (show _ < 16; omega) | (simp at hh ⊢; omega)) (fun hh=>by first | omega | (show _ < 16; omega) | (simp at hh ⊢; omega))) ?_;refine uAi rfl rfl rfl rfl (uAk rfl rfl gU gU rfl) ?_;refine uBg (by kernel_rfl) ?_;refine uAn (s:=⟨[(0,_,_),(6,_,_),(7,_,_),(8,_,_),(9,_,_),(55,_,_)],[],[],[]⟩) (uAj (⟨sx rfl,sx rfl,sx rfl,sx rfl,sx rfl,sx rfl,trivial⟩) trivial trivial) ?_;refine uAl rfl (fun hc6=>?_) (fun hc6=>?_)
      ·try simp only [nn] at hc6
       rw [if_pos (by have : ((s.getD 2 0).toNat : Int)=((hexs.getD j 0).toNat : Int):=hc6; omega)] at hi2
       refine uAb ?_;refine uAa rfl rfl rfl (uAc rfl gU) ?_;refine uAa rfl rfl rfl (uAd rfl gU) ?_;refine uAf ?_;refine uAb ?_;refine uAa rfl rfl rfl (uAc rfl gU) ?_;refine uAa rfl rfl rfl (uAr rfl rfl gU gU rfl (IntWalk.i64_in _ (by omega))) ?_;refine uAa rfl rfl rfl (uAd rfl gU) ?_;refine uAf ?_;refine ⟨(j + 1,a,(j : Int)),?_,?_,uAj (⟨⟨_,rfl,?_⟩,⟨⟨_,rfl,?_⟩,⟨⟨_,rfl,?_⟩,⟨sx rfl,sx rfl,trivial⟩⟩⟩⟩) trivial trivial⟩
       all_goals (first | rfl | omega | (refine ⟨?_,?_,?_,?_,?_,hi1,hi2⟩ <;> (dsimp only; omega)))
      ·try simp only [nn] at hc6
       rw [if_neg (by intro q; exact hc6 (by show ((s.getD 2 0).toNat : Int)=((hexs.getD j 0).toNat : Int); rw [q]))] at hi2
       refine uAp ?_;refine uAb ?_;refine uAa rfl rfl rfl (uAc rfl gU) ?_;refine uAa rfl rfl rfl (uAr rfl rfl gU gU rfl (IntWalk.i64_in _ (by omega))) ?_;refine uAa rfl rfl rfl (uAd rfl gU) ?_;refine uAf ?_;refine ⟨(j + 1,a,b),?_,?_,uAj (⟨⟨_,rfl,?_⟩,⟨⟨_,rfl,?_⟩,⟨⟨_,rfl,?_⟩,⟨sx rfl,sx rfl,trivial⟩⟩⟩⟩) trivial trivial⟩
       all_goals (first | rfl | omega | (refine ⟨?_,?_,?_,?_,?_,hi1,hi2⟩ <;> (dsimp only; omega)))
    ·try simp only [nn] at hc4
     have hj2 : j=16:=by simp at hc4; omega
     rw [List.drop_of_length_le (by omega),uEW,uJY] at hi1 hi2
     refine uAL ?_
     repeat (first | refine uAF ?_ | refine uAE ?_ | refine uAB rfl ?_)
     refine uAe ?_;refine uAe (uAb ?_);refine uAa rfl rfl rfl (uAc rfl gU) ?_;refine uAa rfl rfl rfl (uAk rfl rfl gU gU rfl) ?_;refine uAa rfl rfl rfl (uAc rfl gU) ?_;refine uAa rfl rfl rfl (uAc rfl gU) ?_;refine uAa rfl rfl rfl (uAk rfl rfl (fun hh=>hh) gU rfl) ?_;refine uAa rfl rfl rfl (uAM rfl rfl gU (fun _ hi=>gP rfl hi)) ?_;refine uAf ?_;refine uAn (s:=⟨[(7,_,_),(8,_,_),(62,_,_)],[],[],[]⟩) (uAj (⟨sx rfl,sx rfl,sx rfl,trivial⟩) trivial trivial) ?_;refine uAl rfl (fun hc5=>?_) (fun hc5=>?_)
     ·try simp only [nn] at hc5
      rw [if_neg (by
       rintro ⟨-, -, q1,q2⟩
       have := uDu q1
       have := uDu q2
       rw [if_pos q1] at hi1
       rw [if_pos q2] at hi2
       omega)] at he
      rw [he]
      refine uAe (uAb ?_);refine uAa rfl rfl rfl (uAd rfl gU) ?_;refine uAa rfl rfl rfl (uAd rfl gU) ?_;refine uAf ?_;refine uAo ?_
      repeat (first | refine tR ?_ | refine bR ?_)
      refine uAq rfl ?_ trivial
      rfl
     ·try simp only [nn] at hc5
      have x1 : hexB (s.getD 1 0)=true:=by
       by_cases q : hexB (s.getD 1 0)=true
       ·exact q
       ·rw [if_neg q] at hi1; omega
      have x2 : hexB (s.getD 2 0)=true:=by
       by_cases q : hexB (s.getD 2 0)=true
       ·exact q
       ·rw [if_neg q] at hi2; omega
      have x3:=uDu x1
      have x4:=uDu x2
      rw [if_pos x1] at hi1
      rw [if_pos x2] at hi2
      rw [if_pos ⟨by omega,by omega,x1,x2⟩] at he
      rw [he]
      refine uAp ?_;refine uAe (uAb ?_);refine uAa rfl rfl rfl (uAc rfl gU) ?_;refine uAa rfl rfl rfl (uAr rfl rfl gU gU rfl (IntWalk.i64_in _ (by omega))) ?_;refine uAa rfl rfl rfl (uAc rfl gU) ?_;refine uAa rfl rfl rfl (uAr rfl rfl gU gU rfl (IntWalk.i64_in _ (by omega))) ?_;refine uAa rfl rfl rfl (uCV rfl gU ⟨_,Tryz.underlying3⟩ (Tryz.underlying5) (IntWalk.u8_in _ (by omega))) ?_;refine uAa rfl rfl rfl (uAd rfl gU) ?_;refine uAa rfl rfl rfl (uAd rfl gU) ?_;refine uAf ?_;refine uAo ?_
      repeat (first | refine tR ?_ | refine bR ?_)
      refine uAq rfl ?_ trivial
      (refine uMD ?_ rfl; exact uMe (by omega) (by omega))
theorem uKO (s : List UInt8) (k : Nat) (hs : s.length≤2000000) : Ctr sys 156 [xs ((s.take s.length).drop k)] [] (.tup [.c (.i .u8 ((escE (s.drop k)).1.toNat : Int)), .c (.i .i64 ((escE (s.drop k)).2 : Int))]) none []:=by
 rw [List.take_length]
 exact uJs _ (by simp; omega)
theorem uLm (s : List UInt8) (h : 0 < s.length) (hs : s.length≤2000000) : Ctr sys 126 [xs s] [] (xsn (litE s)) none []:=by
 refine uAv Tryz.func126 rfl rfl rfl rfl rfl rfl ?_;refine uAe (uAb ?_);refine uAa rfl rfl rfl (uAd rfl gU) ?_;refine uAa rfl rfl rfl (uAd rfl gU) ?_;refine uAf ?_;refine uAe (uAb ?_);refine uAu rfl (uBn (.inr rfl) rfl rfl) ?_;refine uAf ?_;refine uAe ?_;refine uAe (uAb ?_);refine uAa rfl rfl rfl (uAd rfl gU) ?_;refine uAf ?_;refine uAt ?_;refine uAW (ι:=Nat × List UInt8) { t:=[(0,_,_)],bx:=[],ow:=[(.t 4,_)] } (fun p=>[(5,true,xi (p.1 : Int)),(4,true,xbs p.2)]) (fun p=>[]) (fun p=>p.1≤s.length∧p.2.length≤p.1 ∧ ∃ n,s.length < n + p.1∧litA n (s.drop p.1) p.1 p.2=litE s) (fun p=>s.length - p.1) ((1,[])) (⟨by dsimp only; omega,by simp,s.length + 1,by dsimp only; omega,rfl⟩) (uAj (⟨sx rfl,sx rfl,sx rfl,trivial⟩) trivial (⟨rfl,trivial⟩)) ?_
 intro p hok
 dsimp only [List.cons_append,List.nil_append] at *
 obtain ⟨k,out⟩:=p
 dsimp only at hok ⊢
 obtain ⟨hk,ho,n,hn,hi⟩:=hok
 obtain ⟨n,rfl⟩ : ∃ m,n=m + 1:=⟨n - 1,by omega⟩
 have hu:=(s.getD k 0).toNat_lt
 refine uAe ?_;refine uAe (uAb ?_);refine uAa rfl rfl rfl (uAc rfl gU) ?_;refine uAa rfl rfl rfl (uAc rfl gU) ?_;refine uBj rfl rfl rfl rfl rfl gU (Tryz.underlying9) ?_ (fun hh=>by simp at hh); intro hlen;refine uAa rfl rfl rfl (uAk rfl rfl gU gU rfl) ?_;refine uAf ?_;refine uAl rfl (fun hc=>?_) (fun hc=>?_)
 ·try simp only [nn] at hc
  rw [uHh (by omega)] at hi
  have hle:=uHV (s.drop (k + 1))
  rw [List.length_drop] at hle
  refine uAp ?_;refine uAe ?_;refine uAt ?_;refine uAt ?_;refine uAe (uAb ?_);refine uAa rfl rfl rfl (uAc rfl gU) ?_;refine uAa rfl rfl rfl (uAc rfl gU) ?_;refine uAa rfl rfl rfl (uAC (j:=k) rfl rfl gU gU Tryz.underlying9 (by first | omega | (simp at hh ⊢; omega)) (fun hh=>by first | omega | (simp at hh ⊢; omega))) ?_;refine uAa rfl rfl rfl (uAk rfl rfl gU gU rfl) ?_;refine uAa rfl rfl rfl (uAd rfl gU) ?_;refine uAf ?_;refine uAn (s:=⟨[(0,_,_),(4,_,_),(5,_,_),(20,_,_)],[],[(.t 4,_)],[]⟩) (uAj (⟨sx rfl,sx rfl,sx rfl,sx rfl,trivial⟩) trivial (⟨rfl,trivial⟩)) ?_;refine uAl rfl (fun hc2=>?_) (fun hc2=>?_)
  ·try simp only [nn] at hc2
   rw [if_pos (by omega)] at hi
   refine uAe (uAb ?_);refine uAa rfl rfl rfl (uAc rfl gU) ?_;refine uAa rfl rfl rfl (uG5 (l:=out) rfl (by rfl) gU Tryz.underlying45 Tryz.underlying5 Tryz.underlying9) ?_;refine uAa rfl rfl rfl (uAc rfl gU) ?_;refine uAa rfl rfl rfl (uAr rfl rfl gU gU rfl (IntWalk.i64_in _ (by omega))) ?_;refine uAa rfl rfl rfl (uAd rfl gU) ?_;refine uAa rfl rfl rfl (uAd rfl gU) ?_;refine uAf ?_;refine uAo ?_
   repeat (first | refine tR ?_ | refine bR ?_)
   refine uAq rfl ?_ trivial
   (rw [← hi]; rfl)
  ·try simp only [nn] at hc2
   rw [if_neg (by omega)] at hi
   refine uAe (uAb ?_);refine uAa rfl rfl rfl (uAc rfl gU) ?_;refine uAa rfl rfl rfl (uAc rfl gU) ?_;refine uAa rfl rfl rfl (uAC (j:=k) rfl rfl gU gU Tryz.underlying9 (by first | omega | (simp at hh ⊢; omega)) (fun hh=>by first | omega | (simp at hh ⊢; omega))) ?_;refine uAa rfl rfl rfl (uAk rfl rfl gU gU rfl) ?_;refine uAa rfl rfl rfl (uAd rfl gU) ?_;refine uAf ?_;refine uAn (s:=⟨[(0,_,_),(4,_,_),(5,_,_),(29,_,_)],[],[(.t 4,_)],[]⟩) (uAj (⟨sx rfl,sx rfl,sx rfl,sx rfl,trivial⟩) trivial (⟨rfl,trivial⟩)) ?_;refine uAl rfl (fun hc3=>?_) (fun hc3=>?_)
   ·try simp only [nn] at hc3
    rw [if_pos (by omega)] at hi
    refine uAe (uAb ?_);refine uAa rfl rfl rfl (uAc rfl gU) ?_;refine uAa rfl rfl rfl (uAc rfl gU) ?_;refine uAa rfl rfl rfl (uAr rfl rfl gU gU rfl (IntWalk.i64_in _ (by omega))) ?_;refine uAa rfl rfl rfl (uBe (l:=(k + 1)) rfl gU Tryz.underlying9 (fun _=>⟨_,_,_,rfl,gU,by first | omega | (simp at hh ⊢; omega)⟩) (fun _=>rfl) (fun hh=>by first | omega | (simp at hh ⊢; omega)) (fun hh=>by first | omega | (simp at hh ⊢; omega))) ?_;refine uAw rfl rfl rfl rfl rfl rfl gU gU (uKO s (k + 1) (by omega)) rfl ?_;refine uAa rfl rfl rfl (uAc rfl gU) ?_;refine uAa rfl rfl rfl (uAG rfl gU rfl) ?_;refine uAa rfl rfl rfl (uAG rfl gU rfl) ?_;refine uAa rfl rfl rfl (uAd rfl gU) ?_;refine uAa rfl rfl rfl (uAd rfl gU) ?_;refine uAf ?_;refine uAn (s:=⟨[(0,_,_),(4,_,_),(5,_,_),(6,_,_),(7,_,_)],[],[(.t 4,_)],[]⟩) (uAj (⟨sx rfl,sx rfl,sx rfl,sx rfl,sx rfl,trivial⟩) trivial (⟨rfl,trivial⟩)) ?_;refine uAe ?_;refine uAe (uAb ?_);refine uAa rfl rfl rfl (uAc rfl gU) ?_;refine uAa rfl rfl rfl (uAk rfl rfl gU gU rfl) ?_;refine uAf ?_;refine uAl rfl (fun hc4=>?_) (fun hc4=>?_)
    ·try simp only [nn] at hc4
     rw [if_pos (by omega)] at hi
     refine uAe (uAb ?_);refine uAa rfl rfl rfl (uAd rfl gU) ?_;refine uAa rfl rfl rfl (uAd rfl gU) ?_;refine uAf ?_;refine uAo ?_
     repeat (first | refine tR ?_ | refine bR ?_)
     refine uAq rfl ?_ trivial
     (rw [← hi]; rfl)
    ·try simp only [nn] at hc4
     rw [if_neg (by omega)] at hi
     refine uAp ?_;refine uAe (uAb ?_);refine uAu rfl (uAH (.inl rfl) rfl rfl rfl) ?_;refine uAa rfl rfl rfl (uAc rfl gU) ?_;refine uAK (xs:=[_]) rfl rfl rfl rfl rfl rfl rfl rfl rfl gU rfl ?_;refine uAu rfl (uAZ rfl rfl rfl rfl rfl rfl rfl (by first | omega | (simp only [List.length_append,List.length_singleton,uBw,uAh]; omega)) (by first | omega | (simp only [List.length_append,List.length_singleton,uBw,uAh]; omega))) ?_;refine uAu rfl (uAH (.inr rfl) rfl rfl rfl) ?_;refine uAf ?_;refine uAn (s:=⟨[(0,_,_),(4,_,_),(5,_,_),(7,_,_)],[],[(.t 4,_)],[]⟩) (uAj (⟨sx rfl,sx rfl,sx rfl,sx rfl,trivial⟩) trivial (⟨rfl,trivial⟩)) ?_;refine uAb ?_;refine uAa rfl rfl rfl (uAc rfl gU) ?_;refine uAa rfl rfl rfl (uAc rfl gU) ?_;refine uAa rfl rfl rfl (uAr rfl rfl gU gU rfl (IntWalk.i64_in _ (by omega))) ?_;refine uAa rfl rfl rfl (uAd rfl gU) ?_;refine uAf ?_;refine uAb ?_;refine uAa rfl rfl rfl (uAc rfl gU) ?_;refine uAa rfl rfl rfl (uAr rfl rfl gU gU rfl (IntWalk.i64_in _ (by omega))) ?_;refine uAa rfl rfl rfl (uAd rfl gU) ?_;refine uAf ?_;refine ⟨(k + 1 + (escE (s.drop (k + 1))).2,out++[(escE (s.drop (k + 1))).1]),?_,?_,uAj (⟨⟨_,rfl,?_⟩,⟨⟨_,rfl,?_⟩,⟨sx rfl,trivial⟩⟩⟩) trivial (⟨rfl,trivial⟩)⟩
     all_goals (first | rfl | omega | exact tx (uIL out (escE (s.drop (k + 1))).1 _ rfl) | exact tx (uA9 (by omega)) | (refine ⟨?_,?_,n,?_,hi⟩ <;> (simp only [List.length_append,List.length_singleton]; omega)))
   ·try simp only [nn] at hc3
    rw [if_neg (by omega)] at hi
    refine uAe (uAb ?_);refine uAa rfl rfl rfl (uAc rfl gU) ?_;refine uAa rfl rfl rfl (uAc rfl gU) ?_;refine uAa rfl rfl rfl (uAC (j:=k) rfl rfl gU gU Tryz.underlying9 (by first | omega | (simp at hh ⊢; omega)) (fun hh=>by first | omega | (simp at hh ⊢; omega))) ?_;refine uAa rfl rfl rfl (uAk rfl rfl gU gU rfl) ?_;refine uAa rfl rfl rfl (uAc rfl gU) ?_;refine uAa rfl rfl rfl (uAc rfl gU) ?_;refine uAa rfl rfl rfl (uAc rfl gU) ?_;refine uAa rfl rfl rfl (uAC (j:=k) rfl rfl (fun hh=>hh) (fun hh=>hh) Tryz.underlying9 (by first | omega | (simp at hh ⊢; omega)) (fun hh=>by first | omega | (simp at hh ⊢; omega))) ?_;refine uAa rfl rfl rfl (uAk rfl rfl (fun hh=>hh) gU rfl) ?_;refine uAa rfl rfl rfl (uAM rfl rfl gU (fun _ hi=>gP rfl hi)) ?_;refine uAa rfl rfl rfl (uAd rfl gU) ?_;refine uAf ?_;refine uAn (s:=⟨[(0,_,_),(4,_,_),(5,_,_),(51,_,_)],[],[(.t 4,_)],[]⟩) (uAj (⟨sx rfl,sx rfl,sx rfl,sx rfl,trivial⟩) trivial (⟨rfl,trivial⟩)) ?_;refine uAl rfl (fun hc4=>?_) (fun hc4=>?_)
    ·try simp only [nn] at hc4
     rw [if_pos (by omega)] at hi
     refine uAe (uAb ?_);refine uAa rfl rfl rfl (uAd rfl gU) ?_;refine uAa rfl rfl rfl (uAd rfl gU) ?_;refine uAf ?_;refine uAo ?_
     repeat (first | refine tR ?_ | refine bR ?_)
     refine uAq rfl ?_ trivial
     (rw [← hi]; rfl)
    ·try simp only [nn] at hc4
     rw [if_neg (by omega)] at hi
     refine uAb ?_;refine uAu rfl (uAH (.inl rfl) rfl rfl rfl) ?_;refine uAa rfl rfl rfl (uAc rfl gU) ?_;refine uAa rfl rfl rfl (uAc rfl gU) ?_;refine uAa rfl rfl rfl (uAC (j:=k) rfl rfl gU gU Tryz.underlying9 (by first | omega | (simp at hh ⊢; omega)) (fun hh=>by first | omega | (simp at hh ⊢; omega))) ?_;refine uAK (xs:=[_]) rfl rfl rfl rfl rfl rfl rfl rfl rfl gU rfl ?_;refine uAu rfl (uAZ rfl rfl rfl rfl rfl rfl rfl (by first | omega | (simp only [List.length_append,List.length_singleton,uBw,uAh]; omega)) (by first | omega | (simp only [List.length_append,List.length_singleton,uBw,uAh]; omega))) ?_;refine uAu rfl (uAH (.inr rfl) rfl rfl rfl) ?_;refine uAf ?_;refine uAn (s:=⟨[(0,_,_),(4,_,_),(5,_,_)],[],[(.t 4,_)],[]⟩) (uAj (⟨sx rfl,sx rfl,sx rfl,trivial⟩) trivial (⟨rfl,trivial⟩)) ?_;refine uAb ?_;refine uAa rfl rfl rfl (uAc rfl gU) ?_;refine uAa rfl rfl rfl (uAr rfl rfl gU gU rfl (IntWalk.i64_in _ (by omega))) ?_;refine uAa rfl rfl rfl (uAd rfl gU) ?_;refine uAf ?_;refine ⟨(k + 1,out++[s.getD k 0]),?_,?_,uAj (⟨⟨_,rfl,?_⟩,⟨⟨_,rfl,?_⟩,⟨sx rfl,trivial⟩⟩⟩) trivial (⟨rfl,trivial⟩)⟩
     all_goals (first | rfl | omega | exact tx (uIL out (s.getD k 0) _ rfl) | (refine ⟨?_,?_,n,?_,hi⟩ <;> (simp only [List.length_append,List.length_singleton]; omega)))
 ·try simp only [nn] at hc
  rw [uIv (List.drop_of_length_le (by omega))] at hi
  refine uAL ?_
  repeat (first | refine uAF ?_ | refine uAE ?_ | refine uAB rfl ?_)
  refine uAe (uAb ?_);refine uAa rfl rfl rfl (uAd rfl gU) ?_;refine uAa rfl rfl rfl (uAd rfl gU) ?_;refine uAf ?_;refine uAo ?_
  repeat (first | refine tR ?_ | refine bR ?_)
  refine uAq rfl ?_ trivial
  (rw [← hi]; rfl)
end Go.Proofs.YtnjjdbapadkomaaGreatDoor
