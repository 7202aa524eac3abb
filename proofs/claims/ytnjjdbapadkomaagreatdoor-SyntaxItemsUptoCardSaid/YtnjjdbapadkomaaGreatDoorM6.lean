/- Our abstract program logic and contracts of this seat's functions, part 6: no statement of its own (long names of ours are shortened by a program). -/
import Derived.Test.YtnjjdbapadkomaaGreatDoorM5
import Derived.KernelRfl
import Derived.SizedLaws
import Derived.Test.YtnjjdbapadkomaaGreatDoorChecked
import Derived.Handed
import Derived.LaidSub
import Derived.MakeChecks
import Derived.Test.YtnjjdbapadkomaaGreatDoorRows
import Derived.Deep.DeepHandedRow
import Derived.Stop.Joined
set_option linter.unusedVariables false
set_option linter.unusedSimpArgs false
namespace Go.Proofs.YtnjjdbapadkomaaGreatDoor
open Go Go.Abs
theorem uC3 (s : List UInt8) : Ctr sys 53 [xs s] [] (xb (uAH s)) none []:=by rw [← uP7 s]; exact uLG s
theorem uML : ∀ (n : Nat) (t : T),t.size≤n→n≤2000000→Ctr sys 122 [xm t] [] (xi (rawE uAH t)) none []:=by
 intro n
 induction n with
 | zero=>intro t h; have := t.size_pos; omega
 | succ n ih =>
  intro t ht hn
  have hse:=t.size_eq
  have hrl:=T.rows_len t.kids
  have hls:=T.len_sizes t.kids
  have he:=uLV uAH t
  rw [uFq] at he
  refine uAy Tryz.func122 rfl rfl rfl rfl rfl rfl ?_;refine uAe (uAb ?_);refine uAw rfl (uAX rfl rfl rfl rfl) ?_;refine uAa rfl rfl rfl (uAd rfl gU) ?_;refine uAf ?_;refine uAe ?_;refine uAe (uAb ?_);refine uAa rfl rfl rfl (uAg rfl gU rfl rfl) ?_;refine uAa rfl rfl rfl (uAl rfl gU rfl rfl rfl rfl) ?_;refine uAa rfl rfl rfl (uAk rfl rfl gU gU rfl) ?_;refine uAa rfl rfl rfl (uAc rfl gU) ?_;refine uAa rfl rfl rfl (uAg rfl gU rfl rfl) ?_;refine uAa rfl rfl rfl (uAl rfl (fun hh=>hh) rfl rfl rfl rfl) ?_;refine uAa rfl rfl rfl (uAk rfl rfl (fun hh=>hh) gU rfl) ?_;refine uAa rfl rfl rfl (uAK rfl rfl gU (fun _ hi=>gP rfl hi)) ?_;refine uAf ?_;refine uAn (s:=⟨[(1,_,_),(12,_,_)],[(.l 1,_)],[],[]⟩) (uAj (⟨sx rfl,sx rfl,trivial⟩) (⟨sx rfl,trivial⟩) trivial) ?_;refine uAm rfl (fun hc=>?_) (fun hc=>?_)
  ·try simp only [nn,uAi,T.rows_len,Fs.rows_len,Sp.rows_len,Gl.rows_len] at hc
   refine uAe (uAb ?_);refine uAa rfl rfl rfl (uAd rfl gU) ?_;refine uAf ?_;refine uAp ?_
   repeat (first | refine tR ?_ | refine bR ?_)
   refine uAs rfl ?_ trivial
   (rw [he,if_pos (by grind)]; rfl)
  ·try simp only [nn,uAi,T.rows_len,Fs.rows_len,Sp.rows_len,Gl.rows_len] at hc
   rw [if_neg (by grind)] at he
   refine uAo ?_;refine uAe ?_;refine uAe (uAb ?_);refine uAa rfl rfl rfl (uAg rfl gU rfl rfl) ?_;refine uAa rfl rfl rfl (uAl rfl gU rfl rfl rfl rfl) ?_;refine uAx rfl rfl rfl rfl rfl rfl gU gU (uC3 _) rfl ?_;refine uAa rfl rfl rfl (uAV rfl gU) ?_;refine uAf ?_;refine uAm rfl (fun hc2=>?_) (fun hc2=>?_)
   ·try simp only [nn,uAi,T.rows_len,Fs.rows_len,Sp.rows_len,Gl.rows_len] at hc2
    refine uAe (uAb ?_);refine uAa rfl rfl rfl (uAd rfl gU) ?_;refine uAf ?_;refine uAp ?_
    repeat (first | refine tR ?_ | refine bR ?_)
    refine uAs rfl ?_ trivial
    (rw [he,if_pos hc2]; rfl)
   ·try simp only [nn,uAi,T.rows_len,Fs.rows_len,Sp.rows_len,Gl.rows_len] at hc2
    rw [if_neg (by rw [hc2]; simp)] at he
    refine uAo ?_;refine uAe ?_;refine uAe (uAb ?_);refine uAa rfl rfl rfl (uAd rfl gU) ?_;refine uAf ?_;refine uAn (s:=⟨[(1,_,_),(3,_,_)],[(.l 1,_)],[],[]⟩) (uAj (⟨sx rfl,sx rfl,trivial⟩) (⟨sx rfl,trivial⟩) trivial) ?_;refine uAt ?_;refine uAW (ι:=Nat) { t:=[(1,_,_)],bx:=[(.l 1,_)],ow:=[] } (fun k=>[(3,true,xi (k : Int))]) (fun k=>[]) (fun k=>k≤t.kids.length∧errs (rawE uAH) (t.kids.drop k)=rawE uAH t) (fun k=>t.kids.length - k) (0) (⟨by simp,by rw [he]; rfl⟩) (uAj (⟨sx rfl,sx rfl,trivial⟩) (⟨sx rfl,trivial⟩) trivial) ?_
    intro k hok
    dsimp only [List.cons_append,List.nil_append]
    obtain ⟨hk,hi⟩:=hok
    refine uAe ?_;refine uAe (uAb ?_);refine uAa rfl rfl rfl (uAc rfl gU) ?_;refine uAa rfl rfl rfl (uAg rfl gU rfl rfl) ?_;refine uAa rfl rfl rfl (uAl rfl gU rfl rfl rfl rfl) ?_;refine uAL rfl rfl rfl rfl rfl gU rfl rfl ?_ (fun hh=>by simp at hh); intro hlen;refine uAa rfl rfl rfl (uAk rfl rfl gU gU rfl) ?_;refine uAf ?_;refine uAn (s:=⟨[(1,_,_),(3,_,_),(21,_,_)],[(.l 1,_)],[],[]⟩) (uAj (⟨sx rfl,sx rfl,sx rfl,trivial⟩) (⟨sx rfl,trivial⟩) trivial) ?_;refine uAm rfl (fun hc3=>?_) (fun hc3=>?_)
    ·try simp only [nn,uAi,T.rows_len,Fs.rows_len,Sp.rows_len,Gl.rows_len] at hc3
     have hlt : k < t.kids.length:=by omega
     have h2:=T.getD_size hlt
     have hd:=uCn (d:=default) hlt hi
     refine uAo ?_;refine uAe ?_;refine uAt ?_;refine uAe (uAb ?_);refine uAa rfl rfl rfl (uAg rfl gU rfl rfl) ?_;refine uAa rfl rfl rfl (uAl rfl gU rfl rfl rfl rfl) ?_;refine uAa rfl rfl rfl (uAc rfl gU) ?_;refine uAa rfl rfl rfl (uAq rfl rfl gU gU rfl rfl rfl (fun hh=>T.rows_at (by first | omega | (simp at hh ⊢; omega)))) ?_;refine uAa rfl rfl rfl (uAF rfl gU rfl rfl rfl rfl) ?_;refine uAx rfl rfl rfl rfl rfl rfl gU gU (ih (t.kids.getD k default) (by omega) (by omega)) rfl ?_;refine uAa rfl rfl rfl (uAd rfl gU) ?_;refine uAf ?_;refine uAn (s:=⟨[(1,_,_),(3,_,_),(4,_,_)],[(.l 1,_)],[],[]⟩) (uAj (⟨sx rfl,sx rfl,sx rfl,trivial⟩) (⟨sx rfl,trivial⟩) trivial) ?_;refine uAe (uAb ?_);refine uAa rfl rfl rfl (uAc rfl gU) ?_;refine uAa rfl rfl rfl (uAk rfl rfl gU gU rfl) ?_;refine uAf ?_;refine uAm rfl (fun hc1=>?_) (fun hc1=>?_)
     ·try simp only [nn,uAi,T.rows_len,Fs.rows_len,Sp.rows_len,Gl.rows_len] at hc1
      refine uAe (uAb ?_);refine uAa rfl rfl rfl (uAc rfl gU) ?_;refine uAa rfl rfl rfl (uAd rfl gU) ?_;refine uAf ?_;refine uAp ?_
      repeat (first | refine tR ?_ | refine bR ?_)
      refine uAs rfl ?_ trivial;exact uBb (hd.1 (by assumption)).symm
     ·try simp only [nn,uAi,T.rows_len,Fs.rows_len,Sp.rows_len,Gl.rows_len] at hc1
      refine uAo ?_;refine uAb ?_;refine uAa rfl rfl rfl (uAc rfl gU) ?_;refine uAa rfl rfl rfl (uAr rfl rfl gU gU rfl (IntWalk.i64_in _ (by omega))) ?_;refine uAa rfl rfl rfl (uAd rfl gU) ?_;refine uAf ?_;refine ⟨k + 1,?_,?_,uAj (⟨⟨_,rfl,?_⟩,⟨sx rfl,trivial⟩⟩) (⟨sx rfl,trivial⟩) trivial⟩
      all_goals (first | rfl | omega | exact ⟨by omega,hd.2 (by assumption)⟩)
    ·try simp only [nn,uAi,T.rows_len,Fs.rows_len,Sp.rows_len,Gl.rows_len] at hc3
     refine uAM ?_
     repeat (first | refine uAD ?_ | refine uAE ?_ | refine uAC rfl ?_)
     refine uAe (uAb ?_);refine uAa rfl rfl rfl (uAd rfl gU) ?_;refine uAf ?_;refine uAp ?_
     repeat (first | refine tR ?_ | refine bR ?_)
     refine uAs rfl ?_ trivial;exact uBb (uDs (by omega) hi).symm
theorem uMJ (t : T) (ht : t.size≤900000) : Ctr sys 70 [xm t] [] (xi (uDd uAH t)) none []:=by
 refine uAy Tryz.func70 rfl rfl rfl rfl rfl rfl ?_;refine uAe (uAb ?_);refine uAw rfl (uAX rfl rfl rfl rfl) ?_;refine uAa rfl rfl rfl (uAd rfl gU) ?_;refine uAf ?_;refine uAe ?_;refine uAe (uAb ?_);refine uAa rfl rfl rfl (uAv rfl gU rfl rfl rfl rfl rfl) ?_;refine uAx rfl rfl rfl rfl rfl rfl gU gU (uLy _ (by omega)) rfl ?_;refine uAa rfl rfl rfl (uAd rfl gU) ?_;refine uAf ?_;refine uAn (s:=⟨[(1,_,_),(3,_,_)],[(.l 1,_)],[],[]⟩) (uAj (⟨sx rfl,sx rfl,trivial⟩) (⟨sx rfl,trivial⟩) trivial) ?_;refine uAe (uAb ?_);refine uAa rfl rfl rfl (uAc rfl gU) ?_;refine uAa rfl rfl rfl (uAk rfl rfl gU gU rfl) ?_;refine uAf ?_;refine uAm rfl (fun hc=>?_) (fun hc=>?_)
 ·try simp only [nn,uAi,T.rows_len,Fs.rows_len,Sp.rows_len,Gl.rows_len] at hc
  refine uAe (uAb ?_);refine uAa rfl rfl rfl (uAc rfl gU) ?_;refine uAa rfl rfl rfl (uAd rfl gU) ?_;refine uAf ?_;refine uAp ?_
  repeat (first | refine tR ?_ | refine bR ?_)
  refine uAs rfl ?_ trivial
  (rw [uDd,if_pos hc]; rfl)
 ·try simp only [nn,uAi,T.rows_len,Fs.rows_len,Sp.rows_len,Gl.rows_len] at hc
  refine uAo ?_;refine uAe (uAb ?_);refine uAa rfl rfl rfl (uAv rfl gU rfl rfl rfl rfl rfl) ?_;refine uAx rfl rfl rfl rfl rfl rfl gU gU (uML _ _ (Nat.le_refl _) (by omega)) rfl ?_;refine uAa rfl rfl rfl (uAd rfl gU) ?_;refine uAf ?_;refine uAp ?_
  repeat (first | refine tR ?_ | refine bR ?_)
  refine uAs rfl ?_ trivial
  (rw [uDd,if_neg (by simpa using hc)]; rfl)
theorem uE6 (t : T) (ht : t.size≤900000) : Ctr sys 56 [xm t] [] (xi (msgE uAH t)) none []:=by
 refine uAy Tryz.func56 rfl rfl rfl rfl rfl rfl ?_;refine uAe (uAb ?_);refine uAw rfl (uAX rfl rfl rfl rfl) ?_;refine uAa rfl rfl rfl (uAd rfl gU) ?_;refine uAf ?_;refine uAe ?_;refine uAe (uAb ?_);refine uAa rfl rfl rfl (uAv rfl gU rfl rfl rfl rfl rfl) ?_;refine uAx rfl rfl rfl rfl rfl rfl gU gU (uMJ _ (by omega)) rfl ?_;refine uAa rfl rfl rfl (uAd rfl gU) ?_;refine uAf ?_;refine uAn (s:=⟨[(1,_,_),(3,_,_)],[(.l 1,_)],[],[]⟩) (uAj (⟨sx rfl,sx rfl,trivial⟩) (⟨sx rfl,trivial⟩) trivial) ?_;refine uAe (uAb ?_);refine uAa rfl rfl rfl (uAc rfl gU) ?_;refine uAa rfl rfl rfl (uAk rfl rfl gU gU rfl) ?_;refine uAf ?_;refine uAm rfl (fun hc=>?_) (fun hc=>?_)
 ·try simp only [nn,uAi,T.rows_len,Fs.rows_len,Sp.rows_len,Gl.rows_len] at hc
  refine uAe (uAb ?_);refine uAa rfl rfl rfl (uAc rfl gU) ?_;refine uAa rfl rfl rfl (uAd rfl gU) ?_;refine uAf ?_;refine uAp ?_
  repeat (first | refine tR ?_ | refine bR ?_)
  refine uAs rfl ?_ trivial
  (rw [msgE,if_pos hc]; rfl)
 ·try simp only [nn,uAi,T.rows_len,Fs.rows_len,Sp.rows_len,Gl.rows_len] at hc
  refine uAo ?_;refine uAe ?_;refine uAe (uAb ?_);refine uAa rfl rfl rfl (uAv rfl gU rfl rfl rfl rfl rfl) ?_;refine uAx rfl rfl rfl rfl rfl rfl gU gU (uEL _ _ (Nat.le_refl _) (by omega)) rfl ?_;refine uAa rfl rfl rfl (uAk rfl rfl gU gU rfl) ?_;refine uAf ?_;refine uAn (s:=⟨[(11,_,_)],[],[],[]⟩) (uAj (⟨sx rfl,trivial⟩) trivial trivial) ?_;refine uAm rfl (fun hc2=>?_) (fun hc2=>?_)
  ·try simp only [nn,uAi,T.rows_len,Fs.rows_len,Sp.rows_len,Gl.rows_len] at hc2
   refine uAe (uAb ?_);refine uAa rfl rfl rfl (uAd rfl gU) ?_;refine uAf ?_;refine uAp ?_
   repeat (first | refine tR ?_ | refine bR ?_)
   refine uAs rfl ?_ trivial
   (rw [msgE,if_neg (by simpa using hc),if_pos (by omega)]; rfl)
  ·try simp only [nn,uAi,T.rows_len,Fs.rows_len,Sp.rows_len,Gl.rows_len] at hc2
   refine uAo ?_;refine uAe (uAb ?_);refine uAa rfl rfl rfl (uAd rfl gU) ?_;refine uAf ?_;refine uAp ?_
   repeat (first | refine tR ?_ | refine bR ?_)
   refine uAs rfl ?_ trivial
   (rw [msgE,if_neg (by simpa using hc),if_neg (by omega)]; rfl)
theorem uCJ (g : Gl) : Ctr sys 101 [xg g] [] (xb (uBo g.kind)) none []:=by
 refine uAy Tryz.func101 rfl rfl rfl rfl rfl rfl ?_;refine uAe (uAb ?_);refine uAw rfl (uAX rfl rfl rfl rfl) ?_;refine uAa rfl rfl rfl (uAd rfl gU) ?_;refine uAf ?_;refine uAe (uAb ?_);refine uAa rfl rfl rfl (uAg rfl gU rfl rfl) ?_;refine uAa rfl rfl rfl (uAl rfl gU rfl rfl rfl rfl) ?_;refine uAa rfl rfl rfl (uAk rfl rfl gU gU rfl) ?_;refine uAa rfl rfl rfl (uAc rfl gU) ?_;refine uAa rfl rfl rfl (uAg rfl gU rfl rfl) ?_;refine uAa rfl rfl rfl (uAl rfl (fun hh=>hh) rfl rfl rfl rfl) ?_;refine uAa rfl rfl rfl (uAk rfl rfl (fun hh=>hh) gU rfl) ?_;refine uAa rfl rfl rfl (uAK rfl rfl gU (fun _ hi=>gP rfl hi)) ?_;refine uAa rfl rfl rfl (uAd rfl gU) ?_;refine uAf ?_;refine uAp ?_
 repeat (first | refine tR ?_ | refine bR ?_)
 refine uAs rfl ?_ trivial
 rfl
theorem uNL {f : List UInt8→Bool} {l : List (List UInt8)} {k : Nat} {e : Bool} (h : k < l.length) (hi : (l.drop k).all f=e) : (f (l.getD k [])=false→e=false)∧(f (l.getD k [])=true→(l.drop (k + 1)).all f=e):=by
 rw [uHQ (d:=[]) h,List.all_cons] at hi
 refine ⟨fun q=>?_,fun q=>?_⟩
 ·rw [q] at hi; exact hi.symm
 ·rw [q] at hi; exact hi
theorem uDE (l : List (List UInt8)) : Ctr sys 55 [xss l] [] (xb (l.all uAH)) none []:=by
 have hrl:=uAi l
 refine uAy Tryz.func55 rfl rfl rfl rfl rfl rfl ?_;refine uAe (uAb ?_);refine uAa rfl rfl rfl (uAd rfl gU) ?_;refine uAf ?_;refine uAe ?_;refine uAe (uAb ?_);refine uAa rfl rfl rfl (uAd rfl gU) ?_;refine uAf ?_;refine uAt ?_;refine uAW (ι:=Nat) { t:=[(0,_,_)],bx:=[],ow:=[] } (fun k=>[(3,true,xi (k : Int))]) (fun k=>[]) (fun k=>k≤l.length∧(l.drop k).all uAH=l.all uAH) (fun k=>l.length - k) (0) (⟨by simp,rfl⟩) (uAj (⟨sx rfl,sx rfl,trivial⟩) trivial trivial) ?_
 intro k hok
 dsimp only [List.cons_append,List.nil_append]
 obtain ⟨hk,hi⟩:=hok
 refine uAe ?_;refine uAe (uAb ?_);refine uAa rfl rfl rfl (uAc rfl gU) ?_;refine uAa rfl rfl rfl (uAc rfl gU) ?_;refine uAL rfl rfl rfl rfl rfl gU rfl rfl ?_ (fun hh=>by simp at hh); intro hlen;refine uAa rfl rfl rfl (uAk rfl rfl gU gU rfl) ?_;refine uAf ?_;refine uAm rfl (fun hc=>?_) (fun hc=>?_)
 ·try simp only [nn,uAi,T.rows_len,Fs.rows_len,Sp.rows_len,Gl.rows_len] at hc
  have hlt : k < l.length:=by omega
  have hd:=uNL hlt hi
  refine uAo ?_;refine uAe ?_;refine uAt ?_;refine uAe (uAb ?_);refine uAa rfl rfl rfl (uAc rfl gU) ?_;refine uAa rfl rfl rfl (uAc rfl gU) ?_;refine uAa rfl rfl rfl (uAq rfl rfl gU gU rfl rfl rfl (fun hh=>uBW (by first | omega | (simp at hh ⊢; omega)))) ?_;refine uAa rfl rfl rfl (uAI rfl gU rfl rfl rfl) ?_;refine uAx rfl rfl rfl rfl rfl rfl gU gU (uC3 _) rfl ?_;refine uAa rfl rfl rfl (uAV rfl gU) ?_;refine uAf ?_;refine uAn (s:=⟨[(0,_,_),(3,_,_),(15,_,_)],[],[],[]⟩) (uAj (⟨sx rfl,sx rfl,sx rfl,trivial⟩) trivial trivial) ?_;refine uAm rfl (fun hc1=>?_) (fun hc1=>?_)
  ·try simp only [nn,uAi,T.rows_len,Fs.rows_len,Sp.rows_len,Gl.rows_len] at hc1
   refine uAe (uAb ?_);refine uAa rfl rfl rfl (uAd rfl gU) ?_;refine uAf ?_;refine uAp ?_
   repeat (first | refine tR ?_ | refine bR ?_)
   refine uAs rfl ?_ trivial;exact uCa (hd.1 (by assumption)).symm
  ·try simp only [nn,uAi,T.rows_len,Fs.rows_len,Sp.rows_len,Gl.rows_len] at hc1
   refine uAo ?_;refine uAb ?_;refine uAa rfl rfl rfl (uAc rfl gU) ?_;refine uAa rfl rfl rfl (uAr rfl rfl gU gU rfl (IntWalk.i64_in _ (by omega))) ?_;refine uAa rfl rfl rfl (uAd rfl gU) ?_;refine uAf ?_;refine ⟨k + 1,?_,?_,uAj (⟨⟨_,rfl,?_⟩,⟨sx rfl,trivial⟩⟩) trivial trivial⟩
   all_goals (first | rfl | omega | exact ⟨by omega,hd.2 (by assumption)⟩)
 ·try simp only [nn,uAi,T.rows_len,Fs.rows_len,Sp.rows_len,Gl.rows_len] at hc
  rw [List.drop_of_length_le (by omega)] at hi
  refine uAM ?_
  repeat (first | refine uAD ?_ | refine uAE ?_ | refine uAC rfl ?_)
  refine uAe (uAb ?_);refine uAa rfl rfl rfl (uAd rfl gU) ?_;refine uAf ?_;refine uAp ?_
  repeat (first | refine tR ?_ | refine bR ?_)
  refine uAs rfl ?_ trivial;exact uCa hi
theorem uJk (n : Nar) : Ctr sys 54 [xn n] [] (xi (cntE n)) none []:=by
 have hr1:=uAi n.roles
 have hr2:=Fs.rows_len n.fresh
 have hr3:=uAi n.tags
 have hr4:=Sp.rows_len n.steps
 have hr5:=Gl.rows_len n.goals
 refine uAy Tryz.func54 rfl rfl rfl rfl rfl rfl ?_;refine uAe (uAb ?_);refine uAw rfl (uAX rfl rfl rfl rfl) ?_;refine uAa rfl rfl rfl (uAd rfl gU) ?_;refine uAf ?_;refine uAe ?_;refine uAe (uAb ?_);refine uAa rfl rfl rfl (uAg rfl gU rfl rfl) ?_;refine uAa rfl rfl rfl (uAl rfl gU rfl rfl rfl rfl) ?_;refine uAL rfl rfl rfl rfl rfl gU rfl rfl ?_ (fun hh=>by simp at hh); intro hlen;refine uAa rfl rfl rfl (uAk rfl rfl gU gU rfl) ?_;refine uAf ?_;refine uAn (s:=⟨[(1,_,_),(6,_,_)],[(.l 1,_)],[],[]⟩) (uAj (⟨sx rfl,sx rfl,trivial⟩) (⟨sx rfl,trivial⟩) trivial) ?_;refine uAm rfl (fun hc1=>?_) (fun hc1=>?_)
 ·try simp only [nn,uAi,T.rows_len,Fs.rows_len,Sp.rows_len,Gl.rows_len] at hc1
  refine uAe (uAb ?_);refine uAa rfl rfl rfl (uAd rfl gU) ?_;refine uAf ?_;refine uAp ?_
  repeat (first | refine tR ?_ | refine bR ?_)
  refine uAs rfl ?_ trivial
  (refine uBb ?_; unfold cntE; (repeat' split) <;> omega)
 ·try simp only [nn,uAi,T.rows_len,Fs.rows_len,Sp.rows_len,Gl.rows_len] at hc1
  refine uAo ?_;refine uAe ?_;refine uAe (uAb ?_);refine uAa rfl rfl rfl (uAg rfl gU rfl rfl) ?_;refine uAa rfl rfl rfl (uAl rfl gU rfl rfl rfl rfl) ?_;refine uAL rfl rfl rfl rfl rfl gU rfl rfl ?_ (fun hh=>by simp at hh); intro hlen;refine uAa rfl rfl rfl (uAk rfl rfl gU gU rfl) ?_;refine uAa rfl rfl rfl (uAc rfl gU) ?_;refine uAa rfl rfl rfl (uAg rfl gU rfl rfl) ?_;refine uAa rfl rfl rfl (uAl rfl (fun hh=>hh) rfl rfl rfl rfl) ?_;refine uAa rfl rfl rfl (uAY rfl (fun hh=>hh) rfl rfl) ?_;refine uAa rfl rfl rfl (uAk rfl rfl (fun hh=>hh) gU rfl) ?_;refine uAa rfl rfl rfl (uAK rfl rfl gU (fun _ hi=>gP rfl hi)) ?_;refine uAa rfl rfl rfl (uAc rfl gU) ?_;refine uAa rfl rfl rfl (uAg rfl gU rfl rfl) ?_;refine uBk (s:=⟨[(1,_,_),(17,_,_),(18,_,_)],[(.l 1,_)],[],[]⟩) (uAj (⟨sx rfl,sx rfl,sx rfl,trivial⟩) (⟨sx rfl,trivial⟩) trivial) ?_;refine uAa rfl rfl rfl (uAl rfl (fun hh=>hh) rfl rfl rfl rfl) ?_;refine uAa rfl rfl rfl (uAY rfl (fun hh=>hh) rfl rfl) ?_;refine uAa rfl rfl rfl (uAk rfl rfl (fun hh=>hh) gU rfl) ?_;refine uAa rfl rfl rfl (uAK rfl rfl gU (fun _ hi=>gP rfl hi)) ?_;refine uAf ?_;refine uAm rfl (fun hc2=>?_) (fun hc2=>?_)
  ·try simp only [nn,uAi,T.rows_len,Fs.rows_len,Sp.rows_len,Gl.rows_len] at hc2
   refine uAe (uAb ?_);refine uAa rfl rfl rfl (uAd rfl gU) ?_;refine uAf ?_;refine uAp ?_
   repeat (first | refine tR ?_ | refine bR ?_)
   refine uAs rfl ?_ trivial
   (refine uBb ?_; unfold cntE; (repeat' split) <;> omega)
  ·try simp only [nn,uAi,T.rows_len,Fs.rows_len,Sp.rows_len,Gl.rows_len] at hc2
   refine uAo ?_;refine uAe ?_;refine uAe (uAb ?_);refine uAa rfl rfl rfl (uAg rfl gU rfl rfl) ?_;refine uAa rfl rfl rfl (uAl rfl gU rfl rfl rfl rfl) ?_;refine uAL rfl rfl rfl rfl rfl gU rfl rfl ?_ (fun hh=>by simp at hh); intro hlen;refine uAa rfl rfl rfl (uAk rfl rfl gU gU rfl) ?_;refine uAf ?_;refine uAn (s:=⟨[(1,_,_),(26,_,_)],[(.l 1,_)],[],[]⟩) (uAj (⟨sx rfl,sx rfl,trivial⟩) (⟨sx rfl,trivial⟩) trivial) ?_;refine uAm rfl (fun hc3=>?_) (fun hc3=>?_)
   ·try simp only [nn,uAi,T.rows_len,Fs.rows_len,Sp.rows_len,Gl.rows_len] at hc3
    refine uAe (uAb ?_);refine uAa rfl rfl rfl (uAd rfl gU) ?_;refine uAf ?_;refine uAp ?_
    repeat (first | refine tR ?_ | refine bR ?_)
    refine uAs rfl ?_ trivial
    (refine uBb ?_; unfold cntE; (repeat' split) <;> omega)
   ·try simp only [nn,uAi,T.rows_len,Fs.rows_len,Sp.rows_len,Gl.rows_len] at hc3
    refine uAo ?_;refine uAe ?_;refine uAe (uAb ?_);refine uAa rfl rfl rfl (uAg rfl gU rfl rfl) ?_;refine uAa rfl rfl rfl (uAl rfl gU rfl rfl rfl rfl) ?_;refine uAL rfl rfl rfl rfl rfl gU rfl rfl ?_ (fun hh=>by simp at hh); intro hlen;refine uAa rfl rfl rfl (uAk rfl rfl gU gU rfl) ?_;refine uAa rfl rfl rfl (uAc rfl gU) ?_;refine uAa rfl rfl rfl (uAg rfl gU rfl rfl) ?_;refine uAa rfl rfl rfl (uAl rfl (fun hh=>hh) rfl rfl rfl rfl) ?_;refine uAa rfl rfl rfl (uAY rfl (fun hh=>hh) rfl rfl) ?_;refine uAa rfl rfl rfl (uAk rfl rfl (fun hh=>hh) gU rfl) ?_;refine uAa rfl rfl rfl (uAK rfl rfl gU (fun _ hi=>gP rfl hi)) ?_;refine uAf ?_;refine uAn (s:=⟨[(36,_,_)],[],[],[]⟩) (uAj (⟨sx rfl,trivial⟩) trivial trivial) ?_;refine uAm rfl (fun hc4=>?_) (fun hc4=>?_)
    ·try simp only [nn,uAi,T.rows_len,Fs.rows_len,Sp.rows_len,Gl.rows_len] at hc4
     refine uAe (uAb ?_);refine uAa rfl rfl rfl (uAd rfl gU) ?_;refine uAf ?_;refine uAp ?_
     repeat (first | refine tR ?_ | refine bR ?_)
     refine uAs rfl ?_ trivial
     (refine uBb ?_; unfold cntE; (repeat' split) <;> omega)
    ·try simp only [nn,uAi,T.rows_len,Fs.rows_len,Sp.rows_len,Gl.rows_len] at hc4
     refine uAo ?_;refine uAe (uAb ?_);refine uAa rfl rfl rfl (uAd rfl gU) ?_;refine uAf ?_;refine uAp ?_
     repeat (first | refine tR ?_ | refine bR ?_)
     refine uAs rfl ?_ trivial
     (refine uBb ?_; unfold cntE; (repeat' split) <;> omega)
theorem uK9 (g : Gl) (hg : T.sizes g.data≤900000) : Ctr sys 57 [xg g] [] (xi (uB4 uAH g)) none []:=by
 have hls:=T.len_sizes g.data
 have hrl:=T.rows_len g.data
 refine uAy Tryz.func57 rfl rfl rfl rfl rfl rfl ?_;refine uAe (uAb ?_);refine uAw rfl (uAX rfl rfl rfl rfl) ?_;refine uAa rfl rfl rfl (uAd rfl gU) ?_;refine uAf ?_;refine uAe ?_;refine uAe (uAb ?_);refine uAa rfl rfl rfl (uAg rfl gU rfl rfl) ?_;refine uAa rfl rfl rfl (uAl rfl gU rfl rfl rfl rfl) ?_;refine uAa rfl rfl rfl (uAk rfl rfl gU gU rfl) ?_;refine uAa rfl rfl rfl (uAc rfl gU) ?_;refine uAa rfl rfl rfl (uAg rfl gU rfl rfl) ?_;refine uAa rfl rfl rfl (uAl rfl (fun hh=>hh) rfl rfl rfl rfl) ?_;refine uAa rfl rfl rfl (uAk rfl rfl (fun hh=>hh) gU rfl) ?_;refine uAa rfl rfl rfl (uAK rfl rfl gU (fun _ hi=>gP rfl hi)) ?_;refine uAf ?_;refine uAn (s:=⟨[(1,_,_),(12,_,_)],[(.l 1,_)],[],[]⟩) (uAj (⟨sx rfl,sx rfl,trivial⟩) (⟨sx rfl,trivial⟩) trivial) ?_;refine uAm rfl (fun hc=>?_) (fun hc=>?_)
 ·try simp only [nn,uAi,T.rows_len,Fs.rows_len,Sp.rows_len,Gl.rows_len] at hc
  refine uAe (uAb ?_);refine uAa rfl rfl rfl (uAd rfl gU) ?_;refine uAf ?_;refine uAp ?_
  repeat (first | refine tR ?_ | refine bR ?_)
  refine uAs rfl ?_ trivial
  (rw [uB4,if_pos (by grind)]; rfl)
 ·try simp only [nn,uAi,T.rows_len,Fs.rows_len,Sp.rows_len,Gl.rows_len] at hc
  refine uAo ?_;refine uAe ?_;refine uAe (uAb ?_);refine uAa rfl rfl rfl (uAg rfl gU rfl rfl) ?_;refine uAa rfl rfl rfl (uAl rfl gU rfl rfl rfl rfl) ?_;refine uAx rfl rfl rfl rfl rfl rfl gU gU (uC3 _) rfl ?_;refine uAa rfl rfl rfl (uAV rfl gU) ?_;refine uAa rfl rfl rfl (uAc rfl gU) ?_;refine uAa rfl rfl rfl (uAv rfl gU rfl rfl rfl rfl rfl) ?_;refine uAx rfl rfl rfl rfl rfl rfl gU (fun hh=>gA ((fun hh=>hh) hh) (rfl)) (uCJ _) rfl ?_;refine uAa rfl rfl rfl (uAc rfl (fun hh=>hh)) ?_;refine uAa rfl rfl rfl (uAg rfl gU rfl rfl) ?_;refine uAa rfl rfl rfl (uAl rfl (fun hh=>hh) rfl rfl rfl rfl) ?_;refine uAx rfl rfl rfl rfl rfl rfl gU (fun hh=>gA ((fun hh=>hh) hh) (rfl)) (uC3 _) rfl ?_;refine uAa rfl rfl rfl (uAV rfl (fun hh=>hh)) ?_;refine uBk (s:=⟨[(1,_,_),(17,_,_),(20,_,_),(24,_,_)],[(.l 1,_)],[],[]⟩) (uAj (⟨sx rfl,sx rfl,sx rfl,sx rfl,trivial⟩) (⟨sx rfl,trivial⟩) trivial) ?_;refine uAa rfl rfl rfl (uAR rfl rfl (fun hh=>hh) (fun hh hi=>gP hh hi)) ?_;refine uAa rfl rfl rfl (uAK rfl rfl gU (fun _ hi=>gP rfl hi)) ?_;refine uAf ?_;refine uAm rfl (fun hc2=>?_) (fun hc2=>?_)
  ·try simp only [nn,uAi,T.rows_len,Fs.rows_len,Sp.rows_len,Gl.rows_len] at hc2
   refine uAe (uAb ?_);refine uAa rfl rfl rfl (uAd rfl gU) ?_;refine uAf ?_;refine uAp ?_
   repeat (first | refine tR ?_ | refine bR ?_)
   refine uAs rfl ?_ trivial
   (rw [uB4,if_neg (by omega),if_pos (by grind)]; rfl)
  ·try simp only [nn,uAi,T.rows_len,Fs.rows_len,Sp.rows_len,Gl.rows_len] at hc2
   refine uAo ?_;refine uAe ?_;refine uAe (uAb ?_);refine uAa rfl rfl rfl (uAv rfl gU rfl rfl rfl rfl rfl) ?_;refine uAx rfl rfl rfl rfl rfl rfl gU gU (uCJ _) rfl ?_;refine uAa rfl rfl rfl (uAV rfl gU) ?_;refine uAa rfl rfl rfl (uAc rfl gU) ?_;refine uAa rfl rfl rfl (uAg rfl gU rfl rfl) ?_;refine uAa rfl rfl rfl (uAl rfl (fun hh=>hh) rfl rfl rfl rfl) ?_;refine uAa rfl rfl rfl (uAZ rfl rfl (fun hh=>hh) gU rfl) ?_;refine uAa rfl rfl rfl (uAR rfl rfl gU (fun _ hi=>gP rfl hi)) ?_;refine uAf ?_;refine uAn (s:=⟨[(1,_,_),(34,_,_)],[(.l 1,_)],[],[]⟩) (uAj (⟨sx rfl,sx rfl,trivial⟩) (⟨sx rfl,trivial⟩) trivial) ?_;refine uAm rfl (fun hc3=>?_) (fun hc3=>?_)
   ·try simp only [nn,uAi,T.rows_len,Fs.rows_len,Sp.rows_len,Gl.rows_len] at hc3
    refine uAe (uAb ?_);refine uAa rfl rfl rfl (uAd rfl gU) ?_;refine uAf ?_;refine uAp ?_
    repeat (first | refine tR ?_ | refine bR ?_)
    refine uAs rfl ?_ trivial
    (rw [uB4,if_neg (by omega),if_neg (by grind),if_pos (by grind)]; rfl)
   ·try simp only [nn,uAi,T.rows_len,Fs.rows_len,Sp.rows_len,Gl.rows_len] at hc3
    refine uAo ?_;refine uAe ?_;refine uAe (uAb ?_);refine uAa rfl rfl rfl (uAg rfl gU rfl rfl) ?_;refine uAa rfl rfl rfl (uAl rfl gU rfl rfl rfl rfl) ?_;refine uAL rfl rfl rfl rfl rfl gU rfl rfl ?_ (fun hh=>by simp at hh); intro hlen;refine uAa rfl rfl rfl (uAk rfl rfl gU gU rfl) ?_;refine uAa rfl rfl rfl (uAc rfl gU) ?_;refine uAa rfl rfl rfl (uAg rfl gU rfl rfl) ?_;refine uAa rfl rfl rfl (uAl rfl (fun hh=>hh) rfl rfl rfl rfl) ?_;refine uAa rfl rfl rfl (uAY rfl (fun hh=>hh) rfl rfl) ?_;refine uAa rfl rfl rfl (uAk rfl rfl (fun hh=>hh) gU rfl) ?_;refine uAa rfl rfl rfl (uAK rfl rfl gU (fun _ hi=>gP rfl hi)) ?_;refine uAa rfl rfl rfl (uAc rfl gU) ?_;refine uAa rfl rfl rfl (uAv rfl gU rfl rfl rfl rfl rfl) ?_;refine uBk (s:=⟨[(1,_,_),(45,_,_),(46,_,_)],[(.l 1,_)],[],[]⟩) (uAj (⟨sx rfl,sx rfl,sx rfl,trivial⟩) (⟨sx rfl,trivial⟩) trivial) ?_;refine uAx rfl rfl rfl rfl rfl rfl gU (fun hh=>gA ((fun hh=>hh) hh) (rfl)) (uCJ _) rfl ?_;refine uAa rfl rfl rfl (uAV rfl (fun hh=>hh)) ?_;refine uAa rfl rfl rfl (uAc rfl (fun hh=>hh)) ?_;refine uAa rfl rfl rfl (uAg rfl gU rfl rfl) ?_;refine uAa rfl rfl rfl (uAl rfl (fun hh=>hh) rfl rfl rfl rfl) ?_;refine uAa rfl rfl rfl (uAY rfl (fun hh=>hh) rfl rfl) ?_;refine uAa rfl rfl rfl (uAk rfl rfl (fun hh=>hh) gU rfl) ?_
    refine uAa rfl rfl rfl (uAR rfl rfl (fun hh=>hh) (fun hh hi=>gP hh hi)) ?_;refine uAa rfl rfl rfl (uAK rfl rfl gU (fun _ hi=>gP rfl hi)) ?_;refine uAf ?_;refine uAn (s:=⟨[(1,_,_),(55,_,_)],[(.l 1,_)],[],[]⟩) (uAj (⟨sx rfl,sx rfl,trivial⟩) (⟨sx rfl,trivial⟩) trivial) ?_;refine uAm rfl (fun hc4=>?_) (fun hc4=>?_)
    ·try simp only [nn,uAi,T.rows_len,Fs.rows_len,Sp.rows_len,Gl.rows_len] at hc4
     refine uAe (uAb ?_);refine uAa rfl rfl rfl (uAd rfl gU) ?_;refine uAf ?_;refine uAp ?_
     repeat (first | refine tR ?_ | refine bR ?_)
     refine uAs rfl ?_ trivial
     (rw [uB4,if_neg (by omega),if_neg (by grind),if_neg (by grind),if_pos (by cases ha : uBo g.kind <;> simp only [ha,Bool.true_eq_false,Bool.false_eq_true,false_and,true_and,and_true,or_false,false_or,not_true_eq_false,not_false_eq_true,ne_eq,reduceCtorEq,and_false] at hc4 ⊢ <;> omega)]; rfl)
    ·try simp only [nn,uAi,T.rows_len,Fs.rows_len,Sp.rows_len,Gl.rows_len] at hc4
     have he : uB4 uAH g=errs (msgE uAH) g.data:=by
      rw [uB4,if_neg (by omega),if_neg (by grind),if_neg (by grind),if_neg (by cases ha : uBo g.kind <;> simp only [ha,Bool.true_eq_false,Bool.false_eq_true,false_and,true_and,and_true,or_false,false_or,not_true_eq_false,not_false_eq_true,ne_eq,reduceCtorEq,and_false] at hc4 ⊢ <;> omega)]
     refine uAo ?_;refine uAe ?_;refine uAe (uAb ?_);refine uAa rfl rfl rfl (uAd rfl gU) ?_;refine uAf ?_;refine uAt ?_;refine uAW (ι:=Nat) { t:=[(1,_,_)],bx:=[(.l 1,_)],ow:=[] } (fun k=>[(3,true,xi (k : Int))]) (fun k=>[]) (fun k=>k≤g.data.length∧errs (msgE uAH) (g.data.drop k)=uB4 uAH g) (fun k=>g.data.length - k) (0) (⟨by simp,by rw [he]; rfl⟩) (uAj (⟨sx rfl,sx rfl,trivial⟩) (⟨sx rfl,trivial⟩) trivial) ?_
     intro k hok
     dsimp only [List.cons_append,List.nil_append]
     obtain ⟨hk,hi⟩:=hok
     refine uAe ?_;refine uAe (uAb ?_);refine uAa rfl rfl rfl (uAc rfl gU) ?_;refine uAa rfl rfl rfl (uAg rfl gU rfl rfl) ?_;refine uAa rfl rfl rfl (uAl rfl gU rfl rfl rfl rfl) ?_;refine uAL rfl rfl rfl rfl rfl gU rfl rfl ?_ (fun hh=>by simp at hh); intro hlen;refine uAa rfl rfl rfl (uAk rfl rfl gU gU rfl) ?_;refine uAf ?_;refine uAn (s:=⟨[(1,_,_),(3,_,_),(60,_,_)],[(.l 1,_)],[],[]⟩) (uAj (⟨sx rfl,sx rfl,sx rfl,trivial⟩) (⟨sx rfl,trivial⟩) trivial) ?_;refine uAm rfl (fun hc5=>?_) (fun hc5=>?_)
     ·try simp only [nn,uAi,T.rows_len,Fs.rows_len,Sp.rows_len,Gl.rows_len] at hc5
      have hlt : k < g.data.length:=by omega
      have h2:=T.getD_size hlt
      have hd:=uCn (d:=default) hlt hi
      refine uAo ?_;refine uAe ?_;refine uAt ?_;refine uAe (uAb ?_);refine uAa rfl rfl rfl (uAg rfl gU rfl rfl) ?_;refine uAa rfl rfl rfl (uAl rfl gU rfl rfl rfl rfl) ?_;refine uAa rfl rfl rfl (uAc rfl gU) ?_;refine uAa rfl rfl rfl (uAq rfl rfl gU gU rfl rfl rfl (fun hh=>T.rows_at (by first | omega | (simp at hh ⊢; omega)))) ?_;refine uAa rfl rfl rfl (uAF rfl gU rfl rfl rfl rfl) ?_;refine uAx rfl rfl rfl rfl rfl rfl gU gU (uE6 _ (by omega)) rfl ?_;refine uAa rfl rfl rfl (uAd rfl gU) ?_;refine uAf ?_;refine uAn (s:=⟨[(1,_,_),(3,_,_),(4,_,_)],[(.l 1,_)],[],[]⟩) (uAj (⟨sx rfl,sx rfl,sx rfl,trivial⟩) (⟨sx rfl,trivial⟩) trivial) ?_;refine uAe (uAb ?_);refine uAa rfl rfl rfl (uAc rfl gU) ?_;refine uAa rfl rfl rfl (uAk rfl rfl gU gU rfl) ?_;refine uAf ?_;refine uAm rfl (fun hc1=>?_) (fun hc1=>?_)
      ·try simp only [nn,uAi,T.rows_len,Fs.rows_len,Sp.rows_len,Gl.rows_len] at hc1
       refine uAe (uAb ?_);refine uAa rfl rfl rfl (uAc rfl gU) ?_;refine uAa rfl rfl rfl (uAd rfl gU) ?_;refine uAf ?_;refine uAp ?_
       repeat (first | refine tR ?_ | refine bR ?_)
       refine uAs rfl ?_ trivial;exact uBb (hd.1 (by assumption)).symm
      ·try simp only [nn,uAi,T.rows_len,Fs.rows_len,Sp.rows_len,Gl.rows_len] at hc1
       refine uAo ?_;refine uAb ?_;refine uAa rfl rfl rfl (uAc rfl gU) ?_;refine uAa rfl rfl rfl (uAr rfl rfl gU gU rfl (IntWalk.i64_in _ (by omega))) ?_;refine uAa rfl rfl rfl (uAd rfl gU) ?_;refine uAf ?_;refine ⟨k + 1,?_,?_,uAj (⟨⟨_,rfl,?_⟩,⟨sx rfl,trivial⟩⟩) (⟨sx rfl,trivial⟩) trivial⟩
       all_goals (first | rfl | omega | exact ⟨by omega,hd.2 (by assumption)⟩)
     ·try simp only [nn,uAi,T.rows_len,Fs.rows_len,Sp.rows_len,Gl.rows_len] at hc5
      refine uAM ?_
      repeat (first | refine uAD ?_ | refine uAE ?_ | refine uAC rfl ?_)
      refine uAe (uAb ?_);refine uAa rfl rfl rfl (uAd rfl gU) ?_;refine uAf ?_;refine uAp ?_
      repeat (first | refine tR ?_ | refine bR ?_)
      refine uAs rfl ?_ trivial;exact uBb (uDs (by omega) hi).symm
theorem uH8 {α : Type} {f : α→Int} {l : List α} {k : Nat} (h : l.length≤k) : errs f (l.drop k)=0:=by rw [List.drop_of_length_le h]; rfl
set_option maxHeartbeats 4000000 in
theorem uJ4 (n : Nar) (hs : ∀ s ∈ n.steps,s.msg.size≤900000) (hg : ∀ g ∈ n.goals,T.sizes g.data≤900000) : Ctr sys 15 [xn n] [] (xi (narE uAH n)) none []:=by
 have hr1:=uAi n.roles
 have hr2:=Fs.rows_len n.fresh
 have hr3:=uAi n.tags
 have hr4:=Sp.rows_len n.steps
 have hr5:=Gl.rows_len n.goals
 refine uAy Tryz.func15 rfl rfl rfl rfl rfl rfl ?_;refine uAe (uAb ?_);refine uAw rfl (uAX rfl rfl rfl rfl) ?_;refine uAa rfl rfl rfl (uAd rfl gU) ?_;refine uAf ?_;refine uAe ?_;refine uAe (uAb ?_);refine uAa rfl rfl rfl (uAg rfl gU rfl rfl) ?_;refine uAa rfl rfl rfl (uAl rfl gU rfl rfl rfl rfl) ?_;refine uAx rfl rfl rfl rfl rfl rfl gU gU (uC3 _) rfl ?_;refine uAa rfl rfl rfl (uAV rfl gU) ?_;refine uAf ?_;refine uAn (s:=⟨[(1,_,_),(13,_,_)],[(.l 1,_)],[],[]⟩) (uAj (⟨sx rfl,sx rfl,trivial⟩) (⟨sx rfl,trivial⟩) trivial) ?_;refine uAm rfl (fun hc=>?_) (fun hc=>?_)
 ·try simp only [nn,uAi,T.rows_len,Fs.rows_len,Sp.rows_len,Gl.rows_len] at hc
  refine uAe (uAb ?_);refine uAa rfl rfl rfl (uAd rfl gU) ?_;refine uAf ?_;refine uAp ?_
  repeat (first | refine tR ?_ | refine bR ?_)
  refine uAs rfl ?_ trivial
  (rw [narE,if_pos (by rw [uDg,if_pos hc]; simp),uDg,if_pos hc]; rfl)
 ·try simp only [nn,uAi,T.rows_len,Fs.rows_len,Sp.rows_len,Gl.rows_len] at hc
  refine uAo ?_;refine uAe ?_;refine uAe (uAb ?_);refine uAa rfl rfl rfl (uAv rfl gU rfl rfl rfl rfl rfl) ?_;refine uAx rfl rfl rfl rfl rfl rfl gU gU (uJk _) rfl ?_;refine uAa rfl rfl rfl (uAd rfl gU) ?_;refine uAf ?_;refine uAe (uAb ?_);refine uAa rfl rfl rfl (uAc rfl gU) ?_;refine uAa rfl rfl rfl (uAk rfl rfl gU gU rfl) ?_;refine uAf ?_;refine uAn (s:=⟨[(1,_,_),(3,_,_),(17,_,_)],[(.l 1,_)],[],[]⟩) (uAj (⟨sx rfl,sx rfl,sx rfl,trivial⟩) (⟨sx rfl,trivial⟩) trivial) ?_;refine uAm rfl (fun hc2=>?_) (fun hc2=>?_)
  ·try simp only [nn,uAi,T.rows_len,Fs.rows_len,Sp.rows_len,Gl.rows_len] at hc2
   have hh : uDg uAH n=cntE n:=by rw [uDg,if_neg (by rw [hc]; simp),if_pos hc2]
   refine uAe (uAb ?_);refine uAa rfl rfl rfl (uAc rfl gU) ?_;refine uAa rfl rfl rfl (uAd rfl gU) ?_;refine uAf ?_;refine uAp ?_
   repeat (first | refine tR ?_ | refine bR ?_)
   refine uAs rfl ?_ trivial
   (rw [narE,if_pos (by rw [hh]; exact hc2),hh]; rfl)
  ·try simp only [nn,uAi,T.rows_len,Fs.rows_len,Sp.rows_len,Gl.rows_len] at hc2
   have hh : uDg uAH n=(if n.roles.all uAH=false then 2 else if errs (frE uAH) n.fresh≠0 then errs (frE uAH) n.fresh else if n.tags.all uAH=false then 2 else 0):=by rw [uDg,if_neg (by rw [hc]; simp),if_neg (by rw [hc2]; simp)]
   refine uAo ?_;refine uAe ?_;refine uAe (uAb ?_);refine uAa rfl rfl rfl (uAg rfl gU rfl rfl) ?_;refine uAa rfl rfl rfl (uAl rfl gU rfl rfl rfl rfl) ?_;refine uAx rfl rfl rfl rfl rfl rfl gU gU (uDE _) rfl ?_;refine uAa rfl rfl rfl (uAV rfl gU) ?_;refine uAf ?_;refine uAm rfl (fun hc3=>?_) (fun hc3=>?_)
   ·try simp only [nn,uAi,T.rows_len,Fs.rows_len,Sp.rows_len,Gl.rows_len] at hc3
    rw [if_pos hc3] at hh
    refine uAe (uAb ?_);refine uAa rfl rfl rfl (uAd rfl gU) ?_;refine uAf ?_;refine uAp ?_
    repeat (first | refine tR ?_ | refine bR ?_)
    refine uAs rfl ?_ trivial
    (rw [narE,if_pos (by rw [hh]; simp),hh]; rfl)
   ·try simp only [nn,uAi,T.rows_len,Fs.rows_len,Sp.rows_len,Gl.rows_len] at hc3
    rw [if_neg (by rw [hc3]; simp)] at hh
    refine uAo ?_;refine uAe ?_;refine uAe (uAb ?_);refine uAa rfl rfl rfl (uAd rfl gU) ?_;refine uAf ?_;refine uAn (s:=⟨[(1,_,_),(4,_,_)],[(.l 1,_)],[],[]⟩) (uAj (⟨sx rfl,sx rfl,trivial⟩) (⟨sx rfl,trivial⟩) trivial) ?_;refine uAt ?_;refine uAW (ι:=Nat) { t:=[(1,_,_)],bx:=[(.l 1,_)],ow:=[] } (fun k=>[(4,true,xi (k : Int))]) (fun k=>[]) (fun k=>k≤n.fresh.length∧errs (frE uAH) (n.fresh.drop k)=errs (frE uAH) n.fresh) (fun k=>n.fresh.length - k) (0) (⟨by simp,rfl⟩) (uAj (⟨sx rfl,sx rfl,trivial⟩) (⟨sx rfl,trivial⟩) trivial) ?_
    intro k hokk
    dsimp only [List.cons_append,List.nil_append]
    obtain ⟨hk,hi⟩:=hokk
    refine uAe ?_;refine uAe (uAb ?_);refine uAa rfl rfl rfl (uAc rfl gU) ?_;refine uAa rfl rfl rfl (uAg rfl gU rfl rfl) ?_;refine uAa rfl rfl rfl (uAl rfl gU rfl rfl rfl rfl) ?_;refine uAL rfl rfl rfl rfl rfl gU rfl rfl ?_ (fun hh=>by simp at hh); intro hlen;refine uAa rfl rfl rfl (uAk rfl rfl gU gU rfl) ?_;refine uAf ?_;refine uAn (s:=⟨[(1,_,_),(4,_,_),(27,_,_)],[(.l 1,_)],[],[]⟩) (uAj (⟨sx rfl,sx rfl,sx rfl,trivial⟩) (⟨sx rfl,trivial⟩) trivial) ?_;refine uAm rfl (fun hc4=>?_) (fun hc4=>?_)
    ·try simp only [nn,uAi,T.rows_len,Fs.rows_len,Sp.rows_len,Gl.rows_len] at hc4
     have hlt : k < n.fresh.length:=by omega
     have hd:=uCn (d:=default) hlt hi
     have hn2:=uDE [(n.fresh.getD k default).role,(n.fresh.getD k default).name]
     refine uAo ?_;refine uAe ?_;refine uAt ?_;refine uAe (uAb ?_);refine uAa rfl rfl rfl (uAg rfl gU rfl rfl) ?_;refine uAa rfl rfl rfl (uAl rfl gU rfl rfl rfl rfl) ?_;refine uAa rfl rfl rfl (uAc rfl gU) ?_;refine uAa rfl rfl rfl (uAq rfl rfl gU gU rfl rfl rfl (fun hh=>Fs.rows_at (by first | omega | (simp at hh ⊢; omega)))) ?_;refine uAa rfl rfl rfl (uAF rfl gU rfl rfl rfl rfl) ?_;refine uAw rfl (uAT rfl rfl rfl) ?_;refine uAw rfl (uAB rfl rfl rfl rfl rfl rfl rfl) ?_;refine uAf ?_;refine uAn (s:=⟨[(1,_,_),(4,_,_),(5,_,_)],[(.l 1,_),(.l 5,_)],[],[]⟩) (uAj (⟨sx rfl,sx rfl,sx rfl,trivial⟩) (⟨sx rfl,sx rfl,trivial⟩) trivial) ?_;refine uAe ?_;refine uAe (uAb ?_);refine uAa rfl rfl rfl (uAg rfl gU rfl rfl) ?_;refine uAa rfl rfl rfl (uAl rfl gU rfl rfl rfl rfl) ?_;refine uAa rfl rfl rfl (uAg rfl gU rfl rfl) ?_;refine uAa rfl rfl rfl (uAl rfl gU rfl rfl rfl rfl) ?_;refine uAQ (xs:=[_,_]) rfl rfl rfl rfl rfl rfl rfl rfl rfl gU rfl ?_;refine uAx rfl rfl rfl rfl rfl rfl gU gU (hn2) rfl ?_;refine uAa rfl rfl rfl (uAV rfl gU) ?_;refine uAf ?_;refine uAn (s:=⟨[(1,_,_),(4,_,_),(5,_,_),(41,_,_)],[(.l 1,_),(.l 5,_)],[],[]⟩) (uAj (⟨sx rfl,sx rfl,sx rfl,sx rfl,trivial⟩) (⟨sx rfl,sx rfl,trivial⟩) trivial) ?_
     refine uAm rfl (fun hc5=>?_) (fun hc5=>?_)
     ·try simp only [nn,uAi,T.rows_len,Fs.rows_len,Sp.rows_len,Gl.rows_len] at hc5
      have hf : frE uAH (n.fresh.getD k default)=2:=by rw [frE,if_pos (by simpa [Decidable.or_iff_not_imp_left] using hc5)]
      have he:=hd.1 (by rw [hf]; simp)
      rw [he,hf] at hh
      rw [if_pos (by simp)] at hh
      refine uAe (uAb ?_);refine uAa rfl rfl rfl (uAd rfl gU) ?_;refine uAf ?_;refine uAp ?_
      repeat (first | refine tR ?_ | refine bR ?_)
      refine uAs rfl ?_ trivial
      (rw [narE,if_pos (by rw [hh]; simp),hh]; rfl)
     ·try simp only [nn,uAi,T.rows_len,Fs.rows_len,Sp.rows_len,Gl.rows_len] at hc5
      have hnn : ¬(uAH (n.fresh.getD k default).role=false∨uAH (n.fresh.getD k default).name=false):=by
       simp at hc5 ⊢; simp [hc5]
      refine uAo ?_;refine uAe (uAb ?_);refine uAa rfl rfl rfl (uAg rfl gU rfl rfl) ?_;refine uAa rfl rfl rfl (uAl rfl gU rfl rfl rfl rfl) ?_;refine uAa rfl rfl rfl (uAk rfl rfl gU gU rfl) ?_;refine uAa rfl rfl rfl (uAc rfl gU) ?_;refine uAa rfl rfl rfl (uAg rfl gU rfl rfl) ?_;refine uAa rfl rfl rfl (uAl rfl (fun hh=>hh) rfl rfl rfl rfl) ?_;refine uAa rfl rfl rfl (uAk rfl rfl (fun hh=>hh) gU rfl) ?_;refine uAa rfl rfl rfl (uAR rfl rfl gU (fun _ hi=>gP rfl hi)) ?_;refine uAa rfl rfl rfl (uAc rfl gU) ?_;refine uAa rfl rfl rfl (uAg rfl gU rfl rfl) ?_;refine uAa rfl rfl rfl (uAl rfl (fun hh=>hh) rfl rfl rfl rfl) ?_;refine uAa rfl rfl rfl (uAk rfl rfl (fun hh=>hh) gU rfl) ?_;refine uBk (s:=⟨[(1,_,_),(4,_,_),(50,_,_),(53,_,_)],[(.l 1,_)],[],[]⟩) (uAj (⟨sx rfl,sx rfl,sx rfl,sx rfl,trivial⟩) (⟨sx rfl,trivial⟩) trivial) ?_;refine uAa rfl rfl rfl (uAR rfl rfl gU (fun _ hi=>gP rfl hi)) ?_;refine uAf ?_;refine uAm rfl (fun hc6=>?_) (fun hc6=>?_)
      ·try simp only [nn,uAi,T.rows_len,Fs.rows_len,Sp.rows_len,Gl.rows_len] at hc6
       have hf : frE uAH (n.fresh.getD k default)=10:=by rw [frE,if_neg hnn,if_pos (by omega)]
       have he:=hd.1 (by rw [hf]; simp)
       rw [he,hf] at hh
       rw [if_pos (by simp)] at hh
       refine uAe (uAb ?_);refine uAa rfl rfl rfl (uAd rfl gU) ?_;refine uAf ?_;refine uAp ?_
       repeat (first | refine tR ?_ | refine bR ?_)
       refine uAs rfl ?_ trivial
       (rw [narE,if_pos (by rw [hh]; simp),hh]; rfl)
      ·try simp only [nn,uAi,T.rows_len,Fs.rows_len,Sp.rows_len,Gl.rows_len] at hc6
       have hf : frE uAH (n.fresh.getD k default)=0:=by rw [frE,if_neg hnn,if_neg (by omega)]
       refine uAo ?_;refine uAb ?_;refine uAa rfl rfl rfl (uAc rfl gU) ?_;refine uAa rfl rfl rfl (uAr rfl rfl gU gU rfl (IntWalk.i64_in _ (by omega))) ?_;refine uAa rfl rfl rfl (uAd rfl gU) ?_;refine uAf ?_;refine ⟨k + 1,?_,?_,uAj (⟨⟨_,rfl,?_⟩,⟨sx rfl,trivial⟩⟩) (⟨sx rfl,trivial⟩) trivial⟩
       all_goals first | rfl | omega | exact ⟨by omega,hd.2 hf⟩
    ·try simp only [nn,uAi,T.rows_len,Fs.rows_len,Sp.rows_len,Gl.rows_len] at hc4
     rw [uH8 (by omega)] at hi
     rw [← hi,if_neg (by simp)] at hh
     refine uAM ?_
     repeat (first | refine uAD ?_ | refine uAE ?_ | refine uAC rfl ?_)
     refine uAe ?_;refine uAe (uAb ?_);refine uAa rfl rfl rfl (uAg rfl gU rfl rfl) ?_;refine uAa rfl rfl rfl (uAl rfl gU rfl rfl rfl rfl) ?_;refine uAx rfl rfl rfl rfl rfl rfl gU gU (uDE _) rfl ?_;refine uAa rfl rfl rfl (uAV rfl gU) ?_;refine uAf ?_;refine uAm rfl (fun hc5=>?_) (fun hc5=>?_)
     ·try simp only [nn,uAi,T.rows_len,Fs.rows_len,Sp.rows_len,Gl.rows_len] at hc5
      rw [if_pos hc5] at hh
      refine uAe (uAb ?_);refine uAa rfl rfl rfl (uAd rfl gU) ?_;refine uAf ?_;refine uAp ?_
      repeat (first | refine tR ?_ | refine bR ?_)
      refine uAs rfl ?_ trivial
      (rw [narE,if_pos (by rw [hh]; simp),hh]; rfl)
     ·try simp only [nn,uAi,T.rows_len,Fs.rows_len,Sp.rows_len,Gl.rows_len] at hc5
      rw [if_neg (by rw [hc5]; simp)] at hh
      have hN : narE uAH n=(if errs (spE uAH) n.steps≠0 then errs (spE uAH) n.steps else errs (uB4 uAH) n.goals):=by rw [narE,if_neg (by rw [hh]; simp)]
      refine uAo ?_;refine uAe ?_;refine uAe (uAb ?_);refine uAa rfl rfl rfl (uAd rfl gU) ?_;refine uAf ?_;refine uAn (s:=⟨[(1,_,_),(6,_,_)],[(.l 1,_)],[],[]⟩) (uAj (⟨sx rfl,sx rfl,trivial⟩) (⟨sx rfl,trivial⟩) trivial) ?_;refine uAt ?_;refine uAW (ι:=Nat) { t:=[(1,_,_)],bx:=[(.l 1,_)],ow:=[] } (fun j=>[(6,true,xi (j : Int))]) (fun j=>[]) (fun j=>j≤n.steps.length∧errs (spE uAH) (n.steps.drop j)=errs (spE uAH) n.steps) (fun j=>n.steps.length - j) (0) (⟨by simp,rfl⟩) (uAj (⟨sx rfl,sx rfl,trivial⟩) (⟨sx rfl,trivial⟩) trivial) ?_
      intro j hokj
      dsimp only [List.cons_append,List.nil_append]
      obtain ⟨hj,hij⟩:=hokj
      refine uAe ?_;refine uAe (uAb ?_);refine uAa rfl rfl rfl (uAc rfl gU) ?_;refine uAa rfl rfl rfl (uAg rfl gU rfl rfl) ?_;refine uAa rfl rfl rfl (uAl rfl gU rfl rfl rfl rfl) ?_;refine uAL rfl rfl rfl rfl rfl gU rfl rfl ?_ (fun hh=>by simp at hh); intro hlen;refine uAa rfl rfl rfl (uAk rfl rfl gU gU rfl) ?_;refine uAf ?_;refine uAn (s:=⟨[(1,_,_),(6,_,_),(63,_,_)],[(.l 1,_)],[],[]⟩) (uAj (⟨sx rfl,sx rfl,sx rfl,trivial⟩) (⟨sx rfl,trivial⟩) trivial) ?_;refine uAm rfl (fun hc6=>?_) (fun hc6=>?_)
      ·try simp only [nn,uAi,T.rows_len,Fs.rows_len,Sp.rows_len,Gl.rows_len] at hc6
       have hlt : j < n.steps.length:=by omega
       have hd:=uCn (d:=default) hlt hij
       have hmem:=hs _ (uBv (d:=default) hlt)
       have hn2:=uDE [(n.steps.getD j default).frm,(n.steps.getD j default).dst]
       refine uAo ?_;refine uAe ?_;refine uAt ?_;refine uAe ?_;refine uAe ?_;refine awp_drawn' (by kernel_rfl) ?_;refine uAh rfl rfl rfl rfl (uAg rfl gU rfl rfl) ?_;refine uAS rfl rfl rfl rfl rfl rfl rfl gU rfl rfl rfl rfl ?_;refine uAh rfl rfl rfl rfl (uAc rfl gU) ?_;refine uAh rfl rfl rfl rfl (uAq rfl rfl gU gU rfl rfl rfl (fun hh=>Sp.rows_at (by first | omega | (simp at hh ⊢; omega)))) ?_;refine uAh rfl rfl rfl rfl (uAP rfl gU rfl rfl) ?_;refine uAh rfl rfl rfl rfl (uAI rfl gU rfl rfl rfl) ?_;refine uAh rfl rfl rfl rfl (uAg rfl gU rfl rfl) ?_;refine uAS rfl rfl rfl rfl rfl rfl rfl gU rfl rfl rfl rfl ?_;refine uAh rfl rfl rfl rfl (uAc rfl gU) ?_;refine uAh rfl rfl rfl rfl (uAq rfl rfl gU gU rfl rfl rfl (fun hh=>Sp.rows_at (by first | omega | (simp at hh ⊢; omega)))) ?_;refine uAh rfl rfl rfl rfl (uAP rfl gU rfl rfl) ?_;refine uAh rfl rfl rfl rfl (uAI rfl gU rfl rfl rfl) ?_;refine uCt (xs:=[_,_]) rfl rfl rfl rfl rfl rfl rfl rfl rfl rfl gU rfl ?_;refine uA4 rfl rfl rfl rfl rfl rfl rfl gU gU (hn2) rfl ?_;refine uAh rfl rfl rfl rfl (uAV rfl gU) ?_;refine uA8 (by kernel_rfl) ?_;refine uAn (s:=⟨[(1,_,_),(6,_,_),(80,_,_)],[(.l 1,_)],[],[]⟩) (uAj (⟨sx rfl,sx rfl,sx rfl,trivial⟩) (⟨sx rfl,trivial⟩) trivial) ?_;refine uAm rfl (fun hc7=>?_) (fun hc7=>?_)
       ·try simp only [nn,uAi,T.rows_len,Fs.rows_len,Sp.rows_len,Gl.rows_len] at hc7
        have hf : spE uAH (n.steps.getD j default)=2:=by rw [spE,if_pos (by simpa [Decidable.or_iff_not_imp_left] using hc7)]
        have he:=hd.1 (by rw [hf]; simp)
        rw [he,hf,if_pos (by simp)] at hN
        refine uAe (uAb ?_);refine uAa rfl rfl rfl (uAd rfl gU) ?_;refine uAf ?_;refine uAp ?_
        repeat (first | refine tR ?_ | refine bR ?_)
        refine uAs rfl ?_ trivial
        (rw [hN]; rfl)
       ·try simp only [nn,uAi,T.rows_len,Fs.rows_len,Sp.rows_len,Gl.rows_len] at hc7
        have hnn : ¬(uAH (n.steps.getD j default).frm=false∨uAH (n.steps.getD j default).dst=false):=by
         simp at hc7 ⊢; simp [hc7]
        have hf : spE uAH (n.steps.getD j default)=msgE uAH (n.steps.getD j default).msg:=by rw [spE,if_neg hnn]
        rw [hf] at hd
        refine uAo ?_;refine uAe (uAb ?_);refine uAa rfl rfl rfl (uAg rfl gU rfl rfl) ?_;refine uAa rfl rfl rfl (uAl rfl gU rfl rfl rfl rfl) ?_;refine uAa rfl rfl rfl (uAc rfl gU) ?_;refine uAa rfl rfl rfl (uAq rfl rfl gU gU rfl rfl rfl (fun hh=>Sp.rows_at (by first | omega | (simp at hh ⊢; omega)))) ?_;refine uAa rfl rfl rfl (uAP rfl gU rfl rfl) ?_;refine uAa rfl rfl rfl (uAF rfl gU rfl rfl rfl rfl) ?_;refine uAx rfl rfl rfl rfl rfl rfl gU gU (uE6 _ hmem) rfl ?_;refine uAa rfl rfl rfl (uAd rfl gU) ?_;refine uAf ?_;refine uAn (s:=⟨[(1,_,_),(6,_,_),(7,_,_)],[(.l 1,_)],[],[]⟩) (uAj (⟨sx rfl,sx rfl,sx rfl,trivial⟩) (⟨sx rfl,trivial⟩) trivial) ?_;refine uAe (uAb ?_);refine uAa rfl rfl rfl (uAc rfl gU) ?_;refine uAa rfl rfl rfl (uAk rfl rfl gU gU rfl) ?_;refine uAf ?_;refine uAm rfl (fun hc8=>?_) (fun hc8=>?_)
        ·try simp only [nn,uAi,T.rows_len,Fs.rows_len,Sp.rows_len,Gl.rows_len] at hc8
         have he:=hd.1 hc8
         rw [he,if_pos hc8] at hN
         refine uAe (uAb ?_);refine uAa rfl rfl rfl (uAc rfl gU) ?_;refine uAa rfl rfl rfl (uAd rfl gU) ?_;refine uAf ?_;refine uAp ?_
         repeat (first | refine tR ?_ | refine bR ?_)
         refine uAs rfl ?_ trivial
         (rw [hN]; rfl)
        ·try simp only [nn,uAi,T.rows_len,Fs.rows_len,Sp.rows_len,Gl.rows_len] at hc8
         refine uAo ?_;refine uAb ?_;refine uAa rfl rfl rfl (uAc rfl gU) ?_;refine uAa rfl rfl rfl (uAr rfl rfl gU gU rfl (IntWalk.i64_in _ (by omega))) ?_;refine uAa rfl rfl rfl (uAd rfl gU) ?_;refine uAf ?_;refine ⟨j + 1,?_,?_,uAj (⟨⟨_,rfl,?_⟩,⟨sx rfl,trivial⟩⟩) (⟨sx rfl,trivial⟩) trivial⟩
         all_goals first | rfl | omega | exact ⟨by omega,hd.2 hc8⟩
      ·try simp only [nn,uAi,T.rows_len,Fs.rows_len,Sp.rows_len,Gl.rows_len] at hc6
       rw [uH8 (by omega)] at hij
       rw [← hij,if_neg (by simp)] at hN
       refine uAM ?_
       repeat (first | refine uAD ?_ | refine uAE ?_ | refine uAC rfl ?_)
       refine uAe ?_;refine uAe (uAb ?_);refine uAa rfl rfl rfl (uAd rfl gU) ?_;refine uAf ?_;refine uAt ?_;refine uAW (ι:=Nat) { t:=[(1,_,_)],bx:=[(.l 1,_)],ow:=[] } (fun i=>[(8,true,xi (i : Int))]) (fun i=>[]) (fun i=>i≤n.goals.length∧errs (uB4 uAH) (n.goals.drop i)=errs (uB4 uAH) n.goals) (fun i=>n.goals.length - i) (0) (⟨by simp,rfl⟩) (uAj (⟨sx rfl,sx rfl,trivial⟩) (⟨sx rfl,trivial⟩) trivial) ?_
       intro i hoki
       dsimp only [List.cons_append,List.nil_append]
       obtain ⟨hi2,hii⟩:=hoki
       refine uAe ?_;refine uAe (uAb ?_);refine uAa rfl rfl rfl (uAc rfl gU) ?_;refine uAa rfl rfl rfl (uAg rfl gU rfl rfl) ?_;refine uAa rfl rfl rfl (uAl rfl gU rfl rfl rfl rfl) ?_;refine uAL rfl rfl rfl rfl rfl gU rfl rfl ?_ (fun hh=>by simp at hh); intro hlen;refine uAa rfl rfl rfl (uAk rfl rfl gU gU rfl) ?_;refine uAf ?_;refine uAn (s:=⟨[(1,_,_),(8,_,_),(95,_,_)],[(.l 1,_)],[],[]⟩) (uAj (⟨sx rfl,sx rfl,sx rfl,trivial⟩) (⟨sx rfl,trivial⟩) trivial) ?_;refine uAm rfl (fun hc7=>?_) (fun hc7=>?_)
       ·try simp only [nn,uAi,T.rows_len,Fs.rows_len,Sp.rows_len,Gl.rows_len] at hc7
        have hlt : i < n.goals.length:=by omega
        have hd:=uCn (d:=default) hlt hii
        have hmem:=hg _ (uBv (d:=default) hlt)
        refine uAo ?_;refine uAe ?_;refine uAt ?_;refine uAe (uAb ?_);refine uAa rfl rfl rfl (uAg rfl gU rfl rfl) ?_;refine uAa rfl rfl rfl (uAl rfl gU rfl rfl rfl rfl) ?_;refine uAa rfl rfl rfl (uAc rfl gU) ?_;refine uAa rfl rfl rfl (uAq rfl rfl gU gU rfl rfl rfl (fun hh=>Gl.rows_at (by first | omega | (simp at hh ⊢; omega)))) ?_;refine uAa rfl rfl rfl (uAF rfl gU rfl rfl rfl rfl) ?_;refine uAx rfl rfl rfl rfl rfl rfl gU gU (uK9 _ hmem) rfl ?_;refine uAa rfl rfl rfl (uAd rfl gU) ?_;refine uAf ?_;refine uAn (s:=⟨[(1,_,_),(8,_,_),(9,_,_)],[(.l 1,_)],[],[]⟩) (uAj (⟨sx rfl,sx rfl,sx rfl,trivial⟩) (⟨sx rfl,trivial⟩) trivial) ?_;refine uAe (uAb ?_);refine uAa rfl rfl rfl (uAc rfl gU) ?_;refine uAa rfl rfl rfl (uAk rfl rfl gU gU rfl) ?_;refine uAf ?_;refine uAm rfl (fun hc1=>?_) (fun hc1=>?_)
        ·try simp only [nn,uAi,T.rows_len,Fs.rows_len,Sp.rows_len,Gl.rows_len] at hc1
         refine uAe (uAb ?_);refine uAa rfl rfl rfl (uAc rfl gU) ?_;refine uAa rfl rfl rfl (uAd rfl gU) ?_;refine uAf ?_;refine uAp ?_
         repeat (first | refine tR ?_ | refine bR ?_)
         refine uAs rfl ?_ trivial
         (rw [hN,hd.1 (by assumption)]; rfl)
        ·try simp only [nn,uAi,T.rows_len,Fs.rows_len,Sp.rows_len,Gl.rows_len] at hc1
         refine uAo ?_;refine uAb ?_;refine uAa rfl rfl rfl (uAc rfl gU) ?_;refine uAa rfl rfl rfl (uAr rfl rfl gU gU rfl (IntWalk.i64_in _ (by omega))) ?_;refine uAa rfl rfl rfl (uAd rfl gU) ?_;refine uAf ?_;refine ⟨i + 1,?_,?_,uAj (⟨⟨_,rfl,?_⟩,⟨sx rfl,trivial⟩⟩) (⟨sx rfl,trivial⟩) trivial⟩
         all_goals (first | rfl | omega | exact ⟨by omega,hd.2 (by assumption)⟩)
       ·try simp only [nn,uAi,T.rows_len,Fs.rows_len,Sp.rows_len,Gl.rows_len] at hc7
        rw [uH8 (by omega)] at hii
        refine uAM ?_
        repeat (first | refine uAD ?_ | refine uAE ?_ | refine uAC rfl ?_)
        refine uAe (uAb ?_);refine uAa rfl rfl rfl (uAd rfl gU) ?_;refine uAf ?_;refine uAp ?_
        repeat (first | refine tR ?_ | refine bR ?_)
        refine uAs rfl ?_ trivial
        (rw [hN,← hii]; rfl)
end Go.Proofs.YtnjjdbapadkomaaGreatDoor
namespace Go.Proofs.YtnjjdbapadkomaaGreatDoor
open Go Go.Abs
theorem uNI (t : T) (s : List UInt8) : Ctr sys 139 [xm t,xs s] [] (xb (decide (t.kind=3) && decide (t.name=s))) none []:=by
 refine uAy Tryz.func139 rfl rfl rfl rfl rfl rfl ?_;refine uAe (uAb ?_);refine uAw rfl (uAX rfl rfl rfl rfl) ?_;refine uAa rfl rfl rfl (uAd rfl gU) ?_;refine uAf ?_;refine uAe (uAb ?_);refine uAa rfl rfl rfl (uAg rfl gU rfl rfl) ?_;refine uAa rfl rfl rfl (uAl rfl gU rfl rfl rfl rfl) ?_;refine uAa rfl rfl rfl (uAk rfl rfl gU gU rfl) ?_;refine uAa rfl rfl rfl (uAc rfl gU) ?_;refine uAa rfl rfl rfl (uAg rfl gU rfl rfl) ?_;refine uAa rfl rfl rfl (uAl rfl (fun hh=>hh) rfl rfl rfl rfl) ?_;refine uAa rfl rfl rfl (uAc rfl gU) ?_;refine uAa rfl rfl rfl (uAZ rfl rfl (fun hh=>hh) (fun hh=>hh) rfl) ?_;refine uAa rfl rfl rfl (uAR rfl rfl gU (fun _ hi=>gP rfl hi)) ?_;refine uAa rfl rfl rfl (uAd rfl gU) ?_;refine uAf ?_;refine uAp ?_
 repeat (first | refine tR ?_ | refine bR ?_)
 refine uAs rfl ?_ trivial;refine uCa ?_
 rw [Bool.eq_iff_iff]; simp
theorem uNf : ∀ (n : Nat) (t : T),t.size≤n→n≤900000→Ctr sys 98 [xm t] [] (xl (untE t)) none []:=by
 intro n
 induction n with
 | zero=>intro t h; have := t.size_pos; omega
 | succ n ih =>
  intro t ht hn
  have hrl:=T.rows_len t.kids
  have hu:=uD0 t
  refine uAy Tryz.func98 rfl rfl rfl rfl rfl rfl ?_;refine uAe (uAb ?_);refine uAw rfl (uAX rfl rfl rfl rfl) ?_;refine uAw rfl (uBq (.inr rfl) rfl rfl) ?_;refine uAf ?_;refine uAe ?_;refine uAe (uAb ?_);refine uAa rfl rfl rfl (uAv rfl gU rfl rfl rfl rfl rfl) ?_;refine uAx rfl rfl rfl rfl rfl rfl gU gU (uNI _ _) rfl ?_;refine uAa rfl rfl rfl (uAV rfl gU) ?_;refine uAa rfl rfl rfl (uAc rfl gU) ?_;refine uAa rfl rfl rfl (uAg rfl gU rfl rfl) ?_;refine uAa rfl rfl rfl (uAl rfl (fun hh=>hh) rfl rfl rfl rfl) ?_;refine uAa rfl rfl rfl (uAY rfl (fun hh=>hh) rfl rfl) ?_;refine uAa rfl rfl rfl (uAk rfl rfl (fun hh=>hh) gU rfl) ?_;refine uAa rfl rfl rfl (uAK rfl rfl gU (fun _ hi=>gP rfl hi)) ?_;refine uAf ?_;refine uAn (s:=⟨[(1,_,_),(11,_,_)],[(.l 1,_)],[],[]⟩) (uAj (⟨sx rfl,sx rfl,trivial⟩) (⟨sx rfl,trivial⟩) trivial) ?_;refine uAm rfl (fun hc=>?_) (fun hc=>?_)
  ·try simp only [nn,uAi,T.rows_len,Fs.rows_len,Sp.rows_len,Gl.rows_len] at hc
   have hp : ¬uB5 t=true:=by simp only [uB5]; grind [wPair]
   rw [if_neg hp] at hu
   refine uAe (uAb ?_);refine uAa rfl rfl rfl (uAv rfl gU rfl rfl rfl rfl rfl) ?_;refine uAQ (xs:=[_]) rfl rfl rfl rfl rfl rfl rfl rfl rfl gU rfl ?_;refine uAw rfl (uAN (.inr rfl) rfl rfl rfl) ?_;refine uAf ?_;refine uAp ?_
   repeat (first | refine tR ?_ | refine bR ?_)
   refine uAs rfl ?_ trivial
   (rw [hu]; exact congrArg (fun z=>X.v (.c (.sl 4 z))) (by simp [T.rows_eq,T.cells]))
  ·try simp only [nn,uAi,T.rows_len,Fs.rows_len,Sp.rows_len,Gl.rows_len] at hc
   have hp : uB5 t=true:=by simp only [uB5]; grind [wPair]
   have hps:=uCl hp
   have h0:=(t.kids.getD 0 default).size_pos
   have h1:=(t.kids.getD 1 default).size_pos
   have hul:=(uEH (t.kids.getD 1 default).size (t.kids.getD 1 default)).2
   have hul2:=T.rows_len (untE (t.kids.getD 1 default))
   have hul3 : (untE (t.kids.getD 1 default)).length≤900000:=by unfold untE; omega
   have hk : t.kids.length=2:=by grind
   rw [if_pos hp] at hu
   refine uAo ?_;refine uAe ?_;refine awp_drawn' (by kernel_rfl) ?_;refine uAh rfl rfl rfl rfl (uAg rfl gU rfl rfl) ?_;refine uAS rfl rfl rfl rfl rfl rfl rfl gU rfl rfl rfl rfl ?_;refine uAh rfl rfl rfl rfl (uAq (j:=0) rfl rfl gU gU rfl rfl (by first | omega | (simp at hh ⊢; omega)) (fun hh=>T.rows_at (by first | omega | (simp at hh ⊢; omega)))) ?_;refine uAh rfl rfl rfl rfl (uAF rfl gU rfl rfl rfl rfl) ?_;refine uCt (xs:=[_]) rfl rfl rfl rfl rfl rfl rfl rfl rfl rfl gU rfl ?_;refine uAh rfl rfl rfl rfl (uAg rfl gU rfl rfl) ?_;refine uAS rfl rfl rfl rfl rfl rfl rfl gU rfl rfl rfl rfl ?_;refine uAh rfl rfl rfl rfl (uAq (j:=1) rfl rfl gU gU rfl rfl (by first | omega | (simp at hh ⊢; omega)) (fun hh=>T.rows_at (by first | omega | (simp at hh ⊢; omega)))) ?_;refine uAh rfl rfl rfl rfl (uAF rfl gU rfl rfl rfl rfl) ?_;refine uA4 rfl rfl rfl rfl rfl rfl rfl gU gU (ih (t.kids.getD 1 default) (by omega) (by omega)) rfl ?_;refine uCd rfl rfl rfl rfl rfl (rko (ak rfl (ak rfl (ak rfl (ak rfl (ak rfl (rfl))))))) rfl rfl rfl rfl rfl (by first | omega | (simp only [List.length_cons,List.length_nil]; omega)) (by first | omega | (simp only [List.length_cons,List.length_nil]; omega)) ?_;refine uEP rfl (.inr rfl) rfl rfl rfl rfl rfl ?_;refine uA8 (by kernel_rfl) ?_;refine uAp ?_
   repeat (first | refine tR ?_ | refine bR ?_)
   refine uAs rfl ?_ trivial
   rw [hu,xl]
   exact congrArg (fun z=>X.v (.c (.sl 4 z))) (by simp [T.rows_eq,T.cells])
theorem uI3 {α : Type} (f : α→List UInt8) {l : List α} {d : α} {k : Nat} (h : k < l.length) : Lib.join ((l.take (k + 1)).map f) [44,32]=(if 0 < k then Lib.join ((l.take k).map f) [44,32]++[44,32] else Lib.join ((l.take k).map f) [44,32])++f (l.getD k d):=by
 rw [map_take (d:=d) f h]
 split
 ·rename_i hk
  rw [uI4 _ _ _ (by intro q; have := congrArg List.length q; rw [List.length_map,List.length_take] at this; simp only [List.length_nil] at this; omega),List.append_assoc]
 ·rename_i hk
  obtain rfl : k=0:=by omega
  simp [uFH,Lib.join_nil]
theorem uLl {α : Type} (f : α→List UInt8) {l : List α} {M : Nat} (h : ∀ x ∈ l,(f x).length≤M) (k : Nat) : (Lib.join ((l.take k).map f) [44,32]).length≤(M + 2) * l.length:=by
 have h1:=uJu (L:=(l.take k).map f) (M:=M) fun x hx=>by
  obtain ⟨y,hy,rfl⟩:=List.mem_map.1 hx
  exact h y (List.mem_of_mem_take hy)
 have h2 : ((l.take k).map f).length≤l.length:=by rw [List.length_map]; exact List.length_take_le' k l
 exact Nat.le_trans h1 (Nat.mul_le_mul_left _ h2)
theorem uGv (l : List (List UInt8)) (hl : l.length≤1000) (hw : ∀ w ∈ l,w.length≤1000) : Ctr sys 45 [xss l] [] (xs (Lib.join l [44,32])) none []:=by
 have hrl:=uAi l
 have hj:=uLl (fun w=>w) hw
 have hb:=Nat.mul_le_mul_left (1000 + 2) hl
 refine uAy Tryz.func45 rfl rfl rfl rfl rfl rfl ?_;refine uAe (uAb ?_);refine uAa rfl rfl rfl (uAd rfl gU) ?_;refine uAf ?_;refine uAe (uAb ?_);refine uAa rfl rfl rfl (uAd rfl gU) ?_;refine uAf ?_;refine uAe ?_;refine uAe (uAb ?_);refine uAa rfl rfl rfl (uAd rfl gU) ?_;refine uAf ?_;refine uAt ?_;refine uAW (ι:=Nat) { t:=[(0,_,_)],bx:=[],ow:=[] } (fun k=>[(4,true,xi (k : Int)),(3,true,xs (Lib.join ((l.take k).map fun w=>w) [44,32]))]) (fun k=>[]) (fun k=>k≤l.length) (fun k=>l.length - k) (0) (by simp) (uAj (⟨sx rfl,sx rfl,sx rfl,trivial⟩) trivial trivial) ?_
 intro k hok
 dsimp only [List.cons_append,List.nil_append]
 have hjk:=hj k
 refine uAe ?_;refine uAe (uAb ?_);refine uAa rfl rfl rfl (uAc rfl gU) ?_;refine uAa rfl rfl rfl (uAc rfl gU) ?_;refine uAL rfl rfl rfl rfl rfl gU rfl rfl ?_ (fun hh=>by simp at hh); intro hlen;refine uAa rfl rfl rfl (uAk rfl rfl gU gU rfl) ?_;refine uAf ?_;refine uAm rfl (fun hc=>?_) (fun hc=>?_)
 ·try simp only [nn,uAi,T.rows_len,Fs.rows_len,Sp.rows_len,Gl.rows_len] at hc
  have hlt : k < l.length:=by omega
  have hwk:=hw _ (uBv (d:=[]) hlt)
  have hs:=uI3 (fun w=>w) (d:=[]) hlt
  refine uAo ?_;refine uAe ?_;refine uAt ?_;refine uAe ?_;refine uAe (uAb ?_);refine uAa rfl rfl rfl (uAc rfl gU) ?_;refine uAa rfl rfl rfl (uAk rfl rfl gU gU rfl) ?_;refine uAf ?_;refine uAn (s:=⟨[(0,_,_),(3,_,_),(4,_,_),(12,_,_)],[],[],[]⟩) (uAj (⟨sx rfl,sx rfl,sx rfl,sx rfl,trivial⟩) trivial trivial) ?_;refine uAm rfl (fun hc2=>?_) (fun hc2=>?_)
  ·try simp only [nn,uAi,T.rows_len,Fs.rows_len,Sp.rows_len,Gl.rows_len] at hc2
   rw [if_pos (by omega)] at hs
   refine uAb ?_;refine uAa rfl rfl rfl (uAc rfl gU) ?_;refine uAa rfl rfl rfl (uAu rfl rfl gU gU (by first | omega | (simp only [List.length_append,List.length_cons,List.length_nil]; omega))) ?_;refine uAa rfl rfl rfl (uAd rfl gU) ?_;refine uAf ?_;refine uAb ?_;refine uAa rfl rfl rfl (uAc rfl gU) ?_;refine uAa rfl rfl rfl (uAc rfl gU) ?_;refine uAa rfl rfl rfl (uAc rfl gU) ?_;refine uAa rfl rfl rfl (uAq rfl rfl gU gU rfl rfl rfl (fun hh=>uBW (by first | omega | (simp at hh ⊢; omega)))) ?_;refine uAa rfl rfl rfl (uAI rfl gU rfl rfl rfl) ?_;refine uAa rfl rfl rfl (uAu rfl rfl gU gU (by first | omega | (simp only [List.length_append,List.length_cons,List.length_nil]; omega))) ?_;refine uAa rfl rfl rfl (uAd rfl gU) ?_;refine uAf ?_;refine uAn (s:=⟨[(0,_,_),(3,_,_),(4,_,_)],[],[],[]⟩) (uAj (⟨sx rfl,sx rfl,sx rfl,trivial⟩) trivial trivial) ?_;refine uAb ?_;refine uAa rfl rfl rfl (uAc rfl gU) ?_;refine uAa rfl rfl rfl (uAr rfl rfl gU gU rfl (IntWalk.i64_in _ (by omega))) ?_;refine uAa rfl rfl rfl (uAd rfl gU) ?_;refine uAf ?_;refine ⟨k + 1,?_,?_,uAj (⟨⟨_,rfl,?_⟩,⟨⟨_,rfl,?_⟩,⟨sx rfl,trivial⟩⟩⟩) trivial trivial⟩
   all_goals first | rfl | omega | exact tx (by rw [hs])
  ·try simp only [nn,uAi,T.rows_len,Fs.rows_len,Sp.rows_len,Gl.rows_len] at hc2
   rw [if_neg (by omega)] at hs
   refine uAo ?_;refine uAb ?_;refine uAa rfl rfl rfl (uAc rfl gU) ?_;refine uAa rfl rfl rfl (uAc rfl gU) ?_;refine uAa rfl rfl rfl (uAc rfl gU) ?_;refine uAa rfl rfl rfl (uAq rfl rfl gU gU rfl rfl rfl (fun hh=>uBW (by first | omega | (simp at hh ⊢; omega)))) ?_;refine uAa rfl rfl rfl (uAI rfl gU rfl rfl rfl) ?_;refine uAa rfl rfl rfl (uAu rfl rfl gU gU (by first | omega | (simp only [List.length_append,List.length_cons,List.length_nil]; omega))) ?_;refine uAa rfl rfl rfl (uAd rfl gU) ?_;refine uAf ?_;refine uAn (s:=⟨[(0,_,_),(3,_,_),(4,_,_)],[],[],[]⟩) (uAj (⟨sx rfl,sx rfl,sx rfl,trivial⟩) trivial trivial) ?_;refine uAb ?_;refine uAa rfl rfl rfl (uAc rfl gU) ?_;refine uAa rfl rfl rfl (uAr rfl rfl gU gU rfl (IntWalk.i64_in _ (by omega))) ?_;refine uAa rfl rfl rfl (uAd rfl gU) ?_;refine uAf ?_;refine ⟨k + 1,?_,?_,uAj (⟨⟨_,rfl,?_⟩,⟨⟨_,rfl,?_⟩,⟨sx rfl,trivial⟩⟩⟩) trivial trivial⟩
   all_goals first | rfl | omega | exact tx (by rw [hs])
 ·try simp only [nn,uAi,T.rows_len,Fs.rows_len,Sp.rows_len,Gl.rows_len] at hc
  have hk : k=l.length:=by omega
  subst hk
  refine uAM ?_
  repeat (first | refine uAD ?_ | refine uAE ?_ | refine uAC rfl ?_)
  refine uAe (uAb ?_);refine uAa rfl rfl rfl (uAc rfl gU) ?_;refine uAa rfl rfl rfl (uAd rfl gU) ?_;refine uAf ?_;refine uAp ?_
  repeat (first | refine tR ?_ | refine bR ?_)
  refine uAs rfl ?_ trivial
  (rw [List.take_length,List.map_id']; rfl)
theorem uHx (n : Nat) (ih : ∀ t : T,t.size≤n→okB t=true→Ctr sys 47 [xm t] [] (xs (uBD t)) none []) (l : List T) (hl : ∀ x ∈ l,x.size≤n) (ho : ∀ x ∈ l,okB x=true) (hs : T.sizes l≤900000) :
  Ctr sys 99 [xl l] [] (xs (uBU l)) none []:=by
 have hrl:=T.rows_len l
 have hls:=T.len_sizes l
 have hte : ∀ k,(Lib.join ((l.take k).map uBD) [44,32]).length≤28 * 900000:=fun k=>by
  have h1:=uHb (l:=l.take k) fun x hx=>ho x (List.mem_of_mem_take hx)
  have h2:=T.sizes_take_le l k
  unfold uBU at h1; omega
 refine uAy Tryz.func99 rfl rfl rfl rfl rfl rfl ?_;refine uAe (uAb ?_);refine uAa rfl rfl rfl (uAd rfl gU) ?_;refine uAf ?_;refine uAe (uAb ?_);refine uAa rfl rfl rfl (uAd rfl gU) ?_;refine uAf ?_;refine uAe ?_;refine uAe (uAb ?_);refine uAa rfl rfl rfl (uAd rfl gU) ?_;refine uAf ?_;refine uAt ?_;refine uAW (ι:=Nat) { t:=[(0,_,_)],bx:=[],ow:=[] } (fun k=>[(4,true,xi (k : Int)),(3,true,xs (Lib.join ((l.take k).map uBD) [44,32]))]) (fun k=>[]) (fun k=>k≤l.length) (fun k=>l.length - k) (0) (by simp) (uAj (⟨sx rfl,sx rfl,sx rfl,trivial⟩) trivial trivial) ?_
 intro k hok
 dsimp only [List.cons_append,List.nil_append]
 have hjk:=hte k
 refine uAe ?_;refine uAe (uAb ?_);refine uAa rfl rfl rfl (uAc rfl gU) ?_;refine uAa rfl rfl rfl (uAc rfl gU) ?_;refine uAL rfl rfl rfl rfl rfl gU rfl rfl ?_ (fun hh=>by simp at hh); intro hlen;refine uAa rfl rfl rfl (uAk rfl rfl gU gU rfl) ?_;refine uAf ?_;refine uAm rfl (fun hc=>?_) (fun hc=>?_)
 ·try simp only [nn,uAi,T.rows_len,Fs.rows_len,Sp.rows_len,Gl.rows_len] at hc
  have hlt : k < l.length:=by omega
  have hm:=uBv (d:=default) hlt
  have hwk:=uFL (ho _ hm)
  have hsk:=T.getD_size hlt
  have hs:=uI3 uBD (d:=default) hlt
  refine uAo ?_;refine uAe ?_;refine uAt ?_;refine uAe ?_;refine uAe (uAb ?_);refine uAa rfl rfl rfl (uAc rfl gU) ?_;refine uAa rfl rfl rfl (uAk rfl rfl gU gU rfl) ?_;refine uAf ?_;refine uAn (s:=⟨[(0,_,_),(3,_,_),(4,_,_),(12,_,_)],[],[],[]⟩) (uAj (⟨sx rfl,sx rfl,sx rfl,sx rfl,trivial⟩) trivial trivial) ?_;refine uAm rfl (fun hc2=>?_) (fun hc2=>?_)
  ·try simp only [nn,uAi,T.rows_len,Fs.rows_len,Sp.rows_len,Gl.rows_len] at hc2
   rw [if_pos (by omega)] at hs
   refine uAb ?_;refine uAa rfl rfl rfl (uAc rfl gU) ?_;refine uAa rfl rfl rfl (uAu rfl rfl gU gU (by first | omega | (simp only [List.length_append,List.length_cons,List.length_nil]; omega))) ?_;refine uAa rfl rfl rfl (uAd rfl gU) ?_;refine uAf ?_;refine uAb ?_;refine uAa rfl rfl rfl (uAc rfl gU) ?_;refine uAa rfl rfl rfl (uAc rfl gU) ?_;refine uAa rfl rfl rfl (uAc rfl gU) ?_;refine uAa rfl rfl rfl (uAq rfl rfl gU gU rfl rfl rfl (fun hh=>T.rows_at (by first | omega | (simp at hh ⊢; omega)))) ?_;refine uAa rfl rfl rfl (uAF rfl gU rfl rfl rfl rfl) ?_;refine uAx rfl rfl rfl rfl rfl rfl gU gU (ih (l.getD k default) (hl _ hm) (ho _ hm)) rfl ?_;refine uAa rfl rfl rfl (uAu rfl rfl gU gU (by first | omega | (simp only [List.length_append,List.length_cons,List.length_nil]; omega))) ?_;refine uAa rfl rfl rfl (uAd rfl gU) ?_;refine uAf ?_;refine uAn (s:=⟨[(0,_,_),(3,_,_),(4,_,_)],[],[],[]⟩) (uAj (⟨sx rfl,sx rfl,sx rfl,trivial⟩) trivial trivial) ?_;refine uAb ?_;refine uAa rfl rfl rfl (uAc rfl gU) ?_;refine uAa rfl rfl rfl (uAr rfl rfl gU gU rfl (IntWalk.i64_in _ (by omega))) ?_;refine uAa rfl rfl rfl (uAd rfl gU) ?_;refine uAf ?_;refine ⟨k + 1,?_,?_,uAj (⟨⟨_,rfl,?_⟩,⟨⟨_,rfl,?_⟩,⟨sx rfl,trivial⟩⟩⟩) trivial trivial⟩
   all_goals first | rfl | omega | exact tx (by rw [hs])
  ·try simp only [nn,uAi,T.rows_len,Fs.rows_len,Sp.rows_len,Gl.rows_len] at hc2
   rw [if_neg (by omega)] at hs
   refine uAo ?_;refine uAb ?_;refine uAa rfl rfl rfl (uAc rfl gU) ?_;refine uAa rfl rfl rfl (uAc rfl gU) ?_;refine uAa rfl rfl rfl (uAc rfl gU) ?_;refine uAa rfl rfl rfl (uAq rfl rfl gU gU rfl rfl rfl (fun hh=>T.rows_at (by first | omega | (simp at hh ⊢; omega)))) ?_;refine uAa rfl rfl rfl (uAF rfl gU rfl rfl rfl rfl) ?_;refine uAx rfl rfl rfl rfl rfl rfl gU gU (ih (l.getD k default) (hl _ hm) (ho _ hm)) rfl ?_;refine uAa rfl rfl rfl (uAu rfl rfl gU gU (by first | omega | (simp only [List.length_append,List.length_cons,List.length_nil]; omega))) ?_;refine uAa rfl rfl rfl (uAd rfl gU) ?_;refine uAf ?_;refine uAn (s:=⟨[(0,_,_),(3,_,_),(4,_,_)],[],[],[]⟩) (uAj (⟨sx rfl,sx rfl,sx rfl,trivial⟩) trivial trivial) ?_;refine uAb ?_;refine uAa rfl rfl rfl (uAc rfl gU) ?_;refine uAa rfl rfl rfl (uAr rfl rfl gU gU rfl (IntWalk.i64_in _ (by omega))) ?_;refine uAa rfl rfl rfl (uAd rfl gU) ?_;refine uAf ?_;refine ⟨k + 1,?_,?_,uAj (⟨⟨_,rfl,?_⟩,⟨⟨_,rfl,?_⟩,⟨sx rfl,trivial⟩⟩⟩) trivial trivial⟩
   all_goals first | rfl | omega | exact tx (by rw [hs])
 ·try simp only [nn,uAi,T.rows_len,Fs.rows_len,Sp.rows_len,Gl.rows_len] at hc
  have hk : k=l.length:=by omega
  subst hk
  refine uAM ?_
  repeat (first | refine uAD ?_ | refine uAE ?_ | refine uAC rfl ?_)
  refine uAe (uAb ?_);refine uAa rfl rfl rfl (uAc rfl gU) ?_;refine uAa rfl rfl rfl (uAd rfl gU) ?_;refine uAf ?_;refine uAp ?_
  repeat (first | refine tR ?_ | refine bR ?_)
  refine uAs rfl ?_ trivial
  (rw [List.take_length]; rfl)
theorem unt_one {t : T} : 1 < (untE t).length ↔ uB5 t=true:=by
 rw [uD0]
 split
 ·rename_i h
  have := (uEH (t.kids.getD 1 default).size (t.kids.getD 1 default)).1
  have h2 : 1≤(untE (t.kids.getD 1 default)).length:=this
  simp only [List.length_cons,h,iff_true]; omega
 ·rename_i h; simp [h]
theorem uOd : ∀ (n : Nat) (t : T),t.size≤n→n≤900000→okB t=true→Ctr sys 47 [xm t] [] (xs (uBD t)) none []:=by
 intro n
 induction n with
 | zero=>intro t h; have := t.size_pos; omega
 | succ n ih =>
  intro t ht hn ho
  have hse:=t.size_eq
  have hrl:=T.rows_len t.kids
  have hls:=T.len_sizes t.kids
  have hk:=(uEs ho).1
  have hnl:=(uEs ho).2
  have he:=uEA t
  have hle:=uFL ho
  have hur:=T.rows_len (untE t)
  have ihh:=fun (x : T) (hx : x.size≤n) (hxo : okB x=true)=>ih x hx (by omega) hxo
  refine uAy Tryz.func47 rfl rfl rfl rfl rfl rfl ?_;refine uAe (uAb ?_);refine uAw rfl (uAX rfl rfl rfl rfl) ?_;refine uAa rfl rfl rfl (uAd rfl gU) ?_;refine uAf ?_;refine uAe ?_;refine uAe (uAb ?_);refine uAa rfl rfl rfl (uAg rfl gU rfl rfl) ?_;refine uAa rfl rfl rfl (uAl rfl gU rfl rfl rfl rfl) ?_;refine uAa rfl rfl rfl (uAk rfl rfl gU gU rfl) ?_;refine uAf ?_;refine uAn (s:=⟨[(1,_,_),(6,_,_)],[(.l 1,_)],[],[]⟩) (uAj (⟨sx rfl,sx rfl,trivial⟩) (⟨sx rfl,trivial⟩) trivial) ?_;refine uAm rfl (fun hc=>?_) (fun hc=>?_)
  ·try simp only [nn,uAi,T.rows_len,Fs.rows_len,Sp.rows_len,Gl.rows_len] at hc
   refine uAe (uAb ?_);refine uAa rfl rfl rfl (uAg rfl gU rfl rfl) ?_;refine uAa rfl rfl rfl (uAl rfl gU rfl rfl rfl rfl) ?_;refine uAa rfl rfl rfl (uAd rfl gU) ?_;refine uAf ?_;refine uAp ?_
   repeat (first | refine tR ?_ | refine bR ?_)
   refine uAs rfl ?_ trivial
   (rw [he,if_pos hc]; rfl)
  ·try simp only [nn,uAi,T.rows_len,Fs.rows_len,Sp.rows_len,Gl.rows_len] at hc
   rw [if_neg hc] at he
   refine uAo ?_;refine uAe ?_;refine uAe (uAb ?_);refine uAa rfl rfl rfl (uAv rfl gU rfl rfl rfl rfl rfl) ?_;refine uAx rfl rfl rfl rfl rfl rfl gU gU (uNf _ _ (Nat.le_refl _) (by omega)) rfl ?_;refine uAa rfl rfl rfl (uAd rfl gU) ?_;refine uAf ?_;refine uAe (uAb ?_);refine uAa rfl rfl rfl (uAc rfl gU) ?_;refine uAL rfl rfl rfl rfl rfl gU rfl rfl ?_ (fun hh=>by simp at hh); intro hlen;refine uAa rfl rfl rfl (uAk rfl rfl gU gU rfl) ?_;refine uAf ?_;refine uAn (s:=⟨[(1,_,_),(3,_,_),(13,_,_)],[(.l 1,_)],[],[]⟩) (uAj (⟨sx rfl,sx rfl,sx rfl,trivial⟩) (⟨sx rfl,trivial⟩) trivial) ?_;refine uAm rfl (fun hc2=>?_) (fun hc2=>?_)
   ·try simp only [nn,uAi,T.rows_len,Fs.rows_len,Sp.rows_len,Gl.rows_len] at hc2
    have hp : uB5 t=true:=unt_one.1 (by omega)
    rw [if_pos hp] at he
    have hus:=uEc hp
    have htl : (uBU (untE t)).length≤28 * t.size:=by rw [he] at hle; simp only [List.length_append,List.length_cons,List.length_nil] at hle; omega
    have htx := uHx n ihh (untE t) (fun x hx=>by have := uDy hp hx; omega) (uGS _ ho) (by omega)
    refine uAe (uAb ?_);refine uAa rfl rfl rfl (uAc rfl gU) ?_;refine uAx rfl rfl rfl rfl rfl rfl gU gU (htx) rfl ?_;refine uAa rfl rfl rfl (uAu rfl rfl gU gU (by first | omega | (simp only [List.length_append,List.length_cons,List.length_nil]; omega))) ?_;refine uAa rfl rfl rfl (uAu rfl rfl gU gU (by first | omega | (simp only [List.length_append,List.length_cons,List.length_nil]; omega))) ?_;refine uAa rfl rfl rfl (uAd rfl gU) ?_;refine uAf ?_;refine uAp ?_
    repeat (first | refine tR ?_ | refine bR ?_)
    refine uAs rfl ?_ trivial
    (rw [he]; rfl)
   ·try simp only [nn,uAi,T.rows_len,Fs.rows_len,Sp.rows_len,Gl.rows_len] at hc2
    have hp : ¬uB5 t=true := fun q=>hc2 (by have := unt_one.2 q; omega)
    rw [if_neg hp] at he
    have htl : (uBU t.kids).length≤28 * t.size:=by rw [he] at hle; simp only [List.length_append,List.length_cons,List.length_nil] at hle; omega
    have htx := uHx n ihh t.kids (fun x hx=>by have := uCA hx; omega) (uGV ho) (by omega)
    refine uAo ?_;refine uAe ?_;refine awp_drawn' (by kernel_rfl) ?_;refine uAh rfl rfl rfl rfl (uAg rfl gU rfl rfl) ?_;refine uAS rfl rfl rfl rfl rfl rfl rfl gU rfl rfl rfl rfl ?_;refine uAh rfl rfl rfl rfl (uAu rfl rfl gU gU (by first | omega | (simp only [List.length_append,List.length_cons,List.length_nil]; omega))) ?_;refine uAh rfl rfl rfl rfl (uAg rfl gU rfl rfl) ?_;refine uAS rfl rfl rfl rfl rfl rfl rfl gU rfl rfl rfl rfl ?_;refine uA4 rfl rfl rfl rfl rfl rfl rfl gU gU (htx) rfl ?_;refine uAh rfl rfl rfl rfl (uAu rfl rfl gU gU (by first | omega | (simp only [List.length_append,List.length_cons,List.length_nil]; omega))) ?_;refine uAh rfl rfl rfl rfl (uAu rfl rfl gU gU (by first | omega | (simp only [List.length_append,List.length_cons,List.length_nil]; omega))) ?_;refine uAh rfl rfl rfl rfl (uAd rfl gU) ?_;refine uA8 (by kernel_rfl) ?_;refine uAp ?_
    repeat (first | refine tR ?_ | refine bR ?_)
    refine uAs rfl ?_ trivial
    (rw [he]; rfl)
theorem uFm (t : T) (ht : t.size≤900000) (ho : okB t=true) : Ctr sys 47 [xm t] [] (xs (uBD t)) none []:=uOd _ t (Nat.le_refl _) ht ho
theorem uG5 (l : List T) (hs : T.sizes l≤900000) (ho : ∀ x ∈ l,okB x=true) : Ctr sys 99 [xl l] [] (xs (uBU l)) none [] :=
 uHx 900000 (fun t h o=>uFm t h o) l (fun x hx=>by have := uFG hx; omega) ho hs
theorem uLe : Ctr sys 100 [] [] (xss kindW0) none []:=by
 refine uAy Tryz.func100 rfl rfl rfl rfl rfl rfl ?_;refine uAe (uAb ?_);refine uAa rfl rfl rfl (uAd rfl gU) ?_;refine uAf ?_;refine uAe (uAb ?_);refine uAQ (xs:=[_,_,_,_,_,_]) rfl rfl rfl rfl rfl rfl rfl rfl rfl gU rfl ?_;refine uAa rfl rfl rfl (uAd rfl gU) ?_;refine uAf ?_;refine uAp ?_
 repeat (first | refine tR ?_ | refine bR ?_)
 refine uAs rfl ?_ trivial
 rfl
theorem uGH : Ctr sys 97 [] [] (xss sortW0) none []:=by
 refine uAy Tryz.func97 rfl rfl rfl rfl rfl rfl ?_;refine uAe (uAb ?_);refine uAa rfl rfl rfl (uAd rfl gU) ?_;refine uAf ?_;refine uAe (uAb ?_);refine uAQ (xs:=[_,_,_,_,_]) rfl rfl rfl rfl rfl rfl rfl rfl rfl gU rfl ?_;refine uAa rfl rfl rfl (uAd rfl gU) ?_;refine uAf ?_;refine uAp ?_
 repeat (first | refine tR ?_ | refine bR ?_)
 refine uAs rfl ?_ trivial
 rfl
theorem uNp {k : Int} (h1 : 1≤k) (h2 : k≤5) : kindW0.getD k.toNat []=uDP k:=by
 have : k=1∨k=2∨k=3∨k=4∨k=5:=by omega
 rcases this with rfl | rfl | rfl | rfl | rfl <;> rfl
theorem uM0 {k : Int} (h1 : 2≤k) (h2 : k≤4) : sortW0.getD k.toNat []=uCq k:=by
 have : k=2∨k=3∨k=4:=by omega
 rcases this with rfl | rfl | rfl <;> rfl
theorem uE7 (g : Gl) (hg : GlOk g) : Ctr sys 48 [xg g] [] (xs (uEi g)) none []:=by
 have h1:=hg.k1
 have h2:=hg.k2
 have h3:=uBz hg.role
 have h4:=hg.wth
 have h5:=hg.len
 have h6:=uKV g.kind
 have hkl : kindW0.length=6:=rfl
 have hkb:=uNp h1 h2
 refine uAy Tryz.func48 rfl rfl rfl rfl rfl rfl ?_;refine uAe (uAb ?_);refine uAw rfl (uAX rfl rfl rfl rfl) ?_;refine uAa rfl rfl rfl (uAd rfl gU) ?_;refine uAf ?_;refine uAe ?_;refine awp_drawn' (by kernel_rfl) ?_;refine uA4 rfl rfl rfl rfl rfl rfl rfl gU gU (uLe) rfl ?_;refine uAh rfl rfl rfl rfl (uAg rfl gU rfl rfl) ?_;refine uAS rfl rfl rfl rfl rfl rfl rfl gU rfl rfl rfl rfl ?_;refine uAh rfl rfl rfl rfl (uAq (j:=g.kind.toNat) rfl rfl gU gU rfl rfl (by first | omega | (simp at hh ⊢; omega)) (fun hh=>uBW (by first | omega | (simp at hh ⊢; omega)))) ?_;refine uAh rfl rfl rfl rfl (uAI rfl gU rfl rfl rfl) ?_
 rw [hkb]
 refine uAh rfl rfl rfl rfl (uAu rfl rfl gU gU (by first | omega | (simp only [List.length_append,List.length_cons,List.length_nil]; omega))) ?_;refine uAh rfl rfl rfl rfl (uAg rfl gU rfl rfl) ?_;refine uAS rfl rfl rfl rfl rfl rfl rfl gU rfl rfl rfl rfl ?_;refine uAh rfl rfl rfl rfl (uAu rfl rfl gU gU (by first | omega | (simp only [List.length_append,List.length_cons,List.length_nil]; omega))) ?_;refine uAh rfl rfl rfl rfl (uAd rfl gU) ?_;refine uA8 (by kernel_rfl) ?_;refine uAn (s:=⟨[(1,_,_),(3,_,_)],[(.l 1,_)],[],[]⟩) (uAj (⟨sx rfl,sx rfl,trivial⟩) (⟨sx rfl,trivial⟩) trivial) ?_;refine uAe ?_;refine uAe (uAb ?_);refine uAa rfl rfl rfl (uAv rfl gU rfl rfl rfl rfl rfl) ?_;refine uAx rfl rfl rfl rfl rfl rfl gU gU (uCJ _) rfl ?_;refine uAf ?_;refine uAm rfl (fun hc=>?_) (fun hc=>?_)
 ·try simp only [nn,uAi,T.rows_len,Fs.rows_len,Sp.rows_len,Gl.rows_len] at hc
  refine uAb ?_;refine uAa rfl rfl rfl (uAc rfl gU) ?_;refine uAa rfl rfl rfl (uAu rfl rfl gU gU (by first | omega | (simp only [List.length_append,List.length_cons,List.length_nil]; omega))) ?_;refine uAa rfl rfl rfl (uAg rfl gU rfl rfl) ?_;refine uAa rfl rfl rfl (uAl rfl gU rfl rfl rfl rfl) ?_;refine uAa rfl rfl rfl (uAu rfl rfl gU gU (by first | omega | (simp only [List.length_append,List.length_cons,List.length_nil]; omega))) ?_;refine uAa rfl rfl rfl (uAd rfl gU) ?_;refine uAf ?_;refine uAn (s := ⟨[(1,_,_),(3,_,_)],[(.l 1,_)],[],[]⟩) (uAj (⟨sx rfl,sx rfl,trivial⟩) (⟨sx rfl,trivial⟩) trivial) ?_;refine uAe (uAb ?_);refine uAa rfl rfl rfl (uAc rfl gU) ?_;refine uAa rfl rfl rfl (uAu rfl rfl gU gU (by first | omega | (simp only [List.length_append,List.length_cons,List.length_nil]; omega))) ?_;refine uAa rfl rfl rfl (uAg rfl gU rfl rfl) ?_;refine uAa rfl rfl rfl (uAl rfl gU rfl rfl rfl rfl) ?_;refine uAx rfl rfl rfl rfl rfl rfl gU gU (uG5 g.data (by have := hg.sizes; omega) hg.oks) rfl ?_;refine uAa rfl rfl rfl (uAu rfl rfl gU gU (by first | omega | (simp only [List.length_append,List.length_cons,List.length_nil]; omega))) ?_;refine uAa rfl rfl rfl (uAd rfl gU) ?_;refine uAf ?_;refine uAp ?_
  repeat (first | refine tR ?_ | refine bR ?_)
  refine uAs rfl ?_ trivial
  (rw [uEi,if_pos hc]; simp only [List.append_assoc]; rfl)
 ·try simp only [nn,uAi,T.rows_len,Fs.rows_len,Sp.rows_len,Gl.rows_len] at hc
  refine uAo ?_;refine uAe (uAb ?_);refine uAa rfl rfl rfl (uAc rfl gU) ?_;refine uAa rfl rfl rfl (uAu rfl rfl gU gU (by first | omega | (simp only [List.length_append,List.length_cons,List.length_nil]; omega))) ?_;refine uAa rfl rfl rfl (uAg rfl gU rfl rfl) ?_;refine uAa rfl rfl rfl (uAl rfl gU rfl rfl rfl rfl) ?_;refine uAx rfl rfl rfl rfl rfl rfl gU gU (uG5 g.data (by have := hg.sizes; omega) hg.oks) rfl ?_;refine uAa rfl rfl rfl (uAu rfl rfl gU gU (by first | omega | (simp only [List.length_append,List.length_cons,List.length_nil]; omega))) ?_;refine uAa rfl rfl rfl (uAd rfl gU) ?_;refine uAf ?_;refine uAp ?_
  repeat (first | refine tR ?_ | refine bR ?_)
  refine uAs rfl ?_ trivial
  (rw [uEi,if_neg (by rw [hc]; simp)]; simp only [List.append_assoc,List.nil_append]; rfl)
end Go.Proofs.YtnjjdbapadkomaaGreatDoor
namespace Go.Proofs.YtnjjdbapadkomaaGreatDoor
open Go Go.Abs
def clT (fs : List Fs) (k : Nat) : List UInt8:=nl ((frI fs k).map Itm.text)
def opT (fs : List Fs) (k : Nat) : List UInt8:=(clT fs k).dropLast.dropLast++[44,32]
def outK (fs : List Fs) (k : Nat) : List UInt8:=if k < fs.length∧uCE fs k then opT fs k else clT fs k
def preK (fs : List Fs) (k : Nat) : List UInt8:=(if uCE fs k then opT fs k else clT fs k++hFresh++(fs.getD k default).role++[58,32])++fsW (fs.getD k default).pr
theorem uPt (x : List UInt8) (a b : UInt8) : (x++[a,b]).dropLast.dropLast=x:=by
 have : x++[a,b]=(x++[a])++[b]:=by simp
 rw [this,List.dropLast_concat,List.dropLast_concat]
theorem uJL (fs : List Fs) (k : Nat) : clT fs (k + 1)=preK fs k++[59,10]:=by
 unfold preK
 split
 ·rename_i hs
  obtain ⟨I,l,h1,h2,h3⟩:=uDO hs
  obtain ⟨x,hx⟩:=uIK (fs.getD k default).role l
  have e1 : clT fs k=(nl (I.map Itm.text)++x)++[59,10]:=by
   unfold clT; rw [h2,List.map_append,uCP,List.map_cons,List.map_nil,hx]; simp [nl]
  unfold opT
  rw [e1,uPt]
  unfold clT
  rw [h3,List.map_append,uCP,List.map_cons,List.map_nil,uIp _ h1,hx,List.dropLast_concat]
  simp [nl]
 ·rename_i hs
  unfold clT
  rw [uEW hs,List.map_append,uCP]
  simp [nl,Itm.text,uFH]
theorem uOJ (fs : List Fs) (k : Nat) : opT fs (k + 1)=preK fs k++[44,32]:=by
 unfold opT; rw [uJL,uPt]
theorem uJt {fs : List Fs} (h : FsOk fs) {k : Nat} (hk : k≤fs.length) (h12 : fs.length≤12) : (clT fs k).length≤6100:=by
 have h1:=uJq Itm.text (frI fs k) (uFN h hk h12)
 have h2:=uEQ fs k
 unfold clT; omega
theorem uOT {fs : List Fs} (h : FsOk fs) {k : Nat} (hk : k≤fs.length) (h12 : fs.length≤12) : (opT fs k).length≤6102:=by
 have := uJt h hk h12
 unfold opT
 simp only [List.length_append,List.length_dropLast,List.length_cons,List.length_nil]; omega
theorem uNP {fs : List Fs} (h : FsOk fs) {k : Nat} (hk : k≤fs.length) (h12 : fs.length≤12) : (outK fs k).length≤6102:=by
 have := uJt h hk h12
 have := uOT h hk h12
 unfold outK; split <;> omega
theorem uNo {fs : List Fs} {k : Nat} (hk : k < fs.length) (hs : uCE fs k) : preK fs k=outK fs k++fsW (fs.getD k default).pr:=by
 unfold preK outK; rw [if_pos hs,if_pos ⟨hk,hs⟩]
theorem uOy {fs : List Fs} {k : Nat} (hs : ¬uCE fs k) : preK fs k=outK fs k++hFresh++(fs.getD k default).role++[58,32]++fsW (fs.getD k default).pr:=by
 unfold preK outK; rw [if_neg hs,if_neg fun q=>hs q.2]
theorem uHH {fs : List Fs} {k : Nat} (h : k + 1 < fs.length∧uCE fs (k + 1)) : outK fs (k + 1)=preK fs k++[44,32]:=by
 unfold outK; rw [if_pos h,uOJ]
theorem uH1 {fs : List Fs} {k : Nat} (h : ¬(k + 1 < fs.length∧uCE fs (k + 1))) : outK fs (k + 1)=preK fs k++[59,10]:=by
 unfold outK; rw [if_neg h,uJL]
set_option maxHeartbeats 4000000 in
theorem uKN (fs : List Fs) (hok : FsOk fs) (h12 : fs.length≤12) : Ctr sys 46 [.v (.c (.sl 3 (Fs.rows fs)))] [] (xs (clT fs fs.length)) none []:=by
 have hrl:=Fs.rows_len fs
 have hsl : sortW0.length=5:=rfl
 refine uAy Tryz.func46 rfl rfl rfl rfl rfl rfl ?_;refine uAe (uAb ?_);refine uAa rfl rfl rfl (uAd rfl gU) ?_;refine uAf ?_;refine uAe (uAb ?_);refine uAa rfl rfl rfl (uAd rfl gU) ?_;refine uAf ?_;refine uAe ?_;refine uAe (uAb ?_);refine uAa rfl rfl rfl (uAd rfl gU) ?_;refine uAf ?_;refine uAt ?_;refine uAW (ι:=Nat) { t:=[(0,_,_)],bx:=[],ow:=[] } (fun k=>[(4,true,xi (k : Int)),(3,true,xs (outK fs k))]) (fun k=>[]) (fun k=>k≤fs.length) (fun k=>fs.length - k) (0) (by simp) (uAj (⟨sx rfl,⟨⟨_,rfl,by unfold outK; rw [if_neg (by rintro ⟨_,q,_⟩; omega)]; rfl⟩,⟨sx rfl,trivial⟩⟩⟩) trivial trivial) ?_
 intro k hokk
 dsimp only [List.cons_append,List.nil_append]
 have hol:=uNP hok hokk h12
 refine uAe ?_;refine uAe (uAb ?_);refine uAa rfl rfl rfl (uAc rfl gU) ?_;refine uAa rfl rfl rfl (uAc rfl gU) ?_;refine uAL rfl rfl rfl rfl rfl gU rfl rfl ?_ (fun hh=>by simp at hh); intro hlen;refine uAa rfl rfl rfl (uAk rfl rfl gU gU rfl) ?_;refine uAf ?_;refine uAm rfl (fun hc=>?_) (fun hc=>?_)
 ·try simp only [nn,uAi,T.rows_len,Fs.rows_len,Sp.rows_len,Gl.rows_len] at hc
  have hlt : k < fs.length:=by omega
  obtain ⟨f1,f2,f3,f4⟩:=hok _ (uBv (d:=default) hlt)
  have f5:=uBz f1
  have f6:=uBz f2
  have f7:=uKe (fs.getD k default).sort
  have f8:=uM0 f3 f4
  have f9 : fsW (fs.getD k default).pr=(fs.getD k default).name++[32]++uCq (fs.getD k default).sort:=by simp [fsW,Fs.pr]
  have f10 : (sortW0.getD (fs.getD k default).sort.toNat []).length≤5:=by rw [f8]; exact f7
  refine uAo ?_;refine uAe ?_;refine uAt ?_;refine uAe ?_;refine uAe ?_;refine awp_drawn' (by kernel_rfl) ?_;refine uAh rfl rfl rfl rfl (uAc rfl gU) ?_;refine uAh rfl rfl rfl rfl (uAk rfl rfl gU gU rfl) ?_;refine uAh rfl rfl rfl rfl (uAc rfl gU) ?_;refine uAh rfl rfl rfl rfl (uAc rfl gU) ?_;refine uAh rfl rfl rfl rfl (uAc rfl gU) ?_;refine uAh rfl rfl rfl rfl (uAq rfl rfl (fun hh=>hh) (fun hh=>hh) rfl rfl rfl (fun hh=>Fs.rows_at (by first | omega | (simp at hh ⊢; omega)))) ?_;refine uAh rfl rfl rfl rfl (uAP rfl (fun hh=>hh) rfl rfl) ?_;refine uAh rfl rfl rfl rfl (uAI rfl (fun hh=>hh) rfl rfl rfl) ?_;refine uAh rfl rfl rfl rfl (uAc rfl gU) ?_;refine uAh rfl rfl rfl rfl (uAc rfl gU) ?_;refine uAh rfl rfl rfl rfl (uAr rfl rfl (fun hh=>hh) gU rfl (IntWalk.i64_in _ (by omega))) ?_;refine uAh rfl rfl rfl rfl (uEh (j:=k - 1) rfl rfl (by first | exact fun hh=>hh | exact fun _=>rfl | exact fun hh=>gL hh | exact fun hh=>gL (gL hh) | (intro hh; simp_all)) (by first | exact fun hh=>hh | exact fun _=>rfl | exact fun hh=>gL hh | exact fun hh=>gL (gL hh) | (intro hh; simp_all)) rfl rfl (fun hh=>by simp at hh; omega) (fun hh=>Fs.rows_at (by simp at hh; omega))) ?_;refine uAh rfl rfl rfl rfl (uAP rfl (fun hh=>hh) rfl rfl) ?_;refine uAh rfl rfl rfl rfl (uAI rfl (fun hh=>hh) rfl rfl rfl) ?_
  refine uAh rfl rfl rfl rfl (uAZ rfl rfl (fun hh=>hh) (fun hh=>hh) rfl) ?_;refine uAh rfl rfl rfl rfl (uAK rfl rfl gU (fun _ hi=>gP rfl hi)) ?_;refine uA8 (by kernel_rfl) ?_;refine uAn (s:=⟨[(0,_,_),(3,_,_),(4,_,_),(26,_,_)],[],[],[]⟩) (uAj (⟨sx rfl,sx rfl,sx rfl,sx rfl,trivial⟩) trivial trivial) ?_;refine uAm rfl (fun hc2=>?_) (fun hc2=>?_)
  ·try simp only [nn,uAi,T.rows_len,Fs.rows_len,Sp.rows_len,Gl.rows_len] at hc2
   have hsm : ¬uCE fs k:=by
    rintro ⟨q1,q2⟩
    rcases hc2 with q | q
    ·omega
    ·exact q q2.symm
   have e1:=uOy hsm
   rw [f9] at e1
   refine uAb ?_;refine uAa rfl rfl rfl (uAc rfl gU) ?_;refine uAa rfl rfl rfl (uAu rfl rfl gU gU (by first | omega | (simp only [List.length_append,List.length_cons,List.length_nil]; omega))) ?_;refine uAa rfl rfl rfl (uAc rfl gU) ?_;refine uAa rfl rfl rfl (uAc rfl gU) ?_;refine uAa rfl rfl rfl (uAq rfl rfl gU gU rfl rfl rfl (fun hh=>Fs.rows_at (by first | omega | (simp at hh ⊢; omega)))) ?_;refine uAa rfl rfl rfl (uAP rfl gU rfl rfl) ?_;refine uAa rfl rfl rfl (uAI rfl gU rfl rfl rfl) ?_;refine uAa rfl rfl rfl (uAu rfl rfl gU gU (by first | omega | (simp only [List.length_append,List.length_cons,List.length_nil]; omega))) ?_;refine uAa rfl rfl rfl (uAu rfl rfl gU gU (by first | omega | (simp only [List.length_append,List.length_cons,List.length_nil]; omega))) ?_;refine uAa rfl rfl rfl (uAd rfl gU) ?_;refine uAf ?_;refine uAn (s:=⟨[(0,_,_),(3,_,_),(4,_,_)],[],[],[]⟩) (uAj (⟨sx rfl,sx rfl,sx rfl,trivial⟩) trivial trivial) ?_;refine uAe ?_;refine awp_drawn' (by kernel_rfl) ?_;refine uAh rfl rfl rfl rfl (uAc rfl gU) ?_;refine uAh rfl rfl rfl rfl (uAc rfl gU) ?_;refine uAh rfl rfl rfl rfl (uAc rfl gU) ?_;refine uAh rfl rfl rfl rfl (uAq rfl rfl gU gU rfl rfl rfl (fun hh=>Fs.rows_at (by first | omega | (simp at hh ⊢; omega)))) ?_;refine uAh rfl rfl rfl rfl (uAP rfl gU rfl rfl) ?_
   refine uAh rfl rfl rfl rfl (uAI rfl gU rfl rfl rfl) ?_;refine uAh rfl rfl rfl rfl (uAu rfl rfl gU gU (by first | omega | (simp only [List.length_append,List.length_cons,List.length_nil]; omega))) ?_;refine uAh rfl rfl rfl rfl (uAu rfl rfl gU gU (by first | omega | (simp only [List.length_append,List.length_cons,List.length_nil]; omega))) ?_;refine uA4 rfl rfl rfl rfl rfl rfl rfl gU gU (uGH) rfl ?_;refine uAh rfl rfl rfl rfl (uAc rfl gU) ?_;refine uAh rfl rfl rfl rfl (uAc rfl gU) ?_;refine uAh rfl rfl rfl rfl (uAq rfl rfl gU gU rfl rfl rfl (fun hh=>Fs.rows_at (by first | omega | (simp at hh ⊢; omega)))) ?_;refine uAh rfl rfl rfl rfl (uAP rfl gU rfl rfl) ?_;refine uAh rfl rfl rfl rfl (uAI rfl gU rfl rfl rfl) ?_;refine uAh rfl rfl rfl rfl (uAq (j:=(fs.getD k default).sort.toNat) rfl rfl gU gU rfl rfl (by first | omega | (simp at hh ⊢; omega)) (fun hh=>uBW (by first | omega | (simp at hh ⊢; omega)))) ?_;refine uAh rfl rfl rfl rfl (uAI rfl gU rfl rfl rfl) ?_
   rw [f8]
   refine uAh rfl rfl rfl rfl (uAu rfl rfl gU gU (by first | omega | (simp only [List.length_append,List.length_cons,List.length_nil]; omega))) ?_;refine uAh rfl rfl rfl rfl (uAd rfl gU) ?_;refine uA8 (by kernel_rfl) ?_;refine uAn (s:=⟨[(0,_,_),(3,_,_),(4,_,_)],[],[],[]⟩) (uAj (⟨sx rfl,sx rfl,sx rfl,trivial⟩) trivial trivial) ?_;refine uAe ?_;refine awp_drawn' (by kernel_rfl) ?_;refine uAh rfl rfl rfl rfl (uAc rfl gU) ?_;refine uAh rfl rfl rfl rfl (uAr rfl rfl gU gU rfl (IntWalk.i64_in _ (by omega))) ?_;refine uAh rfl rfl rfl rfl (uAc rfl gU) ?_;refine uAh rfl rfl rfl rfl (uAY rfl gU rfl rfl) ?_;refine uAh rfl rfl rfl rfl (uAk rfl rfl gU gU rfl) ?_;refine uAh rfl rfl rfl rfl (uAc rfl gU) ?_;refine uAh rfl rfl rfl rfl (uAc rfl gU) ?_;refine uAh rfl rfl rfl rfl (uAc rfl gU) ?_;refine uAh rfl rfl rfl rfl (uAr rfl rfl (fun hh=>hh) gU rfl (IntWalk.i64_in _ (by omega))) ?_;refine uAh rfl rfl rfl rfl (uAq (j:=(k + 1)) rfl rfl (fun hh=>hh) (fun hh=>hh) rfl rfl (by first | omega | (simp at hh ⊢; omega)) (fun hh=>Fs.rows_at (by first | omega | (simp at hh ⊢; omega)))) ?_;refine uAh rfl rfl rfl rfl (uAP rfl (fun hh=>hh) rfl rfl) ?_;refine uAh rfl rfl rfl rfl (uAI rfl (fun hh=>hh) rfl rfl rfl) ?_;refine uAh rfl rfl rfl rfl (uAc rfl gU) ?_;refine uAh rfl rfl rfl rfl (uAc rfl gU) ?_
   refine uAh rfl rfl rfl rfl (uAq rfl rfl (fun hh=>hh) (fun hh=>hh) rfl rfl rfl (fun hh=>Fs.rows_at (by first | omega | (simp at hh ⊢; omega)))) ?_;refine uAh rfl rfl rfl rfl (uAP rfl (fun hh=>hh) rfl rfl) ?_;refine uAh rfl rfl rfl rfl (uAI rfl (fun hh=>hh) rfl rfl rfl) ?_;refine uAh rfl rfl rfl rfl (uAZ rfl rfl (fun hh=>hh) (fun hh=>hh) rfl) ?_;refine uAh rfl rfl rfl rfl (uAR rfl rfl gU (fun _ hi=>gP rfl hi)) ?_;refine uA8 (by kernel_rfl) ?_;refine uAn (s:=⟨[(0,_,_),(3,_,_),(4,_,_),(71,_,_)],[],[],[]⟩) (uAj (⟨sx rfl,sx rfl,sx rfl,sx rfl,trivial⟩) trivial trivial) ?_;refine uAm rfl (fun hc3=>?_) (fun hc3=>?_)
   ·try simp only [nn,uAi,T.rows_len,Fs.rows_len,Sp.rows_len,Gl.rows_len] at hc3
    have e2:=uHH (fs:=fs) (k:=k) ⟨by omega,by omega,by rw [Nat.add_sub_cancel]; exact hc3.2.symm⟩
    refine uAb ?_;refine uAa rfl rfl rfl (uAc rfl gU) ?_;refine uAa rfl rfl rfl (uAu rfl rfl gU gU (by first | omega | (simp only [List.length_append,List.length_cons,List.length_nil]; omega))) ?_;refine uAa rfl rfl rfl (uAd rfl gU) ?_;refine uAf ?_;refine uAb ?_;refine uAa rfl rfl rfl (uAc rfl gU) ?_;refine uAa rfl rfl rfl (uAr rfl rfl gU gU rfl (IntWalk.i64_in _ (by omega))) ?_;refine uAa rfl rfl rfl (uAd rfl gU) ?_;refine uAf ?_;refine ⟨k + 1,?_,?_,uAj (⟨⟨_,rfl,?_⟩,⟨⟨_,rfl,?_⟩,⟨sx rfl,trivial⟩⟩⟩) trivial trivial⟩
    all_goals first | rfl | omega | exact tx (congrArg xs (by rw [e2,e1]; simp [hFresh]))
   ·try simp only [nn,uAi,T.rows_len,Fs.rows_len,Sp.rows_len,Gl.rows_len] at hc3
    have e2:=uH1 (fs:=fs) (k:=k) (by
     rintro ⟨q1,q2,q3⟩
     rw [Nat.add_sub_cancel] at q3
     rcases hc3 with q | q
     ·omega
     ·exact q q3.symm)
    refine uAb ?_;refine uAa rfl rfl rfl (uAc rfl gU) ?_;refine uAa rfl rfl rfl (uAu rfl rfl gU gU (by first | omega | (simp only [List.length_append,List.length_cons,List.length_nil]; omega))) ?_;refine uAa rfl rfl rfl (uAd rfl gU) ?_;refine uAf ?_;refine uAb ?_;refine uAa rfl rfl rfl (uAc rfl gU) ?_;refine uAa rfl rfl rfl (uAr rfl rfl gU gU rfl (IntWalk.i64_in _ (by omega))) ?_;refine uAa rfl rfl rfl (uAd rfl gU) ?_;refine uAf ?_;refine ⟨k + 1,?_,?_,uAj (⟨⟨_,rfl,?_⟩,⟨⟨_,rfl,?_⟩,⟨sx rfl,trivial⟩⟩⟩) trivial trivial⟩
    all_goals first | rfl | omega | exact tx (congrArg xs (by rw [e2,e1]; simp [hFresh]))
  ·try simp only [nn,uAi,T.rows_len,Fs.rows_len,Sp.rows_len,Gl.rows_len] at hc2
   have hsm : uCE fs k:=⟨by omega,hc2.2.symm⟩
   have e1:=uNo hlt hsm
   rw [f9] at e1
   refine uAo ?_;refine uAe ?_;refine awp_drawn' (by kernel_rfl) ?_;refine uAh rfl rfl rfl rfl (uAc rfl gU) ?_;refine uAh rfl rfl rfl rfl (uAc rfl gU) ?_;refine uAh rfl rfl rfl rfl (uAc rfl gU) ?_;refine uAh rfl rfl rfl rfl (uAq rfl rfl gU gU rfl rfl rfl (fun hh=>Fs.rows_at (by first | omega | (simp at hh ⊢; omega)))) ?_;refine uAh rfl rfl rfl rfl (uAP rfl gU rfl rfl) ?_;refine uAh rfl rfl rfl rfl (uAI rfl gU rfl rfl rfl) ?_;refine uAh rfl rfl rfl rfl (uAu rfl rfl gU gU (by first | omega | (simp only [List.length_append,List.length_cons,List.length_nil]; omega))) ?_;refine uAh rfl rfl rfl rfl (uAu rfl rfl gU gU (by first | omega | (simp only [List.length_append,List.length_cons,List.length_nil]; omega))) ?_;refine uA4 rfl rfl rfl rfl rfl rfl rfl gU gU (uGH) rfl ?_;refine uAh rfl rfl rfl rfl (uAc rfl gU) ?_;refine uAh rfl rfl rfl rfl (uAc rfl gU) ?_;refine uAh rfl rfl rfl rfl (uAq rfl rfl gU gU rfl rfl rfl (fun hh=>Fs.rows_at (by first | omega | (simp at hh ⊢; omega)))) ?_;refine uAh rfl rfl rfl rfl (uAP rfl gU rfl rfl) ?_;refine uAh rfl rfl rfl rfl (uAI rfl gU rfl rfl rfl) ?_;refine uAh rfl rfl rfl rfl (uAq (j:=(fs.getD k default).sort.toNat) rfl rfl gU gU rfl rfl (by first | omega | (simp at hh ⊢; omega)) (fun hh=>uBW (by first | omega | (simp at hh ⊢; omega)))) ?_;refine uAh rfl rfl rfl rfl (uAI rfl gU rfl rfl rfl) ?_
   rw [f8]
   refine uAh rfl rfl rfl rfl (uAu rfl rfl gU gU (by first | omega | (simp only [List.length_append,List.length_cons,List.length_nil]; omega))) ?_;refine uAh rfl rfl rfl rfl (uAd rfl gU) ?_;refine uA8 (by kernel_rfl) ?_;refine uAn (s:=⟨[(0,_,_),(3,_,_),(4,_,_)],[],[],[]⟩) (uAj (⟨sx rfl,sx rfl,sx rfl,trivial⟩) trivial trivial) ?_;refine uAe ?_;refine awp_drawn' (by kernel_rfl) ?_;refine uAh rfl rfl rfl rfl (uAc rfl gU) ?_;refine uAh rfl rfl rfl rfl (uAr rfl rfl gU gU rfl (IntWalk.i64_in _ (by omega))) ?_;refine uAh rfl rfl rfl rfl (uAc rfl gU) ?_;refine uAh rfl rfl rfl rfl (uAY rfl gU rfl rfl) ?_;refine uAh rfl rfl rfl rfl (uAk rfl rfl gU gU rfl) ?_;refine uAh rfl rfl rfl rfl (uAc rfl gU) ?_;refine uAh rfl rfl rfl rfl (uAc rfl gU) ?_;refine uAh rfl rfl rfl rfl (uAc rfl gU) ?_;refine uAh rfl rfl rfl rfl (uAr rfl rfl (fun hh=>hh) gU rfl (IntWalk.i64_in _ (by omega))) ?_;refine uAh rfl rfl rfl rfl (uAq (j:=(k + 1)) rfl rfl (fun hh=>hh) (fun hh=>hh) rfl rfl (by first | omega | (simp at hh ⊢; omega)) (fun hh=>Fs.rows_at (by first | omega | (simp at hh ⊢; omega)))) ?_;refine uAh rfl rfl rfl rfl (uAP rfl (fun hh=>hh) rfl rfl) ?_;refine uAh rfl rfl rfl rfl (uAI rfl (fun hh=>hh) rfl rfl rfl) ?_;refine uAh rfl rfl rfl rfl (uAc rfl gU) ?_;refine uAh rfl rfl rfl rfl (uAc rfl gU) ?_
   refine uAh rfl rfl rfl rfl (uAq rfl rfl (fun hh=>hh) (fun hh=>hh) rfl rfl rfl (fun hh=>Fs.rows_at (by first | omega | (simp at hh ⊢; omega)))) ?_;refine uAh rfl rfl rfl rfl (uAP rfl (fun hh=>hh) rfl rfl) ?_;refine uAh rfl rfl rfl rfl (uAI rfl (fun hh=>hh) rfl rfl rfl) ?_;refine uAh rfl rfl rfl rfl (uAZ rfl rfl (fun hh=>hh) (fun hh=>hh) rfl) ?_;refine uAh rfl rfl rfl rfl (uAR rfl rfl gU (fun _ hi=>gP rfl hi)) ?_;refine uA8 (by kernel_rfl) ?_;refine uAn (s:=⟨[(0,_,_),(3,_,_),(4,_,_),(71,_,_)],[],[],[]⟩) (uAj (⟨sx rfl,sx rfl,sx rfl,sx rfl,trivial⟩) trivial trivial) ?_;refine uAm rfl (fun hc3=>?_) (fun hc3=>?_)
   ·try simp only [nn,uAi,T.rows_len,Fs.rows_len,Sp.rows_len,Gl.rows_len] at hc3
    have e2:=uHH (fs:=fs) (k:=k) ⟨by omega,by omega,by rw [Nat.add_sub_cancel]; exact hc3.2.symm⟩
    refine uAb ?_;refine uAa rfl rfl rfl (uAc rfl gU) ?_;refine uAa rfl rfl rfl (uAu rfl rfl gU gU (by first | omega | (simp only [List.length_append,List.length_cons,List.length_nil]; omega))) ?_;refine uAa rfl rfl rfl (uAd rfl gU) ?_;refine uAf ?_;refine uAb ?_;refine uAa rfl rfl rfl (uAc rfl gU) ?_;refine uAa rfl rfl rfl (uAr rfl rfl gU gU rfl (IntWalk.i64_in _ (by omega))) ?_;refine uAa rfl rfl rfl (uAd rfl gU) ?_;refine uAf ?_;refine ⟨k + 1,?_,?_,uAj (⟨⟨_,rfl,?_⟩,⟨⟨_,rfl,?_⟩,⟨sx rfl,trivial⟩⟩⟩) trivial trivial⟩
    all_goals first | rfl | omega | exact tx (congrArg xs (by rw [e2,e1]; simp))
   ·try simp only [nn,uAi,T.rows_len,Fs.rows_len,Sp.rows_len,Gl.rows_len] at hc3
    have e2:=uH1 (fs:=fs) (k:=k) (by
     rintro ⟨q1,q2,q3⟩
     rw [Nat.add_sub_cancel] at q3
     rcases hc3 with q | q
     ·omega
     ·exact q q3.symm)
    refine uAb ?_;refine uAa rfl rfl rfl (uAc rfl gU) ?_;refine uAa rfl rfl rfl (uAu rfl rfl gU gU (by first | omega | (simp only [List.length_append,List.length_cons,List.length_nil]; omega))) ?_;refine uAa rfl rfl rfl (uAd rfl gU) ?_;refine uAf ?_;refine uAb ?_;refine uAa rfl rfl rfl (uAc rfl gU) ?_;refine uAa rfl rfl rfl (uAr rfl rfl gU gU rfl (IntWalk.i64_in _ (by omega))) ?_;refine uAa rfl rfl rfl (uAd rfl gU) ?_;refine uAf ?_;refine ⟨k + 1,?_,?_,uAj (⟨⟨_,rfl,?_⟩,⟨⟨_,rfl,?_⟩,⟨sx rfl,trivial⟩⟩⟩) trivial trivial⟩
    all_goals first | rfl | omega | exact tx (congrArg xs (by rw [e2,e1]; simp))
 ·try simp only [nn,uAi,T.rows_len,Fs.rows_len,Sp.rows_len,Gl.rows_len] at hc
  have hk : k=fs.length:=by omega
  subst hk
  have e : outK fs fs.length=clT fs fs.length:=by unfold outK; rw [if_neg (by rintro ⟨q,_⟩; omega)]
  refine uAM ?_
  repeat (first | refine uAD ?_ | refine uAE ?_ | refine uAC rfl ?_)
  refine uAe (uAb ?_);refine uAa rfl rfl rfl (uAc rfl gU) ?_;refine uAa rfl rfl rfl (uAd rfl gU) ?_;refine uAf ?_;refine uAp ?_
  repeat (first | refine tR ?_ | refine bR ?_)
  refine uAs rfl ?_ trivial
  (rw [e]; rfl)
theorem uNZ (n : Nar) (j k : Nat) : ∀ x ∈ n.rest j k,x ∈ n.lines:=by
 intro x hx
 rw [← uEn n]
 refine List.mem_append.2 (.inl ?_)
 unfold Nar.rest at hx ⊢
 simp only [List.take_length]
 rcases List.mem_append.1 hx with q | q
 ·exact List.mem_append.2 (.inl q)
 rcases List.mem_append.1 q with q | q
 ·exact List.mem_append.2 (.inr (List.mem_append.2 (.inl q)))
 refine List.mem_append.2 (.inr (List.mem_append.2 (.inr ?_)))
 rcases List.mem_append.1 q with q | q
 ·obtain ⟨s,hs,rfl⟩:=List.mem_map.1 q
  exact List.mem_append.2 (.inl (List.mem_map.2 ⟨s,List.mem_of_mem_take hs,rfl⟩))
 ·obtain ⟨s,hs,rfl⟩:=List.mem_map.1 q
  exact List.mem_append.2 (.inr (List.mem_map.2 ⟨s,List.mem_of_mem_take hs,rfl⟩))
theorem uGQ {n : Nar} (h : NarOk n) (j k : Nat) : (nl (n.rest j k)).length≤150000:=by
 have h1:=uN0 (n.rest j k) (M:=4600) fun x hx=>h.line_len x (uNZ n j k x hx)
 have h2:=uEt h j k
 have := Nat.mul_le_mul_left (4600 + 1) h2
 omega
theorem uHP (x : List UInt8) : nl [x]=x++[10]:=by simp [nl]
theorem uP4 (n : Nar) : nl (n.lk n.fresh.length)=hProt++n.name++[32,123,10,32,32,114,111,108,101,32]++Lib.join n.roles [44,32]++[59,10]++clT n.fresh n.fresh.length:=by
 unfold Nar.lk
 rw [uCP]
 simp [nl,uDc,Itm.text,hRole,clT]
set_option maxHeartbeats 4000000 in
theorem uJs (n : Nar) (hs : ∀ s ∈ n.steps,s.msg.size≤900000) (hg : ∀ g ∈ n.goals,T.sizes g.data≤900000) : Ctr sys 13 [xn n] [] (xse (uCI n)) none []:=by
 have hr1:=uAi n.roles
 have hr2:=Fs.rows_len n.fresh
 have hr3:=uAi n.tags
 have hr4:=Sp.rows_len n.steps
 have hr5:=Gl.rows_len n.goals
 refine uAy Tryz.func13 rfl rfl rfl rfl rfl rfl ?_;refine uAe (uAb ?_);refine uAw rfl (uAX rfl rfl rfl rfl) ?_;refine uAa rfl rfl rfl (uAd rfl gU) ?_;refine uAa rfl rfl rfl (uAd rfl gU) ?_;refine uAf ?_;refine uAe ?_;refine uAe (uAb ?_);refine uAa rfl rfl rfl (uAv rfl gU rfl rfl rfl rfl rfl) ?_;refine uAx rfl rfl rfl rfl rfl rfl gU gU (uJ4 n hs hg) rfl ?_;refine uAa rfl rfl rfl (uAd rfl gU) ?_;refine uAf ?_;refine uAn (s:=⟨[(1,_,_),(4,_,_)],[(.l 1,_)],[],[]⟩) (uAj (⟨sx rfl,sx rfl,trivial⟩) (⟨sx rfl,trivial⟩) trivial) ?_;refine uAe (uAb ?_);refine uAa rfl rfl rfl (uAc rfl gU) ?_;refine uAa rfl rfl rfl (uAk rfl rfl gU gU rfl) ?_;refine uAf ?_;refine uAm rfl (fun hc=>?_) (fun hc=>?_)
 ·try simp only [nn,uAi,T.rows_len,Fs.rows_len,Sp.rows_len,Gl.rows_len] at hc
  refine uAe (uAb ?_);refine uAa rfl rfl rfl (uAc rfl gU) ?_;refine uAa rfl rfl rfl (uAd rfl gU) ?_;refine uAa rfl rfl rfl (uAd rfl gU) ?_;refine uAf ?_;refine uAp ?_
  repeat (first | refine tR ?_ | refine bR ?_)
  refine uAs rfl ?_ trivial
  (rw [uCI,if_pos hc]; rfl)
 ·try simp only [nn,uAi,T.rows_len,Fs.rows_len,Sp.rows_len,Gl.rows_len] at hc
  have hE : uCI n=(n.text,0):=by rw [uCI,if_neg (by simpa using hc)]
  have hok:=uEp (n:=n) (by simpa using hc)
  have b1:=uBz hok.name
  have b2:=uCx hok.roles
  have b3:=hok.r2
  have b4:=uCx hok.tags
  have b5:=hok.t2
  have b6:=hok.f2
  have b7:=hok.s2
  have b8:=hok.g2
  have b9:=uJt hok.fresh (Nat.le_refl _) b6
  have hlk:=uP4 n
  rw [hE]
  refine uAo ?_;refine uAe ?_;refine awp_drawn' (by kernel_rfl) ?_;refine uAh rfl rfl rfl rfl (uAg rfl gU rfl rfl) ?_;refine uAS rfl rfl rfl rfl rfl rfl rfl gU rfl rfl rfl rfl ?_;refine uAh rfl rfl rfl rfl (uAu rfl rfl gU gU (by first | omega | (simp only [List.length_append,List.length_cons,List.length_nil]; omega))) ?_;refine uAh rfl rfl rfl rfl (uAu rfl rfl gU gU (by first | omega | (simp only [List.length_append,List.length_cons,List.length_nil]; omega))) ?_;refine uAh rfl rfl rfl rfl (uAg rfl gU rfl rfl) ?_;refine uAS rfl rfl rfl rfl rfl rfl rfl gU rfl rfl rfl rfl ?_;refine uA4 rfl rfl rfl rfl rfl rfl rfl gU gU (uGv n.roles (by omega) (fun w hw=>by have := uBz (hok.roles w hw); omega)) rfl ?_;refine uAh rfl rfl rfl rfl (uAu rfl rfl gU gU (by first | omega | (simp only [List.length_append,List.length_cons,List.length_nil]; omega))) ?_;refine uAh rfl rfl rfl rfl (uAu rfl rfl gU gU (by first | omega | (simp only [List.length_append,List.length_cons,List.length_nil]; omega))) ?_;refine uAh rfl rfl rfl rfl (uAg rfl gU rfl rfl) ?_;refine uAS rfl rfl rfl rfl rfl rfl rfl gU rfl rfl rfl rfl ?_;refine uA4 rfl rfl rfl rfl rfl rfl rfl gU gU (uKN _ hok.fresh (by omega)) rfl ?_;refine uAh rfl rfl rfl rfl (uAu rfl rfl gU gU (by first | omega | (simp only [List.length_append,List.length_cons,List.length_nil]; omega))) ?_;refine uAh rfl rfl rfl rfl (uAd rfl gU) ?_
  refine uA8 (by kernel_rfl) ?_;refine uAn (s:=⟨[(1,_,_),(5,_,_)],[(.l 1,_)],[],[]⟩) (uAj (⟨sx rfl,sx rfl,trivial⟩) (⟨sx rfl,trivial⟩) trivial) ?_;refine uAe ?_;refine uAe (uAb ?_);refine uAa rfl rfl rfl (uAg rfl gU rfl rfl) ?_;refine uAa rfl rfl rfl (uAl rfl gU rfl rfl rfl rfl) ?_;refine uAL rfl rfl rfl rfl rfl gU rfl rfl ?_ (fun hh=>by simp at hh); intro hlen;refine uAa rfl rfl rfl (uAk rfl rfl gU gU rfl) ?_;refine uAf ?_;refine uAm rfl (fun hc4=>?_) (fun hc4=>?_)
  ·try simp only [nn,uAi,T.rows_len,Fs.rows_len,Sp.rows_len,Gl.rows_len] at hc4
   have htg : n.tags≠[]:=by intro q; rw [q] at hc4; simp at hc4
   have e0 : nl (n.rest 0 0)=nl (n.lk n.fresh.length)++(hTag++Lib.join n.tags [44,32]++[59,10]):=by simp [Nar.rest,htg,uCP,uHP,Itm.text]
   refine uAb ?_;refine uAa rfl rfl rfl (uAc rfl gU) ?_;refine uAa rfl rfl rfl (uAu rfl rfl gU gU (by first | omega | (simp only [List.length_append,List.length_cons,List.length_nil]; omega))) ?_;refine uAa rfl rfl rfl (uAg rfl gU rfl rfl) ?_;refine uAa rfl rfl rfl (uAl rfl gU rfl rfl rfl rfl) ?_;refine uAx rfl rfl rfl rfl rfl rfl gU gU (uGv n.tags (by omega) (fun w hw=>by have := uBz (hok.tags w hw); omega)) rfl ?_;refine uAa rfl rfl rfl (uAu rfl rfl gU gU (by first | omega | (simp only [List.length_append,List.length_cons,List.length_nil]; omega))) ?_;refine uAa rfl rfl rfl (uAu rfl rfl gU gU (by first | omega | (simp only [List.length_append,List.length_cons,List.length_nil]; omega))) ?_;refine uAa rfl rfl rfl (uAd rfl gU) ?_;refine uAf ?_;refine uAn (s := ⟨[(1,_,_),(5,_,_)],[(.l 1,_)],[],[]⟩) (uAj (⟨sx rfl,sx rfl,trivial⟩) (⟨sx rfl,trivial⟩) trivial) ?_;refine uAe ?_;refine uAe (uAb ?_);refine uAa rfl rfl rfl (uAd rfl gU) ?_;refine uAf ?_;refine uAt ?_;refine uAW (ι := Nat) { t := [(1,_,_)],bx := [(.l 1,_)],ow := [] } (fun j=>[(6,true,xi (j : Int)),(5,true,xs (nl (n.rest j 0)))]) (fun j=>[]) (fun j=>j≤n.steps.length) (fun j=>n.steps.length - j) (0) (by simp) (uAj (⟨sx rfl,⟨⟨_,rfl,by rw [e0,hlk]; exact tx (congrArg xs (by simp [hProt,hTag]))⟩,⟨sx rfl,trivial⟩⟩⟩) (⟨sx rfl,trivial⟩) trivial) ?_
   intro j hokj
   dsimp only [List.cons_append,List.nil_append]
   have hm1:=uGQ hok j 0
   refine uAe ?_;refine uAe (uAb ?_);refine uAa rfl rfl rfl (uAc rfl gU) ?_;refine uAa rfl rfl rfl (uAg rfl gU rfl rfl) ?_;refine uAa rfl rfl rfl (uAl rfl gU rfl rfl rfl rfl) ?_;refine uAL rfl rfl rfl rfl rfl gU rfl rfl ?_ (fun hh=>by simp at hh); intro hlen;refine uAa rfl rfl rfl (uAk rfl rfl gU gU rfl) ?_;refine uAf ?_;refine uAn (s:=⟨[(1,_,_),(5,_,_),(6,_,_),(42,_,_)],[(.l 1,_)],[],[]⟩) (uAj (⟨sx rfl,sx rfl,sx rfl,sx rfl,trivial⟩) (⟨sx rfl,trivial⟩) trivial) ?_;refine uAm rfl (fun hc5=>?_) (fun hc5=>?_)
   ·try simp only [nn,uAi,T.rows_len,Fs.rows_len,Sp.rows_len,Gl.rows_len] at hc5
    have hlt : j < n.steps.length:=by omega
    obtain ⟨s1,s2,s3⟩:=hok.steps _ (uBv (d:=default) hlt)
    have s4:=uBz s1
    have s5:=uBz s2
    have s6:=s3.len
    refine uAo ?_;refine uAe ?_;refine uAt ?_;refine uAe (uAb ?_);refine uAa rfl rfl rfl (uAg rfl gU rfl rfl) ?_;refine uAa rfl rfl rfl (uAl rfl gU rfl rfl rfl rfl) ?_;refine uAa rfl rfl rfl (uAc rfl gU) ?_;refine uAa rfl rfl rfl (uAq rfl rfl gU gU rfl rfl rfl (fun hh=>Sp.rows_at (by first | omega | (simp at hh ⊢; omega)))) ?_;refine uAa rfl rfl rfl (uAF rfl gU rfl rfl rfl rfl) ?_;refine uAw rfl (uAT rfl rfl rfl) ?_;refine uAw rfl (uAB rfl rfl rfl rfl rfl rfl rfl) ?_;refine uAf ?_;refine uAn (s:=⟨[(1,_,_),(5,_,_),(6,_,_),(7,_,_)],[(.l 1,_),(.l 7,_)],[],[]⟩) (uAj (⟨sx rfl,sx rfl,sx rfl,sx rfl,trivial⟩) (⟨sx rfl,sx rfl,trivial⟩) trivial) ?_;refine awp_drawn' (by kernel_rfl) ?_;refine uAh rfl rfl rfl rfl (uAc rfl gU) ?_;refine uAh rfl rfl rfl rfl (uAu rfl rfl gU gU (by first | omega | (simp only [List.length_append,List.length_cons,List.length_nil]; omega))) ?_;refine uAh rfl rfl rfl rfl (uAg rfl gU rfl rfl) ?_;refine uAS rfl rfl rfl rfl rfl rfl rfl gU rfl rfl rfl rfl ?_;refine uAh rfl rfl rfl rfl (uAu rfl rfl gU gU (by first | omega | (simp only [List.length_append,List.length_cons,List.length_nil]; omega))) ?_;refine uAh rfl rfl rfl rfl (uAu rfl rfl gU gU (by first | omega | (simp only [List.length_append,List.length_cons,List.length_nil]; omega))) ?_
    refine uAh rfl rfl rfl rfl (uAg rfl gU rfl rfl) ?_;refine uAS rfl rfl rfl rfl rfl rfl rfl gU rfl rfl rfl rfl ?_;refine uAh rfl rfl rfl rfl (uAu rfl rfl gU gU (by first | omega | (simp only [List.length_append,List.length_cons,List.length_nil]; omega))) ?_;refine uAh rfl rfl rfl rfl (uAu rfl rfl gU gU (by first | omega | (simp only [List.length_append,List.length_cons,List.length_nil]; omega))) ?_;refine uAh rfl rfl rfl rfl (uAg rfl gU rfl rfl) ?_;refine uB3 rfl rfl rfl rfl rfl rfl rfl gU rfl rfl rfl rfl rfl ?_;refine uA4 rfl rfl rfl rfl rfl rfl rfl gU gU (uFm (n.steps.getD j default).msg (by have := s3.size; omega) s3.ok) rfl ?_;refine uAh rfl rfl rfl rfl (uAu rfl rfl gU gU (by first | omega | (simp only [List.length_append,List.length_cons,List.length_nil]; omega))) ?_;refine uAh rfl rfl rfl rfl (uAu rfl rfl gU gU (by first | omega | (simp only [List.length_append,List.length_cons,List.length_nil]; omega))) ?_;refine uAh rfl rfl rfl rfl (uAd rfl gU) ?_;refine uA8 (by kernel_rfl) ?_;refine uAn (s := ⟨[(1,_,_),(5,_,_),(6,_,_)],[(.l 1,_)],[],[]⟩) (uAj (⟨sx rfl,sx rfl,sx rfl,trivial⟩) (⟨sx rfl,trivial⟩) trivial) ?_;refine uAb ?_;refine uAa rfl rfl rfl (uAc rfl gU) ?_;refine uAa rfl rfl rfl (uAr rfl rfl gU gU rfl (IntWalk.i64_in _ (by omega))) ?_;refine uAa rfl rfl rfl (uAd rfl gU) ?_
    refine uAf ?_;refine ⟨j + 1,?_,?_,uAj (⟨⟨_,rfl,?_⟩,⟨⟨_,rfl,?_⟩,⟨sx rfl,trivial⟩⟩⟩) (⟨sx rfl,trivial⟩) trivial⟩
    all_goals first
     | rfl
     | omega
     | exact tx (congrArg xs (by rw [uEZ n hlt,uCP,uHP]; simp [Itm.text,hMsg,arrow]))
   ·try simp only [nn,uAi,T.rows_len,Fs.rows_len,Sp.rows_len,Gl.rows_len] at hc5
    have hje : j=n.steps.length:=by omega
    subst hje
    refine uAM ?_
    repeat (first | refine uAD ?_ | refine uAE ?_ | refine uAC rfl ?_)
    refine uAe ?_;refine uAe (uAb ?_);refine uAa rfl rfl rfl (uAd rfl gU) ?_;refine uAf ?_;refine uAt ?_;refine uAW (ι:=Nat) { t:=[(1,_,_)],bx:=[(.l 1,_)],ow:=[] } (fun k=>[(8,true,xi (k : Int)),(5,true,xs (nl (n.rest n.steps.length k)))]) (fun k=>[]) (fun k=>k≤n.goals.length) (fun k=>n.goals.length - k) (0) (by simp) (uAj (⟨sx rfl,sx rfl,sx rfl,trivial⟩) (⟨sx rfl,trivial⟩) trivial) ?_
    intro k hokk2
    dsimp only [List.cons_append,List.nil_append]
    have hm2:=uGQ hok n.steps.length k
    refine uAe ?_;refine uAe (uAb ?_);refine uAa rfl rfl rfl (uAc rfl gU) ?_;refine uAa rfl rfl rfl (uAg rfl gU rfl rfl) ?_;refine uAa rfl rfl rfl (uAl rfl gU rfl rfl rfl rfl) ?_;refine uAL rfl rfl rfl rfl rfl gU rfl rfl ?_ (fun hh=>by simp at hh); intro hlen;refine uAa rfl rfl rfl (uAk rfl rfl gU gU rfl) ?_;refine uAf ?_;refine uAn (s:=⟨[(1,_,_),(5,_,_),(8,_,_),(69,_,_)],[(.l 1,_)],[],[]⟩) (uAj (⟨sx rfl,sx rfl,sx rfl,sx rfl,trivial⟩) (⟨sx rfl,trivial⟩) trivial) ?_;refine uAm rfl (fun hc6=>?_) (fun hc6=>?_)
    ·try simp only [nn,uAi,T.rows_len,Fs.rows_len,Sp.rows_len,Gl.rows_len] at hc6
     have hlt : k < n.goals.length:=by omega
     have hgk:=hok.goals _ (uBv (d:=default) hlt)
     have g1:=uDo hgk
     have g2:=uEd (n.goals.getD k default)
     have g3 : (uEi (n.goals.getD k default)).length≤4600:=by
      rw [g2] at g1; simp only [List.length_append] at g1; omega
     refine uAo ?_;refine uAe ?_;refine uAt ?_;refine uAb ?_;refine uAa rfl rfl rfl (uAc rfl gU) ?_;refine uAa rfl rfl rfl (uAu rfl rfl gU gU (by first | omega | (simp only [List.length_append,List.length_cons,List.length_nil]; omega))) ?_;refine uAa rfl rfl rfl (uAg rfl gU rfl rfl) ?_;refine uAa rfl rfl rfl (uAl rfl gU rfl rfl rfl rfl) ?_;refine uAa rfl rfl rfl (uAc rfl gU) ?_;refine uAa rfl rfl rfl (uAq rfl rfl gU gU rfl rfl rfl (fun hh=>Gl.rows_at (by first | omega | (simp at hh ⊢; omega)))) ?_;refine uAa rfl rfl rfl (uAF rfl gU rfl rfl rfl rfl) ?_;refine uAx rfl rfl rfl rfl rfl rfl gU gU (uE7 _ (by assumption)) rfl ?_;refine uAa rfl rfl rfl (uAu rfl rfl gU gU (by first | omega | (simp only [List.length_append,List.length_cons,List.length_nil]; omega))) ?_;refine uAa rfl rfl rfl (uAu rfl rfl gU gU (by first | omega | (simp only [List.length_append,List.length_cons,List.length_nil]; omega))) ?_;refine uAa rfl rfl rfl (uAd rfl gU) ?_;refine uAf ?_;refine uAn (s:=⟨[(1,_,_),(5,_,_),(8,_,_)],[(.l 1,_)],[],[]⟩) (uAj (⟨sx rfl,sx rfl,sx rfl,trivial⟩) (⟨sx rfl,trivial⟩) trivial) ?_;refine uAb ?_;refine uAa rfl rfl rfl (uAc rfl gU) ?_;refine uAa rfl rfl rfl (uAr rfl rfl gU gU rfl (IntWalk.i64_in _ (by omega))) ?_;refine uAa rfl rfl rfl (uAd rfl gU) ?_
     refine uAf ?_;refine ⟨k + 1,?_,?_,uAj (⟨⟨_,rfl,?_⟩,⟨⟨_,rfl,?_⟩,⟨sx rfl,trivial⟩⟩⟩) (⟨sx rfl,trivial⟩) trivial⟩
     all_goals first
      | rfl
      | omega
      | exact tx (congrArg xs (by rw [uER n hlt,uCP,uHP,g2]; simp [hGoal]))
    ·try simp only [nn,uAi,T.rows_len,Fs.rows_len,Sp.rows_len,Gl.rows_len] at hc6
     have hke : k=n.goals.length:=by omega
     subst hke
     have hj1:=uEn n
     have hj2 : nl (n.rest n.steps.length n.goals.length)++[125,10]=n.text:=by rw [n.text_eq,← hj1,uCP]; rfl
     refine uAM ?_
     repeat (first | refine uAD ?_ | refine uAE ?_ | refine uAC rfl ?_)
     refine uAe (uAb ?_);refine uAa rfl rfl rfl (uAc rfl gU) ?_;refine uAa rfl rfl rfl (uAu rfl rfl gU gU (by first | omega | (simp only [List.length_append,List.length_cons,List.length_nil]; omega))) ?_;refine uAa rfl rfl rfl (uAd rfl gU) ?_;refine uAa rfl rfl rfl (uAd rfl gU) ?_;refine uAf ?_;refine uAp ?_
     repeat (first | refine tR ?_ | refine bR ?_)
     refine uAs rfl ?_ trivial
     rw [← hj2]; rfl
  ·try simp only [nn,uAi,T.rows_len,Fs.rows_len,Sp.rows_len,Gl.rows_len] at hc4
   have htg : n.tags=[]:=List.length_eq_zero_iff.1 (by omega)
   have e0 : nl (n.rest 0 0)=nl (n.lk n.fresh.length):=by simp [Nar.rest,htg]
   refine uAo ?_;refine uAe ?_;refine uAe (uAb ?_);refine uAa rfl rfl rfl (uAd rfl gU) ?_;refine uAf ?_;refine uAn (s:=⟨[(1,_,_),(5,_,_),(6,_,_)],[(.l 1,_)],[],[]⟩) (uAj (⟨sx rfl,sx rfl,sx rfl,trivial⟩) (⟨sx rfl,trivial⟩) trivial) ?_;refine uAt ?_;refine uAW (ι:=Nat) { t:=[(1,_,_)],bx:=[(.l 1,_)],ow:=[] } (fun j=>[(6,true,xi (j : Int)),(5,true,xs (nl (n.rest j 0)))]) (fun j=>[]) (fun j=>j≤n.steps.length) (fun j=>n.steps.length - j) (0) (by simp) (uAj (⟨sx rfl,⟨⟨_,rfl,by rw [e0,hlk]; exact tx (congrArg xs (by simp [hProt]))⟩,⟨sx rfl,trivial⟩⟩⟩) (⟨sx rfl,trivial⟩) trivial) ?_
   intro j hokj
   dsimp only [List.cons_append,List.nil_append]
   have hm1:=uGQ hok j 0
   refine uAe ?_;refine uAe (uAb ?_);refine uAa rfl rfl rfl (uAc rfl gU) ?_;refine uAa rfl rfl rfl (uAg rfl gU rfl rfl) ?_;refine uAa rfl rfl rfl (uAl rfl gU rfl rfl rfl rfl) ?_;refine uAL rfl rfl rfl rfl rfl gU rfl rfl ?_ (fun hh=>by simp at hh); intro hlen;refine uAa rfl rfl rfl (uAk rfl rfl gU gU rfl) ?_;refine uAf ?_;refine uAn (s:=⟨[(1,_,_),(5,_,_),(6,_,_),(42,_,_)],[(.l 1,_)],[],[]⟩) (uAj (⟨sx rfl,sx rfl,sx rfl,sx rfl,trivial⟩) (⟨sx rfl,trivial⟩) trivial) ?_;refine uAm rfl (fun hc5=>?_) (fun hc5=>?_)
   ·try simp only [nn,uAi,T.rows_len,Fs.rows_len,Sp.rows_len,Gl.rows_len] at hc5
    have hlt : j < n.steps.length:=by omega
    obtain ⟨s1,s2,s3⟩:=hok.steps _ (uBv (d:=default) hlt)
    have s4:=uBz s1
    have s5:=uBz s2
    have s6:=s3.len
    refine uAo ?_;refine uAe ?_;refine uAt ?_;refine uAe (uAb ?_);refine uAa rfl rfl rfl (uAg rfl gU rfl rfl) ?_;refine uAa rfl rfl rfl (uAl rfl gU rfl rfl rfl rfl) ?_;refine uAa rfl rfl rfl (uAc rfl gU) ?_;refine uAa rfl rfl rfl (uAq rfl rfl gU gU rfl rfl rfl (fun hh=>Sp.rows_at (by first | omega | (simp at hh ⊢; omega)))) ?_;refine uAa rfl rfl rfl (uAF rfl gU rfl rfl rfl rfl) ?_;refine uAw rfl (uAT rfl rfl rfl) ?_;refine uAw rfl (uAB rfl rfl rfl rfl rfl rfl rfl) ?_;refine uAf ?_;refine uAn (s:=⟨[(1,_,_),(5,_,_),(6,_,_),(7,_,_)],[(.l 1,_),(.l 7,_)],[],[]⟩) (uAj (⟨sx rfl,sx rfl,sx rfl,sx rfl,trivial⟩) (⟨sx rfl,sx rfl,trivial⟩) trivial) ?_;refine awp_drawn' (by kernel_rfl) ?_;refine uAh rfl rfl rfl rfl (uAc rfl gU) ?_;refine uAh rfl rfl rfl rfl (uAu rfl rfl gU gU (by first | omega | (simp only [List.length_append,List.length_cons,List.length_nil]; omega))) ?_;refine uAh rfl rfl rfl rfl (uAg rfl gU rfl rfl) ?_;refine uAS rfl rfl rfl rfl rfl rfl rfl gU rfl rfl rfl rfl ?_;refine uAh rfl rfl rfl rfl (uAu rfl rfl gU gU (by first | omega | (simp only [List.length_append,List.length_cons,List.length_nil]; omega))) ?_;refine uAh rfl rfl rfl rfl (uAu rfl rfl gU gU (by first | omega | (simp only [List.length_append,List.length_cons,List.length_nil]; omega))) ?_
    refine uAh rfl rfl rfl rfl (uAg rfl gU rfl rfl) ?_;refine uAS rfl rfl rfl rfl rfl rfl rfl gU rfl rfl rfl rfl ?_;refine uAh rfl rfl rfl rfl (uAu rfl rfl gU gU (by first | omega | (simp only [List.length_append,List.length_cons,List.length_nil]; omega))) ?_;refine uAh rfl rfl rfl rfl (uAu rfl rfl gU gU (by first | omega | (simp only [List.length_append,List.length_cons,List.length_nil]; omega))) ?_;refine uAh rfl rfl rfl rfl (uAg rfl gU rfl rfl) ?_;refine uB3 rfl rfl rfl rfl rfl rfl rfl gU rfl rfl rfl rfl rfl ?_;refine uA4 rfl rfl rfl rfl rfl rfl rfl gU gU (uFm (n.steps.getD j default).msg (by have := s3.size; omega) s3.ok) rfl ?_;refine uAh rfl rfl rfl rfl (uAu rfl rfl gU gU (by first | omega | (simp only [List.length_append,List.length_cons,List.length_nil]; omega))) ?_;refine uAh rfl rfl rfl rfl (uAu rfl rfl gU gU (by first | omega | (simp only [List.length_append,List.length_cons,List.length_nil]; omega))) ?_;refine uAh rfl rfl rfl rfl (uAd rfl gU) ?_;refine uA8 (by kernel_rfl) ?_;refine uAn (s := ⟨[(1,_,_),(5,_,_),(6,_,_)],[(.l 1,_)],[],[]⟩) (uAj (⟨sx rfl,sx rfl,sx rfl,trivial⟩) (⟨sx rfl,trivial⟩) trivial) ?_;refine uAb ?_;refine uAa rfl rfl rfl (uAc rfl gU) ?_;refine uAa rfl rfl rfl (uAr rfl rfl gU gU rfl (IntWalk.i64_in _ (by omega))) ?_;refine uAa rfl rfl rfl (uAd rfl gU) ?_
    refine uAf ?_;refine ⟨j + 1,?_,?_,uAj (⟨⟨_,rfl,?_⟩,⟨⟨_,rfl,?_⟩,⟨sx rfl,trivial⟩⟩⟩) (⟨sx rfl,trivial⟩) trivial⟩
    all_goals first
     | rfl
     | omega
     | exact tx (congrArg xs (by rw [uEZ n hlt,uCP,uHP]; simp [Itm.text,hMsg,arrow]))
   ·try simp only [nn,uAi,T.rows_len,Fs.rows_len,Sp.rows_len,Gl.rows_len] at hc5
    have hje : j=n.steps.length:=by omega
    subst hje
    refine uAM ?_
    repeat (first | refine uAD ?_ | refine uAE ?_ | refine uAC rfl ?_)
    refine uAe ?_;refine uAe (uAb ?_);refine uAa rfl rfl rfl (uAd rfl gU) ?_;refine uAf ?_;refine uAt ?_;refine uAW (ι:=Nat) { t:=[(1,_,_)],bx:=[(.l 1,_)],ow:=[] } (fun k=>[(8,true,xi (k : Int)),(5,true,xs (nl (n.rest n.steps.length k)))]) (fun k=>[]) (fun k=>k≤n.goals.length) (fun k=>n.goals.length - k) (0) (by simp) (uAj (⟨sx rfl,sx rfl,sx rfl,trivial⟩) (⟨sx rfl,trivial⟩) trivial) ?_
    intro k hokk2
    dsimp only [List.cons_append,List.nil_append]
    have hm2:=uGQ hok n.steps.length k
    refine uAe ?_;refine uAe (uAb ?_);refine uAa rfl rfl rfl (uAc rfl gU) ?_;refine uAa rfl rfl rfl (uAg rfl gU rfl rfl) ?_;refine uAa rfl rfl rfl (uAl rfl gU rfl rfl rfl rfl) ?_;refine uAL rfl rfl rfl rfl rfl gU rfl rfl ?_ (fun hh=>by simp at hh); intro hlen;refine uAa rfl rfl rfl (uAk rfl rfl gU gU rfl) ?_;refine uAf ?_;refine uAn (s:=⟨[(1,_,_),(5,_,_),(8,_,_),(69,_,_)],[(.l 1,_)],[],[]⟩) (uAj (⟨sx rfl,sx rfl,sx rfl,sx rfl,trivial⟩) (⟨sx rfl,trivial⟩) trivial) ?_;refine uAm rfl (fun hc6=>?_) (fun hc6=>?_)
    ·try simp only [nn,uAi,T.rows_len,Fs.rows_len,Sp.rows_len,Gl.rows_len] at hc6
     have hlt : k < n.goals.length:=by omega
     have hgk:=hok.goals _ (uBv (d:=default) hlt)
     have g1:=uDo hgk
     have g2:=uEd (n.goals.getD k default)
     have g3 : (uEi (n.goals.getD k default)).length≤4600:=by
      rw [g2] at g1; simp only [List.length_append] at g1; omega
     refine uAo ?_;refine uAe ?_;refine uAt ?_;refine uAb ?_;refine uAa rfl rfl rfl (uAc rfl gU) ?_;refine uAa rfl rfl rfl (uAu rfl rfl gU gU (by first | omega | (simp only [List.length_append,List.length_cons,List.length_nil]; omega))) ?_;refine uAa rfl rfl rfl (uAg rfl gU rfl rfl) ?_;refine uAa rfl rfl rfl (uAl rfl gU rfl rfl rfl rfl) ?_;refine uAa rfl rfl rfl (uAc rfl gU) ?_;refine uAa rfl rfl rfl (uAq rfl rfl gU gU rfl rfl rfl (fun hh=>Gl.rows_at (by first | omega | (simp at hh ⊢; omega)))) ?_;refine uAa rfl rfl rfl (uAF rfl gU rfl rfl rfl rfl) ?_;refine uAx rfl rfl rfl rfl rfl rfl gU gU (uE7 _ (by assumption)) rfl ?_;refine uAa rfl rfl rfl (uAu rfl rfl gU gU (by first | omega | (simp only [List.length_append,List.length_cons,List.length_nil]; omega))) ?_;refine uAa rfl rfl rfl (uAu rfl rfl gU gU (by first | omega | (simp only [List.length_append,List.length_cons,List.length_nil]; omega))) ?_;refine uAa rfl rfl rfl (uAd rfl gU) ?_;refine uAf ?_;refine uAn (s:=⟨[(1,_,_),(5,_,_),(8,_,_)],[(.l 1,_)],[],[]⟩) (uAj (⟨sx rfl,sx rfl,sx rfl,trivial⟩) (⟨sx rfl,trivial⟩) trivial) ?_;refine uAb ?_;refine uAa rfl rfl rfl (uAc rfl gU) ?_;refine uAa rfl rfl rfl (uAr rfl rfl gU gU rfl (IntWalk.i64_in _ (by omega))) ?_;refine uAa rfl rfl rfl (uAd rfl gU) ?_
     refine uAf ?_;refine ⟨k + 1,?_,?_,uAj (⟨⟨_,rfl,?_⟩,⟨⟨_,rfl,?_⟩,⟨sx rfl,trivial⟩⟩⟩) (⟨sx rfl,trivial⟩) trivial⟩
     all_goals first
      | rfl
      | omega
      | exact tx (congrArg xs (by rw [uER n hlt,uCP,uHP,g2]; simp [hGoal]))
    ·try simp only [nn,uAi,T.rows_len,Fs.rows_len,Sp.rows_len,Gl.rows_len] at hc6
     have hke : k=n.goals.length:=by omega
     subst hke
     have hj1:=uEn n
     have hj2 : nl (n.rest n.steps.length n.goals.length)++[125,10]=n.text:=by rw [n.text_eq,← hj1,uCP]; rfl
     refine uAM ?_
     repeat (first | refine uAD ?_ | refine uAE ?_ | refine uAC rfl ?_)
     refine uAe (uAb ?_);refine uAa rfl rfl rfl (uAc rfl gU) ?_;refine uAa rfl rfl rfl (uAu rfl rfl gU gU (by first | omega | (simp only [List.length_append,List.length_cons,List.length_nil]; omega))) ?_;refine uAa rfl rfl rfl (uAd rfl gU) ?_;refine uAa rfl rfl rfl (uAd rfl gU) ?_;refine uAf ?_;refine uAp ?_
     repeat (first | refine tR ?_ | refine bR ?_)
     refine uAs rfl ?_ trivial
     rw [← hj2]; rfl
end Go.Proofs.YtnjjdbapadkomaaGreatDoor
namespace Go.Proofs.YtnjjdbapadkomaaGreatDoor
open Go Go.Abs
theorem uMt (s : List UInt8) (k : Int) : Ctr sys 38 [xs s,xi k] [] (xm ⟨2,s,k,[]⟩) none []:=by
 refine uAy Tryz.func38 rfl rfl rfl rfl rfl rfl ?_;refine uAe (uAb ?_);refine uAw rfl (uAT rfl rfl rfl) ?_;refine uAf ?_;refine uAe (uAb ?_);refine uAa rfl rfl rfl (uAc rfl gU) ?_;refine uAa rfl rfl rfl (uAc rfl gU) ?_;refine uAa rfl rfl rfl (uA1 rfl Tryz.underlying39 rfl gU) ?_;refine uAw rfl (uAB rfl rfl rfl rfl rfl rfl rfl) ?_;refine uAf ?_;refine uAp ?_
 repeat (first | refine tR ?_ | refine bR ?_)
 refine uAs rfl ?_ trivial
 rfl
theorem uNR (s : List UInt8) (ks : List T) (hk : ks.length≤3000000) : Ctr sys 39 [xs s,xl ks] [] (xm ⟨3,s,0,ks⟩) none []:=by
 have hrl:=T.rows_len ks
 refine uAy Tryz.func39 rfl rfl rfl rfl rfl rfl ?_;refine uAe (uAb ?_);refine uAw rfl (uAT rfl rfl rfl) ?_;refine uAf ?_;refine uAe (uAb ?_);refine uAa rfl rfl rfl (uAc rfl gU) ?_;refine uAQ (xs:=[]) rfl rfl rfl rfl rfl rfl rfl rfl rfl gU rfl ?_;refine uAa rfl rfl rfl (uAc rfl gU) ?_;refine uAw rfl (uA2 rfl rfl rfl rfl rfl rfl rfl (by first | omega | (simp only [List.length_nil]; omega)) (by first | omega | (simp only [List.length_nil]; omega))) ?_;refine uAa rfl rfl rfl (uA1 rfl Tryz.underlying39 rfl gU) ?_;refine uAw rfl (uAB rfl rfl rfl rfl rfl rfl rfl) ?_;refine uAf ?_;refine uAp ?_
 repeat (first | refine tR ?_ | refine bR ?_)
 refine uAs rfl ?_ trivial
 rfl
theorem uF7 (s : List UInt8) (rs : List (List C)) (ks : List T) (h : rs=T.rows ks) (hk : ks.length≤3000000) : Ctr sys 39 [xs s, .v (.c (.sl 4 rs))] [] (xm ⟨3,s,0,ks⟩) none []:=by
 subst h; exact uNR s ks hk
end Go.Proofs.YtnjjdbapadkomaaGreatDoor
namespace Go.Proofs.YtnjjdbapadkomaaGreatDoor
open Go Go.Abs
theorem uEU (s : List UInt8) : Ctr sys 37 [xs s] [] (xm ⟨2,s,0,[]⟩) none []:=by
 refine uAy Tryz.func37 rfl rfl rfl rfl rfl rfl ?_;refine uAe (uAb ?_);refine uAw rfl (uAT rfl rfl rfl) ?_;refine uAf ?_;refine uAe (uAb ?_);refine uAa rfl rfl rfl (uAc rfl gU) ?_;refine uAx rfl rfl rfl rfl rfl rfl gU gU (uMt _ _) rfl ?_;refine uAw rfl (uAB rfl rfl rfl rfl rfl rfl rfl) ?_;refine uAf ?_;refine uAp ?_
 repeat (first | refine tR ?_ | refine bR ?_)
 refine uAs rfl ?_ trivial
 rfl
def exS : List UInt8:=[112,114,111,116,111,99,111,108,32,80,32,123,32,114,111,108,101,32,65,44,32,66,59,32,102,114,101,115,104,32,65,58,32,110,97,32,110,111,110,99,101,59,32,109,101,115,115,97,103,101,32,65,32,45,62,32,66,58,32,101,110,99,40,60,110,97,44,32,65,62,44,32,115,104,107,40,65,44,32,66,41,41,59,32,103,111,97,108,32,115,101,99,114,101,116,32,66,58,32,110,97,59,32,125]
def exM : T:=⟨3,[101,110,99],0,[⟨3,wPair,0,[⟨2,[110,97],0,[]⟩,⟨2,[65],0,[]⟩]⟩,⟨3,[115,104,107],0,[⟨2,[65],0,[]⟩,⟨2,[66],0,[]⟩]⟩]⟩
def exN : Nar:=⟨[80],[[65],[66]],[⟨[65],[110,97],2⟩],[],[⟨[65],[66],exM,1⟩],[⟨1,[66],[],[⟨2,[110,97],0,[]⟩],1⟩]⟩
def exV : List UInt8:=[60,97,44,32,60,98,44,32,99,62,62]
def exT : T:=⟨3,wPair,0,[⟨2,[97],0,[]⟩,⟨3,wPair,0,[⟨2,[98],0,[]⟩,⟨2,[99],0,[]⟩]⟩]⟩
set_option maxRecDepth 100000 in
theorem ex1 : uCi exS=(exN,0,0):=by kernel_rfl
set_option maxRecDepth 100000 in
theorem ex2 : narE uAH exN=0:=by decide +kernel
set_option maxRecDepth 100000 in
theorem ex3 : (lnsP exN.text).length=6∧exN.text.length≤1000:=by decide +kernel
set_option maxRecDepth 100000 in
theorem ex4 : uIO exV=(exT,0,0):=by kernel_rfl
set_option maxRecDepth 100000 in
theorem ex5 : ftE exT=([60,97,44,32,98,44,32,99,62],0):=by decide +kernel
theorem uHM : Ctr sys 10 [] [] (xb true) none []:=by
 have h1:=uHY exS (by decide)
 rw [ex1] at h1
 have h2:=uJM exN (by decide) (by decide)
 rw [uCI,if_neg (by rw [ex2]; simp)] at h2
 have h3:=uMM exV (by decide)
 rw [ex4] at h3
 have h4:=uGM exT (by decide)
 rw [ex5] at h4
 obtain ⟨x1,x2⟩:=ex3
 have h5:=uKf exN.text (by omega)
 have l5:=uAi (lnsP exN.text)
 have h6 : Ctr sys 20 [xm exM,xm exM] [] (xb true) none []:=by
  have := uF6 exM exM (by decide) (by decide)
  rwa [T.cmp_self] at this
 refine uAy Tryz.func10 rfl rfl rfl rfl rfl rfl ?_;refine uAe (uAb ?_);refine uAa rfl rfl rfl (uAd rfl gU) ?_;refine uAf ?_;refine uAe (uAb ?_);refine uAx rfl rfl rfl rfl rfl rfl gU gU (h1) rfl ?_;refine uAa rfl rfl rfl (uAc rfl gU) ?_;refine uAa rfl rfl rfl (uAJ rfl gU rfl) ?_;refine uAa rfl rfl rfl (uAJ rfl gU rfl) ?_;refine uAa rfl rfl rfl (uAJ rfl gU rfl) ?_;refine uAw rfl (uAT rfl rfl rfl) ?_;refine uAw rfl (uAB rfl rfl rfl rfl rfl rfl rfl) ?_;refine uAa rfl rfl rfl (uAd rfl gU) ?_;refine uAa rfl rfl rfl (uAd rfl gU) ?_;refine uAf ?_;refine uAn (s:=⟨[(1,_,_),(3,_,_)],[(.l 1,_)],[],[]⟩) (uAj (⟨sx rfl,sx rfl,trivial⟩) (⟨sx rfl,trivial⟩) trivial) ?_;refine uAe (uAb ?_);refine uAa rfl rfl rfl (uAv rfl gU rfl rfl rfl rfl rfl) ?_;refine uAx rfl rfl rfl rfl rfl rfl gU gU (h2) rfl ?_;refine uAa rfl rfl rfl (uAc rfl gU) ?_;refine uAa rfl rfl rfl (uAJ rfl gU rfl) ?_;refine uAa rfl rfl rfl (uAJ rfl gU rfl) ?_;refine uAa rfl rfl rfl (uAd rfl gU) ?_;refine uAa rfl rfl rfl (uAd rfl gU) ?_;refine uAf ?_;refine uAn (s:=⟨[(1,_,_),(3,_,_),(4,_,_),(5,_,_)],[(.l 1,_)],[],[]⟩) (uAj (⟨sx rfl,sx rfl,sx rfl,sx rfl,trivial⟩) (⟨sx rfl,trivial⟩) trivial) ?_;refine uAe (uAb ?_)
 refine uAx rfl rfl rfl rfl rfl rfl gU gU (h3) rfl ?_;refine uAa rfl rfl rfl (uAc rfl gU) ?_;refine uAa rfl rfl rfl (uAJ rfl gU rfl) ?_;refine uAa rfl rfl rfl (uAJ rfl gU rfl) ?_;refine uAa rfl rfl rfl (uAJ rfl gU rfl) ?_;refine uAw rfl (uAT rfl rfl rfl) ?_;refine uAw rfl (uAB rfl rfl rfl rfl rfl rfl rfl) ?_;refine uAa rfl rfl rfl (uAd rfl gU) ?_;refine uAa rfl rfl rfl (uAd rfl gU) ?_;refine uAf ?_;refine uAn (s:=⟨[(1,_,_),(3,_,_),(4,_,_),(5,_,_),(6,_,_),(8,_,_)],[(.l 1,_),(.l 6,_)],[],[]⟩) (uAj (⟨sx rfl,sx rfl,sx rfl,sx rfl,sx rfl,sx rfl,trivial⟩) (⟨sx rfl,sx rfl,trivial⟩) trivial) ?_;refine uAe (uAb ?_);refine uAa rfl rfl rfl (uAv rfl gU rfl rfl rfl rfl rfl) ?_;refine uAx rfl rfl rfl rfl rfl rfl gU gU (h4) rfl ?_;refine uAa rfl rfl rfl (uAc rfl gU) ?_;refine uAa rfl rfl rfl (uAJ rfl gU rfl) ?_;refine uAa rfl rfl rfl (uAJ rfl gU rfl) ?_;refine uAa rfl rfl rfl (uAd rfl gU) ?_;refine uAa rfl rfl rfl (uAd rfl gU) ?_;refine uAf ?_;refine uAn (s:=⟨[(1,_,_),(3,_,_),(4,_,_),(5,_,_),(8,_,_),(9,_,_),(10,_,_)],[(.l 1,_)],[],[]⟩) (uAj (⟨sx rfl,sx rfl,sx rfl,sx rfl,sx rfl,sx rfl,sx rfl,trivial⟩) (⟨sx rfl,trivial⟩) trivial) ?_;refine uAe ?_;refine uAe (uAb ?_)
 refine uAa rfl rfl rfl (uAc rfl gU) ?_;refine uAa rfl rfl rfl (uAk rfl rfl gU gU rfl) ?_;refine uAa rfl rfl rfl (uAc rfl gU) ?_;refine uAa rfl rfl rfl (uAc rfl gU) ?_;refine uAa rfl rfl rfl (uAk rfl rfl (fun hh=>hh) gU rfl) ?_;refine uAa rfl rfl rfl (uAK rfl rfl gU (fun _ hi=>gP rfl hi)) ?_;refine uAa rfl rfl rfl (uAc rfl gU) ?_;refine uAa rfl rfl rfl (uAc rfl gU) ?_;refine uAa rfl rfl rfl (uAk rfl rfl (fun hh=>hh) gU rfl) ?_;refine uAa rfl rfl rfl (uAK rfl rfl gU (fun _ hi=>gP rfl hi)) ?_;refine uAa rfl rfl rfl (uAc rfl gU) ?_;refine uAa rfl rfl rfl (uAc rfl gU) ?_;refine uBk (s:=⟨[(1,_,_),(4,_,_),(9,_,_),(42,_,_),(43,_,_)],[(.l 1,_)],[],[]⟩) (uAj (⟨sx rfl,sx rfl,sx rfl,sx rfl,sx rfl,trivial⟩) (⟨sx rfl,trivial⟩) trivial) ?_;refine uAa rfl rfl rfl (uAk rfl rfl (fun hh=>hh) gU rfl) ?_;refine uAa rfl rfl rfl (uAK rfl rfl gU (fun _ hi=>gP rfl hi)) ?_;refine uAa rfl rfl rfl (uAc rfl gU) ?_;refine uAa rfl rfl rfl (uAc rfl gU) ?_;refine uAa rfl rfl rfl (uAZ rfl rfl (fun hh=>hh) gU rfl) ?_;refine uAa rfl rfl rfl (uAK rfl rfl gU (fun _ hi=>gP rfl hi)) ?_;refine uAa rfl rfl rfl (uAc rfl gU) ?_;refine uAa rfl rfl rfl (uAg rfl gU rfl rfl) ?_;refine uAa rfl rfl rfl (uAl rfl (fun hh=>hh) rfl rfl rfl rfl) ?_;refine uAa rfl rfl rfl (uAY rfl (fun hh=>hh) rfl rfl) ?_
 refine uAa rfl rfl rfl (uAk rfl rfl (fun hh=>hh) gU rfl) ?_;refine uAa rfl rfl rfl (uAK rfl rfl gU (fun _ hi=>gP rfl hi)) ?_;refine uBk (s:=⟨[(1,_,_),(4,_,_),(55,_,_)],[(.l 1,_)],[],[]⟩) (uAj (⟨sx rfl,sx rfl,sx rfl,trivial⟩) (⟨sx rfl,trivial⟩) trivial) ?_;refine uAa rfl rfl rfl (uAc rfl gU) ?_;refine uAa rfl rfl rfl (uAc rfl gU) ?_;refine uAx rfl rfl rfl rfl rfl rfl gU (fun hh=>gA ((fun hh=>hh) hh) (rfl)) (h5) rfl ?_;refine uAa rfl rfl rfl (uAY rfl (fun hh=>hh) rfl rfl) ?_;refine uAa rfl rfl rfl (uAk rfl rfl (fun hh=>hh) gU rfl) ?_;refine uAa rfl rfl rfl (uAK rfl rfl gU (fun _ hi=>gP rfl hi)) ?_;refine uAf ?_;refine uAn (s:=⟨[(1,_,_),(61,_,_)],[(.l 1,_)],[],[]⟩) (uAj (⟨sx rfl,sx rfl,trivial⟩) (⟨sx rfl,trivial⟩) trivial) ?_;refine uAm rfl (fun hc=>?_) (fun hc=>?_)
 ·exfalso
  rw [l5,x1] at hc
  simp [exN,Sp.rows] at hc
 ·refine uAo ?_
  refine uAe (uAb ?_);refine uAa rfl rfl rfl (uAd rfl gU) ?_;refine uAf ?_;refine uAe ?_;refine awp_drawn' (by kernel_rfl) ?_;refine uAh rfl rfl rfl rfl (uAg rfl gU rfl rfl) ?_;refine uAS rfl rfl rfl rfl rfl rfl rfl gU rfl rfl rfl rfl ?_;refine uAh rfl rfl rfl rfl (uAq (j:=0) rfl rfl gU gU rfl rfl (by first | omega | (simp at hh ⊢; omega) | decide) (fun hh=>Sp.rows_at (by first | omega | (simp at hh ⊢; omega) | decide))) ?_;refine uAh rfl rfl rfl rfl (uAP rfl gU rfl rfl) ?_;refine uAh rfl rfl rfl rfl (uAF rfl gU rfl rfl rfl rfl) ?_;refine uAh rfl rfl rfl rfl (uAc rfl gU) ?_;refine uA4 rfl rfl rfl rfl rfl rfl rfl gU gU (uEU [110,97]) rfl ?_;refine uAh rfl rfl rfl rfl (uAc rfl gU) ?_;refine uA4 rfl rfl rfl rfl rfl rfl rfl gU gU (uEU [65]) rfl ?_;refine uCt (xs:=[_,_]) rfl rfl rfl rfl rfl rfl rfl rfl rfl rfl gU rfl ?_;refine uA4 rfl rfl rfl rfl rfl rfl rfl gU gU (uF7 _ _ [⟨2,[110,97],0,[]⟩,⟨2,[65],0,[]⟩] (by simp [T.rows_eq,T.cells]) (by simp)) rfl ?_;refine uAh rfl rfl rfl rfl (uAc rfl gU) ?_;refine uA4 rfl rfl rfl rfl rfl rfl rfl gU gU (uEU [65]) rfl ?_;refine uAh rfl rfl rfl rfl (uAc rfl gU) ?_;refine uA4 rfl rfl rfl rfl rfl rfl rfl gU gU (uEU [66]) rfl ?_;refine uCt (xs:=[_,_]) rfl rfl rfl rfl rfl rfl rfl rfl rfl rfl gU rfl ?_;refine uA4 rfl rfl rfl rfl rfl rfl rfl gU gU (uF7 _ _ [⟨2,[65],0,[]⟩,⟨2,[66],0,[]⟩] (by simp [T.rows_eq,T.cells]) (by simp)) rfl ?_
  refine uCt (xs:=[_,_]) rfl rfl rfl rfl rfl rfl rfl rfl rfl rfl gU rfl ?_;refine uA4 rfl rfl rfl rfl rfl rfl rfl gU gU (uF7 _ _ exM.kids (by rfl) (by decide)) rfl ?_;refine uA4 rfl rfl rfl rfl rfl rfl rfl gU gU (h6) rfl ?_;refine uAh rfl rfl rfl rfl (uAd rfl gU) ?_;refine uA8 (by kernel_rfl) ?_;refine uAp ?_
  repeat (first | refine tR ?_ | refine bR ?_)
  refine uAs rfl ?_ trivial
  rfl
end Go.Proofs.YtnjjdbapadkomaaGreatDoor
namespace Go.Proofs.YtnjjdbapadkomaaGreatDoor
open Go Go.Abs
namespace T
mutual
def bud : T→Int→Int
 | mk _ nm _ ks,m=>if m≤0∨40 < nm.length then -1 else buds ks (m - 1)
def buds : List T→Int→Int
 | [],m=>m
 | t :: ts,m=>if bud t m < 0 then -1 else buds ts (bud t m)
end
theorem bud_eq (t : T) (m : Int) : t.bud m=if m≤0∨40 < t.name.length then -1 else buds t.kids (m - 1):=by cases t; rw [bud]; rfl
mutual
theorem uPI : ∀ (t : T) (m : Int),0≤t.bud m→t.bud m + t.size≤m
 | mk _ nm _ ks,m,h=>by
  rw [bud] at h ⊢
  rw [size]
  split at h
  ·omega
  ·rename_i hn
   rw [if_neg hn]
   have := buds_le ks (m - 1) h
   omega
theorem buds_le : ∀ (ts : List T) (m : Int),0≤buds ts m→buds ts m + sizes ts≤m
 | [],m,_=>by rw [buds,sizes]; omega
 | t :: ts,m,h=>by
  rw [buds] at h ⊢
  rw [sizes]
  split at h
  ·omega
  ·rename_i hn
   rw [if_neg hn]
   have h1:=uPI t m (by omega)
   have h2:=buds_le ts (t.bud m) h
   omega
end
theorem buds_step : ∀ (ts : List T) (k : Nat) (x : T) (m : Int),ts[k]? = some x→0≤buds (ts.take k) m→0≤x.bud (buds (ts.take k) m)→buds (ts.take (k + 1)) m=x.bud (buds (ts.take k) m)
 | [],k,x,m,h,_,_=>by simp at h
 | t :: ts,0,x,m,h,h0,hx=>by
  simp at h; subst h
  simp only [List.take_zero,buds] at hx ⊢
  simp only [List.take_succ_cons,List.take_zero,buds]
  rw [if_neg (by omega)]
 | t :: ts,k + 1,x,m,h,h0,hx=>by
  rw [List.take_succ_cons,buds] at h0 hx ⊢
  rw [List.take_succ_cons,buds]
  split at h0
  ·omega
  ·rename_i hn
   rw [if_neg hn] at hx ⊢
   rw [if_neg hn]
   exact buds_step ts k x _ (by simpa using h) h0 hx
theorem buds_hit : ∀ (ts : List T) (k : Nat) (x : T) (m : Int),ts[k]? = some x→0≤buds (ts.take k) m→x.bud (buds (ts.take k) m) < 0→buds ts m = -1
 | [],k,x,m,h,_,_=>by simp at h
 | t :: ts,0,x,m,h,h0,hx=>by
  simp at h; subst h
  simp only [List.take_zero,buds] at hx
  rw [buds,if_pos hx]
 | t :: ts,k + 1,x,m,h,h0,hx=>by
  rw [List.take_succ_cons,buds] at h0 hx
  rw [buds]
  split at h0
  ·omega
  ·rename_i hn
   rw [if_neg hn] at hx ⊢
   exact buds_hit ts k x _ (by simpa using h) h0 hx
end T
def fewB (l : List T) (n : Nat) (m : Int) : Bool:=decide (l.length≤n) && decide (0≤T.buds l m)
theorem uLA {l : List T} {n : Nat} {m : Int} (h : fewB l n m=true) : l.length≤n∧T.sizes l≤m:=by
 simp only [fewB,Bool.and_eq_true,decide_eq_true_eq] at h
 have := T.buds_le l m h.2
 exact ⟨h.1,by omega⟩
def budS (t : T) (m : Int) (k : Nat) : St:={ t:=[(1,true,xi (T.buds (t.kids.take k) (m - 1))),(2,true, .v (.ptr (.l 2) 0)),(5,true,xi k)],bx:=[(.l 2,t.cells)],ow:=[] }
theorem uKz : ∀ (n : Nat) (t : T) (m : Int),m≤n→n≤2000000 → -2000000≤m→Ctr sys 83 [xm t,xi m] [] (xi (t.bud m)) none []:=by
 intro n
 induction n with
 | zero =>
  intro t m hm _ _
  refine uAy Tryz.func83 rfl rfl rfl rfl rfl rfl ?_;refine uAe (uAb ?_);refine uAw rfl (uAX rfl rfl rfl rfl) ?_;refine uAa rfl rfl rfl (uAd rfl gU) ?_;refine uAf ?_;refine uAe ?_;refine uAe (uAb ?_);refine uAa rfl rfl rfl (uAc rfl gU) ?_;refine uAa rfl rfl rfl (uAk rfl rfl gU gU rfl) ?_;refine uAa rfl rfl rfl (uAc rfl gU) ?_;refine uAa rfl rfl rfl (uAg rfl gU rfl rfl) ?_;refine uAa rfl rfl rfl (uAl rfl (fun hh=>hh) rfl rfl rfl rfl) ?_;refine uAa rfl rfl rfl (uBY rfl (fun hh=>hh) (Tryz.underlying9)) ?_;refine uAa rfl rfl rfl (uAk rfl rfl (fun hh=>hh) gU rfl) ?_;refine uAa rfl rfl rfl (uAK rfl rfl gU (fun _ hi=>gP rfl hi)) ?_;refine uAf ?_;refine uAn (s:=⟨[(1,_,_),(2,_,_),(13,_,_)],[(.l 2,_)],[],[]⟩) (uAj (⟨sx rfl,sx rfl,sx rfl,trivial⟩) (⟨sx rfl,trivial⟩) trivial) ?_;refine uAm rfl (fun hc=>?_) (fun hc=>?_)
  ·refine uAe (uAb ?_)
   refine uAa rfl rfl rfl (uAd rfl gU) ?_;refine uAf ?_;refine uAp ?_
   repeat (first | refine tR ?_ | refine bR ?_)
   refine uAs rfl ?_ trivial;refine uBb ?_
   rw [T.bud_eq,if_pos (by omega)]
  ·simp only [Bool.or_eq_false_iff,decide_eq_false_iff_not] at hc
   omega
 | succ n ih =>
  intro t m hm hn hm2
  refine uAy Tryz.func83 rfl rfl rfl rfl rfl rfl ?_;refine uAe (uAb ?_);refine uAw rfl (uAX rfl rfl rfl rfl) ?_;refine uAa rfl rfl rfl (uAd rfl gU) ?_;refine uAf ?_;refine uAe ?_;refine uAe (uAb ?_);refine uAa rfl rfl rfl (uAc rfl gU) ?_;refine uAa rfl rfl rfl (uAk rfl rfl gU gU rfl) ?_;refine uAa rfl rfl rfl (uAc rfl gU) ?_;refine uAa rfl rfl rfl (uAg rfl gU rfl rfl) ?_;refine uAa rfl rfl rfl (uAl rfl (fun hh=>hh) rfl rfl rfl rfl) ?_;refine uAa rfl rfl rfl (uBY rfl (fun hh=>hh) (Tryz.underlying9)) ?_;refine uAa rfl rfl rfl (uAk rfl rfl (fun hh=>hh) gU rfl) ?_;refine uAa rfl rfl rfl (uAK rfl rfl gU (fun _ hi=>gP rfl hi)) ?_;refine uAf ?_;refine uAn (s:=⟨[(1,_,_),(2,_,_),(13,_,_)],[(.l 2,_)],[],[]⟩) (uAj (⟨sx rfl,sx rfl,sx rfl,trivial⟩) (⟨sx rfl,trivial⟩) trivial) ?_;refine uAm rfl (fun hc=>?_) (fun hc=>?_)
  ·refine uAe (uAb ?_)
   refine uAa rfl rfl rfl (uAd rfl gU) ?_;refine uAf ?_;refine uAp ?_
   repeat (first | refine tR ?_ | refine bR ?_)
   refine uAs rfl ?_ trivial;refine uBb ?_
   simp only [Bool.or_eq_true,decide_eq_true_eq] at hc
   rw [T.bud_eq,if_pos (by omega)]
  ·simp only [Bool.or_eq_false_iff,decide_eq_false_iff_not] at hc
   have hB : t.bud m=T.buds t.kids (m - 1):=by rw [T.bud_eq,if_neg (by omega)]
   refine uAo ?_;refine uAe (uAb ?_);refine uAa rfl rfl rfl (uAc rfl gU) ?_;refine uAa rfl rfl rfl (uAr rfl rfl gU gU rfl (IntWalk.i64_in _ (by omega))) ?_;refine uAa rfl rfl rfl (uAd rfl gU) ?_;refine uAf ?_;refine uAe ?_;refine uAe (uAb ?_);refine uAa rfl rfl rfl (uAd rfl gU) ?_;refine uAf ?_;refine uAt ?_;refine uCF (budS t m) (fun k=>k≤t.kids.length∧0≤T.buds (t.kids.take k) (m - 1)) (fun k=>t.kids.length - k) 0 ⟨Nat.zero_le _,by simp [T.buds]; omega⟩ ?_ ?_
   ·refine uAj ⟨⟨_,rfl,rfl⟩,⟨_,rfl,rfl⟩,⟨_,rfl,rfl⟩,trivial⟩ ⟨⟨_,rfl,rfl⟩,trivial⟩ trivial
   ·rintro k ⟨hk,hz⟩
    have hbl:=T.buds_le _ _ hz
    refine uAe ?_;refine uAe (uAb ?_);refine uAa rfl rfl rfl (uAc rfl gU) ?_;refine uAa rfl rfl rfl (uAg rfl gU rfl rfl) ?_;refine uAa rfl rfl rfl (uAl rfl gU rfl rfl rfl rfl) ?_;refine uAL rfl rfl rfl rfl rfl gU rfl rfl ?_ (fun hh=>by simp at hh); intro hlen;refine uAa rfl rfl rfl (uAk rfl rfl gU gU rfl) ?_;refine uAf ?_;refine uAn (s:=⟨[(1,_,_),(2,_,_),(5,_,_),(20,_,_)],[(.l 2,_)],[],[]⟩) (uAj (⟨sx rfl,sx rfl,sx rfl,sx rfl,trivial⟩) (⟨sx rfl,trivial⟩) trivial) ?_;refine uAm rfl (fun hc2=>?_) (fun hc2=>?_)
    ·rw [T.rows_len] at hlen hc2
     have hlt : k < t.kids.length:=by simpa using hc2
     obtain ⟨x,hx⟩ : ∃ x,t.kids[k]? = some x:=⟨_,List.getElem?_eq_getElem hlt⟩
     refine uAo ?_;refine uAe ?_;refine uAt ?_;refine uAe (uAb ?_);refine uAa rfl rfl rfl (uAg rfl gU rfl rfl) ?_;refine uAa rfl rfl rfl (uAl rfl gU rfl rfl rfl rfl) ?_;refine uAa rfl rfl rfl (uAc rfl gU) ?_;refine uAa rfl rfl rfl (uAq rfl rfl gU gU rfl rfl rfl (fun _=>T.rows_get hx)) ?_;refine uAa rfl rfl rfl (uAF rfl gU rfl rfl rfl rfl) ?_;refine uAa rfl rfl rfl (uAc rfl gU) ?_;refine uAx rfl rfl rfl rfl rfl rfl gU gU (ih x _ (by omega) (by omega) (by omega)) rfl ?_;refine uAa rfl rfl rfl (uAd rfl gU) ?_;refine uAf ?_;refine uAn (s:=⟨[(1,_,_),(2,_,_),(5,_,_)],[(.l 2,_)],[],[]⟩) (uAj (⟨sx rfl,sx rfl,sx rfl,trivial⟩) (⟨sx rfl,trivial⟩) trivial) ?_;refine uAe (uAb ?_);refine uAa rfl rfl rfl (uAc rfl gU) ?_;refine uAa rfl rfl rfl (uAk rfl rfl gU gU rfl) ?_;refine uAf ?_;refine uAm rfl (fun hc3=>?_) (fun hc3=>?_)
     ·refine uAe (uAb ?_)
      refine uAa rfl rfl rfl (uAd rfl gU) ?_;refine uAf ?_;refine uAp ?_
      repeat (first | refine tR ?_ | refine bR ?_)
      refine uAs rfl ?_ trivial;refine uBb ?_
      simp only [decide_eq_true_eq] at hc3
      rw [hB,T.buds_hit _ _ _ _ hx hz hc3]
     ·simp only [decide_eq_false_iff_not] at hc3
      have hst:=T.buds_step _ _ _ _ hx hz (by omega)
      refine uAo ?_;refine uAb ?_;refine uAa rfl rfl rfl (uAc rfl gU) ?_;refine uAa rfl rfl rfl (uAr rfl rfl gU gU rfl (IntWalk.i64_in _ (by omega))) ?_;refine uAa rfl rfl rfl (uAd rfl gU) ?_;refine uAf ?_;refine ⟨k + 1,⟨by omega,by rw [hst]; omega⟩,by omega,?_⟩;refine uAj ⟨⟨_,rfl,by rw [hst]⟩,⟨_,rfl,rfl⟩,⟨_,rfl,rfl⟩,trivial⟩ ⟨⟨_,rfl,rfl⟩,trivial⟩ trivial
    ·refine uAM ?_
     repeat (first | refine uAD ?_ | refine uAE ?_ | refine uAC rfl ?_)
     refine uAe (uAb ?_);refine uAa rfl rfl rfl (uAc rfl gU) ?_;refine uAa rfl rfl rfl (uAd rfl gU) ?_;refine uAf ?_;refine uAp ?_
     repeat (first | refine tR ?_ | refine bR ?_)
     refine uAs rfl ?_ trivial
     rw [T.rows_len] at hc2
     have : k=t.kids.length:=by simp at hc2; omega
     subst this
     exact uBb (by rw [hB,List.take_length])
def fewS (l : List T) (n : Nat) (m : Int) (k : Nat) : St:={ t:=[(0,true,xl l),(2,true,xi (T.buds (l.take k) m)),(7,true,xi k)],bx:=[],ow:=[] }
theorem uOD (l : List T) (n : Nat) (m : Nat) (hm : m≤2000000) : Ctr sys 32 [xl l,xi n,xi m] [] (xb (fewB l n m)) none []:=by
 refine uAy Tryz.func32 rfl rfl rfl rfl rfl rfl ?_;refine uAe (uAb ?_);refine uAa rfl rfl rfl (uAd rfl gU) ?_;refine uAf ?_;refine uAe ?_;refine uAe (uAb ?_);refine uAa rfl rfl rfl (uAc rfl gU) ?_;refine uAL rfl rfl rfl rfl rfl gU rfl rfl ?_ (fun hh=>by simp at hh); intro hlen;refine uAa rfl rfl rfl (uAc rfl gU) ?_;refine uAa rfl rfl rfl (uAk rfl rfl gU gU rfl) ?_;refine uAf ?_;refine uAn (s:=⟨[(0,_,_),(2,_,_),(11,_,_)],[],[],[]⟩) (uAj (⟨sx rfl,sx rfl,sx rfl,trivial⟩) trivial trivial) ?_;refine uAm rfl (fun hc=>?_) (fun hc=>?_)
 ·refine uAe (uAb ?_)
  refine uAa rfl rfl rfl (uAd rfl gU) ?_;refine uAf ?_;refine uAp ?_
  repeat (first | refine tR ?_ | refine bR ?_)
  refine uAs rfl ?_ trivial;refine uCa ?_
  simp only [T.rows_len,decide_eq_true_eq] at hc
  have : ¬ l.length≤n:=by omega
  simp [fewB,this]
 ·simp only [T.rows_len,decide_eq_false_iff_not] at hc
  have hn : l.length≤n:=by omega
  refine uAo ?_;refine uAe ?_;refine uAe (uAb ?_);refine uAa rfl rfl rfl (uAd rfl gU) ?_;refine uAf ?_;refine uAt ?_;refine uCF (fewS l n m) (fun k=>k≤l.length∧0≤T.buds (l.take k) m) (fun k=>l.length - k) 0 ⟨Nat.zero_le _,by simp [T.buds]⟩ ?_ ?_
  ·refine uAj ⟨⟨_,rfl,rfl⟩,⟨_,rfl,rfl⟩,⟨_,rfl,rfl⟩,trivial⟩ trivial trivial
  ·rintro k ⟨hk,hz⟩
   have hbl:=T.buds_le _ _ hz
   refine uAe ?_;refine uAe (uAb ?_);refine uAa rfl rfl rfl (uAc rfl gU) ?_;refine uAa rfl rfl rfl (uAc rfl gU) ?_;refine uAL rfl rfl rfl rfl rfl gU rfl rfl ?_ (fun hh=>by simp at hh); intro hlen;refine uAa rfl rfl rfl (uAk rfl rfl gU gU rfl) ?_;refine uAf ?_;refine uAm rfl (fun hc2=>?_) (fun hc2=>?_)
   ·rw [T.rows_len] at hlen hc2
    have hlt : k < l.length:=by simpa using hc2
    obtain ⟨x,hx⟩ : ∃ x,l[k]? = some x:=⟨_,List.getElem?_eq_getElem hlt⟩
    refine uAo ?_;refine uAe ?_;refine uAt ?_;refine uAe (uAb ?_);refine uAa rfl rfl rfl (uAc rfl gU) ?_;refine uAa rfl rfl rfl (uAc rfl gU) ?_;refine uAa rfl rfl rfl (uAq rfl rfl gU gU rfl rfl rfl (fun _=>T.rows_get hx)) ?_;refine uAa rfl rfl rfl (uAF rfl gU rfl rfl rfl rfl) ?_;refine uAa rfl rfl rfl (uAc rfl gU) ?_;refine uAx rfl rfl rfl rfl rfl rfl gU gU (uKz m x _ (by omega) (by omega) (by omega)) rfl ?_;refine uAa rfl rfl rfl (uAd rfl gU) ?_;refine uAf ?_;refine uAn (s:=⟨[(0,_,_),(2,_,_),(7,_,_)],[],[],[]⟩) (uAj (⟨sx rfl,sx rfl,sx rfl,trivial⟩) trivial trivial) ?_;refine uAe (uAb ?_);refine uAa rfl rfl rfl (uAc rfl gU) ?_;refine uAa rfl rfl rfl (uAk rfl rfl gU gU rfl) ?_;refine uAf ?_;refine uAm rfl (fun hc3=>?_) (fun hc3=>?_)
    ·refine uAe (uAb ?_)
     refine uAa rfl rfl rfl (uAd rfl gU) ?_;refine uAf ?_;refine uAp ?_
     repeat (first | refine tR ?_ | refine bR ?_)
     refine uAs rfl ?_ trivial;refine uCa ?_
     simp only [decide_eq_true_eq] at hc3
     simp [fewB,T.buds_hit _ _ _ _ hx hz hc3]
    ·simp only [decide_eq_false_iff_not] at hc3
     have hst:=T.buds_step _ _ _ _ hx hz (by omega)
     refine uAo ?_;refine uAb ?_;refine uAa rfl rfl rfl (uAc rfl gU) ?_;refine uAa rfl rfl rfl (uAr rfl rfl gU gU rfl (IntWalk.i64_in _ (by omega))) ?_;refine uAa rfl rfl rfl (uAd rfl gU) ?_;refine uAf ?_;refine ⟨k + 1,⟨by omega,by rw [hst]; omega⟩,by omega,?_⟩;refine uAj ⟨⟨_,rfl,rfl⟩,⟨_,rfl,by rw [hst]⟩,⟨_,rfl,rfl⟩,trivial⟩ trivial trivial
   ·refine uAM ?_
    repeat (first | refine uAD ?_ | refine uAE ?_ | refine uAC rfl ?_)
    refine uAe (uAb ?_);refine uAa rfl rfl rfl (uAd rfl gU) ?_;refine uAf ?_;refine uAp ?_
    repeat (first | refine tR ?_ | refine bR ?_)
    refine uAs rfl ?_ trivial
    rw [T.rows_len] at hc2
    have : k=l.length:=by simp at hc2; omega
    subst this
    rw [List.take_length] at hz
    exact uCa (by simp [fewB,hn,hz])
end Go.Proofs.YtnjjdbapadkomaaGreatDoor
namespace Go.Proofs.YtnjjdbapadkomaaGreatDoor
open Go Go.Abs
theorem uPT (l r : List T) : X.v (.c (.sl 4 (T.rows l++T.rows r)))=xl (l++r):=by simp [xl,T.rows_eq]
def uDx (l : List Gl) : List T:=(l.map Gl.data).flatten
theorem uLQ {l : List Gl} {k : Nat} (h : k < l.length) : uDx (l.take (k + 1))=uDx (l.take k)++(l.getD k default).data:=by
 rw [uDm (d:=default) h]; simp [uDx]
theorem uMS {l : List Gl} (h : ∀ g ∈ l,g.data.length≤2097152) : (uDx l).length≤2097152 * l.length:=by
 induction l with
 | nil=>simp [uDx]
 | cons g l ih =>
  have h1:=h g (by simp)
  have h2:=ih fun x hx=>h x (by simp [hx])
  simp only [uDx,List.map_cons,List.flatten_cons,List.length_append,List.length_cons,Nat.mul_succ] at h2 ⊢
  omega
def uJE (n : Nar) : List T:=n.steps.map Sp.msg++uDx n.goals
def fewN (n : Nar) : Bool:=(decide (n.roles.length≤16) && decide (n.fresh.length≤16) && decide (n.tags.length≤16) && decide (n.steps.length≤16) && decide (n.goals.length≤16)) && fewB (uJE n) 100 900
theorem uLh (n : Nar) (hd : ∀ g ∈ n.goals,g.data.length≤2097152) : Ctr sys 11 [xn n] [] (xb (fewN n)) none []:=by
 have l1:=uAi n.roles
 have l3:=Fs.rows_len n.fresh
 have l4:=uAi n.tags
 have l5:=Sp.rows_len n.steps
 have l6:=Gl.rows_len n.goals
 refine uAy Tryz.func11 rfl rfl rfl rfl rfl rfl ?_;refine uAe (uAb ?_);refine uAw rfl (uAX rfl rfl rfl rfl) ?_;refine uAa rfl rfl rfl (uAd rfl gU) ?_;refine uAf ?_;refine uAe ?_;refine uAe (uAb ?_);refine uAa rfl rfl rfl (uAg rfl gU rfl rfl) ?_;refine uAa rfl rfl rfl (uAl rfl gU rfl rfl rfl rfl) ?_;refine uAL rfl rfl rfl rfl rfl gU rfl rfl ?_ (fun hh=>by simp at hh); intro hlen;refine uAa rfl rfl rfl (uAk rfl rfl gU gU rfl) ?_;refine uAa rfl rfl rfl (uAc rfl gU) ?_;refine uAa rfl rfl rfl (uAg rfl gU rfl rfl) ?_;refine uAa rfl rfl rfl (uAl rfl (fun hh=>hh) rfl rfl rfl rfl) ?_;refine uAa rfl rfl rfl (uAY rfl (fun hh=>hh) rfl rfl) ?_;refine uAa rfl rfl rfl (uAk rfl rfl (fun hh=>hh) gU rfl) ?_;refine uAa rfl rfl rfl (uAK rfl rfl gU (fun _ hi=>gP rfl hi)) ?_;refine uBk (s:=⟨[(1,_,_),(15,_,_)],[(.l 1,_)],[],[]⟩) (uAj (⟨sx rfl,sx rfl,trivial⟩) (⟨sx rfl,trivial⟩) trivial) ?_;refine uAa rfl rfl rfl (uAc rfl gU) ?_;refine uAa rfl rfl rfl (uAg rfl gU rfl rfl) ?_;refine uAa rfl rfl rfl (uAl rfl (fun hh=>hh) rfl rfl rfl rfl) ?_;refine uAa rfl rfl rfl (uAY rfl (fun hh=>hh) rfl rfl) ?_;refine uAa rfl rfl rfl (uAk rfl rfl (fun hh=>hh) gU rfl) ?_;refine uAa rfl rfl rfl (uAK rfl rfl gU (fun _ hi=>gP rfl hi)) ?_;refine uAa rfl rfl rfl (uAc rfl gU) ?_
 refine uAa rfl rfl rfl (uAg rfl gU rfl rfl) ?_;refine uAa rfl rfl rfl (uAl rfl (fun hh=>hh) rfl rfl rfl rfl) ?_;refine uAa rfl rfl rfl (uAY rfl (fun hh=>hh) rfl rfl) ?_;refine uAa rfl rfl rfl (uAk rfl rfl (fun hh=>hh) gU rfl) ?_;refine uAa rfl rfl rfl (uAK rfl rfl gU (fun _ hi=>gP rfl hi)) ?_;refine uBk (s:=⟨[(1,_,_),(27,_,_)],[(.l 1,_)],[],[]⟩) (uAj (⟨sx rfl,sx rfl,trivial⟩) (⟨sx rfl,trivial⟩) trivial) ?_;refine uAa rfl rfl rfl (uAc rfl gU) ?_;refine uAa rfl rfl rfl (uAg rfl gU rfl rfl) ?_;refine uAa rfl rfl rfl (uAl rfl (fun hh=>hh) rfl rfl rfl rfl) ?_;refine uAa rfl rfl rfl (uAY rfl (fun hh=>hh) rfl rfl) ?_;refine uAa rfl rfl rfl (uAk rfl rfl (fun hh=>hh) gU rfl) ?_;refine uAa rfl rfl rfl (uAK rfl rfl gU (fun _ hi=>gP rfl hi)) ?_;refine uAf ?_;refine uAn (s:=⟨[(1,_,_),(33,_,_)],[(.l 1,_)],[],[]⟩) (uAj (⟨sx rfl,sx rfl,trivial⟩) (⟨sx rfl,trivial⟩) trivial) ?_;refine uAm rfl (fun hc=>?_) (fun hc=>?_)
 ·try simp only [nn,uAi,T.rows_len,Gl.rows_len,Fs.rows_len,Sp.rows_len] at hc
  refine uAe (uAb ?_);refine uAa rfl rfl rfl (uAd rfl gU) ?_;refine uAf ?_;refine uAp ?_
  repeat (first | refine tR ?_ | refine bR ?_)
  refine uAs rfl ?_ trivial
  (refine uCa ?_; symm; unfold fewN; rw [Bool.eq_false_iff]; intro q; simp only [Bool.and_eq_true,decide_eq_true_eq] at q; omega)
 ·try simp only [nn,uAi,T.rows_len,Gl.rows_len,Fs.rows_len,Sp.rows_len] at hc
  have h16 : n.roles.length≤16∧n.fresh.length≤16∧n.tags.length≤16∧n.steps.length≤16∧n.goals.length≤16:=by omega
  have hE : fewN n=fewB (uJE n) 100 900:=by
   unfold fewN
   rw [decide_eq_true h16.1,decide_eq_true h16.2.1,decide_eq_true h16.2.2.1,decide_eq_true h16.2.2.2.1,decide_eq_true h16.2.2.2.2]; rfl
  rw [hE]
  refine uAo ?_;refine uAe (uAb ?_);refine uAw rfl (uBq (.inr rfl) rfl rfl) ?_;refine uAf ?_;refine uAe ?_;refine uAe (uAb ?_);refine uAa rfl rfl rfl (uAd rfl gU) ?_;refine uAf ?_;refine uAt ?_;refine uAW (ι:=Nat) { t:=[(1,_,_)],bx:=[(.l 1,_)],ow:=[(.t 3,_)] } (fun k=>[(4,true,xi (k : Int)),(3,true,xl ((n.steps.take k).map Sp.msg))]) (fun k=>[]) (fun k=>k≤n.steps.length) (fun k=>n.steps.length - k) (0) (by simp) (uAj (⟨sx rfl,sx rfl,sx rfl,trivial⟩) (⟨sx rfl,trivial⟩) (⟨rfl,trivial⟩)) ?_
  intro k hoka
  dsimp only [List.cons_append,List.nil_append]
  refine uAe ?_;refine uAe (uAb ?_);refine uAa rfl rfl rfl (uAc rfl gU) ?_;refine uAa rfl rfl rfl (uAg rfl gU rfl rfl) ?_;refine uAa rfl rfl rfl (uAl rfl gU rfl rfl rfl rfl) ?_;refine uAL rfl rfl rfl rfl rfl gU rfl rfl ?_ (fun hh=>by simp at hh); intro hlen;refine uAa rfl rfl rfl (uAk rfl rfl gU gU rfl) ?_;refine uAf ?_;refine uAn (s:=⟨[(1,_,_),(3,_,_),(4,_,_),(38,_,_)],[(.l 1,_)],[(.t 3,_)],[]⟩) (uAj (⟨sx rfl,sx rfl,sx rfl,sx rfl,trivial⟩) (⟨sx rfl,trivial⟩) (⟨rfl,trivial⟩)) ?_;refine uAm rfl (fun hc2=>?_) (fun hc2=>?_)
  ·try simp only [nn,uAi,T.rows_len,Gl.rows_len,Fs.rows_len,Sp.rows_len] at hc2
   have hT:=uDm (l:=n.steps) (d:=default) (k:=k) (by omega)
   refine uAo ?_;refine uAe ?_;refine uAt ?_;refine uAb ?_;refine uAw rfl (uAN (.inl rfl) rfl rfl rfl) ?_;refine uAa rfl rfl rfl (uAg rfl gU rfl rfl) ?_;refine uAa rfl rfl rfl (uAl rfl gU rfl rfl rfl rfl) ?_;refine uAa rfl rfl rfl (uAc rfl gU) ?_;refine uAa rfl rfl rfl (uAq rfl rfl gU gU rfl rfl rfl (fun hh=>Sp.rows_at (by first | omega | (simp at hh ⊢; omega)))) ?_;refine uAa rfl rfl rfl (uAP rfl gU rfl rfl) ?_;refine uAa rfl rfl rfl (uAF rfl gU rfl rfl rfl rfl) ?_;refine uAQ (xs:=[_]) rfl rfl rfl rfl rfl rfl rfl rfl rfl gU rfl ?_;refine uAw rfl (uA2 rfl rfl rfl rfl rfl rfl rfl (by first | omega | (simp only [List.length_append,List.length_singleton,T.rows_len,List.length_map,List.length_take]; omega)) (by first | omega | (simp only [List.length_append,List.length_singleton,T.rows_len,List.length_map,List.length_take]; omega))) ?_;refine uAw rfl (uAN (.inr rfl) rfl rfl rfl) ?_;refine uAf ?_;refine uAn (s:=⟨[(1,_,_),(3,_,_),(4,_,_)],[(.l 1,_)],[(.t 3,_)],[]⟩) (uAj (⟨sx rfl,sx rfl,sx rfl,trivial⟩) (⟨sx rfl,trivial⟩) (⟨rfl,trivial⟩)) ?_;refine uAb ?_;refine uAa rfl rfl rfl (uAc rfl gU) ?_;refine uAa rfl rfl rfl (uAr rfl rfl gU gU rfl (IntWalk.i64_in _ (by omega))) ?_;refine uAa rfl rfl rfl (uAd rfl gU) ?_;refine uAf ?_;refine ⟨k + 1,?_,?_,uAj (⟨⟨_,rfl,?_⟩,⟨⟨_,rfl,?_⟩,⟨sx rfl,trivial⟩⟩⟩) (⟨sx rfl,trivial⟩) (⟨rfl,trivial⟩)⟩
   all_goals (first | rfl | omega | exact tx ((uFw _ _).trans (by rw [hT,List.map_append]; rfl)))
  ·try simp only [nn,uAi,T.rows_len,Gl.rows_len,Fs.rows_len,Sp.rows_len] at hc2
   have hk : k=n.steps.length:=by omega
   subst hk
   refine uAM ?_
   repeat (first | refine uAD ?_ | refine uAE ?_ | refine uAC rfl ?_)
   refine uAe ?_;refine uAe (uAb ?_);refine uAa rfl rfl rfl (uAd rfl gU) ?_;refine uAf ?_;refine uAt ?_;refine uAW (ι:=Nat) { t:=[(1,_,_)],bx:=[(.l 1,_)],ow:=[(.t 3,_)] } (fun j=>[(5,true,xi (j : Int)),(3,true,xl (n.steps.map Sp.msg++uDx (n.goals.take j)))]) (fun j=>[]) (fun j=>j≤n.goals.length) (fun j=>n.goals.length - j) (0) (by simp) (uAj (⟨sx rfl,⟨⟨_,rfl,by simp [uDx]⟩,⟨sx rfl,trivial⟩⟩⟩) (⟨sx rfl,trivial⟩) (⟨rfl,trivial⟩)) ?_
   intro j hokb
   dsimp only [List.cons_append,List.nil_append]
   have hdl:=uMS (l:=n.goals.take j) fun g hg=>hd g (List.mem_of_mem_take hg)
   rw [List.length_take] at hdl
   refine uAe ?_;refine uAe (uAb ?_);refine uAa rfl rfl rfl (uAc rfl gU) ?_;refine uAa rfl rfl rfl (uAg rfl gU rfl rfl) ?_;refine uAa rfl rfl rfl (uAl rfl gU rfl rfl rfl rfl) ?_;refine uAL rfl rfl rfl rfl rfl gU rfl rfl ?_ (fun hh=>by simp at hh); intro hlen;refine uAa rfl rfl rfl (uAk rfl rfl gU gU rfl) ?_;refine uAf ?_;refine uAn (s:=⟨[(1,_,_),(3,_,_),(5,_,_),(54,_,_)],[(.l 1,_)],[(.t 3,_)],[]⟩) (uAj (⟨sx rfl,sx rfl,sx rfl,sx rfl,trivial⟩) (⟨sx rfl,trivial⟩) (⟨rfl,trivial⟩)) ?_;refine uAm rfl (fun hc3=>?_) (fun hc3=>?_)
   ·try simp only [nn,uAi,T.rows_len,Gl.rows_len,Fs.rows_len,Sp.rows_len] at hc3
    have hT:=uLQ (l:=n.goals) (k:=j) (by omega)
    have hdj : (n.goals.getD j default).data.length≤2097152:=hd _ (by rw [List.getD_eq_getElem?_getD,List.getElem?_eq_getElem (by omega)]; exact List.getElem_mem _)
    refine uAo ?_;refine uAe ?_;refine uAt ?_;refine uAb ?_;refine uAw rfl (uAN (.inl rfl) rfl rfl rfl) ?_;refine uAa rfl rfl rfl (uAg rfl gU rfl rfl) ?_;refine uAa rfl rfl rfl (uAl rfl gU rfl rfl rfl rfl) ?_;refine uAa rfl rfl rfl (uAc rfl gU) ?_;refine uAa rfl rfl rfl (uAq rfl rfl gU gU rfl rfl rfl (fun hh=>Gl.rows_at (by first | omega | (simp at hh ⊢; omega)))) ?_;refine uAa rfl rfl rfl (uAP rfl gU rfl rfl) ?_;refine uAa rfl rfl rfl (uAI rfl gU rfl rfl rfl) ?_;refine uAw rfl (uA2 rfl rfl rfl rfl rfl rfl rfl (by first | omega | (simp only [List.length_append,List.length_singleton,T.rows_len,List.length_map,List.length_take]; omega)) (by first | omega | (simp only [List.length_append,List.length_singleton,T.rows_len,List.length_map,List.length_take]; omega))) ?_;refine uAw rfl (uAN (.inr rfl) rfl rfl rfl) ?_;refine uAf ?_;refine uAn (s:=⟨[(1,_,_),(3,_,_),(5,_,_)],[(.l 1,_)],[(.t 3,_)],[]⟩) (uAj (⟨sx rfl,sx rfl,sx rfl,trivial⟩) (⟨sx rfl,trivial⟩) (⟨rfl,trivial⟩)) ?_;refine uAb ?_;refine uAa rfl rfl rfl (uAc rfl gU) ?_;refine uAa rfl rfl rfl (uAr rfl rfl gU gU rfl (IntWalk.i64_in _ (by omega))) ?_;refine uAa rfl rfl rfl (uAd rfl gU) ?_;refine uAf ?_;refine ⟨j + 1,?_,?_,uAj (⟨⟨_,rfl,?_⟩,⟨⟨_,rfl,?_⟩,⟨sx rfl,trivial⟩⟩⟩) (⟨sx rfl,trivial⟩) (⟨rfl,trivial⟩)⟩
    all_goals (first | rfl | omega | exact tx ((uPT _ _).trans (by rw [hT,List.append_assoc])))
   ·try simp only [nn,uAi,T.rows_len,Gl.rows_len,Fs.rows_len,Sp.rows_len] at hc3
    have hk : j=n.goals.length:=by omega
    subst hk
    have e : n.steps.map Sp.msg++uDx (n.goals.take n.goals.length)=uJE n:=by rw [List.take_length]; rfl
    rw [e]
    refine uAM ?_
    repeat (first | refine uAD ?_ | refine uAE ?_ | refine uAC rfl ?_)
    refine uAe (uAb ?_);refine uAa rfl rfl rfl (uAc rfl gU) ?_;refine uAx rfl rfl rfl rfl rfl rfl gU gU (uOD (uJE n) 100 900 (by omega)) rfl ?_;refine uAa rfl rfl rfl (uAd rfl gU) ?_;refine uAf ?_;refine uAp ?_
    repeat (first | refine tR ?_ | refine bR ?_)
    refine uAs rfl ?_ trivial
    rfl
theorem uOY {n : Nar} (h : fewN n=true) : n.steps.length≤16∧n.goals.length≤16∧(∀ s ∈ n.steps,s.msg.size≤900000) ∧ ∀ g ∈ n.goals,T.sizes g.data≤900000:=by
 simp only [fewN,Bool.and_eq_true,decide_eq_true_eq] at h
 obtain ⟨_,h2⟩:=uLA h.2
 have h3 : T.sizes (n.steps.map Sp.msg++uDx n.goals)≤900:=by unfold uJE at h2; omega
 have happ : ∀ a b : List T,T.sizes (a++b)=T.sizes a + T.sizes b:=by
  intro a b
  induction a with
  | nil=>simp [T.sizes]
  | cons t a ih=>simp only [List.cons_append,T.sizes,ih]; omega
 rw [happ] at h3
 refine ⟨h.1.1.2,h.1.2,fun s hs=>?_,fun g hg=>?_⟩
 ·have : ∀ l : List Sp,s ∈ l→s.msg.size≤T.sizes (l.map Sp.msg):=by
   intro l hl
   induction l with
   | nil=>simp at hl
   | cons x l ih =>
    simp only [List.map_cons,T.sizes]
    rcases List.mem_cons.1 hl with q | q
    ·subst q; omega
    ·have := ih q; omega
  have := this _ hs
  omega
 ·have : ∀ l : List Gl,g ∈ l→T.sizes g.data≤T.sizes (uDx l):=by
   intro l hl
   induction l with
   | nil=>simp at hl
   | cons x l ih =>
    have e : uDx (x :: l)=x.data++uDx l:=by simp [uDx]
    rw [e,happ]
    rcases List.mem_cons.1 hl with q | q
    ·subst q; omega
    ·have := ih q; omega
  have := this _ hg
  omega
namespace T
mutual
def all : T→List T
 | mk k n s ks=>mk k n s ks :: alls ks
def alls : List T→List T
 | []=>[]
 | t :: ts=>all t++alls ts
end
end T
end Go.Proofs.YtnjjdbapadkomaaGreatDoor
namespace Go.Abs
end Go.Abs
namespace Go.Proofs.YtnjjdbapadkomaaGreatDoor
open Go Go.Abs
end Go.Proofs.YtnjjdbapadkomaaGreatDoor
namespace Go.Proofs.YtnjjdbapadkomaaGreatDoor
open Go Go.Abs
end Go.Proofs.YtnjjdbapadkomaaGreatDoor
namespace Go.Proofs.YtnjjdbapadkomaaGreatDoor
open Go Go.Abs
end Go.Proofs.YtnjjdbapadkomaaGreatDoor
namespace Go.Proofs.YtnjjdbapadkomaaGreatDoor
open Go Go.Abs
end Go.Proofs.YtnjjdbapadkomaaGreatDoor
namespace Go.Proofs.YtnjjdbapadkomaaGreatDoor
open Go Go.Abs
end Go.Proofs.YtnjjdbapadkomaaGreatDoor
namespace Go.Proofs.YtnjjdbapadkomaaGreatDoor
open Go Go.Abs
def Itm.fst (b : Bool) : Itm→Bool
 | .goal _=>true
 | .roles _=>b
 | _=>false
def hitQ (b : Bool) (x : List UInt8) : Bool:=hGoal.isPrefixOf x || (hRole.isPrefixOf x && b)
theorem uPN {a b x : List UInt8} (h : (a.isPrefixOf (b++x))=true) (hl : a.length≤b.length) : a.isPrefixOf b=true:=by
 rw [List.isPrefixOf_iff_prefix] at h ⊢
 exact List.prefix_of_prefix_length_le h (List.prefix_append b x) hl
theorem uLX (a x : List UInt8) : a.isPrefixOf (a++x)=true:=by rw [List.isPrefixOf_iff_prefix]; exact List.prefix_append a x
theorem uHJ {a b x : List UInt8} (h : a.isPrefixOf (b.take a.length)=false) (hl : a.length≤b.length) : a.isPrefixOf (b++x)=false:=by
 rw [Bool.eq_false_iff] at h ⊢
 intro q
 apply h
 have := uPN q hl
 rw [List.isPrefixOf_iff_prefix] at this ⊢
 obtain ⟨z,rfl⟩:=this
 simp
theorem uOX (b : Bool) : ∀ i : Itm,hitQ b i.text=i.fst b
 | .roles l=>by
  unfold hitQ Itm.text Itm.fst
  rw [uHJ (by decide) (by decide),uLX]; simp
 | .fresh r l=>by
  unfold hitQ Itm.text Itm.fst
  rw [uHJ (by decide) (by decide),uHJ (by decide) (by decide)]; rfl
 | .tags l=>by
  unfold hitQ Itm.text Itm.fst
  have h : ∀ (x : List UInt8),hRole.isPrefixOf (hTag++x)=false∧hGoal.isPrefixOf (hTag++x)=false:=by
   intro x
   simp [hRole,hTag,hGoal,List.isPrefixOf]
  rw [(h _).1,(h _).2]; rfl
 | .step s=>by
  unfold hitQ Itm.text Itm.fst
  rw [uHJ (by decide) (by decide),uHJ (by decide) (by decide)]; rfl
 | .goal g=>by
  unfold hitQ Itm.text Itm.fst
  rw [uLX]; rfl
def uBA (b : Bool) (L : List Itm) : List Itm:=L.filter (Itm.fst b)++L.filter (fun i=>!Itm.fst b i)
theorem uK5 {b : Bool} {L : List Itm} : ∀ i ∈ uBA b L,i ∈ L:=by
 intro i hi
 rcases List.mem_append.1 hi with q | q
 ·exact (List.mem_filter.1 q).1
 ·exact (List.mem_filter.1 q).1
theorem uC8 {β : Type} {b c : Bool} (f : Itm→List β) (hf : ∀ i : Itm,f i≠[]→i.fst b=c) : ∀ L : List Itm,(uBA b L).flatMap f=L.flatMap f:=by
 have h0 : ∀ (p : Itm→Bool) (L : List Itm),(∀ i : Itm,f i≠[]→p i=true)→(L.filter p).flatMap f=L.flatMap f:=by
  intro p L hp
  induction L with
  | nil=>rfl
  | cons i L ih =>
   by_cases hq : p i=true
   ·rw [List.filter_cons_of_pos hq,List.flatMap_cons,List.flatMap_cons,ih]
   ·rw [List.filter_cons_of_neg hq,List.flatMap_cons,ih]
    have : f i=[]:=Decidable.byContradiction fun z=>hq (hp i z)
    rw [this]; rfl
 have h1 : ∀ (p : Itm→Bool) (L : List Itm),(∀ i : Itm,f i≠[]→p i=false)→(L.filter p).flatMap f=[]:=by
  intro p L hp
  rw [List.flatMap_eq_nil_iff]
  intro i hi
  obtain ⟨_,h2⟩:=List.mem_filter.1 hi
  exact Decidable.byContradiction fun z=>by have := hp i z; simp [this] at h2
 intro L
 unfold uBA
 rw [List.flatMap_append]
 cases c with
 | true =>
  rw [h0 _ L (fun i hi=>hf i hi),h1 _ L (fun i hi=>by rw [hf i hi]; rfl),List.append_nil]
 | false =>
  rw [h1 _ L (fun i hi=>hf i hi),h0 _ L (fun i hi=>by rw [hf i hi]; rfl),List.nil_append]
theorem uNq (b : Bool) (n : Nar) : (uBA b n.itms).foldl addI { nar0 with name:=n.name } = n.el:=by
 obtain ⟨i1,i2,i3,i4,i5⟩:=uMj n
 refine uMm ?_ ?_ ?_ ?_ ?_
 ·rw [uC8 (c:=b) _ (fun i hi=>by cases i <;> first | rfl | exact absurd rfl hi),i1]
 ·rw [uC8 (c:=false) _ (fun i hi=>by cases i <;> first | rfl | exact absurd rfl hi),i2]
 ·rw [uC8 (c:=false) _ (fun i hi=>by cases i <;> first | rfl | exact absurd rfl hi),i3]
 ·rw [uC8 (c:=false) _ (fun i hi=>by cases i <;> first | rfl | exact absurd rfl hi),i4]
 ·rw [uC8 (c:=true) _ (fun i hi=>by cases i <;> first | rfl | exact absurd rfl hi),i5]
def uCT (b : Bool) (n : Nar) : List UInt8:=uDc n++((uBA b n.itms).map Itm.text).flatten++[125]
theorem uNu {n : Nar} (b : Bool) (h : narE uAH n=0) (hl : (uCT b n).length≤65536) : (tokP (uCT b n)).2=(0,0)∧(uBL (tokP (uCT b n)).1).1.el=n.el∧endE (tokP (uCT b n)).1 (uBL (tokP (uCT b n)).1).2=(0,0)∧narE uAH (uBL (tokP (uCT b n)).1).1=0:=by
 have hok:=uEp h
 have ho : ∀ i ∈ uBA b n.itms,i.ok:=fun i hi=>hok.itm_ok i (uK5 i hi)
 have ht : Toks true (uCT b n) (uCY n.name (uBA b n.itms)):=by
  have e : uCT b n=uDc n++(((uBA b n.itms).map Itm.text).flatten++[125]):=by simp [uCT]
  have e2 : uCY n.name (uBA b n.itms)=[nmT uC4,nmT n.name,syT 123]++(((uBA b n.itms).map Itm.tk).flatten++[syT 125]):=by simp [uCY]
  rw [e,e2]
  exact (uHR hok.name).app ((uG3 ho).app (Toks.sym (c:=125) (by decide)) (.inl rfl)) (.inl rfl)
 obtain ⟨t1,t2⟩:=ht.end' hl
 exact ⟨t1,uIt h ho (uNq b n) t2⟩
theorem uLW : ∀ (L : List (List UInt8)),(∀ x ∈ L,∀ b ∈ x,b.toNat≠10)→spl (nl L)=L++[[]]
 | [],_=>rfl
 | x :: L,h=>by
  have e : nl (x :: L)=x++(10 :: nl L):=by simp [nl]
  have ih:=uLW L fun y hy=>h y (by simp [hy])
  rw [e,uJh x (h x (by simp)) (uLz (l:=nl L) rfl),List.append_nil,ih]; rfl
theorem uPd : ∀ L : List (List UInt8),fin (L++[[]])=L:=by
 intro L
 rw [uKE _ (by simp)]
 rw [if_pos (by simp)]
 simp
theorem uNN {L : List (List UInt8)} (h : ∀ x ∈ L,∀ b ∈ x,b.toNat≠10) : lnsR (nl L)=L:=by
 rw [uKq,uLW L h,uPd]
def N10 (s : List UInt8) : Prop:=∀ b ∈ s,b.toNat≠10
theorem N10.app {a b : List UInt8} (h : N10 a) (h' : N10 b) : N10 (a++b):=fun x hx=>(List.mem_append.1 hx).elim (h x) (h' x)
theorem N10.nm {w : List UInt8} (h : uAH w=true) : N10 w:=uL5 h
theorem N10.join {L : List (List UInt8)} (h : ∀ x ∈ L,N10 x) : N10 (Lib.join L [44,32]):=by
 have hs : N10 [44,32]:=by unfold N10; decide
 have tail : ∀ {L : List (List UInt8)},(∀ x ∈ L,N10 x)→N10 (Lib.joinTail [44,32] L):=by
  intro L
  induction L with
  | nil=>intro _ b hb; simp [Lib.joinTail] at hb
  | cons x L ih =>
   intro h
   have e : Lib.joinTail [44,32] (x :: L)=[44,32]++(x++Lib.joinTail [44,32] L):=by simp [Lib.joinTail]
   rw [e]
   exact hs.app ((h x (by simp)).app (ih fun y hy=>h y (by simp [hy])))
 cases L with
 | nil=>intro b hb; rw [Lib.join_nil] at hb; simp at hb
 | cons x L =>
  rw [Lib.join_cons]
  exact (h x (by simp)).app (tail fun y hy=>h y (by simp [hy]))
theorem uFW : ∀ (n : Nat) (t : T),t.size≤n→gdB t=true→N10 (uBD t)
 | 0,t,h,_=>by have := t.size_pos; omega
 | n + 1,t,h,hg=>by
  obtain ⟨g1,g2,g3,g4⟩:=uFT hg
  have c1 : N10 [60]:=by unfold N10; decide
  have c2 : N10 [62]:=by unfold N10; decide
  have c3 : N10 [40]:=by unfold N10; decide
  have c4 : N10 [41]:=by unfold N10; decide
  rw [uEA]
  split
  ·exact N10.nm g2
  split
  ·rename_i hp
   refine (c1.app (N10.join fun x hx=>?_)).app c2
   obtain ⟨u,hu,rfl⟩:=List.mem_map.1 hx
   exact uFW n u (by have := uDy hp hu; omega) (uI8 _ hg u hu)
  ·refine (((N10.nm g2).app c3).app (N10.join fun x hx=>?_)).app c4
   obtain ⟨u,hu,rfl⟩:=List.mem_map.1 hx
   exact uFW n u (by have := uCA hu; omega) (g4 u hu)
theorem uMW {l : List T} (h : ∀ x ∈ l,gdB x=true) : N10 (uBU l):=N10.join fun x hx=>by
 obtain ⟨u,hu,rfl⟩:=List.mem_map.1 hx
 exact uFW u.size u (Nat.le_refl _) (h u hu)
theorem uND : ∀ {i : Itm},i.ok→N10 i.text
 | .roles l,⟨_,h⟩=>(show N10 hRole by unfold N10; decide).app ((N10.join fun x hx=>N10.nm (h x hx)).app (show N10 [59] by unfold N10; decide))
 | .tags l,⟨_,h⟩=>(show N10 hTag by unfold N10; decide).app ((N10.join fun x hx=>N10.nm (h x hx)).app (show N10 [59] by unfold N10; decide))
 | .fresh r l,⟨h1,_,h2⟩=>by
  refine (show N10 hFresh by unfold N10; decide).app ((N10.nm h1).app ((show N10 [58,32] by unfold N10; decide).app ((N10.join fun x hx=>?_).app (show N10 [59] by unfold N10; decide))))
  obtain ⟨f,hf,rfl⟩:=List.mem_map.1 hx
  obtain ⟨q1,q2,q3⟩:=h2 f hf
  exact (N10.nm q1).app ((show N10 [32] by unfold N10; decide).app (N10.nm (uKH q2 q3)))
 | .step s,⟨h1,h2,h3⟩ =>
  (show N10 hMsg by unfold N10; decide).app ((N10.nm h1).app ((show N10 arrow by unfold N10; decide).app ((N10.nm h2).app ((show N10 [58,32] by unfold N10; decide).app ((uFW _ _ (Nat.le_refl _) h3).app (show N10 [59] by unfold N10; decide))))))
 | .goal g,⟨h1,h2,h3,h4,h5,h6,h7⟩=>by
  refine (show N10 hGoal by unfold N10; decide).app ((N10.nm (uJ2 h1 h2)).app ((show N10 [32] by unfold N10; decide).app ((N10.nm h3).app (N10.app ?_ ((show N10 [58,32] by unfold N10; decide).app ((uMW h7).app (show N10 [59] by unfold N10; decide)))))))
  split
  ·rename_i ha
   exact (show N10 [32] by unfold N10; decide).app (N10.nm (h4 ha))
  ·intro b hb; simp at hb
theorem uMC {n : Nar} (h : NarOk n) : ∀ x ∈ n.lines,∀ b ∈ x,b.toNat≠10:=by
 intro x hx
 rcases List.mem_append.1 hx with q | q
 ·rw [List.mem_singleton.1 q]
  exact (show N10 hProt by unfold N10; decide).app ((N10.nm h.name).app (show N10 [32,123] by unfold N10; decide))
 rcases List.mem_append.1 q with q | q
 ·obtain ⟨i,hi,rfl⟩:=List.mem_map.1 q
  exact uND (h.itm_ok i hi)
 ·rw [List.mem_singleton.1 q]; decide
theorem uLi {n : Nar} (h : NarOk n) : lnsR n.text=n.lines:=by
 rw [n.text_eq]; exact uNN (uMC h)
theorem uLm (b : Bool) : ∀ L : List Itm,((uBA b L).map Itm.text).flatten.length=(L.map Itm.text).flatten.length:=by
 intro L
 unfold uBA
 induction L with
 | nil=>rfl
 | cons i L ih =>
  simp only [List.map_append,List.flatten_append,List.length_append] at ih
  by_cases hq : i.fst b=true
  ·rw [List.filter_cons_of_pos hq,List.filter_cons_of_neg (by simp [hq])]
   simp only [List.map_append,List.flatten_append,List.length_append,List.map_cons,List.flatten_cons] at ih ⊢
   omega
  ·rw [List.filter_cons_of_neg hq,List.filter_cons_of_pos (by simpa using hq)]
   simp only [List.map_append,List.flatten_append,List.length_append,List.map_cons,List.flatten_cons] at ih ⊢
   omega
theorem uPs : ∀ L : List (List UInt8),L.flatten.length≤(nl L).length
 | []=>Nat.le_refl _
 | x :: L=>by
  have e : nl (x :: L)=x++([10]++nl L):=by simp [nl]
  have := uPs L
  rw [e]; simp only [List.flatten_cons,List.length_append,List.length_cons]; omega
theorem uHc {n : Nar} (b : Bool) (h : NarOk n) : (uCT b n).length≤60000:=by
 have h1:=h.text_len
 have h2:=uLm b n.itms
 have h3:=uPs n.lines
 rw [← n.text_eq] at h3
 unfold uCT
 unfold Nar.lines at h3
 simp only [List.flatten_append,List.length_append,List.flatten_cons,List.flatten_nil,List.length_cons,List.length_nil] at h3 ⊢
 omega
end Go.Proofs.YtnjjdbapadkomaaGreatDoor
namespace Go.Proofs.YtnjjdbapadkomaaGreatDoor
open Go Go.Abs
theorem uKx (s : List UInt8) : (uCi s).1.steps.length≤8∧(uCi s).1.goals.length≤8∧(∀ x ∈ (uCi s).1.steps,x.msg.size≤900000) ∧ ∀ g ∈ (uCi s).1.goals,T.sizes g.data≤900000:=by
 have h0 : nar0.steps.length≤8∧nar0.goals.length≤8∧(∀ x ∈ nar0.steps,x.msg.size≤900000) ∧ ∀ g ∈ nar0.goals,T.sizes g.data≤900000:=by
  refine ⟨by decide,by decide,fun x hx=>?_,fun x hx=>?_⟩ <;> simp [nar0] at hx
 unfold uCi uDp
 split
 ·exact h0
 split
 ·exact h0
 split
 ·exact h0
 ·rename_i h
  have hok:=uEp (n:=(uBL (tokP s).1).1) (by simpa using h)
  exact ⟨hok.s2,hok.g2,fun x hx=>by have := (hok.steps x hx).2.2.size; omega,fun g hg=>by have := (hok.goals g hg).sizes; omega⟩
theorem uKc {n : Nar} (h : narE uAH n=0) : uCI n=(n.text,0)∧(uCi n.text).2=(0,0)∧(uCi n.text).1.el=n.el∧n.text.length≤100000:=by
 obtain ⟨b1,b2,b3,b4⟩:=uMX h
 have hl:=(uEp h).text_len
 have e : uCi n.text=((uBL (tokP n.text).1).1,0,0):=by
  rw [uCi,if_neg (by rw [b1]; simp),uDp,if_neg (by rw [b3]; simp),if_neg (by rw [b4]; simp)]
 exact ⟨by rw [uCI,if_neg (by simp [h])],by rw [e],by rw [e]; exact b2,by omega⟩
end Go.Proofs.YtnjjdbapadkomaaGreatDoor
namespace Go.Proofs.YtnjjdbapadkomaaGreatDoor
open Go Go.Abs
instance : Inhabited Itm:=⟨.roles []⟩
theorem uLO {n : Nar} (b : Bool) (h : narE uAH n=0) : (uCi (uCT b n)).2=(0,0)∧(uCi (uCT b n)).1.el=n.el:=by
 have hok:=uEp h
 have hl:=uHc b hok
 obtain ⟨b1,b2,b3,b4⟩:=uNu b h (by omega)
 have e : uCi (uCT b n)=((uBL (tokP (uCT b n)).1).1,0,0):=by
  rw [uCi,if_neg (by rw [b1]; simp),uDp,if_neg (by rw [b3]; simp),if_neg (by rw [b4]; simp)]
 exact ⟨by rw [e],by rw [e]; exact b2⟩
theorem uNb (n : Nar) : ((strR n.lines).take (n.lines.length - 1)).drop 1=strR (n.itms.map Itm.text):=by
 have e : n.lines=[uDc n]++n.itms.map Itm.text++[[125]]:=by simp [Nar.lines]
 rw [e]
 simp [strR]
theorem uNz {L : List Itm} {k : Nat} (h : k < L.length) : (L.map Itm.text).getD k []=(L.getD k default).text:=by
 rw [List.getD_eq_getElem?_getD,List.getD_eq_getElem?_getD,List.getElem?_map,List.getElem?_eq_getElem h]; rfl
theorem uIv {L : List Itm} {k : Nat} (h : k < L.length) (p : Itm→Bool) : ((L.take (k + 1)).filter p).map Itm.text=((L.take k).filter p).map Itm.text++(if p (L.getD k default)=true then [(L.getD k default).text] else []):=by
 rw [uDm (d:=default) h,List.filter_append,List.map_append]
 split
 ·rename_i q; rw [List.filter_cons_of_pos q]; rfl
 ·rename_i q; rw [List.filter_cons_of_neg q]; rfl
theorem uN1 {n : Nar} (h : NarOk n) : 2≤n.itms.length:=by
 have := h.s1
 simp only [Nar.itms,List.length_append,List.length_map,List.length_singleton]; omega
theorem uEr (L : List (List UInt8)) (k : Nat) : (L.take k).flatten.length≤L.flatten.length:=by
 have : L.flatten=(L.take k).flatten++(L.drop k).flatten:=by rw [← List.flatten_append,List.take_append_drop]
 rw [this,List.length_append]; omega
set_option maxHeartbeats 4000000 in
theorem uGh (n : Nar) (u : UInt8) (hd : ∀ g ∈ n.goals,g.data.length≤2097152) : Ctr sys 6 [xn n, .v (.c (.i .u8 (u.toNat : Int)))] [] (xb true) none []:=by
 have hu:=u.toNat_lt
 refine uAy Tryz.func6 rfl rfl rfl rfl rfl rfl ?_;refine uAe (uAb ?_);refine uAw rfl (uAX rfl rfl rfl rfl) ?_;refine uAa rfl rfl rfl (uAd rfl gU) ?_;refine uAf ?_;refine uAe ?_;refine uAe (uAb ?_);refine uAx rfl rfl rfl rfl rfl rfl gU gU (uHM) rfl ?_;refine uAa rfl rfl rfl (uAV rfl gU) ?_;refine uAa rfl rfl rfl (uAc rfl gU) ?_;refine uAa rfl rfl rfl (uAv rfl gU rfl rfl rfl rfl rfl) ?_;refine uAx rfl rfl rfl rfl rfl rfl gU (fun hh=>gA ((fun hh=>hh) hh) (rfl)) (uLh n hd) rfl ?_;refine uAa rfl rfl rfl (uAV rfl (fun hh=>hh)) ?_;refine uAa rfl rfl rfl (uAK rfl rfl gU (fun _ hi=>gP rfl hi)) ?_;refine uAf ?_;refine uAn (s:=⟨[(1,_,_),(2,_,_),(24,_,_)],[(.l 2,_)],[],[]⟩) (uAj (⟨sx rfl,sx rfl,sx rfl,trivial⟩) (⟨sx rfl,trivial⟩) trivial) ?_;refine uAm rfl (fun hc=>?_) (fun hc=>?_)
 ·refine uAe (uAb ?_)
  refine uAx rfl rfl rfl rfl rfl rfl gU gU (uHM) rfl ?_;refine uAa rfl rfl rfl (uAd rfl gU) ?_;refine uAf ?_;refine uAp ?_
  repeat (first | refine tR ?_ | refine bR ?_)
  refine uAs rfl ?_ trivial
  rfl
 ·try simp only [nn,uAi,T.rows_len,Tk.rows_len,Gl.rows_len,Fs.rows_len,Sp.rows_len] at hc
  obtain ⟨p1,p2,p3,p4⟩:=uOY (n:=n) (by simpa using hc)
  refine uAo ?_;refine uAe (uAb ?_);refine uAa rfl rfl rfl (uAv rfl gU rfl rfl rfl rfl rfl) ?_;refine uAx rfl rfl rfl rfl rfl rfl gU gU (uJs _ p3 p4) rfl ?_;refine uAa rfl rfl rfl (uAc rfl gU) ?_;refine uAa rfl rfl rfl (uAJ rfl gU rfl) ?_;refine uAa rfl rfl rfl (uAJ rfl gU rfl) ?_;refine uAa rfl rfl rfl (uAd rfl gU) ?_;refine uAa rfl rfl rfl (uAd rfl gU) ?_;refine uAf ?_;refine uAn (s:=⟨[(1,_,_),(2,_,_),(5,_,_),(6,_,_)],[(.l 2,_)],[],[]⟩) (uAj (⟨sx rfl,sx rfl,sx rfl,sx rfl,trivial⟩) (⟨sx rfl,trivial⟩) trivial) ?_;refine uAe ?_;refine uAe (uAb ?_);refine uAa rfl rfl rfl (uAc rfl gU) ?_;refine uAa rfl rfl rfl (uAk rfl rfl gU gU rfl) ?_;refine uAf ?_;refine uAm rfl (fun hc2=>?_) (fun hc2=>?_)
  ·refine uAe (uAb ?_)
   refine uAa rfl rfl rfl (uAd rfl gU) ?_;refine uAf ?_;refine uAp ?_
   repeat (first | refine tR ?_ | refine bR ?_)
   refine uAs rfl ?_ trivial
   rfl
  ·try simp only [nn,uAi,T.rows_len,Tk.rows_len,Gl.rows_len,Fs.rows_len,Sp.rows_len] at hc2
   have h0 : narE uAH n=0:=by
    unfold uCI at hc2
    split at hc2
    ·exact hc2
    ·rename_i q; simpa using q
   have hok:=uEp h0
   obtain ⟨a1,a2,a3,a4⟩:=uKc h0
   have hll:=hok.lines_len
   have hll2 : n.lines.length=n.itms.length + 2:=by simp [Nar.lines]
   have hil:=uN1 hok
   have hlr:=uAi n.lines
   have hlm:=uGC n.text (by omega)
   rw [uLi hok] at hlm
   rw [a1]
   refine uAo ?_;refine uAe (uAb ?_);refine uAa rfl rfl rfl (uAc rfl gU) ?_;refine uAx rfl rfl rfl rfl rfl rfl gU gU (hlm) rfl ?_;refine uAa rfl rfl rfl (uAd rfl gU) ?_;refine uAf ?_;refine uAn (s:=⟨[(1,_,_),(2,_,_),(7,_,_)],[(.l 2,_)],[],[]⟩) (uAj (⟨sx rfl,sx rfl,sx rfl,trivial⟩) (⟨sx rfl,trivial⟩) trivial) ?_;refine uAe ?_;refine uAe (uAb ?_);refine uAa rfl rfl rfl (uAc rfl gU) ?_;refine uAL rfl rfl rfl rfl rfl gU rfl rfl ?_ (fun hh=>by simp at hh); intro hlen;refine uAa rfl rfl rfl (uAk rfl rfl gU gU rfl) ?_;refine uAf ?_;refine uAm rfl (fun hc3=>?_) (fun hc3=>?_)
   ·try simp only [nn,uAi,T.rows_len,Tk.rows_len,Gl.rows_len,Fs.rows_len,Sp.rows_len] at hc3
    omega
   ·try simp only [nn,uAi,T.rows_len,Tk.rows_len,Gl.rows_len,Fs.rows_len,Sp.rows_len] at hc3
    obtain ⟨b,hb⟩ : ∃ b : Bool,b=decide ((u.toNat : Int) % 2=0):=⟨_,rfl⟩
    refine uAo ?_;refine uAe (uAb ?_);refine uAw rfl (uBq (.inr rfl) rfl rfl) ?_;refine uAw rfl (uBq (.inr rfl) rfl rfl) ?_;refine uAf ?_;refine uAn (s:=⟨[(1,_,_),(2,_,_),(7,_,_),(8,_,_),(9,_,_)],[(.l 2,_)],[(.t 8,_),(.t 9,_)],[]⟩) (uAj (⟨sx rfl,sx rfl,sx rfl,sx rfl,sx rfl,trivial⟩) (⟨sx rfl,trivial⟩) (⟨rfl,rfl,trivial⟩)) ?_;refine uAe ?_;refine uAe (uAb ?_);refine uAa rfl rfl rfl (uAc rfl gU) ?_;refine uAa rfl rfl rfl (uAc rfl gU) ?_;refine uAL rfl rfl rfl rfl rfl gU rfl rfl ?_ (fun hh=>by simp at hh); intro hlen;refine uAa rfl rfl rfl (uAr rfl rfl gU gU rfl (IntWalk.i64_in _ (by omega))) ?_;refine uAa rfl rfl rfl (uHh (l:=1) (h':=(n.lines.length - 1)) rfl gU rfl rfl (fun _=>⟨_,_,_,rfl,gU,by first | omega | (simp at hh ⊢; omega)⟩) (fun _=>⟨_,_,_,rfl,gU,by first | omega | (simp at hh ⊢; omega)⟩) (fun hh=>by first | omega | (simp at hh ⊢; omega)) (fun hh=>by first | omega | (simp at hh ⊢; omega))) ?_
    rw [uNb]
    have hrm : (strR (n.itms.map Itm.text)).length=n.itms.length:=by rw [uAi,List.length_map]
    refine uAL rfl rfl rfl rfl rfl gU rfl rfl ?_ (fun hh=>by simp at hh); intro hlen;refine uAa rfl rfl rfl (uAc rfl gU) ?_;refine uAf ?_;refine uAn (s:=⟨[(1,_,_),(2,_,_),(7,_,_),(8,_,_),(9,_,_),(42,_,_),(43,_,_),(44,_,_)],[(.l 2,_)],[(.t 8,_),(.t 9,_)],[]⟩) (uAj (⟨sx rfl,sx rfl,sx rfl,sx rfl,sx rfl,sx rfl,sx rfl,sx rfl,trivial⟩) (⟨sx rfl,trivial⟩) (⟨rfl,rfl,trivial⟩)) ?_;refine uAt ?_;refine uAW (ι:=Nat) { t:=[(1,_,_),(2,_,_),(7,_,_),(42,_,_),(43,_,_)],bx:=[(.l 2,_)],ow:=[(.t 8,_),(.t 9,_)] } (fun k=>[(44,true,xi (k : Int)),(8,true,xss (((n.itms.take k).filter (Itm.fst b)).map Itm.text)),(9,true,xss (((n.itms.take k).filter (fun i=>!Itm.fst b i)).map Itm.text))]) (fun k=>[]) (fun k=>k≤n.itms.length) (fun k=>n.itms.length - k) (0) (by simp) (uAj (⟨sx rfl,sx rfl,sx rfl,sx rfl,sx rfl,sx rfl,sx rfl,sx rfl,trivial⟩) (⟨sx rfl,trivial⟩) (⟨rfl,rfl,trivial⟩)) ?_
    intro k hoka
    dsimp only [List.cons_append,List.nil_append]
    have f1:=List.length_filter_le (Itm.fst b) (n.itms.take k)
    have f2:=List.length_filter_le (fun i=>!Itm.fst b i) (n.itms.take k)
    have f3:=List.length_take_le k n.itms
    refine uAe (uAb ?_);refine uAa rfl rfl rfl (uAk rfl rfl gU gU rfl) ?_;refine uAf ?_;refine uAe ?_;refine uAm rfl (fun hc4=>?_) (fun hc4=>?_)
    ·try simp only [nn,uAi,T.rows_len,Tk.rows_len,Gl.rows_len,Fs.rows_len,Sp.rows_len] at hc4
     have hlt : k < n.itms.length:=by simp only [List.length_map] at hc4; omega
     have g1:=uIv hlt (Itm.fst b)
     have g2:=uIv hlt (fun i=>!Itm.fst b i)
     have g3:=uOX b (n.itms.getD k default)
     have g4:=uNz hlt
     refine uAo ?_;refine uAe ?_;refine uAt ?_;refine uAe (uAb ?_);refine uAa rfl rfl rfl (uAq rfl rfl gU gU rfl rfl rfl (fun hh=>uBW (by first | omega | (simp at hh ⊢; omega)))) ?_;refine uAa rfl rfl rfl (uAI rfl gU rfl rfl rfl) ?_;refine uAa rfl rfl rfl (uAd rfl gU) ?_;refine uAf ?_;refine uAe ?_;refine uAe (uAb ?_);refine uAa rfl rfl rfl (uAc rfl gU) ?_;refine uAx rfl rfl rfl rfl rfl rfl gU gU (uCU _ _) rfl ?_;refine uAa rfl rfl rfl (uAc rfl gU) ?_;refine uAa rfl rfl rfl (uAc rfl gU) ?_;refine uAx rfl rfl rfl rfl rfl rfl gU (fun hh=>gA ((fun hh=>hh) hh) (gA rfl (rfl))) (uCU _ _) rfl ?_;refine uAa rfl rfl rfl (uAc rfl (fun hh=>hh)) ?_;refine uAa rfl rfl rfl (uAc rfl gU) ?_;refine uAa rfl rfl rfl (uNa rfl rfl (fun hh=>hh) gU (fun hh=>by first | omega | (simp at hh ⊢; omega)) (fun hh=>Int.tmod_eq_emod_of_nonneg (by first | omega | (simp at hh ⊢; omega)))) ?_;refine uBk (s:=⟨[(1,_,_),(2,_,_),(7,_,_),(8,_,_),(9,_,_),(11,_,_),(42,_,_),(43,_,_),(44,_,_),(50,_,_),(53,_,_),(55,_,_)],[(.l 2,_)],[(.t 8,_),(.t 9,_)],[]⟩) (uAj (⟨sx rfl,sx rfl,sx rfl,sx rfl,sx rfl,sx rfl,sx rfl,sx rfl,sx rfl,sx rfl,sx rfl,sx rfl,trivial⟩) (⟨sx rfl,trivial⟩) (⟨rfl,rfl,trivial⟩)) ?_;refine uAa rfl rfl rfl (uAk rfl rfl (fun hh=>hh) gU rfl) ?_
     refine uAa rfl rfl rfl (uAR rfl rfl (fun hh=>hh) (fun hh hi=>gP hh hi)) ?_;refine uAa rfl rfl rfl (uAK rfl rfl gU (fun _ hi=>gP rfl hi)) ?_;refine uAf ?_;refine uAm rfl (fun hc5=>?_) (fun hc5=>?_)
     ·have hq : (n.itms.getD k default).fst b=true:=by
       rw [← g3,← g4,hb]
       exact hc5
      rw [if_pos hq] at g1
      rw [if_neg (by rw [hq]; simp)] at g2
      refine uAe (uAb ?_);refine uAw rfl (uAN (.inl rfl) rfl rfl rfl) ?_;refine uAa rfl rfl rfl (uAc rfl gU) ?_;refine uAQ (xs:=[_]) rfl rfl rfl rfl rfl rfl rfl rfl rfl gU rfl ?_;refine uAw rfl (uA2 rfl rfl rfl rfl rfl rfl rfl (by first | omega | (simp only [List.length_append,List.length_singleton,uAi,List.length_map]; omega)) (by first | omega | (simp only [List.length_append,List.length_singleton,uAi,List.length_map]; omega))) ?_;refine uAw rfl (uAN (.inr rfl) rfl rfl rfl) ?_;refine uAf ?_;refine uAM ?_
      repeat (first | refine uAD ?_ | refine uAE ?_ | refine uAC rfl ?_)
      refine uAb ?_;refine uAa rfl rfl rfl (uAr rfl rfl gU gU rfl (IntWalk.i64_in _ (by omega))) ?_;refine uAa rfl rfl rfl (uAc rfl gU) ?_;refine uAf ?_;refine ⟨k + 1,?_,?_,uAj (⟨⟨_,rfl,?_⟩,⟨⟨_,rfl,?_⟩,⟨⟨_,rfl,?_⟩,⟨sx rfl,sx rfl,sx rfl,sx rfl,sx rfl,trivial⟩⟩⟩⟩) (⟨sx rfl,trivial⟩) (⟨rfl,rfl,trivial⟩)⟩
      all_goals (first | rfl | omega | exact tx ((uCb _ _).trans (by rw [g1,g4])) | exact tx (by rw [g2,List.append_nil]))
     ·have hq : (n.itms.getD k default).fst b=false:=by
       rw [← g3,← g4,hb]
       exact hc5
      rw [if_neg (by rw [hq]; simp)] at g1
      rw [if_pos (by rw [hq]; rfl)] at g2
      refine uAo ?_;refine uAb ?_;refine uAw rfl (uAN (.inl rfl) rfl rfl rfl) ?_;refine uAa rfl rfl rfl (uAc rfl gU) ?_;refine uAQ (xs:=[_]) rfl rfl rfl rfl rfl rfl rfl rfl rfl gU rfl ?_;refine uAw rfl (uA2 rfl rfl rfl rfl rfl rfl rfl (by first | omega | (simp only [List.length_append,List.length_singleton,uAi,List.length_map]; omega)) (by first | omega | (simp only [List.length_append,List.length_singleton,uAi,List.length_map]; omega))) ?_;refine uAw rfl (uAN (.inr rfl) rfl rfl rfl) ?_;refine uAf ?_;refine uAn (s:=⟨[(1,_,_),(2,_,_),(7,_,_),(8,_,_),(9,_,_),(42,_,_),(43,_,_),(44,_,_)],[(.l 2,_)],[(.t 8,_),(.t 9,_)],[]⟩) (uAj (⟨sx rfl,sx rfl,sx rfl,sx rfl,sx rfl,sx rfl,sx rfl,sx rfl,trivial⟩) (⟨sx rfl,trivial⟩) (⟨rfl,rfl,trivial⟩)) ?_;refine uAb ?_;refine uAa rfl rfl rfl (uAr rfl rfl gU gU rfl (IntWalk.i64_in _ (by omega))) ?_;refine uAa rfl rfl rfl (uAc rfl gU) ?_;refine uAf ?_;refine ⟨k + 1,?_,?_,uAj (⟨⟨_,rfl,?_⟩,⟨⟨_,rfl,?_⟩,⟨⟨_,rfl,?_⟩,⟨sx rfl,sx rfl,sx rfl,sx rfl,sx rfl,trivial⟩⟩⟩⟩) (⟨sx rfl,trivial⟩) (⟨rfl,rfl,trivial⟩)⟩
      all_goals (first | rfl | omega | exact tx ((uCb _ _).trans (by rw [g2,g4])) | exact tx (by rw [g1,List.append_nil]))
    ·try simp only [nn,uAi,T.rows_len,Tk.rows_len,Gl.rows_len,Fs.rows_len,Sp.rows_len] at hc4
     have hk : k=n.itms.length:=by simp only [List.length_map] at hc4; omega
     subst hk
     rw [List.take_length] at f1 f2 ⊢
     have e1 : (strR ((n.itms.filter (Itm.fst b)).map Itm.text)++strR ((n.itms.filter (fun i=>!Itm.fst b i)).map Itm.text))=strR ((uBA b n.itms).map Itm.text):=by
      rw [← uOs,← List.map_append]; rfl
     have e2 : n.lines.getD 0 []=uDc n:=rfl
     have e3 : (uBA b n.itms).length≤2 * n.itms.length:=by unfold uBA; rw [List.length_append]; omega
     have e4 : (strR ((uBA b n.itms).map Itm.text)).length=(uBA b n.itms).length:=by rw [uAi,List.length_map]
     have e5:=uHc b hok
     unfold uCT at e5
     rw [List.length_append,List.length_append] at e5
     refine uAM ?_
     repeat (first | refine uAD ?_ | refine uAE ?_ | refine uAC rfl ?_)
     refine uAe (uAb ?_);refine uAa rfl rfl rfl (uAc rfl gU) ?_;refine uAa rfl rfl rfl (uAq (j:=0) rfl rfl gU gU rfl rfl (by first | omega | (simp at hh ⊢; omega)) (fun hh=>uBW (by first | omega | (simp at hh ⊢; omega)))) ?_;refine uAa rfl rfl rfl (uAI rfl gU rfl rfl rfl) ?_;refine uAa rfl rfl rfl (uAd rfl gU) ?_;refine uAf ?_;refine uAn (s:=⟨[(2,_,_),(8,_,_),(9,_,_),(12,_,_)],[(.l 2,_)],[(.t 8,_),(.t 9,_)],[]⟩) (uAj (⟨sx rfl,sx rfl,sx rfl,sx rfl,trivial⟩) (⟨sx rfl,trivial⟩) (⟨rfl,rfl,trivial⟩)) ?_;refine uAe ?_;refine uAe (uAb ?_);refine uAw rfl (uAN (.inl rfl) rfl rfl rfl) ?_;refine uAa rfl rfl rfl (uAc rfl gU) ?_;refine uAw rfl (uA2 rfl rfl rfl rfl rfl rfl rfl (by first | omega | (simp only [List.length_append,List.length_singleton,uAi,List.length_map]; omega)) (by first | omega | (simp only [List.length_append,List.length_singleton,uAi,List.length_map]; omega))) ?_
     rw [e1]
     refine uAL rfl rfl rfl rfl rfl gU rfl rfl ?_ (fun hh=>by simp at hh); intro hlen;refine uAa rfl rfl rfl (uAc rfl gU) ?_;refine uAf ?_;refine uAn (s:=⟨[(2,_,_),(12,_,_),(73,_,_),(74,_,_),(75,_,_)],[(.l 2,_)],[(.t 73,_)],[]⟩) (uAj (⟨sx rfl,sx rfl,sx rfl,sx rfl,sx rfl,trivial⟩) (⟨sx rfl,trivial⟩) (⟨rfl,trivial⟩)) ?_;refine uAt ?_;refine uAW (ι:=Nat) { t:=[(2,_,_),(73,_,_),(74,_,_)],bx:=[(.l 2,_)],ow:=[(.t 73,_)] } (fun j=>[(75,true,xi (j : Int)),(12,true,xs (uDc n++(((uBA b n.itms).map Itm.text).take j).flatten))]) (fun j=>[]) (fun j=>j≤(uBA b n.itms).length) (fun j=>(uBA b n.itms).length - j) (0) (by simp) (uAj (⟨sx rfl,⟨⟨_,rfl,by rw [e2]; simp⟩,⟨sx rfl,sx rfl,sx rfl,trivial⟩⟩⟩) (⟨sx rfl,trivial⟩) (⟨rfl,trivial⟩)) ?_
     intro j hokc
     dsimp only [List.cons_append,List.nil_append]
     have e6:=uEr ((uBA b n.itms).map Itm.text) j
     have e7:=uEr ((uBA b n.itms).map Itm.text) (j + 1)
     refine uAe (uAb ?_);refine uAa rfl rfl rfl (uAk rfl rfl gU gU rfl) ?_;refine uAf ?_;refine uAe ?_;refine uAm rfl (fun hc6=>?_) (fun hc6=>?_)
     ·try simp only [nn,uAi,T.rows_len,Tk.rows_len,Gl.rows_len,Fs.rows_len,Sp.rows_len] at hc6
      have hlt : j < ((uBA b n.itms).map Itm.text).length:=by rw [List.length_map]; simp only [List.length_map] at hc6; omega
      have hT:=uDm (l:=(uBA b n.itms).map Itm.text) (d:=[]) hlt
      have hlt2 : j < (uBA b n.itms).length:=by rw [List.length_map] at hlt; exact hlt
      rw [hT,List.flatten_append,List.length_append] at e7
      simp only [List.flatten_cons,List.flatten_nil,List.append_nil] at e7
      refine uAo ?_;refine uAe ?_;refine uAt ?_;refine uAe (uAb ?_);refine uAa rfl rfl rfl (uAq rfl rfl gU gU rfl rfl rfl (fun hh=>uBW (by first | omega | (simp at hh ⊢; omega)))) ?_;refine uAa rfl rfl rfl (uAI rfl gU rfl rfl rfl) ?_;refine uAa rfl rfl rfl (uAd rfl gU) ?_;refine uAf ?_;refine uAb ?_;refine uAa rfl rfl rfl (uAc rfl gU) ?_;refine uAa rfl rfl rfl (uAc rfl gU) ?_;refine uAa rfl rfl rfl (uAu rfl rfl gU gU (by first | omega | (simp only [List.length_append,List.length_singleton] at *; omega))) ?_;refine uAa rfl rfl rfl (uAd rfl gU) ?_;refine uAf ?_;refine uAn (s:=⟨[(2,_,_),(12,_,_),(73,_,_),(74,_,_),(75,_,_)],[(.l 2,_)],[(.t 73,_)],[]⟩) (uAj (⟨sx rfl,sx rfl,sx rfl,sx rfl,sx rfl,trivial⟩) (⟨sx rfl,trivial⟩) (⟨rfl,trivial⟩)) ?_;refine uAb ?_;refine uAa rfl rfl rfl (uAr rfl rfl gU gU rfl (IntWalk.i64_in _ (by omega))) ?_;refine uAa rfl rfl rfl (uAc rfl gU) ?_;refine uAf ?_;refine ⟨j + 1,?_,?_,uAj (⟨⟨_,rfl,?_⟩,⟨⟨_,rfl,?_⟩,⟨sx rfl,sx rfl,sx rfl,trivial⟩⟩⟩) (⟨sx rfl,trivial⟩) (⟨rfl,trivial⟩)⟩
      all_goals (first | rfl | omega | exact tx (congrArg xs (by rw [hT,List.flatten_append]; simp)))
     ·try simp only [nn,uAi,T.rows_len,Tk.rows_len,Gl.rows_len,Fs.rows_len,Sp.rows_len] at hc6
      have hj : j=(uBA b n.itms).length:=by simp only [List.length_map] at hc6; omega
      have e8 : uDc n++(((uBA b n.itms).map Itm.text).take j).flatten++[125]=uCT b n:=by
       rw [hj,List.take_of_length_le (by rw [List.length_map]; omega)]; rfl
      obtain ⟨t1,t2⟩:=uLO b h0
      obtain ⟨q1,q2,q3,q4⟩:=uKx (uCT b n)
      have e9:=uHc b hok
      refine uAM ?_
      repeat (first | refine uAD ?_ | refine uAE ?_ | refine uAC rfl ?_)
      refine uAe (uAb ?_);refine uAa rfl rfl rfl (uAc rfl gU) ?_;refine uAa rfl rfl rfl (uAu rfl rfl gU gU (by first | omega | (simp only [List.length_append,List.length_singleton] at *; omega))) ?_
      rw [e8]
      refine uAx rfl rfl rfl rfl rfl rfl gU gU (uHY (uCT b n) (by omega)) rfl ?_;refine uAa rfl rfl rfl (uAc rfl gU) ?_;refine uAa rfl rfl rfl (uAJ rfl gU rfl) ?_;refine uAa rfl rfl rfl (uAJ rfl gU rfl) ?_;refine uAa rfl rfl rfl (uAJ rfl gU rfl) ?_;refine uAw rfl (uAT rfl rfl rfl) ?_;refine uAw rfl (uAB rfl rfl rfl rfl rfl rfl rfl) ?_;refine uAa rfl rfl rfl (uAd rfl gU) ?_;refine uAa rfl rfl rfl (uAd rfl gU) ?_;refine uAf ?_;refine uAn (s:=⟨[(2,_,_),(15,_,_),(17,_,_)],[(.l 15,_),(.l 2,_)],[],[]⟩) (uAj (⟨sx rfl,sx rfl,sx rfl,trivial⟩) (⟨sx rfl,sx rfl,trivial⟩) trivial) ?_;refine uAe (uAb ?_);refine uAa rfl rfl rfl (uAc rfl gU) ?_;refine uAa rfl rfl rfl (uAk rfl rfl gU gU rfl) ?_;refine uAa rfl rfl rfl (uAc rfl gU) ?_;refine uAa rfl rfl rfl (uAv rfl gU rfl rfl rfl rfl rfl) ?_;refine uAa rfl rfl rfl (uAv rfl gU rfl rfl rfl rfl rfl) ?_;refine uAx rfl rfl rfl rfl rfl rfl gU (fun hh=>gA ((fun hh=>hh) hh) (gA ((fun hh=>hh) hh) (rfl))) (uJ5 _ _ t2 q3 q4) rfl ?_;refine uAa rfl rfl rfl (uAR rfl rfl gU (fun _ hi=>gP rfl hi)) ?_;refine uAa rfl rfl rfl (uAd rfl gU) ?_;refine uAf ?_;refine uAp ?_
      repeat (first | refine tR ?_ | refine bR ?_)
      refine uAs rfl ?_ trivial;refine uCa ?_
      simp [t1]
end Go.Proofs.YtnjjdbapadkomaaGreatDoor
namespace Go.Abs
def uBd (P : Program) (M : Nat) : Nat→TypeId→List C→Prop
 | 0,_,_=>False
 | n + 1,t,cs=>match P.underlying t with
  | some .bool=>∃ x,cs=[.b x]
  | some (.int k)=>∃ m,cs=[.i k m]∧(Lit.int k m).wf=true
  | some .string=>∃ l,cs=[.s l]∧l.length≤M
  | some (.slice e)=>∃ es,cs=[.sl (P.cellsOf e) es]∧es.length≤M ∧ ∀ row,row ∈ es→uBd P M n e row
  | some (.struct fs)=>uGt (uBd P M n) fs.toList cs
  | some (.array m e)=>hasN (uBd P M n e) m cs
  | _=>False
section
variable {H : Type} {enc : TypeId × Value→H} {P : Program} {L : List TypeId} {w : World}
structure Bnd (P : Program) (L : List TypeId) (M : Nat) (B : TypeId→DataW H→Prop) : Prop where
 str : ∀ {t : TypeId} {s : List UInt8},P.underlying t=some .string→B t (.lit (.string s))→s.length≤M
 sl : ∀ {t e : TypeId} {es sp : List (DataW H)},t ∈ L→P.underlying t=some (.slice e)→B t (.slice es sp)→es.length≤M ∧ ∀ x ∈ es,B e x
 st : ∀ {t : TypeId} {fs : Array Field} {ps : List (DataW H)},P.underlying t=some (.struct fs)→B t (.agg ps) → ∀ (j : Nat) (f : Field) (x : DataW H),fs.toList[j]? = some f→ps[j]? = some x→B f.type x
 arr : ∀ {t e : TypeId} {n : Nat} {ps : List (DataW H)},P.underlying t=some (.array n e)→B t (.agg ps) → ∀ x ∈ ps,B e x
theorem uF4 {M : Nat} {B : TypeId→DataW H→Prop} (hB : Bnd P L M B) (hL : uGN P L=true) : ∀ (fuel : Nat) (t : TypeId) (vs : List Value) (d : DataW H) (p : List MemPlace),t ∈ L→B t d →
  DataW.trod enc P w 0 (fun _=>true) true fuel t vs=some (d,p) → ∃ cs,uBd P M fuel t cs∧All2 (CRep w (topG w).S) cs vs∧cs.length=P.cellsOf t
 | 0,t,vs,d,p,_,_,h=>by simp [DataW.trod] at h
 | fuel + 1,t,vs,d,p,ht,hbd,h=>by
  have IH:=uF4 hB hL fuel
  have hc:=List.all_eq_true.1 hL t ht
  unfold DataW.trod at h
  split at h
  ·rename_i b hu
   simp only [hu,beq_iff_eq] at hc
   exact ⟨[.b b],by simp only [uBd,hu]; exact ⟨_,rfl⟩,⟨.b b,trivial⟩,hc.symm⟩
  ·rename_i k k' n hu
   simp only [hu,beq_iff_eq] at hc
   split at h
   ·rename_i hk
    obtain ⟨rfl,hwf⟩:=hk
    exact ⟨[.i k' n],by simp only [uBd,hu]; exact ⟨n,rfl,hwf⟩,⟨.i _ n,trivial⟩,hc.symm⟩
   ·simp at h
  ·rename_i hu; simp only [hu] at hc; simp at hc
  ·rename_i s hu
   simp only [hu,beq_iff_eq] at hc
   split at h
   ·rename_i hs
    have hs' : s.data.toList.length≤9223372036854775807:=by
     have h1 : s.data.toList.length=s.size:=rfl
     have h2 : maxLen=9223372036854775807:=by decide
     omega
    simp only [Option.some.injEq,Prod.mk.injEq] at h
    obtain ⟨rfl,_⟩:=h
    refine ⟨[.s s.data.toList],by simp only [uBd,hu]; exact ⟨_,rfl,hB.str hu hbd⟩,⟨?_,trivial⟩,hc.symm⟩
    have := CRep.s (w := w) (S := (topG w).S) s.data.toList hs'
    rwa [uL8] at this
   ·simp at h
  ·rename_i hu; simp only [hu] at hc; simp at hc
  ·rename_i hu; simp only [hu] at hc; simp at hc
  ·rename_i e hu
   simp only [hu,Bool.and_eq_true,beq_iff_eq] at hc
   exact ⟨[.sl (P.cellsOf e) []],by simp [uBd,hu],⟨.nil _,trivial⟩,hc.1.1.symm⟩
  ·rename_i e a len cap hu
   simp only [hu,Bool.and_eq_true,beq_iff_eq,decide_eq_true_eq,bne_iff_ne] at hc
   obtain ⟨⟨hc1,heL⟩,hsz0⟩:=hc
   simp only at h
   split at h
   ·rename_i hb
    obtain ⟨_,hlc,hcm⟩:=hb
    have hmax : len≤9223372036854775807:=by
     have h2 : maxLen=9223372036854775807:=by decide
     omega
    simp only [Option.bind_eq_some_iff,if_true,Option.map_eq_some_iff] at h
    obtain ⟨elems,h1,rest,h2,hd⟩:=h
    simp only [Prod.mk.injEq] at hd
    obtain ⟨rfl,_⟩:=hd
    have hbs:=hB.sl ht hu hbd
    have hel0 : ∀ i,i < len → ∃ ci y,w.cells? 0 (a.add (i * P.cellsOf e)) (P.cellsOf e)=some ci∧DataW.trod enc P w 0 (fun _=>true) true fuel e ci=some y∧B e y.1:=by
     intro i hil
     obtain ⟨y,hy,hy2⟩:=uGU h1 (i:=i) (x:=i) (by simp [hil])
     simp only [Option.bind_eq_some_iff] at hy
     obtain ⟨ci,q1,q2⟩:=hy
     exact ⟨ci,y,q1,q2,hbs.2 _ (List.mem_map.2 ⟨y,List.mem_of_getElem? hy2,rfl⟩)⟩
    have hlen0 : elems.length=len := by have := Go.mapM_some_length h1; simpa using this
    have hel : ∀ i,i < cap → ∃ ci y,w.cells? 0 (a.add (i * P.cellsOf e)) (P.cellsOf e)=some ci∧DataW.trod enc P w 0 (fun _=>true) true fuel e ci=some y:=by
     intro i hi
     by_cases hil : i < len
     ·obtain ⟨y,hy,_⟩:=uGU h1 (i:=i) (x:=i) (by simp [hil])
      simp only [Option.bind_eq_some_iff] at hy
      obtain ⟨ci,q1,q2⟩:=hy
      exact ⟨ci,y,q1,q2⟩
     ·obtain ⟨y,hy,_⟩:=uGU h2 (i:=i - len) (x:=i - len) (by simp [show i - len < cap - len by omega])
      rw [show len + (i - len)=i by omega] at hy
      simp only [Option.bind_eq_some_iff] at hy
      obtain ⟨ci,q1,q2⟩:=hy
      exact ⟨ci,y,q1,q2⟩
    have hspot : cap≠0→a.spot=none:=by
     intro h0
     obtain ⟨ci,y,q1,_⟩:=hel 0 (by omega)
     obtain ⟨q3,q4⟩:=uJV q1
     have hlt : 0 < ci.length:=by omega
     have := q4 0 _ (List.getElem?_eq_getElem hlt)
     simpa [Addr.add] using World.cell?_spot this
    obtain ⟨es,hesl,hes⟩:=uC2 (R:=fun i row=>uBd P M fuel e row∧row.length=P.cellsOf e∧RowAt w (topG w).S a.block (a.off + i * P.cellsOf e) row) len (by
     intro i hi
     obtain ⟨ci,⟨y1,y2⟩,q1,q2,q3⟩:=hel0 i (by omega)
     obtain ⟨row,r1,r2,r3⟩:=IH e ci y1 y2 heL q3 q2
     refine ⟨row,r1,r3,fun j c hj=>?_⟩
     obtain ⟨v,hv,hrep⟩:=r2.get j c hj
     have hcell:=(uJV q1).2 j v hv
     have hsp:=hspot (by omega)
     obtain ⟨b,o,sp⟩:=a
     simp only at hsp
     subst hsp
     rw [uPc] at hcell
     exact ⟨uPw (World.block_lt_of_cell? w ⟨b,o + i * P.cellsOf e + j,none⟩ hcell),v,hcell,hrep⟩)
    refine ⟨[.sl (P.cellsOf e) es],?_,⟨?_,trivial⟩,hc1.symm⟩
    ·simp only [uBd,hu]
     refine ⟨es,rfl,by have := hbs.1; rw [List.length_map] at this; omega,fun row hr=>?_⟩
     obtain ⟨i,hi⟩:=List.getElem?_of_mem hr
     exact (hes i row hi).1
    ·exact CRep.mk_any hesl hlc hmax hspot fun i row hi=>(hes i row hi).2
   ·simp at h
  ·rename_i vs _ _ fs hu
   simp only [hu,beq_iff_eq] at hc
   split at h
   ·rename_i hlen
    simp only [Option.map_eq_some_iff] at h
    obtain ⟨xs,hxs,hd⟩:=h
    simp only [Prod.mk.injEq] at hd
    obtain ⟨rfl,_⟩:=hd
    have hbs:=hB.st hu hbd
    have key : ∀ (fs : List Field) (off : Nat) (xs : List (DataW H × List MemPlace)),uGz P L fs off=some (P.cellsOf t) →
      (fs.mapM fun f=>DataW.trod enc P w 0 (fun _=>true) true fuel f.type ((vs.drop f.offset).take (P.cellsOf f.type)))=some xs→(∀ (j : Nat) (f : Field) (x : DataW H),fs[j]? = some f→(xs.map (·.1))[j]? = some x→B f.type x) →
      ∃ cs,uGt (uBd P M fuel) fs cs∧All2 (CRep w (topG w).S) cs (vs.drop off)∧cs.length=P.cellsOf t - off:=by
     intro fs
     induction fs with
     | nil =>
      intro off xs hf _ _
      simp only [uGz,Option.some.injEq] at hf
      refine ⟨[],rfl,?_,by simp; omega⟩
      rw [List.drop_eq_nil_of_le (by omega)]
      trivial
     | cons f r ih =>
      intro off xs hf hm hbb
      simp only [uGz] at hf
      split at hf
      ·rename_i hfo
       obtain ⟨rfl,hfL⟩:=hfo
       simp only [List.mapM_cons,Option.bind_eq_bind,Option.bind_eq_some_iff] at hm
       obtain ⟨⟨y1,y2⟩,hy,ys,hys,hxs2⟩:=hm
       have hxs2 : (y1,y2) :: ys=xs:=by simpa using hxs2
       subst hxs2
       obtain ⟨a,a1,a2,a3⟩:=IH _ _ _ _ hfL (hbb 0 f y1 rfl rfl) hy
       obtain ⟨b,b1,b2,b3⟩:=ih _ _ hf hys (fun j f x h1 h2=>hbb (j + 1) f x (by simpa using h1) (by simpa using h2))
       have hle:=uKg hf
       refine ⟨a++b,⟨a,b,rfl,a1,b1⟩,?_,by simp; omega⟩
       have := a2.append b2
       rwa [← List.drop_drop,List.take_append_drop] at this
      ·simp at hf
    obtain ⟨cs,c1,c2,c3⟩:=key fs.toList 0 xs hc hxs hbs
    exact ⟨cs,by simp only [uBd,hu]; exact c1,by simpa using c2,by simpa using c3⟩
   ·simp at h
  ·rename_i vs _ _ n e hu
   simp only [hu,Bool.and_eq_true,beq_iff_eq,decide_eq_true_eq] at hc
   obtain ⟨heL,hct⟩:=hc
   split at h
   ·rename_i hlen
    simp only [Option.map_eq_some_iff] at h
    obtain ⟨xs,hxs,hd⟩:=h
    simp only [Prod.mk.injEq] at hd
    obtain ⟨rfl,_⟩:=hd
    have hbs:=hB.arr hu hbd
    have key : ∀ (m k : Nat),k + m=n → ∃ cs,hasN (uBd P M fuel e) m cs∧All2 (CRep w (topG w).S) cs (vs.drop (k * P.cellsOf e))∧cs.length=m * P.cellsOf e:=by
     intro m
     induction m with
     | zero =>
      intro k hk
      refine ⟨[],rfl,?_,by simp⟩
      have : k=n:=by omega
      subst this
      rw [List.drop_eq_nil_of_le (by omega)]
      trivial
     | succ m ih =>
      intro k hk
      obtain ⟨⟨y1,y2⟩,hy,hy2⟩:=uGU hxs (i:=k) (x:=k) (by simp [show k < n by omega])
      obtain ⟨a,a1,a2,a3⟩:=IH _ _ _ _ heL (hbs _ (List.mem_map.2 ⟨(y1,y2),List.mem_of_getElem? hy2,rfl⟩)) hy
      obtain ⟨b,b1,b2,b3⟩:=ih (k + 1) (by omega)
      refine ⟨a++b,⟨a,b,rfl,a1,b1⟩,?_,by simp [a3,b3,Nat.succ_mul]; omega⟩
      have := a2.append b2
      rwa [Nat.succ_mul,← List.drop_drop,List.take_append_drop] at this
    obtain ⟨cs,c1,c2,c3⟩:=key n 0 (by omega)
    exact ⟨cs,by simp only [uBd,hu]; exact c1,by simpa using c2,by rw [c3,hct]⟩
   ·simp at h
  all_goals first | (rename_i hu; simp only [hu] at hc; simp at hc) | (simp at h) | trace_state
theorem uNE {M : Nat} {B : TypeId→DataW H→Prop} (hB : Bnd P L M B) (hL : uGN P L=true) {t : TypeId} {v : Value} {base : Nat} {d : TypeDesc} {x : DataW H} {p : List MemPlace} (ht : t ∈ L) (hd : P.underlying t=some d) (hp : uLq d=true) (hok : Value.okWide P w .any base t v)
  (hbd : B t x) (h : DataW.Trod enc P w 0 (fun _=>true) true t v x p) : ∃ n c,uBd P M n t [c]∧XRep w (topG w) (.v (.c c)) v:=by
 obtain ⟨n,hn⟩:=h
 rw [uGi (uJo hd hp hok)] at hn
 obtain ⟨cs,h1,h2,_⟩:=uF4 hB hL n t _ _ _ ht hbd hn
 match cs,h2 with
 | [c],h2=>exact ⟨n,c,h1,h2.1⟩
theorem uNV {M : Nat} {B : TypeId→DataW H→Prop} (hB : Bnd P L M B) (hL : uGN P L=true) {t : TypeId} {v : Value} {base : Nat} {d : TypeDesc} {x : DataW H} {p : List MemPlace} (ht : t ∈ L) (hd : P.underlying t=some d) (hp : rowD d=true) (hok : Value.okWide P w .any base t v)
  (hbd : B t x) (h : DataW.Trod enc P w 0 (fun _=>true) true t v x p) : ∃ n cs,uBd P M n t cs∧XRep w (topG w) (.v (.agg cs)) v:=by
 obtain ⟨n,hn⟩:=h
 obtain ⟨vs,rfl⟩:=uLk hd hp hok
 obtain ⟨cs,h1,h2,_⟩:=uF4 hB hL n t _ _ _ ht hbd hn
 exact ⟨n,cs,h1,vs.toList,by simp,by simpa [Value.cells] using h2⟩
end
end Go.Abs
namespace Go.Proofs.YtnjjdbapadkomaaGreatDoor
open Go Go.Abs
theorem uC2 {α : Type} {f : α→List C} {R : List C→Prop} (h : ∀ row,R row → ∃ t : α,row=f t) : ∀ es : List (List C),(∀ row,row ∈ es→R row) → ∃ ts : List α,es=ts.map f
 | [],_=>⟨[],rfl⟩
 | e :: es,he=>by
  obtain ⟨t,ht⟩:=h e (he e (List.mem_cons_self ..))
  obtain ⟨ts,hts⟩:=uC2 h es fun row hr=>he row (List.mem_cons_of_mem _ hr)
  exact ⟨t :: ts,by rw [List.map_cons,← hts,ht]⟩
theorem own : ownKnob Tryz.prog.godebug=none:=by kernel_rfl
theorem uL2 : laidOutB Tryz.prog=true:=by kernel_rfl
theorem uPD {W : World} (h : W.ShapedOpen Tryz.prog) : ∀ g ∈ sys.gv,g.1 < W.heap.size∧g.2 W.heap[g.1]? := by
 intro g hg
 have hg : g ∈ ([(0,intAt)] : List (Nat × (Option Obj→Prop))):=hg
 obtain rfl : g=(0,intAt):=by simpa using hg
 obtain ⟨m,hm⟩ : ∃ m,W.cell? ⟨0,0,none⟩=some (.int .i64 m):=laysM146.s1_3 W h
 exact ⟨World.block_lt_of_cell? (a:=⟨0,0,none⟩) W hm,intAt.of hm⟩
end Go.Proofs.YtnjjdbapadkomaaGreatDoor
namespace Go.Proofs.YtnjjdbapadkomaaGreatDoor
open Go Go.Abs
theorem uPA {H : Type} (d : DataW H) : 1≤Rows.uptoBulk d:=by
 cases d with
 | lit l=>cases l <;> simp [Rows.uptoBulk]
 | nil=>simp [Rows.uptoBulk]
 | ptr d=>simp [Rows.uptoBulk]
 | slice elems spare=>simp [Rows.uptoBulk]
 | agg parts=>simp [Rows.uptoBulk]
 | iface t d=>simp [Rows.uptoBulk]
 | map entries=>simp [Rows.uptoBulk]
 | held h=>simp [Rows.uptoBulk]
theorem uFx {H : Type} {d : DataW H} {l : List (DataW H)} (h : d ∈ l) : Rows.uptoBulk d≤Rows.uptoBulkAll l:=by
 induction l with
 | nil=>cases h
 | cons x r ih =>
  simp only [Rows.uptoBulkAll]
  rcases List.mem_cons.1 h with e | e
  ·subst e; omega
  ·have := ih e; omega
theorem uPS {H : Type} (l : List (DataW H)) : l.length≤Rows.uptoBulkAll l:=by
 induction l with
 | nil=>simp
 | cons x r ih=>have := uPA x; simp only [Rows.uptoBulkAll,List.length_cons]; omega
theorem uJH {H : Type} {L : List TypeId} : Bnd Tryz.prog L 1048576 (fun _ (d : DataW H)=>Rows.uptoBulk d≤1048576) where
 str:=fun _ h=>by simp only [Rows.uptoBulk] at h; omega
 sl:=fun {t e es sp} _ _ h=>by
  simp only [Rows.uptoBulk] at h
  have h1:=uPS es
  exact ⟨by omega,fun x hx=>by have := uFx hx; omega⟩
 st:=fun {t fs ps} _ h j f x _ hx=>by
  simp only [Rows.uptoBulk] at h
  have := uFx (List.mem_of_getElem? hx); omega
 arr:=fun {t e n ps} _ h x hx=>by
  simp only [Rows.uptoBulk] at h
  have := uFx hx; omega
theorem uOH : uGN Tryz.prog [3,9,5,22,39,37,73,23,67,24,70,25,27]=true:=by kernel_rfl
theorem uOM : Tryz.prog.cellsOf 39=4:=by kernel_rfl
theorem uPH : Tryz.prog.cellsOf 9=1:=by kernel_rfl
theorem uOZ : Tryz.prog.cellsOf 73=3:=by kernel_rfl
theorem uPi : Tryz.prog.cellsOf 67=7:=by kernel_rfl
theorem uOO : Tryz.prog.cellsOf 70=5:=by kernel_rfl
theorem uE2 {M n : Nat} {cs : List C} (h : uBd Tryz.prog M n 3 cs) : ∃ m,cs=[.i .i64 m]:=by
 cases n with
 | zero=>exact h.elim
 | succ n =>
  simp only [uBd,Tryz.underlying3] at h
  obtain ⟨m,h,_⟩:=h
  exact ⟨m,h⟩
theorem uDk {M n : Nat} {cs : List C} (h : uBd Tryz.prog M n 9 cs) : ∃ l,cs=[.s l]:=by
 cases n with
 | zero=>exact h.elim
 | succ n =>
  simp only [uBd,Tryz.underlying9] at h
  obtain ⟨m,h,_⟩:=h
  exact ⟨m,h⟩
theorem uKK {M n : Nat} {cs : List C} (h : uBd Tryz.prog M n 22 cs) : ∃ l : List (List UInt8),cs=[.sl 1 (strR l)]:=by
 cases n with
 | zero=>exact h.elim
 | succ n =>
  simp only [uBd,Tryz.underlying22,uPH] at h
  obtain ⟨es,h1,_,h5⟩:=h
  obtain ⟨ts,rfl⟩:=uC2 (f:=fun s : List UInt8=>[C.s s]) (fun row hr=>uDk hr) es h5
  exact ⟨ts,h1⟩
theorem uJ6 {M : Nat} (n : Nat) : ∀ cs : List C,uBd Tryz.prog M n 39 cs → ∃ t : T,cs=t.cells:=by
 induction n using Nat.strongRecOn with
 | ind n IH =>
  intro cs h
  cases n with
  | zero=>exact h.elim
  | succ n =>
   simp only [uBd,Tryz.underlying39,uGt] at h
   obtain ⟨a,b,rfl,h1,c,d,rfl,h2,e,f,rfl,h3,g,k,rfl,h4,rfl⟩:=h
   obtain ⟨m1,rfl⟩:=uE2 h1
   obtain ⟨m2,rfl⟩:=uDk h2
   obtain ⟨m3,rfl⟩:=uE2 h3
   cases n with
   | zero=>exact h4.elim
   | succ n =>
    simp only [uBd,Tryz.underlying37,uOM] at h4
    obtain ⟨es,rfl,_,h5⟩:=h4
    obtain ⟨ts,rfl⟩:=uC2 (f:=T.cells) (IH n (by omega)) es h5
    exact ⟨.mk m1 m2 m3 ts,by simp [T.cells,T.kind,T.name,T.sort,T.kids,T.rows_eq]⟩
theorem uNg {M n : Nat} {cs : List C} (h : uBd Tryz.prog M n 37 cs) : ∃ ts : List T,cs=[.sl 4 (T.rows ts)]∧ts.length≤M:=by
 cases n with
 | zero=>exact h.elim
 | succ n =>
  simp only [uBd,Tryz.underlying37,uOM] at h
  obtain ⟨es,h1,h2,h5⟩:=h
  obtain ⟨ts,rfl⟩:=uC2 (f:=T.cells) (uJ6 n) es h5
  exact ⟨ts,by rw [h1,T.rows_eq],by simpa using h2⟩
theorem uMB {M n : Nat} {cs : List C} (h : uBd Tryz.prog M n 73 cs) : ∃ f : Fs,cs=f.cells:=by
 cases n with
 | zero=>exact h.elim
 | succ n =>
  simp only [uBd,Tryz.underlying73,uGt] at h
  obtain ⟨a,b,rfl,h1,c,d,rfl,h2,e,f,rfl,h3,rfl⟩:=h
  obtain ⟨m1,rfl⟩:=uDk h1
  obtain ⟨m2,rfl⟩:=uDk h2
  obtain ⟨m3,rfl⟩:=uE2 h3
  exact ⟨⟨m1,m2,m3⟩,rfl⟩
theorem uOK {M n : Nat} {cs : List C} (h : uBd Tryz.prog M n 67 cs) : ∃ s : Sp,cs=s.cells:=by
 cases n with
 | zero=>exact h.elim
 | succ n =>
  simp only [uBd,Tryz.underlying67,uGt] at h
  obtain ⟨a,b,rfl,h1,c,d,rfl,h2,e,f,rfl,h3,g,k,rfl,h4,rfl⟩:=h
  obtain ⟨m1,rfl⟩:=uDk h1
  obtain ⟨m2,rfl⟩:=uDk h2
  obtain ⟨m3,rfl⟩:=uJ6 _ _ h3
  obtain ⟨m4,rfl⟩:=uE2 h4
  exact ⟨⟨m1,m2,m3,m4⟩,by cases m3; rfl⟩
theorem uN4 {M n : Nat} {cs : List C} (h : uBd Tryz.prog M n 70 cs) : ∃ g : {g : Gl // g.data.length≤M},cs=g.1.cells:=by
 cases n with
 | zero=>exact h.elim
 | succ n =>
  simp only [uBd,Tryz.underlying70,uGt] at h
  obtain ⟨a,b,rfl,h1,c,d,rfl,h2,e,f,rfl,h3,g,k,rfl,h4,u,v,rfl,h5,rfl⟩:=h
  obtain ⟨m1,rfl⟩:=uE2 h1
  obtain ⟨m2,rfl⟩:=uDk h2
  obtain ⟨m3,rfl⟩:=uDk h3
  obtain ⟨m4,rfl,hl⟩:=uNg h4
  obtain ⟨m5,rfl⟩:=uE2 h5
  exact ⟨⟨⟨m1,m2,m3,m4,m5⟩,hl⟩,rfl⟩
theorem uNl {M n : Nat} {cs : List C} (h : uBd Tryz.prog M n 23 cs) : ∃ l : List Fs,cs=[.sl 3 (Fs.rows l)]:=by
 cases n with
 | zero=>exact h.elim
 | succ n =>
  simp only [uBd,Tryz.underlying23,uOZ] at h
  obtain ⟨es,h1,_,h5⟩:=h
  obtain ⟨ts,rfl⟩:=uC2 (f:=Fs.cells) (fun row hr=>uMB hr) es h5
  exact ⟨ts,h1⟩
theorem uNc {M n : Nat} {cs : List C} (h : uBd Tryz.prog M n 24 cs) : ∃ l : List Sp,cs=[.sl 7 (Sp.rows l)]:=by
 cases n with
 | zero=>exact h.elim
 | succ n =>
  simp only [uBd,Tryz.underlying24,uPi] at h
  obtain ⟨es,h1,_,h5⟩:=h
  obtain ⟨ts,rfl⟩:=uC2 (f:=Sp.cells) (fun row hr=>uOK hr) es h5
  exact ⟨ts,h1⟩
theorem uMI {M n : Nat} {cs : List C} (h : uBd Tryz.prog M n 25 cs) : ∃ l : List Gl,cs=[.sl 5 (Gl.rows l)] ∧ ∀ g ∈ l,g.data.length≤M:=by
 cases n with
 | zero=>exact h.elim
 | succ n =>
  simp only [uBd,Tryz.underlying25,uOO] at h
  obtain ⟨es,h1,_,h5⟩:=h
  obtain ⟨ts,rfl⟩:=uC2 (f:=fun g : {g : Gl // g.data.length≤M}=>g.1.cells) (fun row hr=>uN4 hr) es h5
  refine ⟨ts.map (·.1),by rw [h1,Gl.rows,List.map_map]; rfl,fun g hg=>?_⟩
  obtain ⟨x,_,rfl⟩:=List.mem_map.1 hg
  exact x.2
theorem uPL {n : Nat} {cs : List C} (h : uBd Tryz.prog 1048576 n 27 cs) : ∃ m : {m : Nar // ∀ g ∈ m.goals,g.data.length≤2097152},cs=m.1.cells:=by
 cases n with
 | zero=>exact h.elim
 | succ n =>
  simp only [uBd,Tryz.underlying27,uGt] at h
  obtain ⟨a,b,rfl,h1,c,d,rfl,h2,e,f,rfl,h3,g,k,rfl,h4,u,v,rfl,h5,x,y,rfl,h6,rfl⟩:=h
  obtain ⟨m1,rfl⟩:=uDk h1
  obtain ⟨m2,rfl⟩:=uKK h2
  obtain ⟨m3,rfl⟩:=uNl h3
  obtain ⟨m4,rfl⟩:=uKK h4
  obtain ⟨m5,rfl⟩:=uNc h5
  obtain ⟨m6,rfl,hl⟩:=uMI h6
  exact ⟨⟨⟨m1,m2,m3,m4,m5,m6⟩,fun g hg=>Nat.le_trans (hl g hg) (by omega)⟩,rfl⟩
theorem uOq {M n : Nat} {c : C} (h : uBd Tryz.prog M n 5 [c]) : ∃ b : UInt8,c = .i .u8 (b.toNat : Int):=by
 cases n with
 | zero=>exact h.elim
 | succ n =>
  simp only [uBd,Tryz.underlying5] at h
  obtain ⟨m,h0,hm⟩:=h
  have hb : 0≤m∧m < 256:=by
   have h1 : IntKind.u8.min=0:=by kernel_rfl
   have h2 : IntKind.u8.max=255:=by kernel_rfl
   simp only [Lit.wf,h1,h2,Bool.and_eq_true,decide_eq_true_eq] at hm
   omega
  refine ⟨UInt8.ofNat m.toNat,?_⟩
  simp only [List.cons.injEq,and_true] at h0
  rw [h0,UInt8.toNat_ofNat']; congr 1; omega
end Go.Proofs.YtnjjdbapadkomaaGreatDoor
