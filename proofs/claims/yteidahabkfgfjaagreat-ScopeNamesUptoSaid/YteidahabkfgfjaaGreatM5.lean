/- Our abstract program logic and contracts of this seat's functions, part 5: no statement of its own (long names of ours are shortened by a program). -/
import Derived.Test.YteidahabkfgfjaaGreatM4
import Derived.KernelRfl
set_option linter.unusedVariables false
set_option linter.unusedSimpArgs false
namespace Go.Proofs.YteidahabkfgfjaaGreat
open Go Go.Abs
abbrev xr (l : List Tk) (p : PS) : X:=.v (.agg (pbx l p))
theorem uLU (s : List UInt8) (k : Int) : Ctr sys 50 [xs s,xi k] [] (xm ⟨2,s,k,[]⟩) none []:=by
 refine uAA Tryz.func50 rfl rfl rfl rfl rfl rfl ?_;refine uAe (uAb ?_);refine uAt rfl (uAL rfl rfl rfl) ?_;refine uAf ?_;refine uAe (uAb ?_);refine uAa rfl rfl rfl (uAd rfl gU) ?_;refine uAa rfl rfl rfl (uAd rfl gU) ?_;refine uAa rfl rfl rfl (uBf rfl Tryz.underlying47 rfl gU) ?_;refine uAt rfl (uAy rfl rfl rfl rfl rfl rfl rfl) ?_;refine uAf ?_;refine uAo ?_
 repeat (first | refine tR ?_ | refine bR ?_)
 refine uAs rfl ?_ trivial
 rfl
theorem uMV (s : List UInt8) (ks : List T) (hk : ks.length≤3000000) : Ctr sys 166 [xs s,xl ks] [] (xm ⟨3,s,0,ks⟩) none []:=by
 have hrl:=T.rows_len ks
 refine uAA Tryz.func166 rfl rfl rfl rfl rfl rfl ?_;refine uAe (uAb ?_);refine uAt rfl (uAL rfl rfl rfl) ?_;refine uAf ?_;refine uAe (uAb ?_);refine uAa rfl rfl rfl (uAd rfl gU) ?_;refine uAT (xs:=[]) rfl rfl rfl rfl rfl rfl rfl rfl rfl gU rfl ?_;refine uAa rfl rfl rfl (uAd rfl gU) ?_;refine uAt rfl (uA0 rfl rfl rfl rfl rfl rfl rfl (by first | omega | (simp only [List.length_nil]; omega)) (by first | omega | (simp only [List.length_nil]; omega))) ?_;refine uAa rfl rfl rfl (uBf rfl Tryz.underlying47 rfl gU) ?_;refine uAt rfl (uAy rfl rfl rfl rfl rfl rfl rfl) ?_;refine uAf ?_;refine uAo ?_
 repeat (first | refine tR ?_ | refine bR ?_)
 refine uAs rfl ?_ trivial
 rfl
theorem uFI (s : List UInt8) (rs : List (List C)) (ks : List T) (h : rs=T.rows ks) (hk : ks.length≤3000000) : Ctr sys 166 [xs s, .v (.c (.sl 4 rs))] [] (xm ⟨3,s,0,ks⟩) none []:=by
 subst h; exact uMV s ks hk
theorem uAU (l : List Tk) (p : PS) (c : List UInt8) (hl : l.length≤2000000) (hp : p.at'≤3000000) : Ctr sys 106 [xr l p,xs c] [] (xr l (uAP l c p)) none []:=by
 have hrl:=Tk.rows_len l
 refine uAA Tryz.func106 rfl rfl rfl rfl rfl rfl ?_;refine uAe (uAb ?_);refine uAt rfl (uAI rfl rfl rfl rfl) ?_;refine uAt rfl (uAL rfl rfl rfl) ?_;refine uAf ?_;refine uAe ?_;refine uAe (uAb ?_);refine uAa rfl rfl rfl (uAg rfl gU rfl rfl) ?_;refine uAa rfl rfl rfl (uAj rfl gU rfl rfl rfl rfl) ?_;refine uAa rfl rfl rfl (uAd rfl gU) ?_;refine uAa rfl rfl rfl (uAg rfl gU rfl rfl) ?_;refine uAa rfl rfl rfl (uAj rfl (fun hh=>hh) rfl rfl rfl rfl) ?_;refine uAa rfl rfl rfl (uAg rfl gU rfl rfl) ?_;refine uAa rfl rfl rfl (uAj rfl (fun hh=>hh) rfl rfl rfl rfl) ?_;refine uAa rfl rfl rfl (uA6 rfl (fun hh=>hh) rfl rfl) ?_;refine uAa rfl rfl rfl (uAk rfl rfl (fun hh=>hh) (fun hh=>hh) rfl) ?_;refine uAa rfl rfl rfl (uAM rfl rfl gU (fun _ hi=>gP rfl hi)) ?_;refine uA7 (s:=⟨[(1,_,_),(2,_,_),(4,_,_),(14,_,_)],[(.l 2,_),(.l 4,_)],[],[]⟩) (uAi (⟨sx rfl,sx rfl,sx rfl,sx rfl,trivial⟩) (⟨sx rfl,sx rfl,trivial⟩) trivial) ?_;refine uAa rfl rfl rfl (uAd rfl gU) ?_;refine uAa rfl rfl rfl (uAg rfl gU rfl rfl) ?_;refine uAa rfl rfl rfl (uAj rfl (fun hh=>hh) rfl rfl rfl rfl) ?_;refine uAa rfl rfl rfl (uAg rfl gU rfl rfl) ?_;refine uAa rfl rfl rfl (uAj rfl (fun hh=>hh) rfl rfl rfl rfl) ?_;refine uAa rfl rfl rfl (uAu (j:=p.at') rfl rfl (fun hh=>hh) (fun hh=>hh) rfl rfl (by first | omega | (simp at hh ⊢; omega)) (fun hh=>Tk.rows_at (by first | omega | (simp at hh ⊢; omega)))) ?_
 refine uAa rfl rfl rfl (uA2 rfl (fun hh=>hh) rfl rfl) ?_;refine uAa rfl rfl rfl (uAQ rfl (fun hh=>hh) rfl rfl rfl) ?_;refine uAa rfl rfl rfl (uAk rfl rfl (fun hh=>hh) gU rfl) ?_;refine uAa rfl rfl rfl (uAM rfl rfl gU (fun _ hi=>gP rfl hi)) ?_;refine uAa rfl rfl rfl (uAd rfl gU) ?_;refine uAa rfl rfl rfl (uAg rfl gU rfl rfl) ?_;refine uA7 (s:=⟨[(1,_,_),(2,_,_),(4,_,_),(25,_,_),(26,_,_)],[(.l 2,_),(.l 4,_)],[],[]⟩) (uAi (⟨sx rfl,sx rfl,sx rfl,sx rfl,sx rfl,trivial⟩) (⟨sx rfl,sx rfl,trivial⟩) trivial) ?_;refine uAa rfl rfl rfl (uAj rfl (fun hh=>hh) rfl rfl rfl rfl) ?_;refine uAa rfl rfl rfl (uAg rfl gU rfl rfl) ?_;refine uAa rfl rfl rfl (uAj rfl (fun hh=>hh) rfl rfl rfl rfl) ?_;refine uAa rfl rfl rfl (uAu (j:=p.at') rfl rfl (fun hh=>hh) (fun hh=>hh) rfl rfl (by first | omega | (simp at hh ⊢; omega)) (fun hh=>Tk.rows_at (by first | omega | (simp at hh ⊢; omega)))) ?_;refine uAa rfl rfl rfl (uA2 rfl (fun hh=>hh) rfl rfl) ?_;refine uAa rfl rfl rfl (uAQ rfl (fun hh=>hh) rfl rfl rfl) ?_;refine uAa rfl rfl rfl (uAd rfl gU) ?_;refine uAa rfl rfl rfl (uA3 rfl rfl (fun hh=>hh) (fun hh=>hh) rfl) ?_;refine uAa rfl rfl rfl (uAM rfl rfl gU (fun _ hi=>gP rfl hi)) ?_;refine uAf ?_;refine uAl (s:=⟨[(2,_,_),(4,_,_),(35,_,_)],[(.l 2,_),(.l 4,_)],[],[]⟩) (uAi (⟨sx rfl,sx rfl,sx rfl,trivial⟩) (⟨sx rfl,sx rfl,trivial⟩) trivial) ?_
 refine uAn rfl (fun hc=>?_) (fun hc=>?_)
 ·try simp only [nn,uAh,T.rows_len,Tk.rows_len] at hc
  have h : symQ l p c=false:=by simp only [symQ]; grind
  have h2 : uAP l c p=p.off:=by rw [uAP,h]; rfl
  rw [h2]
  refine uAe (uAb ?_);refine uAa rfl rfl rfl (uAg rfl gU rfl rfl) ?_;refine uAt rfl (uAy rfl rfl rfl rfl rfl rfl rfl) ?_;refine uAf ?_;refine uAe (uAb ?_);refine uAa rfl rfl rfl (uAm rfl gU rfl rfl rfl rfl rfl) ?_;refine uAt rfl (uAy rfl rfl rfl rfl rfl rfl rfl) ?_;refine uAf ?_;refine uAo ?_
  repeat (first | refine tR ?_ | refine bR ?_)
  refine uAs rfl ?_ trivial
  rfl
 ·try simp only [nn,uAh,T.rows_len,Tk.rows_len] at hc
  have h : symQ l p c=true:=by simp only [symQ]; grind
  have h2 : uAP l c p=p.go:=by rw [uAP,if_pos h]
  rw [h2]
  refine uAp ?_;refine uAe (uAb ?_);refine uAa rfl rfl rfl (uAg rfl gU rfl rfl) ?_;refine uAa rfl rfl rfl (uAj rfl gU rfl rfl rfl rfl) ?_;refine uAa rfl rfl rfl (uAz rfl rfl gU gU rfl (IntWalk.i64_in _ (by omega))) ?_;refine uAa rfl rfl rfl (uAg rfl gU rfl rfl) ?_;refine uAt rfl (uAy rfl rfl rfl rfl rfl rfl rfl) ?_;refine uAf ?_;refine uAe (uAb ?_);refine uAa rfl rfl rfl (uAm rfl gU rfl rfl rfl rfl rfl) ?_;refine uAt rfl (uAy rfl rfl rfl rfl rfl rfl rfl) ?_;refine uAf ?_;refine uAo ?_
  repeat (first | refine tR ?_ | refine bR ?_)
  refine uAs rfl ?_ trivial
  (first | rfl | exact congrArg (fun z=>X.v (.agg z)) (uMf (by simp [PS.go]) rfl))
theorem uMO (l : List Tk) (c : List UInt8) (p : PS) : (uAP l c p).bad = !symQ l p c:=by
 unfold uAP
 split
 ·rename_i h
  rw [h]; exact (uB1 h).2
 ·rename_i h
  have : symQ l p c=false:=by simpa using h
  rw [this]; rfl
theorem uCg (l : List Tk) (p : PS) (c : List UInt8) (hl : l.length≤2000000) (hp : p.at'≤3000000) : Ctr sys 107 [xr l p,xs c] [] (xb (symQ l p c)) none []:=by
 refine uAA Tryz.func107 rfl rfl rfl rfl rfl rfl ?_;refine uAe (uAb ?_);refine uAt rfl (uAI rfl rfl rfl rfl) ?_;refine uAa rfl rfl rfl (uAc rfl gU) ?_;refine uAf ?_;refine uAe (uAb ?_);refine uAa rfl rfl rfl (uAm rfl gU rfl rfl rfl rfl rfl) ?_;refine uAa rfl rfl rfl (uAd rfl gU) ?_;refine uAx rfl rfl rfl rfl rfl rfl gU gU (uAU _ _ _ (by omega) (by omega)) rfl ?_;refine uAa rfl rfl rfl (uGw rfl gU (Tryz.underlying119) rfl rfl rfl rfl rfl rfl) ?_;refine uAa rfl rfl rfl (uAZ rfl gU) ?_;refine uAa rfl rfl rfl (uAc rfl gU) ?_;refine uAf ?_;refine uAo ?_
 repeat (first | refine tR ?_ | refine bR ?_)
 refine uAs rfl ?_ trivial;exact uB4 (by rw [uMO]; simp)
theorem uBx (l : List Tk) (p : PS) (hl : l.length≤2000000) (hp : p.at'≤3000000) : Ctr sys 105 [xr l p] [] (.tup [.c (.s (uAv l [] p).1), .agg (pbx l (uAv l [] p).2)]) none []:=by
 have hrl:=Tk.rows_len l
 refine uAA Tryz.func105 rfl rfl rfl rfl rfl rfl ?_;refine uAe (uAb ?_);refine uAt rfl (uAI rfl rfl rfl rfl) ?_;refine uAa rfl rfl rfl (uAc rfl gU) ?_;refine uAt rfl (uAL rfl rfl rfl) ?_;refine uAf ?_;refine uAe ?_;refine uAe (uAb ?_);refine uAa rfl rfl rfl (uAg rfl gU rfl rfl) ?_;refine uAa rfl rfl rfl (uAj rfl gU rfl rfl rfl rfl) ?_;refine uAa rfl rfl rfl (uAd rfl gU) ?_;refine uAa rfl rfl rfl (uAg rfl gU rfl rfl) ?_;refine uAa rfl rfl rfl (uAj rfl (fun hh=>hh) rfl rfl rfl rfl) ?_;refine uAa rfl rfl rfl (uAg rfl gU rfl rfl) ?_;refine uAa rfl rfl rfl (uAj rfl (fun hh=>hh) rfl rfl rfl rfl) ?_;refine uAa rfl rfl rfl (uA6 rfl (fun hh=>hh) rfl rfl) ?_;refine uAa rfl rfl rfl (uAk rfl rfl (fun hh=>hh) (fun hh=>hh) rfl) ?_;refine uA7 (s:=⟨[(1,_,_),(3,_,_),(6,_,_),(12,_,_)],[(.l 1,_),(.l 3,_)],[],[]⟩) (uAi (⟨sx rfl,sx rfl,sx rfl,sx rfl,trivial⟩) (⟨sx rfl,sx rfl,trivial⟩) trivial) ?_;refine uAa rfl rfl rfl (uAM rfl rfl gU (fun _ hi=>gP rfl hi)) ?_;refine uAa rfl rfl rfl (uAd rfl gU) ?_;refine uAa rfl rfl rfl (uAg rfl gU rfl rfl) ?_;refine uAa rfl rfl rfl (uAj rfl (fun hh=>hh) rfl rfl rfl rfl) ?_;refine uAa rfl rfl rfl (uAg rfl gU rfl rfl) ?_;refine uAa rfl rfl rfl (uAj rfl (fun hh=>hh) rfl rfl rfl rfl) ?_
 refine uAa rfl rfl rfl (uAu (j:=p.at') rfl rfl (fun hh=>hh) (fun hh=>hh) rfl rfl (by first | omega | (simp at hh ⊢; omega)) (fun hh=>Tk.rows_at (by first | omega | (simp at hh ⊢; omega)))) ?_;refine uAa rfl rfl rfl (uA2 rfl (fun hh=>hh) rfl rfl) ?_;refine uAa rfl rfl rfl (uAQ rfl (fun hh=>hh) rfl rfl rfl) ?_;refine uAa rfl rfl rfl (uAk rfl rfl (fun hh=>hh) gU rfl) ?_;refine uAa rfl rfl rfl (uAM rfl rfl gU (fun _ hi=>gP rfl hi)) ?_;refine uAf ?_;refine uAl (s:=⟨[(1,_,_),(3,_,_),(23,_,_)],[(.l 1,_),(.l 3,_)],[],[]⟩) (uAi (⟨sx rfl,sx rfl,sx rfl,trivial⟩) (⟨sx rfl,sx rfl,trivial⟩) trivial) ?_;refine uAn rfl (fun hc=>?_) (fun hc=>?_)
 ·try simp only [nn,uAh,T.rows_len,Tk.rows_len] at hc
  have h : namQ l p []=false:=by simp only [namQ]; grind
  have h2 : uAv l [] p=([],p.off):=by rw [uAv,h]; rfl
  rw [h2]
  refine uAe (uAb ?_);refine uAa rfl rfl rfl (uAg rfl gU rfl rfl) ?_;refine uAt rfl (uAy rfl rfl rfl rfl rfl rfl rfl) ?_;refine uAf ?_;refine uAe ?_;refine awp_drawn' (by kernel_rfl) ?_;refine uAD rfl rfl rfl rfl rfl rfl rfl gU rfl rfl rfl rfl rfl ?_;refine uAq rfl rfl rfl rfl (uAc rfl gU) ?_;refine uAR rfl rfl rfl rfl rfl rfl rfl rfl rfl rfl rfl rfl ?_;refine uA1 (by kernel_rfl) ?_;refine uAo ?_
  repeat (first | refine tR ?_ | refine bR ?_)
  refine uAs rfl ?_ trivial
  rfl
 ·try simp only [nn,uAh,T.rows_len,Tk.rows_len] at hc
  have h : namQ l p []=true:=by simp only [namQ]; grind
  have h2 : uAv l [] p=((l.getD p.at' tk0).text,p.go):=by rw [uAv,if_pos h]
  rw [h2]
  refine uAp ?_;refine uAe (uAb ?_);refine uAa rfl rfl rfl (uAg rfl gU rfl rfl) ?_;refine uAa rfl rfl rfl (uAj rfl gU rfl rfl rfl rfl) ?_;refine uAa rfl rfl rfl (uAz rfl rfl gU gU rfl (IntWalk.i64_in _ (by omega))) ?_;refine uAa rfl rfl rfl (uAg rfl gU rfl rfl) ?_;refine uAt rfl (uAy rfl rfl rfl rfl rfl rfl rfl) ?_;refine uAf ?_;refine uAe ?_;refine awp_drawn' (by kernel_rfl) ?_;refine uAq rfl rfl rfl rfl (uAg rfl gU rfl rfl) ?_;refine uBj rfl rfl rfl rfl rfl rfl rfl gU rfl rfl rfl rfl ?_;refine uAq rfl rfl rfl rfl (uAg rfl gU rfl rfl) ?_;refine uBj rfl rfl rfl rfl rfl rfl rfl gU rfl rfl rfl rfl ?_;refine uAq rfl rfl rfl rfl (uAz rfl rfl gU gU rfl (IntWalk.i64_in _ (by omega))) ?_;refine uAq rfl rfl rfl rfl (uAu (j:=p.at') rfl rfl gU gU rfl rfl (by first | omega | (simp at hh ⊢; omega)) (fun hh=>Tk.rows_at (by first | omega | (simp at hh ⊢; omega)))) ?_;refine uAq rfl rfl rfl rfl (uA2 rfl gU rfl rfl) ?_;refine uAq rfl rfl rfl rfl (uAQ rfl gU rfl rfl rfl) ?_;refine uAD rfl rfl rfl rfl rfl rfl rfl gU rfl rfl rfl rfl rfl ?_;refine uAq rfl rfl rfl rfl (uAc rfl gU) ?_;refine uAR rfl rfl rfl rfl rfl rfl rfl rfl rfl rfl rfl rfl ?_;refine uA1 (by kernel_rfl) ?_;refine uAo ?_
  repeat (first | refine tR ?_ | refine bR ?_)
  refine uAs rfl ?_ trivial
  (first | rfl | exact congrArg (fun z=>X.tup [.c (.s (l.getD p.at' tk0).text), .agg z]) (uMf (by simp [PS.go]) rfl))
theorem uJ2 (l : List Tk) (p : PS) (hl : l.length≤2000000) : Ctr sys 109 [xr l p] [] (xi (uJA l p)) none []:=by
 have hrl:=Tk.rows_len l
 refine uAA Tryz.func109 rfl rfl rfl rfl rfl rfl ?_;refine uAe (uAb ?_);refine uAt rfl (uAI rfl rfl rfl rfl) ?_;refine uAa rfl rfl rfl (uAc rfl gU) ?_;refine uAf ?_;refine uAe ?_;refine uAe (uAb ?_);refine uAa rfl rfl rfl (uAg rfl gU rfl rfl) ?_;refine uAa rfl rfl rfl (uAj rfl gU rfl rfl rfl rfl) ?_;refine uAN rfl rfl rfl rfl rfl gU rfl rfl ?_ (fun hh=>by simp at hh); intro hlen;refine uAa rfl rfl rfl (uAk rfl rfl gU gU rfl) ?_;refine uAf ?_;refine uAl (s:=⟨[(1,_,_),(6,_,_)],[(.l 1,_)],[],[]⟩) (uAi (⟨sx rfl,sx rfl,trivial⟩) (⟨sx rfl,trivial⟩) trivial) ?_;refine uAn rfl (fun hc=>?_) (fun hc=>?_)
 ·try simp only [nn,uAh,T.rows_len,Tk.rows_len] at hc
  refine uAe (uAb ?_);refine uAa rfl rfl rfl (uAc rfl gU) ?_;refine uAf ?_;refine uAo ?_
  repeat (first | refine tR ?_ | refine bR ?_)
  refine uAs rfl ?_ trivial
  (rw [uJA,if_pos (by omega)]; rfl)
 ·try simp only [nn,uAh,T.rows_len,Tk.rows_len] at hc
  refine uAp ?_;refine uAe (uAb ?_);refine uAa rfl rfl rfl (uAg rfl gU rfl rfl) ?_;refine uAa rfl rfl rfl (uAj rfl gU rfl rfl rfl rfl) ?_;refine uAa rfl rfl rfl (uAg rfl gU rfl rfl) ?_;refine uAa rfl rfl rfl (uAj rfl gU rfl rfl rfl rfl) ?_;refine uAa rfl rfl rfl (uAg rfl gU rfl rfl) ?_;refine uAa rfl rfl rfl (uAj rfl gU rfl rfl rfl rfl) ?_;refine uAN rfl rfl rfl rfl rfl gU rfl rfl ?_ (fun hh=>by simp at hh); intro hlen;refine uAa rfl rfl rfl (uAz rfl rfl gU gU rfl (IntWalk.i64_in _ (by omega))) ?_;refine uAa rfl rfl rfl (uM2 rfl rfl gU gU) ?_;refine uAa rfl rfl rfl (uAu (j:=(min p.at' (l.length - 1))) rfl rfl gU gU rfl rfl (by first | omega | (simp at hh ⊢; omega)) (fun hh=>Tk.rows_at (by first | omega | (simp at hh ⊢; omega)))) ?_;refine uAa rfl rfl rfl (uA2 rfl gU rfl rfl) ?_;refine uAa rfl rfl rfl (uAQ rfl gU rfl rfl rfl) ?_;refine uA7 (s:=⟨[(18,_,_)],[],[],[]⟩) (uAi (⟨sx rfl,trivial⟩) trivial trivial) ?_;refine uAa rfl rfl rfl (uAc rfl gU) ?_;refine uAf ?_;refine uAo ?_
  repeat (first | refine tR ?_ | refine bR ?_)
  refine uAs rfl ?_ trivial
  rw [uJA,if_neg (by omega)]
  split
  ·rename_i h
   exact uA9 (by rw [show min p.at' (l.length - 1)=l.length - 1 by omega])
  ·rename_i h
   exact uA9 (by rw [show min p.at' (l.length - 1)=p.at' by omega])
theorem uL9 {l : List (List UInt8)} {s : List UInt8} {k : Nat} {e : Int} (h : k < l.length) (hi : (if idxF (fun x=>decide (x=s) && decide (s≠[])) (l.drop k) < 0 then 0 else idxF (fun x=>decide (x=s) && decide (s≠[])) (l.drop k) + k)=e) :
  ((l.getD k []=s∧s≠[])→e=k)∧(¬(l.getD k []=s∧s≠[])→(if idxF (fun x=>decide (x=s) && decide (s≠[])) (l.drop (k + 1)) < 0 then 0 else idxF (fun x=>decide (x=s) && decide (s≠[])) (l.drop (k + 1)) + (k + 1 : Nat))=e):=by
 rw [uHi (d:=[]) h,idxF] at hi
 refine ⟨fun q=>?_,fun q=>?_⟩
 ·have e1 : (decide (l.getD k []=s) && decide (s≠[]))=true:=by simp only [Bool.and_eq_true,decide_eq_true_eq]; exact q
  rw [e1] at hi
  simp at hi; omega
 ·have e1 : (decide (l.getD k []=s) && decide (s≠[]))=false:=by
   rw [Bool.eq_false_iff]; simp only [ne_eq,Bool.and_eq_true,decide_eq_true_eq]; exact q
  rw [e1] at hi
  simp only [Bool.false_eq_true,if_false] at hi
  have hg:=uIg (fun x=>decide (x=s) && decide (s≠[])) (l.drop (k + 1))
  generalize idxF (fun x=>decide (x=s) && decide (s≠[])) (List.drop (k + 1) l)=x at hi hg ⊢
  rw [← hi]
  by_cases hx : x < 0
  ·rw [if_pos hx,if_pos hx]; simp
  ·rw [if_neg hx,if_neg hx,if_neg (by omega)]; push_cast; omega
theorem uFY (l : List (List UInt8)) (s : List UInt8) : Ctr sys 131 [xss l,xs s] [] (xi (idx0 l s)) none []:=by
 have hrl:=uAh l
 refine uAA Tryz.func131 rfl rfl rfl rfl rfl rfl ?_;refine uAe (uAb ?_);refine uAa rfl rfl rfl (uAc rfl gU) ?_;refine uAf ?_;refine uAe ?_;refine uAe (uAb ?_);refine uAa rfl rfl rfl (uAc rfl gU) ?_;refine uAf ?_;refine uAw ?_;refine uAW (ι:=Nat) { t:=[(0,_,_),(1,_,_)],bx:=[],ow:=[] } (fun k=>[(5,true,xi (k : Int))]) (fun k=>[]) (fun k=>k≤l.length∧(if idxF (fun x=>decide (x=s) && decide (s≠[])) (l.drop k) < 0 then 0 else idxF (fun x=>decide (x=s) && decide (s≠[])) (l.drop k) + k)=idx0 l s) (fun k=>l.length - k) (0) (⟨by simp,by simp [idx0]⟩) (uAi (⟨sx rfl,sx rfl,sx rfl,trivial⟩) trivial trivial) ?_
 intro k hok
 dsimp only [List.cons_append,List.nil_append]
 obtain ⟨hk,hi⟩:=hok
 refine uAe ?_;refine uAe (uAb ?_);refine uAa rfl rfl rfl (uAd rfl gU) ?_;refine uAa rfl rfl rfl (uAd rfl gU) ?_;refine uAN rfl rfl rfl rfl rfl gU rfl rfl ?_ (fun hh=>by simp at hh); intro hlen;refine uAa rfl rfl rfl (uAk rfl rfl gU gU rfl) ?_;refine uAf ?_;refine uAn rfl (fun hc=>?_) (fun hc=>?_)
 ·try simp only [nn,uAh,T.rows_len,Tk.rows_len] at hc
  have hlt : k < l.length:=by omega
  have hd:=uL9 hlt hi
  refine uAp ?_;refine uAe ?_;refine uAw ?_;refine uAe (uAb ?_);refine uAa rfl rfl rfl (uAd rfl gU) ?_;refine uAa rfl rfl rfl (uAd rfl gU) ?_;refine uAa rfl rfl rfl (uAu rfl rfl gU gU rfl rfl rfl (fun hh=>uBQ (by first | omega | (simp at hh ⊢; omega)))) ?_;refine uAa rfl rfl rfl (uAQ rfl gU rfl rfl rfl) ?_;refine uAa rfl rfl rfl (uAd rfl gU) ?_;refine uAa rfl rfl rfl (uA3 rfl rfl gU gU rfl) ?_;refine uAa rfl rfl rfl (uAd rfl gU) ?_;refine uAa rfl rfl rfl (uAd rfl gU) ?_;refine uA7 (s:=⟨[(0,_,_),(1,_,_),(5,_,_),(18,_,_),(19,_,_)],[],[],[]⟩) (uAi (⟨sx rfl,sx rfl,sx rfl,sx rfl,sx rfl,trivial⟩) trivial trivial) ?_;refine uAa rfl rfl rfl (uA3 rfl rfl (fun hh=>hh) gU rfl) ?_;refine uAa rfl rfl rfl (uAH rfl rfl gU (fun _ hi=>gP rfl hi)) ?_;refine uAf ?_;refine uAn rfl (fun hc2=>?_) (fun hc2=>?_)
  ·try simp only [nn,uAh,T.rows_len,Tk.rows_len] at hc2
   refine uAe (uAb ?_);refine uAa rfl rfl rfl (uAd rfl gU) ?_;refine uAa rfl rfl rfl (uAc rfl gU) ?_;refine uAf ?_;refine uAo ?_
   repeat (first | refine tR ?_ | refine bR ?_)
   refine uAs rfl ?_ trivial;exact uA9 (hd.1 hc2).symm
  ·try simp only [nn,uAh,T.rows_len,Tk.rows_len] at hc2
   refine uAp ?_;refine uAb ?_;refine uAa rfl rfl rfl (uAd rfl gU) ?_;refine uAa rfl rfl rfl (uAz rfl rfl gU gU rfl (IntWalk.i64_in _ (by omega))) ?_;refine uAa rfl rfl rfl (uAc rfl gU) ?_;refine uAf ?_;refine ⟨k + 1,?_,?_,uAi (⟨⟨_,rfl,?_⟩,⟨sx rfl,sx rfl,trivial⟩⟩) trivial trivial⟩
   all_goals (first | rfl | omega | exact ⟨by omega,hd.2 (by rintro ⟨q1,q2⟩; rcases hc2 with q | q; exact q q1; exact q2 (by simpa using q))⟩)
 ·try simp only [nn,uAh,T.rows_len,Tk.rows_len] at hc
  rw [List.drop_of_length_le (by omega)] at hi
  refine uAO ?_
  repeat (first | refine uAF ?_ | refine uAG ?_ | refine uAC rfl ?_)
  refine uAe (uAb ?_);refine uAa rfl rfl rfl (uAc rfl gU) ?_;refine uAf ?_;refine uAo ?_
  repeat (first | refine tR ?_ | refine bR ?_)
  refine uAs rfl ?_ trivial;exact uA9 hi
theorem uCU (l : List Tk) (p : PS) (ws : List (List UInt8)) (hl : l.length≤2000000) (hp : p.at'≤3000000) : Ctr sys 104 [xr l p,xss ws] [] (.tup [.c (.i .i64 (chR l ws p).1), .agg (pbx l (chR l ws p).2)]) none []:=by
 refine uAA Tryz.func104 rfl rfl rfl rfl rfl rfl ?_;refine uAe (uAb ?_);refine uAt rfl (uAI rfl rfl rfl rfl) ?_;refine uAa rfl rfl rfl (uAc rfl gU) ?_;refine uAt rfl (uAL rfl rfl rfl) ?_;refine uAf ?_;refine uAe (uAb ?_);refine uAa rfl rfl rfl (uAm rfl gU rfl rfl rfl rfl rfl) ?_;refine uAx rfl rfl rfl rfl rfl rfl gU gU (uBx _ _ (by omega) (by omega)) rfl ?_;refine uAa rfl rfl rfl (uAd rfl gU) ?_;refine uAa rfl rfl rfl (uAr rfl gU rfl) ?_;refine uAa rfl rfl rfl (uAr rfl gU rfl) ?_;refine uAt rfl (uAL rfl rfl rfl) ?_;refine uAa rfl rfl rfl (uAc rfl gU) ?_;refine uAt rfl (uAy rfl rfl rfl rfl rfl rfl rfl) ?_;refine uAf ?_;refine uAl (s:=⟨[(1,_,_),(2,_,_),(5,_,_),(6,_,_),(7,_,_)],[(.l 2,_),(.l 5,_),(.l 7,_)],[],[]⟩) (uAi (⟨sx rfl,sx rfl,sx rfl,sx rfl,sx rfl,trivial⟩) (⟨sx rfl,sx rfl,sx rfl,trivial⟩) trivial) ?_;refine uAe ?_;refine uAe (uAb ?_);refine uAa rfl rfl rfl (uAg rfl gU rfl rfl) ?_;refine uAa rfl rfl rfl (uAj rfl gU rfl rfl rfl rfl) ?_;refine uAa rfl rfl rfl (uAd rfl gU) ?_;refine uAa rfl rfl rfl (uAd rfl gU) ?_;refine uAa rfl rfl rfl (uAd rfl gU) ?_;refine uAx rfl rfl rfl rfl rfl rfl gU (fun hh=>gA ((fun hh=>hh) hh) (gA ((fun hh=>hh) hh) (rfl))) (uFY _ _) rfl ?_
 refine uAa rfl rfl rfl (uAk rfl rfl (fun hh=>hh) gU rfl) ?_;refine uAa rfl rfl rfl (uAM rfl rfl gU (fun _ hi=>gP rfl hi)) ?_;refine uAf ?_;refine uAl (s:=⟨[(1,_,_),(2,_,_),(5,_,_),(6,_,_),(7,_,_),(20,_,_)],[(.l 2,_),(.l 5,_),(.l 7,_)],[],[]⟩) (uAi (⟨sx rfl,sx rfl,sx rfl,sx rfl,sx rfl,sx rfl,trivial⟩) (⟨sx rfl,sx rfl,sx rfl,trivial⟩) trivial) ?_;refine uAn rfl (fun hc=>?_) (fun hc=>?_)
 ·try simp only [nn,uAh,T.rows_len,Tk.rows_len] at hc
  have h : chR l ws p=(0,p.off):=by rw [chR,if_pos hc]
  rw [h]
  refine uAe (uAb ?_);refine uAa rfl rfl rfl (uAg rfl gU rfl rfl) ?_;refine uAt rfl (uAy rfl rfl rfl rfl rfl rfl rfl) ?_;refine uAf ?_;refine uAe ?_;refine awp_drawn' (by kernel_rfl) ?_;refine uAD rfl rfl rfl rfl rfl rfl rfl gU rfl rfl rfl rfl rfl ?_;refine uAq rfl rfl rfl rfl (uAc rfl gU) ?_;refine uAR rfl rfl rfl rfl rfl rfl rfl rfl rfl rfl rfl rfl ?_;refine uA1 (by kernel_rfl) ?_;refine uAo ?_
  repeat (first | refine tR ?_ | refine bR ?_)
  refine uAs rfl ?_ trivial
  rfl
 ·try simp only [nn,uAh,T.rows_len,Tk.rows_len] at hc
  have h : chR l ws p=(idx0 ws (uAv l [] p).1,(uAv l [] p).2):=by rw [chR,if_neg (by rintro (q | q); { rw [hc.1] at q; cases q }; { exact hc.2 q })]
  rw [h]
  refine uAp ?_;refine uAe ?_;refine awp_drawn' (by kernel_rfl) ?_;refine uAq rfl rfl rfl rfl (uAd rfl gU) ?_;refine uAq rfl rfl rfl rfl (uAd rfl gU) ?_;refine uAS rfl rfl rfl rfl rfl rfl rfl gU gU (uFY _ _) rfl ?_;refine uAD rfl rfl rfl rfl rfl rfl rfl gU rfl rfl rfl rfl rfl ?_;refine uAq rfl rfl rfl rfl (uAc rfl gU) ?_;refine uAR rfl rfl rfl rfl rfl rfl rfl rfl rfl rfl rfl rfl ?_;refine uA1 (by kernel_rfl) ?_;refine uAo ?_
  repeat (first | refine tR ?_ | refine bR ?_)
  refine uAs rfl ?_ trivial
  rfl
theorem uCM (l : List Tk) (p : PS) (hl : l.length≤2000000) (hp : p.at'≤l.length) : Ctr sys 132 [xr l p] [] (.tup [.c (.sl 1 (strR (uBs l p).1)), .agg (pbx l (uBs l p).2)]) none []:=by
 have hrl:=Tk.rows_len l
 have h0:=uA4 l [] p
 refine uAA Tryz.func132 rfl rfl rfl rfl rfl rfl ?_;refine uAe (uAb ?_);refine uAt rfl (uAI rfl rfl rfl rfl) ?_;refine uAt rfl (uBw (.inr rfl) rfl rfl) ?_;refine uAt rfl (uAL rfl rfl rfl) ?_;refine uAf ?_;refine uAe (uAb ?_);refine uAa rfl rfl rfl (uAm rfl gU rfl rfl rfl rfl rfl) ?_;refine uAx rfl rfl rfl rfl rfl rfl gU gU (uBx _ _ (by omega) (by omega)) rfl ?_;refine uAa rfl rfl rfl (uAd rfl gU) ?_;refine uAa rfl rfl rfl (uAr rfl gU rfl) ?_;refine uAa rfl rfl rfl (uAr rfl gU rfl) ?_;refine uAa rfl rfl rfl (uAc rfl gU) ?_;refine uAt rfl (uAy rfl rfl rfl rfl rfl rfl rfl) ?_;refine uAf ?_;refine uAl (s:=⟨[(1,_,_),(3,_,_),(4,_,_)],[(.l 1,_),(.l 3,_)],[],[]⟩) (uAi (⟨sx rfl,sx rfl,sx rfl,trivial⟩) (⟨sx rfl,sx rfl,trivial⟩) trivial) ?_;refine uAe (uAb ?_);refine uAa rfl rfl rfl (uAd rfl gU) ?_;refine uAT (xs:=[_]) rfl rfl rfl rfl rfl rfl rfl rfl rfl gU rfl ?_;refine uAt rfl (uAV (.inr rfl) rfl rfl rfl) ?_;refine uAf ?_;refine uAe ?_;refine uAw ?_;refine uAW (ι:=PS × List (List UInt8) × List UInt8) { t:=[(1,_,_),(3,_,_)],bx:=[(.l 3,_)],ow:=[(.t 5,_)] } (fun q=>[(4,true,xs q.2.2),(5,true,xss q.2.1)]) (fun q=>[((.l 1),pbx l q.1)]) (fun q=>q.1.at'≤l.length∧q.2.1.length≤q.1.at' + 1 ∧ ∃ n,l.length + 1≤n + q.1.at'∧uBK l (uAv l []) n q.1 q.2.1=uBs l p) (fun q=>l.length - q.1.at') (((uAv l [] p).2,[(uAv l [] p).1],(uAv l [] p).1)) (⟨h0.2 hp,by simp,_,by dsimp only; omega,rfl⟩) (uAi (⟨sx rfl,sx rfl,sx rfl,sx rfl,trivial⟩) (⟨sx rfl,sx rfl,trivial⟩) (⟨rfl,trivial⟩)) ?_
 intro q hok
 dsimp only [List.cons_append,List.nil_append] at *
 obtain ⟨q,out,x⟩:=q
 dsimp only at hok ⊢
 obtain ⟨hq,ho,n,hn,hi⟩:=hok
 have hro:=uAh out
 refine uAe ?_;refine uAe (uAb ?_);refine uAa rfl rfl rfl (uAm rfl gU rfl rfl rfl rfl rfl) ?_;refine uAx rfl rfl rfl rfl rfl rfl gU gU (uCg _ _ _ (by omega) (by omega)) rfl ?_;refine uAf ?_;refine uAn rfl (fun hc=>?_) (fun hc=>?_)
 ·try simp only [nn,uAh,T.rows_len,Tk.rows_len] at hc
  have hlt:=(uB1 hc).1
  have hs : uAP l [44] q=q.go:=by rw [uAP,if_pos hc]
  have h1:=uA4 l [] q.go
  have hg : q.go.at'=q.at' + 1:=rfl
  obtain ⟨n,rfl⟩ : ∃ k,n=k + 1:=⟨n - 1,by omega⟩
  rw [uI5 hc] at hi
  have hsy:=uAU l q [44] (by omega) (by omega)
  rw [hs] at hsy
  refine uAp ?_;refine uAw ?_;refine uAe (uAb ?_);refine uAa rfl rfl rfl (uAm rfl gU rfl rfl rfl rfl rfl) ?_;refine uAx rfl rfl rfl rfl rfl rfl gU gU (hsy) rfl ?_;refine uAx rfl rfl rfl rfl rfl rfl gU gU (uBx l q.go (by omega) (by omega)) rfl ?_;refine uAa rfl rfl rfl (uAd rfl gU) ?_;refine uAa rfl rfl rfl (uAr rfl gU rfl) ?_;refine uAa rfl rfl rfl (uAr rfl gU rfl) ?_;refine uAa rfl rfl rfl (uAc rfl gU) ?_;refine uAt rfl (uAy rfl rfl rfl rfl rfl rfl rfl) ?_;refine uAf ?_;refine uAl (s:=⟨[(1,_,_),(3,_,_),(4,_,_),(5,_,_)],[(.l 1,_),(.l 3,_)],[(.t 5,_)],[]⟩) (uAi (⟨sx rfl,sx rfl,sx rfl,sx rfl,trivial⟩) (⟨sx rfl,sx rfl,trivial⟩) (⟨rfl,trivial⟩)) ?_;refine uAb ?_;refine uAt rfl (uAV (.inl rfl) rfl rfl rfl) ?_;refine uAa rfl rfl rfl (uAd rfl gU) ?_;refine uAT (xs:=[_]) rfl rfl rfl rfl rfl rfl rfl rfl rfl gU rfl ?_;refine uAt rfl (uA0 rfl rfl rfl rfl rfl rfl rfl (by first | omega | (simp only [List.length_append,List.length_singleton,uAh]; omega)) (by first | omega | (simp only [List.length_append,List.length_singleton,uAh]; omega))) ?_;refine uAt rfl (uAV (.inr rfl) rfl rfl rfl) ?_;refine uAf ?_;refine ⟨((uAv l [] q.go).2,out++[(uAv l [] q.go).1],(uAv l [] q.go).1),?_,?_,uAi (⟨⟨_,rfl,?_⟩,⟨⟨_,rfl,?_⟩,⟨sx rfl,sx rfl,trivial⟩⟩⟩) (⟨⟨_,rfl,?_⟩,⟨sx rfl,trivial⟩⟩) (⟨rfl,trivial⟩)⟩
  ·exact ⟨h1.2 (by omega),by simp only [List.length_append,List.length_singleton]; omega,n,by dsimp only; omega,hi⟩
  ·dsimp only; omega
  ·rfl
  ·exact tx (uDN _ _)
  all_goals rfl
 ·try simp only [nn,uAh,T.rows_len,Tk.rows_len] at hc
  rw [uEV hc] at hi
  refine uAO ?_
  repeat (first | refine uAF ?_ | refine uAG ?_ | refine uAC rfl ?_)
  refine uAe ?_;refine awp_drawn' (by kernel_rfl) ?_;refine uDu rfl (.inl rfl) rfl rfl rfl rfl rfl ?_;refine uAD rfl rfl rfl rfl rfl rfl rfl gU rfl rfl rfl rfl rfl ?_;refine uDu rfl (.inr rfl) rfl rfl rfl rfl rfl ?_;refine uAR rfl rfl rfl rfl rfl rfl rfl rfl rfl rfl rfl rfl ?_;refine uA1 (by kernel_rfl) ?_;refine uAo ?_
  repeat (first | refine tR ?_ | refine bR ?_)
  refine uAs rfl ?_ trivial
  (rw [← hi]; rfl)
theorem uLM : ∀ (n : Nat) (ts : List T),ts.length≤n→n≤3000000→0 < ts.length→Ctr sys 165 [xl ts] [] (xm (tupT ts)) none []:=by
 intro n
 induction n with
 | zero=>intro ts h _ h0; omega
 | succ n ih =>
  intro ts hts hn h0
  have hrl:=T.rows_len ts
  refine uAA Tryz.func165 rfl rfl rfl rfl rfl rfl ?_;refine uAe (uAb ?_);refine uAt rfl (uAL rfl rfl rfl) ?_;refine uAf ?_;refine uAe ?_;refine uAe (uAb ?_);refine uAa rfl rfl rfl (uAd rfl gU) ?_;refine uAN rfl rfl rfl rfl rfl gU rfl rfl ?_ (fun hh=>by simp at hh); intro hlen;refine uAa rfl rfl rfl (uAk rfl rfl gU gU rfl) ?_;refine uAf ?_;refine uAn rfl (fun hc=>?_) (fun hc=>?_)
  ·try simp only [nn,uAh,T.rows_len,Tk.rows_len] at hc
   obtain ⟨t,rfl⟩ : ∃ t,ts=[t]:=by
    match ts,hc with
    | [t],_=>exact ⟨t,rfl⟩
    | [],h=>simp at h
    | _ :: _ :: _,h=>simp at h; omega
   refine uAe (uAb ?_);refine uAa rfl rfl rfl (uAd rfl gU) ?_;refine uAa rfl rfl rfl (uAu (j:=0) rfl rfl gU gU rfl rfl (by first | omega | (simp at hh ⊢; omega)) (fun hh=>T.rows_at (by first | omega | (simp at hh ⊢; omega)))) ?_;refine uAa rfl rfl rfl (uAE rfl gU rfl rfl rfl rfl) ?_;refine uAt rfl (uAy rfl rfl rfl rfl rfl rfl rfl) ?_;refine uAf ?_;refine uAo ?_
   repeat (first | refine tR ?_ | refine bR ?_)
   refine uAs rfl ?_ trivial
   rfl
  ·try simp only [nn,uAh,T.rows_len,Tk.rows_len] at hc
   obtain ⟨t,u,r,rfl⟩ : ∃ t u r,ts=t :: u :: r:=by
    match ts,hc,h0 with
    | [t],h,_=>exact absurd rfl h
    | [],_,h=>simp at h
    | t :: u :: r,_,_=>exact ⟨t,u,r,rfl⟩
   simp only [List.length_cons] at hts hrl
   have htu:=ih (u :: r) (by simp only [List.length_cons]; omega) (by omega) (by simp)
   have htu2 : ∀ rs : List (List C),rs=T.rows (u :: r)→Ctr sys 165 [.v (.c (.sl 4 rs))] [] (xm (tupT (u :: r))) none []:=by
    intro rs h; subst h; exact htu
   refine uAp ?_;refine uAe ?_;refine awp_drawn' (by kernel_rfl) ?_;refine uAq rfl rfl rfl rfl (uAd rfl gU) ?_;refine uAq rfl rfl rfl rfl (uAu (j:=0) rfl rfl gU gU rfl rfl (by first | omega | (simp at hh ⊢; omega)) (fun hh=>T.rows_at (by first | omega | (simp at hh ⊢; omega)))) ?_;refine uAq rfl rfl rfl rfl (uAE rfl gU rfl rfl rfl rfl) ?_;refine uAq rfl rfl rfl rfl (uAd rfl gU) ?_;refine uAq rfl rfl rfl rfl (uDO (l:=1) rfl gU rfl rfl (fun _=>⟨_,_,_,rfl,gU,by first | omega | (simp at hh ⊢; omega)⟩) (fun _=>rfl) (fun hh=>by first | omega | (simp at hh ⊢; omega)) (fun hh=>by first | omega | (simp at hh ⊢; omega))) ?_;refine uAS rfl rfl rfl rfl rfl rfl rfl gU gU (htu2 _ (by simp [T.rows_eq,List.take_of_length_le])) rfl ?_;refine uEc (xs:=[_,_]) rfl rfl rfl rfl rfl rfl rfl rfl rfl rfl gU rfl ?_;refine uAS rfl rfl rfl rfl rfl rfl rfl gU gU (uFI _ _ [t,tupT (u :: r)] (by simp [T.rows_eq,T.cells]) (by simp)) rfl ?_;refine uAR rfl rfl rfl rfl rfl rfl rfl rfl rfl rfl rfl rfl ?_;refine uA1 (by kernel_rfl) ?_;refine uAo ?_
   repeat (first | refine tR ?_ | refine bR ?_)
   refine uAs rfl ?_ trivial
   rfl
theorem uJd (ts : List T) (rs : List (List C)) (h : rs=T.rows ts) (hts : ts.length≤3000000) (h0 : 0 < ts.length) : Ctr sys 165 [.v (.c (.sl 4 rs))] [] (xm (tupT ts)) none []:=by
 subst h; exact uLM _ ts hts (Nat.le_refl _) h0
theorem uEq (l : List Tk) (n : Nat) (hl : l.length≤2000000) (ih : ∀ p : PS,p.at'≤l.length→l.length - p.at' < n→Ctr sys 153 [xr l p] [] (.tup [.agg (uAY l n p).1.cells, .agg (pbx l (uAY l n p).2)]) none []) (hf : Fwd l (uAY l n)) (p : PS) (hp : p.at'≤l.length) (hn : l.length - p.at' < n) :
  Ctr sys 155 [xr l p] [] (.tup [.c (.sl 4 (T.rows (uA5 l (uAY l n) p).1)), .agg (pbx l (uA5 l (uAY l n) p).2)]) none []:=by
 have hrl:=Tk.rows_len l
 have h0:=hf p
 refine uAA Tryz.func155 rfl rfl rfl rfl rfl rfl ?_;refine uAe (uAb ?_);refine uAt rfl (uAI rfl rfl rfl rfl) ?_;refine uAt rfl (uBw (.inr rfl) rfl rfl) ?_;refine uAt rfl (uAL rfl rfl rfl) ?_;refine uAf ?_;refine uAe (uAb ?_);refine uAa rfl rfl rfl (uAm rfl gU rfl rfl rfl rfl rfl) ?_;refine uAx rfl rfl rfl rfl rfl rfl gU gU (ih p hp hn) rfl ?_;refine uAa rfl rfl rfl (uAd rfl gU) ?_;refine uAa rfl rfl rfl (uAr rfl gU rfl) ?_;refine uAa rfl rfl rfl (uAr rfl gU rfl) ?_;refine uAt rfl (uAL rfl rfl rfl) ?_;refine uAt rfl (uAy rfl rfl rfl rfl rfl rfl rfl) ?_;refine uAt rfl (uAy rfl rfl rfl rfl rfl rfl rfl) ?_;refine uAf ?_;refine uAl (s:=⟨[(1,_,_),(3,_,_),(4,_,_)],[(.l 1,_),(.l 3,_),(.l 4,_)],[],[]⟩) (uAi (⟨sx rfl,sx rfl,sx rfl,trivial⟩) (⟨sx rfl,sx rfl,sx rfl,trivial⟩) trivial) ?_;refine uAe (uAb ?_);refine uAa rfl rfl rfl (uAm rfl gU rfl rfl rfl rfl rfl) ?_;refine uAT (xs:=[_]) rfl rfl rfl rfl rfl rfl rfl rfl rfl gU rfl ?_;refine uAt rfl (uAV (.inr rfl) rfl rfl rfl) ?_;refine uAf ?_;refine uAe ?_;refine uAw ?_;refine uAW (ι:=PS × List T × T) { t:=[(1,_,_),(3,_,_),(4,_,_)],bx:=[(.l 3,_)],ow:=[(.t 5,_)] } (fun q=>[(5,true,xl q.2.1)]) (fun q=>[((.l 4),q.2.2.cells),((.l 1),pbx l q.1)]) (fun q=>p.at'≤q.1.at'∧q.1.at'≤l.length∧q.2.1.length≤q.1.at' + 1 ∧ ∃ k,l.length + 1≤k + q.1.at'∧uBK l (uAY l n) k q.1 q.2.1=uA5 l (uAY l n) p) (fun q=>l.length - q.1.at') (((uAY l n p).2,[(uAY l n p).1],(uAY l n p).1)) (⟨h0.1,h0.2 hp,by simp,_,by dsimp only; omega,rfl⟩) (uAi (⟨⟨_,rfl,by exact tx (uHY [] (uAY l n p).1)⟩,⟨sx rfl,sx rfl,sx rfl,trivial⟩⟩) (⟨sx rfl,sx rfl,sx rfl,trivial⟩) (⟨rfl,trivial⟩)) ?_
 intro q hok
 dsimp only [List.cons_append,List.nil_append] at *
 obtain ⟨q,out,x⟩:=q
 dsimp only at hok ⊢
 obtain ⟨hq0,hq,ho,k,hk,hi⟩:=hok
 have hro:=T.rows_len out
 refine uAe ?_;refine uAe (uAb ?_);refine uAa rfl rfl rfl (uAm rfl gU rfl rfl rfl rfl rfl) ?_;refine uAx rfl rfl rfl rfl rfl rfl gU gU (uCg _ _ _ (by omega) (by omega)) rfl ?_;refine uAf ?_;refine uAn rfl (fun hc=>?_) (fun hc=>?_)
 ·try simp only [nn,uAh,T.rows_len,Tk.rows_len] at hc
  have hlt:=(uB1 hc).1
  have hs : uAP l [44] q=q.go:=by rw [uAP,if_pos hc]
  have hg : q.go.at'=q.at' + 1:=rfl
  have h1:=hf q.go
  obtain ⟨k,rfl⟩ : ∃ j,k=j + 1:=⟨k - 1,by omega⟩
  rw [uI5 hc] at hi
  have hsy:=uAU l q [44] (by omega) (by omega)
  rw [hs] at hsy
  refine uAp ?_;refine uAw ?_;refine uAe (uAb ?_);refine uAa rfl rfl rfl (uAm rfl gU rfl rfl rfl rfl rfl) ?_;refine uAx rfl rfl rfl rfl rfl rfl gU gU (hsy) rfl ?_;refine uAx rfl rfl rfl rfl rfl rfl gU gU (ih q.go (by omega) (by omega)) rfl ?_;refine uAa rfl rfl rfl (uAd rfl gU) ?_;refine uAa rfl rfl rfl (uAr rfl gU rfl) ?_;refine uAa rfl rfl rfl (uAr rfl gU rfl) ?_;refine uAt rfl (uAy rfl rfl rfl rfl rfl rfl rfl) ?_;refine uAt rfl (uAy rfl rfl rfl rfl rfl rfl rfl) ?_;refine uAf ?_;refine uAl (s:=⟨[(1,_,_),(3,_,_),(4,_,_),(5,_,_)],[(.l 1,_),(.l 3,_),(.l 4,_)],[(.t 5,_)],[]⟩) (uAi (⟨sx rfl,sx rfl,sx rfl,sx rfl,trivial⟩) (⟨sx rfl,sx rfl,sx rfl,trivial⟩) (⟨rfl,trivial⟩)) ?_;refine uAb ?_;refine uAt rfl (uAV (.inl rfl) rfl rfl rfl) ?_;refine uAa rfl rfl rfl (uAm rfl gU rfl rfl rfl rfl rfl) ?_;refine uAT (xs:=[_]) rfl rfl rfl rfl rfl rfl rfl rfl rfl gU rfl ?_;refine uAt rfl (uA0 rfl rfl rfl rfl rfl rfl rfl (by first | omega | (simp only [List.length_append,List.length_singleton,T.rows_len]; omega)) (by first | omega | (simp only [List.length_append,List.length_singleton,T.rows_len]; omega))) ?_;refine uAt rfl (uAV (.inr rfl) rfl rfl rfl) ?_;refine uAf ?_;refine ⟨((uAY l n q.go).2,out++[(uAY l n q.go).1],(uAY l n q.go).1),?_,?_,uAi (⟨⟨_,rfl,?_⟩,⟨sx rfl,sx rfl,sx rfl,trivial⟩⟩) (⟨⟨_,rfl,?_⟩,⟨⟨_,rfl,?_⟩,⟨sx rfl,trivial⟩⟩⟩) (⟨rfl,trivial⟩)⟩
  ·exact ⟨by dsimp only; omega,h1.2 (by omega),by simp only [List.length_append,List.length_singleton]; omega,k,by dsimp only; omega,hi⟩
  ·dsimp only; omega
  all_goals first
   | rfl
   | exact tx (uHY out (uAY l n q.go).1)
 ·try simp only [nn,uAh,T.rows_len,Tk.rows_len] at hc
  rw [uEV hc] at hi
  refine uAO ?_
  repeat (first | refine uAF ?_ | refine uAG ?_ | refine uAC rfl ?_)
  refine uAe ?_;refine awp_drawn' (by kernel_rfl) ?_;refine uDu rfl (.inl rfl) rfl rfl rfl rfl rfl ?_;refine uAD rfl rfl rfl rfl rfl rfl rfl gU rfl rfl rfl rfl rfl ?_;refine uDu rfl (.inr rfl) rfl rfl rfl rfl rfl ?_;refine uAR rfl rfl rfl rfl rfl rfl rfl rfl rfl rfl rfl rfl ?_;refine uA1 (by kernel_rfl) ?_;refine uAo ?_
  repeat (first | refine tR ?_ | refine bR ?_)
  refine uAs rfl ?_ trivial
  (rw [← hi]; rfl)
theorem uCV (l : List Tk) (n : Nat) : Fwd l (uAY l n):=fun p=>by rw [(uE7 l n p).1]; exact uEk l n p
theorem uHQ (l : List Tk) (n : Nat) (p : PS) : (uA5 l (uAY l n) p).1.length + p.at'≤1 + (uA5 l (uAY l n) p).2.at':=uEt (uCV l n) p
theorem uMM {l : List Tk} {n : Nat} {p : PS} (h : symQ l p [60]=true) (hb : (uAP l [62] (uA5 l (uAY l n) (uAP l [44] (uAY l n p.go).2)).2).bad=true) : uAY l (n + 1) p=(T0,uAP l [62] (uA5 l (uAY l n) (uAP l [44] (uAY l n p.go).2)).2):=by
 rw [uAY,if_pos h,if_pos hb]
theorem uMx {l : List Tk} {n : Nat} {p : PS} (h : symQ l p [60]=true) (hb : (uAP l [62] (uA5 l (uAY l n) (uAP l [44] (uAY l n p.go).2)).2).bad=false) :
  uAY l (n + 1) p=(tupT ((uAY l n p.go).1 :: (uA5 l (uAY l n) (uAP l [44] (uAY l n p.go).2)).1),uAP l [62] (uA5 l (uAY l n) (uAP l [44] (uAY l n p.go).2)).2):=by
 rw [uAY,if_pos h,if_neg (by rw [hb]; simp)]
theorem uNN {l : List Tk} {n : Nat} {p : PS} (h : symQ l p [60]=false) (h2 : symQ l (uAv l [] p).2 [40]=false) : uAY l (n + 1) p=(⟨2,(uAv l [] p).1,0,[]⟩,(uAv l [] p).2):=by
 rw [uAY,if_neg (by rw [h]; simp),if_neg (by rw [h2]; simp)]
theorem uNJ {l : List Tk} {n : Nat} {p : PS} (h : symQ l p [60]=false) (h2 : symQ l (uAv l [] p).2 [40]=true) (h3 : symQ l (uAv l [] p).2.go [41]=true) : uAY l (n + 1) p=(⟨3,(uAv l [] p).1,0,[]⟩,(uAv l [] p).2.go.go):=by
 rw [uAY,if_neg (by rw [h]; simp),if_pos h2,if_pos h3]
theorem uNy {l : List Tk} {n : Nat} {p : PS} (h : symQ l p [60]=false) (h2 : symQ l (uAv l [] p).2 [40]=true) (h3 : symQ l (uAv l [] p).2.go [41]=false) :
  uAY l (n + 1) p=(⟨3,(uAv l [] p).1,0,(uA5 l (uAY l n) (uAv l [] p).2.go).1⟩,uAP l [41] (uA5 l (uAY l n) (uAv l [] p).2.go).2):=by
 rw [uAY,if_neg (by rw [h]; simp),if_pos h2,if_neg (by rw [h3]; simp)]
set_option maxHeartbeats 4000000 in
theorem uDG (l : List Tk) (hl : l.length≤2000000) : ∀ (n : Nat) (p : PS),p.at'≤l.length→l.length - p.at' < n→Ctr sys 153 [xr l p] [] (.tup [.agg (uAY l n p).1.cells, .agg (pbx l (uAY l n p).2)]) none []:=by
 intro n
 induction n with
 | zero=>intro p _ h; omega
 | succ n ih =>
  intro p hp hn
  have hrl:=Tk.rows_len l
  have hg : ∀ q : PS,q.go.at'=q.at' + 1:=fun _=>rfl
  have hml : ∀ q : PS,(T.rows (uA5 l (uAY l n) q).1).length=(uA5 l (uAY l n) q).1.length:=fun q=>T.rows_len _
  refine uAA Tryz.func153 rfl rfl rfl rfl rfl rfl ?_;refine uAe (uAb ?_);refine uAt rfl (uAI rfl rfl rfl rfl) ?_;refine uAt rfl (uAL rfl rfl rfl) ?_;refine uAt rfl (uAL rfl rfl rfl) ?_;refine uAf ?_;refine uAe ?_;refine uAe (uAb ?_);refine uAa rfl rfl rfl (uAm rfl gU rfl rfl rfl rfl rfl) ?_;refine uAx rfl rfl rfl rfl rfl rfl gU gU (uCg _ _ _ (by omega) (by omega)) rfl ?_;refine uAf ?_;refine uAl (s:=⟨[(1,_,_),(2,_,_),(3,_,_),(10,_,_)],[(.l 1,_),(.l 2,_),(.l 3,_)],[],[]⟩) (uAi (⟨sx rfl,sx rfl,sx rfl,sx rfl,trivial⟩) (⟨sx rfl,sx rfl,sx rfl,trivial⟩) trivial) ?_;refine uAn rfl (fun hc=>?_) (fun hc=>?_)
  ·try simp only [nn,uAh,T.rows_len,Tk.rows_len] at hc
   have hlt:=(uB1 hc).1
   have hs : uAP l [60] p=p.go:=by rw [uAP,if_pos hc]
   have hgp:=hg p
   have a1:=uCV l n p.go
   have a2:=uBr l [44] (uAY l n p.go).2
   have a3:=uCz (uCV l n) (uAP l [44] (uAY l n p.go).2)
   have a4:=uBr l [62] (uA5 l (uAY l n) (uAP l [44] (uAY l n p.go).2)).2
   have a5:=uHQ l n (uAP l [44] (uAY l n p.go).2)
   have a6:=hml (uAP l [44] (uAY l n p.go).2)
   have hsy:=uAU l p [60] (by omega) (by omega)
   rw [hs] at hsy
   refine uAe (uAb ?_);refine uAa rfl rfl rfl (uAm rfl gU rfl rfl rfl rfl rfl) ?_;refine uAx rfl rfl rfl rfl rfl rfl gU gU (hsy) rfl ?_;refine uAx rfl rfl rfl rfl rfl rfl gU gU (ih p.go (by omega) (by omega)) rfl ?_;refine uAa rfl rfl rfl (uAd rfl gU) ?_;refine uAa rfl rfl rfl (uAr rfl gU rfl) ?_;refine uAa rfl rfl rfl (uAr rfl gU rfl) ?_;refine uAt rfl (uAL rfl rfl rfl) ?_;refine uAt rfl (uAL rfl rfl rfl) ?_;refine uAt rfl (uAy rfl rfl rfl rfl rfl rfl rfl) ?_;refine uAt rfl (uAy rfl rfl rfl rfl rfl rfl rfl) ?_;refine uAf ?_;refine uAl (s:=⟨[(2,_,_),(3,_,_),(4,_,_),(5,_,_)],[(.l 2,_),(.l 3,_),(.l 4,_),(.l 5,_)],[],[]⟩) (uAi (⟨sx rfl,sx rfl,sx rfl,sx rfl,trivial⟩) (⟨sx rfl,sx rfl,sx rfl,sx rfl,trivial⟩) trivial) ?_;refine uAe (uAb ?_);refine uAa rfl rfl rfl (uAm rfl gU rfl rfl rfl rfl rfl) ?_;refine uAx rfl rfl rfl rfl rfl rfl gU gU (uAU l (uAY l n p.go).2 [44] (by omega) (by omega)) rfl ?_;refine uAx rfl rfl rfl rfl rfl rfl gU gU (uEq l n hl ih (uCV l n) (uAP l [44] (uAY l n p.go).2) (by omega) (by omega)) rfl ?_;refine uAa rfl rfl rfl (uAd rfl gU) ?_;refine uAa rfl rfl rfl (uAr rfl gU rfl) ?_;refine uAa rfl rfl rfl (uAr rfl gU rfl) ?_;refine uAa rfl rfl rfl (uAc rfl gU) ?_;refine uAt rfl (uAy rfl rfl rfl rfl rfl rfl rfl) ?_
   refine uAf ?_;refine uAl (s:=⟨[(2,_,_),(3,_,_),(4,_,_),(5,_,_),(6,_,_)],[(.l 2,_),(.l 3,_),(.l 4,_),(.l 5,_)],[],[]⟩) (uAi (⟨sx rfl,sx rfl,sx rfl,sx rfl,sx rfl,trivial⟩) (⟨sx rfl,sx rfl,sx rfl,sx rfl,trivial⟩) trivial) ?_;refine uAe (uAb ?_);refine uAa rfl rfl rfl (uAm rfl gU rfl rfl rfl rfl rfl) ?_;refine uAx rfl rfl rfl rfl rfl rfl gU gU (uAU l (uA5 l (uAY l n) (uAP l [44] (uAY l n p.go).2)).2 [62] (by omega) (by omega)) rfl ?_;refine uAt rfl (uAy rfl rfl rfl rfl rfl rfl rfl) ?_;refine uAf ?_;refine uAe ?_;refine uAe (uAb ?_);refine uAa rfl rfl rfl (uAg rfl gU rfl rfl) ?_;refine uAa rfl rfl rfl (uAj rfl gU rfl rfl rfl rfl) ?_;refine uAf ?_;refine uAn rfl (fun hc2=>?_) (fun hc2=>?_)
   ·try simp only [nn,uAh,T.rows_len,Tk.rows_len] at hc2
    rw [uMM hc hc2]
    refine uAe ?_;refine awp_drawn' (by kernel_rfl) ?_;refine uAq rfl rfl rfl rfl (uBf rfl Tryz.underlying47 rfl gU) ?_;refine uAD rfl rfl rfl rfl rfl rfl rfl gU rfl rfl rfl rfl rfl ?_;refine uAR rfl rfl rfl rfl rfl rfl rfl rfl rfl rfl rfl rfl ?_;refine uAR rfl rfl rfl rfl rfl rfl rfl rfl rfl rfl rfl rfl ?_;refine uA1 (by kernel_rfl) ?_;refine uAo ?_
    repeat (first | refine tR ?_ | refine bR ?_)
    refine uAs rfl ?_ trivial
    rfl
   ·try simp only [nn,uAh,T.rows_len,Tk.rows_len] at hc2
    rw [uMx hc hc2]
    refine uAp ?_;refine uAe ?_;refine awp_drawn' (by kernel_rfl) ?_;refine uAD rfl rfl rfl rfl rfl rfl rfl gU rfl rfl rfl rfl rfl ?_;refine uEc (xs:=[_]) rfl rfl rfl rfl rfl rfl rfl rfl rfl rfl gU rfl ?_;refine uAq rfl rfl rfl rfl (uAd rfl gU) ?_;refine uFH rfl rfl rfl rfl rfl rfl rfl rfl rfl rfl rfl (by first | omega | (simp only [List.length_append,List.length_singleton,T.rows_len]; omega)) (by first | omega | (simp only [List.length_append,List.length_singleton,T.rows_len]; omega)) ?_;refine uAS rfl rfl rfl rfl rfl rfl rfl gU gU (uJd ((uAY l n p.go).1 :: (uA5 l (uAY l n) (uAP l [44] (uAY l n p.go).2)).1) _ (by rw [T.rows_eq,T.rows_eq]; rfl) (by simp only [List.length_cons]; omega) (by simp)) rfl ?_;refine uAD rfl rfl rfl rfl rfl rfl rfl gU rfl rfl rfl rfl rfl ?_;refine uAR rfl rfl rfl rfl rfl rfl rfl rfl rfl rfl rfl rfl ?_;refine uAR rfl rfl rfl rfl rfl rfl rfl rfl rfl rfl rfl rfl ?_;refine uA1 (by kernel_rfl) ?_;refine uAo ?_
    repeat (first | refine tR ?_ | refine bR ?_)
    refine uAs rfl ?_ trivial
    rfl
  ·try simp only [nn,uAh,T.rows_len,Tk.rows_len] at hc
   have a1:=uA4 l [] p
   refine uAp ?_;refine uAe (uAb ?_);refine uAa rfl rfl rfl (uAm rfl gU rfl rfl rfl rfl rfl) ?_;refine uAx rfl rfl rfl rfl rfl rfl gU gU (uBx l p (by omega) (by omega)) rfl ?_;refine uAa rfl rfl rfl (uAd rfl gU) ?_;refine uAa rfl rfl rfl (uAr rfl gU rfl) ?_;refine uAa rfl rfl rfl (uAr rfl gU rfl) ?_;refine uAa rfl rfl rfl (uAc rfl gU) ?_;refine uAt rfl (uAy rfl rfl rfl rfl rfl rfl rfl) ?_;refine uAf ?_;refine uAl (s:=⟨[(1,_,_),(2,_,_),(3,_,_),(7,_,_)],[(.l 1,_),(.l 2,_),(.l 3,_)],[],[]⟩) (uAi (⟨sx rfl,sx rfl,sx rfl,sx rfl,trivial⟩) (⟨sx rfl,sx rfl,sx rfl,trivial⟩) trivial) ?_;refine uAe ?_;refine uAe (uAb ?_);refine uAa rfl rfl rfl (uAg rfl gU rfl rfl) ?_;refine uAa rfl rfl rfl (uAj rfl gU rfl rfl rfl rfl) ?_;refine uAa rfl rfl rfl (uAd rfl gU) ?_;refine uAa rfl rfl rfl (uAm rfl gU rfl rfl rfl rfl rfl) ?_;refine uAx rfl rfl rfl rfl rfl rfl gU (fun hh=>gA ((fun hh=>hh) hh) (gA rfl (rfl))) (uCg _ _ _ (by omega) (by omega)) rfl ?_;refine uAa rfl rfl rfl (uAZ rfl (fun hh=>hh)) ?_;refine uAa rfl rfl rfl (uAM rfl rfl gU (fun _ hi=>gP rfl hi)) ?_;refine uAf ?_;refine uAl (s:=⟨[(1,_,_),(2,_,_),(3,_,_),(7,_,_),(46,_,_)],[(.l 1,_),(.l 2,_),(.l 3,_)],[],[]⟩) (uAi (⟨sx rfl,sx rfl,sx rfl,sx rfl,sx rfl,trivial⟩) (⟨sx rfl,sx rfl,sx rfl,trivial⟩) trivial) ?_
   refine uAn rfl (fun hc2=>?_) (fun hc2=>?_)
   ·try simp only [nn,uAh,T.rows_len,Tk.rows_len] at hc2
    have h2 : symQ l (uAv l [] p).2 [40]=false:=by
     rcases hc2 with q | q
     ·exact uCu q
     ·exact q
    rw [uNN hc h2]
    refine uAe ?_;refine awp_drawn' (by kernel_rfl) ?_;refine uAq rfl rfl rfl rfl (uAd rfl gU) ?_;refine uAS rfl rfl rfl rfl rfl rfl rfl gU gU (uLU _ _) rfl ?_;refine uAD rfl rfl rfl rfl rfl rfl rfl gU rfl rfl rfl rfl rfl ?_;refine uAR rfl rfl rfl rfl rfl rfl rfl rfl rfl rfl rfl rfl ?_;refine uAR rfl rfl rfl rfl rfl rfl rfl rfl rfl rfl rfl rfl ?_;refine uA1 (by kernel_rfl) ?_;refine uAo ?_
    repeat (first | refine tR ?_ | refine bR ?_)
    refine uAs rfl ?_ trivial
    rfl
   ·try simp only [nn,uAh,T.rows_len,Tk.rows_len] at hc2
    have h2:=hc2.2
    have hlt:=(uB1 h2).1
    have hg2:=hg (uAv l [] p).2
    have hs2 : uAP l [40] (uAv l [] p).2=(uAv l [] p).2.go:=by rw [uAP,if_pos h2]
    have hsy:=uAU l (uAv l [] p).2 [40] (by omega) (by omega)
    rw [hs2] at hsy
    refine uAp ?_;refine uAe (uAb ?_);refine uAa rfl rfl rfl (uAm rfl gU rfl rfl rfl rfl rfl) ?_;refine uAx rfl rfl rfl rfl rfl rfl gU gU (hsy) rfl ?_;refine uAt rfl (uAy rfl rfl rfl rfl rfl rfl rfl) ?_;refine uAf ?_;refine uAe ?_;refine uAe (uAb ?_);refine uAa rfl rfl rfl (uAm rfl gU rfl rfl rfl rfl rfl) ?_;refine uAx rfl rfl rfl rfl rfl rfl gU gU (uCg _ _ _ (by omega) (by omega)) rfl ?_;refine uAf ?_;refine uAn rfl (fun hc3=>?_) (fun hc3=>?_)
    ·try simp only [nn,uAh,T.rows_len,Tk.rows_len] at hc3
     have hlt3:=(uB1 hc3).1
     rw [uNJ hc h2 hc3]
     have hs3 : uAP l [41] (uAv l [] p).2.go=(uAv l [] p).2.go.go:=by rw [uAP,if_pos hc3]
     have hsy3:=uAU l (uAv l [] p).2.go [41] (by omega) (by omega)
     rw [hs3] at hsy3
     refine uAe ?_;refine awp_drawn' (by kernel_rfl) ?_;refine uAq rfl rfl rfl rfl (uAd rfl gU) ?_;refine uAS rfl rfl rfl rfl rfl rfl rfl gU gU (uFI _ _ [] rfl (by simp)) rfl ?_;refine uAD rfl rfl rfl rfl rfl rfl rfl gU rfl rfl rfl rfl rfl ?_;refine uAS rfl rfl rfl rfl rfl rfl rfl gU gU (hsy3) rfl ?_;refine uAR rfl rfl rfl rfl rfl rfl rfl rfl rfl rfl rfl rfl ?_;refine uAR rfl rfl rfl rfl rfl rfl rfl rfl rfl rfl rfl rfl ?_;refine uA1 (by kernel_rfl) ?_;refine uAo ?_
     repeat (first | refine tR ?_ | refine bR ?_)
     refine uAs rfl ?_ trivial
     rfl
    ·try simp only [nn,uAh,T.rows_len,Tk.rows_len] at hc3
     rw [uNy hc h2 hc3]
     have a3:=uCz (uCV l n) (uAv l [] p).2.go
     have a5:=uHQ l n (uAv l [] p).2.go
     refine uAp ?_;refine uAe (uAb ?_);refine uAa rfl rfl rfl (uAm rfl gU rfl rfl rfl rfl rfl) ?_;refine uAx rfl rfl rfl rfl rfl rfl gU gU (uEq l n hl ih (uCV l n) (uAv l [] p).2.go (by omega) (by omega)) rfl ?_;refine uAa rfl rfl rfl (uAd rfl gU) ?_;refine uAa rfl rfl rfl (uAr rfl gU rfl) ?_;refine uAa rfl rfl rfl (uAr rfl gU rfl) ?_;refine uAa rfl rfl rfl (uAc rfl gU) ?_;refine uAt rfl (uAy rfl rfl rfl rfl rfl rfl rfl) ?_;refine uAf ?_;refine uAl (s:=⟨[(1,_,_),(2,_,_),(3,_,_),(7,_,_),(8,_,_)],[(.l 1,_),(.l 2,_),(.l 3,_)],[],[]⟩) (uAi (⟨sx rfl,sx rfl,sx rfl,sx rfl,sx rfl,trivial⟩) (⟨sx rfl,sx rfl,sx rfl,trivial⟩) trivial) ?_;refine uAe ?_;refine awp_drawn' (by kernel_rfl) ?_;refine uAq rfl rfl rfl rfl (uAd rfl gU) ?_;refine uAq rfl rfl rfl rfl (uAd rfl gU) ?_;refine uAS rfl rfl rfl rfl rfl rfl rfl gU gU (uFI _ _ (uA5 l (uAY l n) (uAv l [] p).2.go).1 rfl (by omega)) rfl ?_;refine uAD rfl rfl rfl rfl rfl rfl rfl gU rfl rfl rfl rfl rfl ?_;refine uAS rfl rfl rfl rfl rfl rfl rfl gU gU (uAU l (uA5 l (uAY l n) (uAv l [] p).2.go).2 [41] (by omega) (by omega)) rfl ?_;refine uAR rfl rfl rfl rfl rfl rfl rfl rfl rfl rfl rfl rfl ?_;refine uAR rfl rfl rfl rfl rfl rfl rfl rfl rfl rfl rfl rfl ?_;refine uA1 (by kernel_rfl) ?_;refine uAo ?_
     repeat (first | refine tR ?_ | refine bR ?_)
     refine uAs rfl ?_ trivial
     rfl
end Go.Proofs.YteidahabkfgfjaaGreat
namespace Go.Proofs.YteidahabkfgfjaaGreat
open Go Go.Abs
def soC (n : Nar) (u1 u2 u3 u4 u5 : Value) : List C:=[.s n.name, .so u1 1 (strR n.roles), .so u2 3 (Fs.rows n.fresh), .so u3 1 (strR n.tags), .so u4 7 (Sp.rows n.steps), .so u5 5 (Gl.rows n.goals)]
abbrev narC (a : List UInt8) (r1 r2 r3 r4 r5 : List (List C)) : List C:=[.s a, .sl 1 r1, .sl 3 r2, .sl 1 r3, .sl 7 r4, .sl 5 r5]
abbrev uNa (a : List UInt8) (r1 r2 r3 r4 r5 : List (List C)) (u1 u2 u3 u4 u5 : Value) : List C:=[.s a, .so u1 1 r1, .so u2 3 r2, .so u3 1 r3, .so u4 7 r4, .so u5 5 r5]
theorem uNK {st st' : St} {n : Nm} {cs : List C} (hb : st'.box n=some cs) (hbx : ∀ m,m≠n→st'.box m=st.box m) (ht : st'.t=st.t) (ho : st'.ow=st.ow) (hm : st'.mp=st.mp) : Sub { st with bx:=(n,cs) :: st.bx } st' where
 t:=fun k e h=>by
  show getT st'.t k=some e
  rw [ht]; exact h
 bx:=fun m ds h=>by
  have h2 : getB ((n,cs) :: st.bx) m=some ds:=h
  rw [uBi] at h2
  split at h2
  ·rename_i he; subst he; rw [hb]; exact h2
  ·rename_i he; rw [hbx m fun q=>he q.symm]; exact h2
 ow:=fun p sz h=>by
  show getO st'.ow p=some sz
  rw [ho]; exact h
 mp:=.inr hm.symm
theorem uCN (st : St) (n : Nm) (cs : List C) (m : Nm) : ({ st with bx:=(n,cs) :: st.bx } : St).box m=if n=m then some cs else st.box m:=uBi _ _ _ _
theorem uBb {N : Nat} {c : Code} {Q : Exit→St→Prop} {st : St} (n : Nm) {a : List UInt8} {r1 r2 r3 r4 r5 : List (List C)} (hb : st.box n=some (narC a r1 r2 r3 r4 r5))
  (h : ∀ u1 u2 u3 u4 u5,AWP sysO N c Q { st with bx:=(n,uNa a r1 r2 r3 r4 r5 u1 u2 u3 u4 u5) :: st.bx }) : AWP sysO N c Q st:=by
 refine uEo n 1 hb rfl fun u1=>?_
 refine uEo n 2 ((uCN _ _ _ _).trans (if_pos rfl)) rfl fun u2=>?_
 refine uEo n 3 ((uCN _ _ _ _).trans (if_pos rfl)) rfl fun u3=>?_
 refine uEo n 4 ((uCN _ _ _ _).trans (if_pos rfl)) rfl fun u4=>?_
 refine uEo n 5 ((uCN _ _ _ _).trans (if_pos rfl)) rfl fun u5=>?_
 have hn : ∀ {m : Nm},m≠n → ¬n=m:=fun h q=>h q.symm
 exact uAl (uNK ((uCN _ _ _ _).trans (if_pos rfl)) (fun m hm=>(uCN _ _ _ _).trans ((if_neg (hn hm)).trans ((uCN _ _ _ _).trans ((if_neg (hn hm)).trans ((uCN _ _ _ _).trans ((if_neg (hn hm)).trans ((uCN _ _ _ _).trans ((if_neg (hn hm)).trans ((uCN _ _ _ _).trans (if_neg (hn hm)))))))))) ) rfl rfl rfl) (h u1 u2 u3 u4 u5)
theorem uMu (st : St) (n m : Nm) (k sz : Nat) (cs : List C) (x : Nm) : ((({ st with bx:=(n,cs) :: st.bx } : St).unown (.b m k)).addOwn (.b n k) sz).box x=if n=x then some cs else st.box x:=uBi _ _ _ _
theorem uM4 (st : St) (n m : Nm) (k sz : Nat) (cs : List C) (p : Pl) : ((({ st with bx:=(n,cs) :: st.bx } : St).unown (.b m k)).addOwn (.b n k) sz).own p=if .b n k=p then some sz else if p = .b m k then none else st.own p:=by
 rw [St.addOwn_own,St.unown_own]; rfl
def uMi (st : St) (m : Nm) : Bool:=decide (st.own (.b m 1)=some 1) && decide (st.own (.b m 2)=some 3) && decide (st.own (.b m 3)=some 1) && decide (st.own (.b m 4)=some 7) && decide (st.own (.b m 5)=some 5)
theorem uBh {N : Nat} {c : Code} {Q : Exit→St→Prop} {st : St} (n m : Nm) {a : List UInt8} {r1 r2 r3 r4 r5 : List (List C)} {u1 u2 u3 u4 u5 : Value} (hb : st.box n=some (uNa a r1 r2 r3 r4 r5 u1 u2 u3 u4 u5)) (hbm : st.box m=some (uNa a r1 r2 r3 r4 r5 u1 u2 u3 u4 u5))
  (ho : uMi st m=true) (hnb : n.isBd=false) (hne : Nm.beq m n=false)
  (h : AWP sysO N c Q { st with bx:=(n,narC a r1 r2 r3 r4 r5) :: st.bx,ow:=(.b n 1,1) :: (.b n 2,3) :: (.b n 3,1) :: (.b n 4,7) :: (.b n 5,5) :: st.ow.filter fun q=>!Pl.inBox m q.1 }) : AWP sysO N c Q st:=by
 have hmn : ¬n=m:=fun q=>by subst q; rw [Nm.beq_self] at hne; cases hne
 simp only [uMi,Bool.and_eq_true,decide_eq_true_eq] at ho
 obtain ⟨⟨⟨⟨o1,o2⟩,o3⟩,o4⟩,o5⟩:=ho
 have hpb : ∀ i j,Pl.beq (.b m i) (.b n j)=false:=fun i j=>by simp [Pl.beq,hne]
 have bn : ∀ (s : St) (k sz : Nat) (cs : List C),((({ s with bx:=(n,cs) :: s.bx } : St).unown (.b m k)).addOwn (.b n k) sz).box n=some cs:=fun s k sz cs=>(uMu s n m k sz cs n).trans (if_pos rfl)
 have bm : ∀ (s : St) (k sz : Nat) (cs : List C) {x : Nm},¬n=x→((({ s with bx:=(n,cs) :: s.bx } : St).unown (.b m k)).addOwn (.b n k) sz).box x=s.box x:=fun s k sz cs x hx=>(uMu s n m k sz cs x).trans (if_neg hx)
 have ow : ∀ (s : St) (k sz : Nat) (cs : List C) {p : Pl},¬Pl.b n k=p → ¬p=Pl.b m k→((({ s with bx:=(n,cs) :: s.bx } : St).unown (.b m k)).addOwn (.b n k) sz).own p=s.own p:=fun s k sz cs p h1 h2=>(uM4 s n m k sz cs p).trans ((if_neg h1).trans (if_neg h2))
 have os : ∀ (s : St) (k sz : Nat) (cs : List C),((({ s with bx:=(n,cs) :: s.bx } : St).unown (.b m k)).addOwn (.b n k) sz).own (.b n k)=some sz:=fun s k sz cs=>(uM4 s n m k sz cs _).trans (if_pos rfl)
 have dn : ∀ {i j : Nat} {x y : Nm},i≠j → ¬Pl.b x i=Pl.b y j:=fun h q=>by simp at q; exact h q.2
 have hnm : ∀ {i j : Nat},¬Pl.b n i=Pl.b m j:=fun q=>by simp at q; exact hmn q.1
 refine uEg n 1 m 1 hb rfl hbm rfl o1 hnb (hpb _ _) ?_;refine uEg n 2 m 2 (bn _ _ _ _) rfl ((bm _ _ _ _ hmn).trans hbm) rfl ((ow _ _ _ _ (dn (by decide)) (dn (by decide))).trans o2) hnb (hpb _ _) ?_;refine uEg n 3 m 3 (bn _ _ _ _) rfl ((bm _ _ _ _ hmn).trans ((bm _ _ _ _ hmn).trans hbm)) rfl ((ow _ _ _ _ (dn (by decide)) (dn (by decide))).trans ((ow _ _ _ _ (dn (by decide)) (dn (by decide))).trans o3)) hnb (hpb _ _) ?_;refine uEg n 4 m 4 (bn _ _ _ _) rfl ((bm _ _ _ _ hmn).trans ((bm _ _ _ _ hmn).trans ((bm _ _ _ _ hmn).trans hbm))) rfl
  ((ow _ _ _ _ (dn (by decide)) (dn (by decide))).trans ((ow _ _ _ _ (dn (by decide)) (dn (by decide))).trans ((ow _ _ _ _ (dn (by decide)) (dn (by decide))).trans o4))) hnb (hpb _ _) ?_
 refine uEg n 5 m 5 (bn _ _ _ _) rfl ((bm _ _ _ _ hmn).trans ((bm _ _ _ _ hmn).trans ((bm _ _ _ _ hmn).trans ((bm _ _ _ _ hmn).trans hbm)))) rfl
  ((ow _ _ _ _ (dn (by decide)) (dn (by decide))).trans ((ow _ _ _ _ (dn (by decide)) (dn (by decide))).trans ((ow _ _ _ _ (dn (by decide)) (dn (by decide))).trans ((ow _ _ _ _ (dn (by decide)) (dn (by decide))).trans o5)))) hnb (hpb _ _) ?_
 refine uAl ?_ h;refine ⟨fun k e q=>q,fun x cs q=>?_,fun p sz q=>?_, .inr rfl⟩
 ·have q2 : getB ((n,narC a r1 r2 r3 r4 r5) :: st.bx) x=some cs:=q
  clear q
  rw [uBi] at q2
  split at q2
  ·rename_i he; subst he; exact (bn _ _ _ _).trans q2
  ·rename_i he
   have q:=q2
   exact (bm _ _ _ _ he).trans ((bm _ _ _ _ he).trans ((bm _ _ _ _ he).trans ((bm _ _ _ _ he).trans ((bm _ _ _ _ he).trans q))))
 ·have q3 : getO ((Pl.b n 1,1) :: (.b n 2,3) :: (.b n 3,1) :: (.b n 4,7) :: (.b n 5,5) :: st.ow.filter fun q=>!Pl.inBox m q.1) p=some sz:=q
  clear q
  have q:=q3
  clear q3
  simp only [uBN] at q
  split at q
  ·rename_i he; subst he
   exact (ow _ _ _ _ (dn (by decide)) hnm).trans ((ow _ _ _ _ (dn (by decide)) hnm).trans ((ow _ _ _ _ (dn (by decide)) hnm).trans ((ow _ _ _ _ (dn (by decide)) hnm).trans ((os _ _ _ _).trans q))))
  rename_i p1
  split at q
  ·rename_i he; subst he
   exact (ow _ _ _ _ (dn (by decide)) hnm).trans ((ow _ _ _ _ (dn (by decide)) hnm).trans ((ow _ _ _ _ (dn (by decide)) hnm).trans ((os _ _ _ _).trans q)))
  rename_i p2
  split at q
  ·rename_i he; subst he
   exact (ow _ _ _ _ (dn (by decide)) hnm).trans ((ow _ _ _ _ (dn (by decide)) hnm).trans ((os _ _ _ _).trans q))
  rename_i p3
  split at q
  ·rename_i he; subst he
   exact (ow _ _ _ _ (dn (by decide)) hnm).trans ((os _ _ _ _).trans q)
  rename_i p4
  split at q
  ·rename_i he; subst he
   exact (os _ _ _ _).trans q
  rename_i p5
  rw [uBJ (fun r=>!Pl.inBox m r)] at q
  split at q
  ·rename_i hin
   have hpm : ∀ {j : Nat},¬p=Pl.b m j:=fun e=>by subst e; simp [Pl.inBox,Nm.beq_self] at hin
   exact (ow _ _ _ _ p5 hpm).trans ((ow _ _ _ _ p4 hpm).trans ((ow _ _ _ _ p3 hpm).trans ((ow _ _ _ _ p2 hpm).trans ((ow _ _ _ _ p1 hpm).trans q))))
  ·cases q
def osR : OS:=[(0,1,1),(0,2,3),(0,3,1),(0,4,7),(0,5,5)]
abbrev xnr (l : List Tk) (r : Nar × PS) : X:=.tup [.agg r.1.cells, .agg (pbx l r.2)]
set_option maxHeartbeats 4000000 in
theorem uEI (l : List Tk) (p : PS) (n : Nar) (line : Int) (u1 u2 u3 u4 u5 : Value) (hl : l.length≤2000000) (hp : p.at'≤l.length) (hn : n.steps.length≤3000000) :
  CtrO sysO 134 [.v (.agg (soC n u1 u2 u3 u4 u5)),xr l p,xi line] [soC n u1 u2 u3 u4 u5] osR (xnr l ({ n with steps:=n.steps++[(uD3 l line p).1] },(uD3 l line p).2)) [soC n u1 u2 u3 u4 u5] .res:=by
 have hrs:=Sp.rows_len n.steps
 have hrl:=Tk.rows_len l
 refine uBY Tryz.func134 rfl rfl rfl rfl rfl rfl rfl ?_;refine uAe (uAb ?_);refine uAt rfl (uAI rfl rfl rfl rfl) ?_;refine uAt rfl (uAI rfl rfl rfl rfl) ?_;refine uAt rfl (uAL rfl rfl rfl) ?_;refine uAt rfl (uAL rfl rfl rfl) ?_;refine uAf ?_;refine uAl (s:=⟨[(2,_,_),(3,_,_),(4,_,_),(6,_,_),(7,_,_)],[(.l 3,_),(.l 4,_),(.l 6,_),(.l 7,_),(.o 0,_)],[(.b (.o 0) 1,_),(.b (.o 0) 2,_),(.b (.o 0) 3,_),(.b (.o 0) 4,_),(.b (.o 0) 5,_)],[]⟩) (uAi (⟨sx rfl,sx rfl,sx rfl,sx rfl,sx rfl,trivial⟩) (⟨sx rfl,sx rfl,sx rfl,sx rfl,sx rfl,trivial⟩) (⟨rfl,rfl,rfl,rfl,rfl,trivial⟩)) ?_;refine uBh (.l 3) (.o 0) rfl rfl rfl rfl rfl ?_;refine uAl (s:=⟨[(2,_,_),(3,_,_),(4,_,_),(6,_,_),(7,_,_)],[(.l 3,_),(.l 4,_),(.l 6,_),(.l 7,_),(.o 0,_)],[(.b (.l 3) 1,_),(.b (.l 3) 2,_),(.b (.l 3) 3,_),(.b (.l 3) 4,_),(.b (.l 3) 5,_)],[]⟩) (uAi (⟨sx rfl,sx rfl,sx rfl,sx rfl,sx rfl,trivial⟩) (⟨sx rfl,sx rfl,sx rfl,sx rfl,sx rfl,trivial⟩) (⟨rfl,rfl,rfl,rfl,rfl,trivial⟩)) ?_;refine uAe (uAb ?_);refine uAa rfl rfl rfl (uAd rfl gU) ?_;refine uAa rfl rfl rfl (uBf rfl Tryz.underlying49 rfl gU) ?_;refine uAt rfl (uAL rfl rfl rfl) ?_;refine uAt rfl (uAy rfl rfl rfl rfl rfl rfl rfl) ?_;refine uAf ?_
 refine uAe (uAb ?_);refine uAa rfl rfl rfl (uAm rfl gU rfl rfl rfl rfl rfl) ?_;refine uAx rfl rfl rfl rfl rfl rfl gU gU (up (uBx l _ (by omega) (le3 hl (by repeat (first | exact hp | refine uBV ?_ | refine uBB ?_))))) rfl ?_;refine uAa rfl rfl rfl (uAd rfl gU) ?_;refine uAa rfl rfl rfl (uAr rfl gU rfl) ?_;refine uAa rfl rfl rfl (uAr rfl gU rfl) ?_;refine uAa rfl rfl rfl (uAg rfl gU rfl rfl) ?_;refine uAt rfl (uAy rfl rfl rfl rfl rfl rfl rfl) ?_;refine uAt rfl (uAy rfl rfl rfl rfl rfl rfl rfl) ?_;refine uAf ?_;refine uAl (s:=⟨[(3,_,_),(4,_,_),(6,_,_),(7,_,_),(8,_,_)],[(.l 3,_),(.l 4,_),(.l 6,_),(.l 7,_),(.l 8,_),(.o 0,_)],[(.b (.l 3) 1,_),(.b (.l 3) 2,_),(.b (.l 3) 3,_),(.b (.l 3) 4,_),(.b (.l 3) 5,_)],[]⟩) (uAi (⟨sx rfl,sx rfl,sx rfl,sx rfl,sx rfl,trivial⟩) (⟨sx rfl,sx rfl,sx rfl,sx rfl,sx rfl,sx rfl,trivial⟩) (⟨rfl,rfl,rfl,rfl,rfl,trivial⟩)) ?_;refine uAe (uAb ?_);refine uAa rfl rfl rfl (uAm rfl gU rfl rfl rfl rfl rfl) ?_;refine uAx rfl rfl rfl rfl rfl rfl gU gU (up (uAU l _ _ (by omega) (le3 hl (by repeat (first | exact hp | refine uBV ?_ | refine uBB ?_))))) rfl ?_;refine uAx rfl rfl rfl rfl rfl rfl gU gU (up (uAU l _ _ (by omega) (le3 hl (by repeat (first | exact hp | refine uBV ?_ | refine uBB ?_))))) rfl ?_
 refine uAt rfl (uAy rfl rfl rfl rfl rfl rfl rfl) ?_;refine uAf ?_;refine uAe (uAb ?_);refine uAa rfl rfl rfl (uAm rfl gU rfl rfl rfl rfl rfl) ?_;refine uAx rfl rfl rfl rfl rfl rfl gU gU (up (uBx l _ (by omega) (le3 hl (by repeat (first | exact hp | refine uBV ?_ | refine uBB ?_))))) rfl ?_;refine uAa rfl rfl rfl (uAd rfl gU) ?_;refine uAa rfl rfl rfl (uAr rfl gU rfl) ?_;refine uAa rfl rfl rfl (uAr rfl gU rfl) ?_;refine uAa rfl rfl rfl (uAg rfl gU rfl rfl) ?_;refine uAt rfl (uAy rfl rfl rfl rfl rfl rfl rfl) ?_;refine uAt rfl (uAy rfl rfl rfl rfl rfl rfl rfl) ?_;refine uAf ?_;refine uAl (s:=⟨[(3,_,_),(4,_,_),(6,_,_),(7,_,_),(8,_,_)],[(.l 3,_),(.l 4,_),(.l 6,_),(.l 7,_),(.l 8,_),(.o 0,_)],[(.b (.l 3) 1,_),(.b (.l 3) 2,_),(.b (.l 3) 3,_),(.b (.l 3) 4,_),(.b (.l 3) 5,_)],[]⟩) (uAi (⟨sx rfl,sx rfl,sx rfl,sx rfl,sx rfl,trivial⟩) (⟨sx rfl,sx rfl,sx rfl,sx rfl,sx rfl,sx rfl,trivial⟩) (⟨rfl,rfl,rfl,rfl,rfl,trivial⟩)) ?_;refine uAe (uAb ?_);refine uAa rfl rfl rfl (uAm rfl gU rfl rfl rfl rfl rfl) ?_;refine uAx rfl rfl rfl rfl rfl rfl gU gU (up (uAU l _ _ (by omega) (le3 hl (by repeat (first | exact hp | refine uBV ?_ | refine uBB ?_))))) rfl ?_;refine uAx rfl rfl rfl rfl rfl rfl gU gU (up (uDG l (by omega) (l.length + 1) _ (by repeat (first | exact hp | refine uBV ?_ | refine uBB ?_)) (by omega))) rfl ?_
 refine uAa rfl rfl rfl (uAd rfl gU) ?_;refine uAa rfl rfl rfl (uAr rfl gU rfl) ?_;refine uAa rfl rfl rfl (uAr rfl gU rfl) ?_;refine uAa rfl rfl rfl (uAg rfl gU rfl rfl) ?_;refine uAt rfl (uAy rfl rfl rfl rfl rfl rfl rfl) ?_;refine uAt rfl (uAy rfl rfl rfl rfl rfl rfl rfl) ?_;refine uAf ?_;refine uAl (s:=⟨[(3,_,_),(4,_,_),(6,_,_),(7,_,_),(8,_,_)],[(.l 3,_),(.l 4,_),(.l 6,_),(.l 7,_),(.l 8,_),(.o 0,_)],[(.b (.l 3) 1,_),(.b (.l 3) 2,_),(.b (.l 3) 3,_),(.b (.l 3) 4,_),(.b (.l 3) 5,_)],[]⟩) (uAi (⟨sx rfl,sx rfl,sx rfl,sx rfl,sx rfl,trivial⟩) (⟨sx rfl,sx rfl,sx rfl,sx rfl,sx rfl,sx rfl,trivial⟩) (⟨rfl,rfl,rfl,rfl,rfl,trivial⟩)) ?_;refine uAe (uAb ?_);refine uAa rfl rfl rfl (uAg rfl gU rfl rfl) ?_;refine uAt rfl (uBu rfl rfl rfl rfl rfl rfl rfl) ?_;refine uAa rfl rfl rfl (uAm rfl gU rfl rfl rfl rfl rfl) ?_;refine uAT (xs:=[_]) rfl rfl rfl rfl rfl rfl rfl rfl rfl gU rfl ?_;refine uAt rfl (uA0 rfl rfl rfl rfl rfl rfl rfl (by first | omega | (simp only [List.length_append,List.length_singleton,Sp.rows_len]; omega)) (by first | omega | (simp only [List.length_append,List.length_singleton,Sp.rows_len]; omega))) ?_;refine uAa rfl rfl rfl (uAg rfl gU rfl rfl) ?_;refine uAt rfl (uBt rfl rfl rfl rfl rfl rfl rfl) ?_
 refine uAf ?_;refine uAl (s:=⟨[(3,_,_),(4,_,_),(6,_,_),(7,_,_)],[(.l 3,_),(.l 4,_),(.l 6,_),(.l 7,_),(.o 0,_)],[(.b (.l 3) 1,_),(.b (.l 3) 2,_),(.b (.l 3) 3,_),(.b (.l 3) 4,_),(.b (.l 3) 5,_)],[]⟩) (uAi (⟨sx rfl,sx rfl,sx rfl,sx rfl,trivial⟩) (⟨sx rfl,sx rfl,sx rfl,sx rfl,sx rfl,trivial⟩) (⟨rfl,rfl,rfl,rfl,rfl,trivial⟩)) ?_;refine uAl (s:=⟨[(3,_,_),(4,_,_),(6,_,_),(7,_,_)],[(.l 3,_),(.l 4,_),(.l 6,_),(.l 7,_),(.o 0,_)],[(.b (.l 3) 1,_),(.b (.l 3) 2,_),(.b (.l 3) 3,_),(.b (.l 3) 4,_),(.b (.l 3) 5,_)],[]⟩) (uAi (⟨sx rfl,sx rfl,sx rfl,sx rfl,trivial⟩) (⟨sx rfl,sx rfl,sx rfl,sx rfl,sx rfl,trivial⟩) (⟨rfl,rfl,rfl,rfl,rfl,trivial⟩)) ?_;refine uBb (.l 3) rfl (fun w1 w2 w3 w4 w5=>?_);refine uAl (s:=⟨[(3,_,_),(4,_,_),(6,_,_),(7,_,_)],[(.l 3,_),(.l 4,_),(.l 6,_),(.l 7,_),(.o 0,_)],[(.b (.l 3) 1,_),(.b (.l 3) 2,_),(.b (.l 3) 3,_),(.b (.l 3) 4,_),(.b (.l 3) 5,_)],[]⟩) (uAi (⟨sx rfl,sx rfl,sx rfl,sx rfl,trivial⟩) (⟨sx rfl,sx rfl,sx rfl,sx rfl,sx rfl,trivial⟩) (⟨rfl,rfl,rfl,rfl,rfl,trivial⟩)) ?_;refine uAe ?_;refine awp_drawn' (by kernel_rfl) ?_;refine uAD rfl rfl rfl rfl rfl rfl rfl gU rfl rfl rfl rfl rfl ?_;refine uAD rfl rfl rfl rfl rfl rfl rfl gU rfl rfl rfl rfl rfl ?_
 refine uAR rfl rfl rfl rfl rfl rfl rfl rfl rfl rfl rfl rfl ?_;refine uAR rfl rfl rfl rfl rfl rfl rfl rfl rfl rfl rfl rfl ?_;refine uA1 (by kernel_rfl) ?_;refine uAl (s:=⟨[(3,_,_),(6,_,_),(7,_,_)],[(.l 3,_),(.l 6,_),(.l 7,_),(.o 0,_)],[(.b (.l 3) 1,_),(.b (.l 3) 2,_),(.b (.l 3) 3,_),(.b (.l 3) 4,_),(.b (.l 3) 5,_)],[]⟩) (uAi (⟨sx rfl,sx rfl,sx rfl,trivial⟩) (⟨sx rfl,sx rfl,sx rfl,sx rfl,trivial⟩) (⟨(ak rfl (ak rfl (ak rfl (ak rfl (rfl))))),(ak rfl (ak rfl (ak rfl (ak rfl (rfl))))),(ak rfl (ak rfl (ak rfl (ak rfl (rfl))))),(ak rfl (ak rfl (ak rfl (ak rfl (rfl))))),(ak rfl (ak rfl (ak rfl (ak rfl (rfl))))),trivial⟩)) ?_;refine uBh (.l 6) (.l 3) rfl rfl rfl rfl rfl ?_;refine uAl (s:=⟨[(3,_,_),(6,_,_),(7,_,_)],[(.l 3,_),(.l 6,_),(.l 7,_),(.o 0,_)],[(.b (.l 6) 1,_),(.b (.l 6) 2,_),(.b (.l 6) 3,_),(.b (.l 6) 4,_),(.b (.l 6) 5,_)],[]⟩) (uAi (⟨sx rfl,sx rfl,sx rfl,trivial⟩) (⟨sx rfl,sx rfl,sx rfl,sx rfl,trivial⟩) (⟨rfl,rfl,rfl,rfl,rfl,trivial⟩)) ?_;refine uAo ?_
 repeat (first | refine tR ?_ | refine bR ?_)
 refine uBq rfl ?_ ⟨⟨_,rfl,rfl⟩,trivial⟩ (by simp) rfl rfl rfl rfl rfl rfl;exact congrArg (fun z=>X.tup [.agg (narC n.name (strR n.roles) (Fs.rows n.fresh) (strR n.tags) z (Gl.rows n.goals)), .agg (pbx l (uD3 l line p).2)]) (Sp.rows_app n.steps [(uD3 l line p).1]).symm
end Go.Proofs.YteidahabkfgfjaaGreat
namespace Go.Proofs.YteidahabkfgfjaaGreat
open Go Go.Abs
theorem uIn (l : List Tk) (ws : List (List UInt8)) : Fwd l (chR l ws):=fun p=>by
 have h:=uA4 l [] p
 unfold chR
 split
 ·simp [PS.off]
 ·exact h
theorem uDR {l : List Tk} {ws : List (List UInt8)} {p : PS} (h : p.at'≤l.length) : (chR l ws p).2.at'≤l.length:=(uIn l ws p).2 h
set_option maxHeartbeats 4000000 in
theorem uEG (l : List Tk) (p : PS) (n : Nar) (line : Int) (u1 u2 u3 u4 u5 : Value) (hl : l.length≤2000000) (hp : p.at'≤l.length) (hn : n.goals.length≤3000000) :
  CtrO sysO 135 [.v (.agg (soC n u1 u2 u3 u4 u5)),xr l p,xi line] [soC n u1 u2 u3 u4 u5] osR (xnr l ({ n with goals:=n.goals++[(uDx l line p).1] },(uDx l line p).2)) [soC n u1 u2 u3 u4 u5] .res:=by
 have hrs:=Gl.rows_len n.goals
 have hrl:=Tk.rows_len l
 refine uBY Tryz.func135 rfl rfl rfl rfl rfl rfl rfl ?_;refine uAe (uAb ?_);refine uAt rfl (uAI rfl rfl rfl rfl) ?_;refine uAt rfl (uAI rfl rfl rfl rfl) ?_;refine uAt rfl (uAL rfl rfl rfl) ?_;refine uAt rfl (uAL rfl rfl rfl) ?_;refine uAf ?_;refine uAl (s:=⟨[(2,_,_),(3,_,_),(4,_,_),(6,_,_),(7,_,_)],[(.l 3,_),(.l 4,_),(.l 6,_),(.l 7,_),(.o 0,_)],[(.b (.o 0) 1,_),(.b (.o 0) 2,_),(.b (.o 0) 3,_),(.b (.o 0) 4,_),(.b (.o 0) 5,_)],[]⟩) (uAi (⟨sx rfl,sx rfl,sx rfl,sx rfl,sx rfl,trivial⟩) (⟨sx rfl,sx rfl,sx rfl,sx rfl,sx rfl,trivial⟩) (⟨rfl,rfl,rfl,rfl,rfl,trivial⟩)) ?_;refine uBh (.l 3) (.o 0) rfl rfl rfl rfl rfl ?_;refine uAl (s:=⟨[(2,_,_),(3,_,_),(4,_,_),(6,_,_),(7,_,_)],[(.l 3,_),(.l 4,_),(.l 6,_),(.l 7,_),(.o 0,_)],[(.b (.l 3) 1,_),(.b (.l 3) 2,_),(.b (.l 3) 3,_),(.b (.l 3) 4,_),(.b (.l 3) 5,_)],[]⟩) (uAi (⟨sx rfl,sx rfl,sx rfl,sx rfl,sx rfl,trivial⟩) (⟨sx rfl,sx rfl,sx rfl,sx rfl,sx rfl,trivial⟩) (⟨rfl,rfl,rfl,rfl,rfl,trivial⟩)) ?_;refine uAe (uAb ?_);refine uAa rfl rfl rfl (uAd rfl gU) ?_;refine uAa rfl rfl rfl (uBf rfl Tryz.underlying51 rfl gU) ?_;refine uAt rfl (uAL rfl rfl rfl) ?_;refine uAt rfl (uAy rfl rfl rfl rfl rfl rfl rfl) ?_;refine uAf ?_
 refine uAe ?_;refine awp_drawn' (by kernel_rfl) ?_;refine uAD rfl rfl rfl rfl rfl rfl rfl gU rfl rfl rfl rfl rfl ?_;refine uAS rfl rfl rfl rfl rfl rfl rfl gU gU (up uJ7) rfl ?_;refine uAS rfl rfl rfl rfl rfl rfl rfl gU gU (up (uCU l p uBA (by omega) (by omega))) rfl ?_;refine uAq rfl rfl rfl rfl (uAd rfl gU) ?_;refine uAq rfl rfl rfl rfl (uAr rfl gU rfl) ?_;refine uAq rfl rfl rfl rfl (uAr rfl gU rfl) ?_;refine uAq rfl rfl rfl rfl (uAg rfl gU rfl rfl) ?_;refine uAR rfl rfl rfl rfl rfl rfl rfl rfl rfl rfl rfl rfl ?_;refine uAR rfl rfl rfl rfl rfl rfl rfl rfl rfl rfl rfl rfl ?_;refine uA1 (by kernel_rfl) ?_;refine uAl (s:=⟨[(3,_,_),(4,_,_),(6,_,_),(7,_,_),(8,_,_)],[(.l 3,_),(.l 4,_),(.l 6,_),(.l 7,_),(.l 8,_),(.o 0,_)],[(.b (.l 3) 1,_),(.b (.l 3) 2,_),(.b (.l 3) 3,_),(.b (.l 3) 4,_),(.b (.l 3) 5,_)],[]⟩) (uAi (⟨sx rfl,sx rfl,sx rfl,sx rfl,sx rfl,trivial⟩) (⟨sx rfl,sx rfl,sx rfl,sx rfl,sx rfl,sx rfl,trivial⟩) (⟨(ak rfl (ak rfl (ak rfl (ak rfl (ak rfl (ak rfl (ak rfl (ak rfl (ak rfl (rfl)))))))))),(ak rfl (ak rfl (ak rfl (ak rfl (ak rfl (ak rfl (ak rfl (ak rfl (ak rfl (rfl)))))))))),(ak rfl (ak rfl (ak rfl (ak rfl (ak rfl (ak rfl (ak rfl (ak rfl (ak rfl (rfl)))))))))),(ak rfl (ak rfl (ak rfl (ak rfl (ak rfl (ak rfl (ak rfl (ak rfl (ak rfl (rfl)))))))))),(ak rfl (ak rfl (ak rfl (ak rfl (ak rfl (ak rfl (ak rfl (ak rfl (ak rfl (rfl)))))))))),trivial⟩)) ?_
 refine uAe (uAb ?_);refine uAa rfl rfl rfl (uAm rfl gU rfl rfl rfl rfl rfl) ?_;refine uAx rfl rfl rfl rfl rfl rfl gU gU (up (uBx l _ (by omega) (le3 hl (by repeat (first | exact hp | refine uBV ?_ | refine uBB ?_ | refine uDR ?_))))) rfl ?_;refine uAa rfl rfl rfl (uAd rfl gU) ?_;refine uAa rfl rfl rfl (uAr rfl gU rfl) ?_;refine uAa rfl rfl rfl (uAr rfl gU rfl) ?_;refine uAa rfl rfl rfl (uAg rfl gU rfl rfl) ?_;refine uAt rfl (uAy rfl rfl rfl rfl rfl rfl rfl) ?_;refine uAt rfl (uAy rfl rfl rfl rfl rfl rfl rfl) ?_;refine uAf ?_;refine uAl (s:=⟨[(3,_,_),(4,_,_),(6,_,_),(7,_,_),(8,_,_)],[(.l 3,_),(.l 4,_),(.l 6,_),(.l 7,_),(.l 8,_),(.o 0,_)],[(.b (.l 3) 1,_),(.b (.l 3) 2,_),(.b (.l 3) 3,_),(.b (.l 3) 4,_),(.b (.l 3) 5,_)],[]⟩) (uAi (⟨sx rfl,sx rfl,sx rfl,sx rfl,sx rfl,trivial⟩) (⟨sx rfl,sx rfl,sx rfl,sx rfl,sx rfl,sx rfl,trivial⟩) (⟨rfl,rfl,rfl,rfl,rfl,trivial⟩)) ?_;refine uAe ?_;refine uAe (uAb ?_);refine uAa rfl rfl rfl (uAm rfl gU rfl rfl rfl rfl rfl) ?_;refine uAx rfl rfl rfl rfl rfl rfl gU gU (up (uCn ⟨(chR l uBA p).1,(uAv l [] (chR l uBA p).2).1,[],[],line⟩)) rfl ?_;refine uAf ?_;refine uAn rfl (fun hc=>?_) (fun hc=>?_)
 ·have h : uBm (chR l uBA p).1=true:=hc
  have hg : uDx l line p=(⟨(chR l uBA p).1,(uAv l [] (chR l uBA p).2).1,(uAv l [] (uAv l [] (chR l uBA p).2).2).1,(uA5 l (uAY l (l.length + 1)) (uAP l [58] (uAv l [] (uAv l [] (chR l uBA p).2).2).2)).1,line⟩,(uA5 l (uAY l (l.length + 1)) (uAP l [58] (uAv l [] (uAv l [] (chR l uBA p).2).2).2)).2):=by
   simp only [uDx,h,if_true]
  rw [hg]
  refine uAb ?_;refine uAa rfl rfl rfl (uAm rfl gU rfl rfl rfl rfl rfl) ?_;refine uAx rfl rfl rfl rfl rfl rfl gU gU (up (uBx l _ (by omega) (le3 hl (by repeat (first | exact hp | refine uBV ?_ | refine uBB ?_ | refine uDR ?_))))) rfl ?_;refine uAa rfl rfl rfl (uAd rfl gU) ?_;refine uAa rfl rfl rfl (uAr rfl gU rfl) ?_;refine uAa rfl rfl rfl (uAr rfl gU rfl) ?_;refine uAa rfl rfl rfl (uAg rfl gU rfl rfl) ?_;refine uAt rfl (uAy rfl rfl rfl rfl rfl rfl rfl) ?_;refine uAt rfl (uAy rfl rfl rfl rfl rfl rfl rfl) ?_;refine uAf ?_;refine uAl (s:=⟨[(3,_,_),(4,_,_),(6,_,_),(7,_,_),(8,_,_)],[(.l 3,_),(.l 4,_),(.l 6,_),(.l 7,_),(.l 8,_),(.o 0,_)],[(.b (.l 3) 1,_),(.b (.l 3) 2,_),(.b (.l 3) 3,_),(.b (.l 3) 4,_),(.b (.l 3) 5,_)],[]⟩) (uAi (⟨sx rfl,sx rfl,sx rfl,sx rfl,sx rfl,trivial⟩) (⟨sx rfl,sx rfl,sx rfl,sx rfl,sx rfl,sx rfl,trivial⟩) (⟨rfl,rfl,rfl,rfl,rfl,trivial⟩)) ?_;refine uAe (uAb ?_);refine uAa rfl rfl rfl (uAm rfl gU rfl rfl rfl rfl rfl) ?_;refine uAx rfl rfl rfl rfl rfl rfl gU gU (up (uAU l _ _ (by omega) (le3 hl (by repeat (first | exact hp | refine uBV ?_ | refine uBB ?_ | refine uDR ?_))))) rfl ?_;refine uAx rfl rfl rfl rfl rfl rfl gU gU (up (uEq l (l.length + 1) hl (fun q h1 h2=>uDG l hl _ q h1 h2) (uCV l _) _ (by repeat (first | exact hp | refine uBV ?_ | refine uBB ?_ | refine uDR ?_)) (by omega))) rfl ?_
  refine uAa rfl rfl rfl (uAd rfl gU) ?_;refine uAa rfl rfl rfl (uAr rfl gU rfl) ?_;refine uAa rfl rfl rfl (uAr rfl gU rfl) ?_;refine uAa rfl rfl rfl (uAg rfl gU rfl rfl) ?_;refine uAt rfl (uAy rfl rfl rfl rfl rfl rfl rfl) ?_;refine uAt rfl (uAy rfl rfl rfl rfl rfl rfl rfl) ?_;refine uAf ?_;refine uAl (s:=⟨[(3,_,_),(4,_,_),(6,_,_),(7,_,_),(8,_,_)],[(.l 3,_),(.l 4,_),(.l 6,_),(.l 7,_),(.l 8,_),(.o 0,_)],[(.b (.l 3) 1,_),(.b (.l 3) 2,_),(.b (.l 3) 3,_),(.b (.l 3) 4,_),(.b (.l 3) 5,_)],[]⟩) (uAi (⟨sx rfl,sx rfl,sx rfl,sx rfl,sx rfl,trivial⟩) (⟨sx rfl,sx rfl,sx rfl,sx rfl,sx rfl,sx rfl,trivial⟩) (⟨rfl,rfl,rfl,rfl,rfl,trivial⟩)) ?_;refine uAe (uAb ?_);refine uAa rfl rfl rfl (uAg rfl gU rfl rfl) ?_;refine uAt rfl (uBu rfl rfl rfl rfl rfl rfl rfl) ?_;refine uAa rfl rfl rfl (uAm rfl gU rfl rfl rfl rfl rfl) ?_;refine uAT (xs:=[_]) rfl rfl rfl rfl rfl rfl rfl rfl rfl gU rfl ?_;refine uAt rfl (uA0 rfl rfl rfl rfl rfl rfl rfl (by first | omega | (simp only [List.length_append,List.length_singleton,Gl.rows_len]; omega)) (by first | omega | (simp only [List.length_append,List.length_singleton,Gl.rows_len]; omega))) ?_;refine uAa rfl rfl rfl (uAg rfl gU rfl rfl) ?_;refine uAt rfl (uBt rfl rfl rfl rfl rfl rfl rfl) ?_
  refine uAf ?_;refine uAl (s:=⟨[(3,_,_),(4,_,_),(6,_,_),(7,_,_)],[(.l 3,_),(.l 4,_),(.l 6,_),(.l 7,_),(.o 0,_)],[(.b (.l 3) 1,_),(.b (.l 3) 2,_),(.b (.l 3) 3,_),(.b (.l 3) 4,_),(.b (.l 3) 5,_)],[]⟩) (uAi (⟨sx rfl,sx rfl,sx rfl,sx rfl,trivial⟩) (⟨sx rfl,sx rfl,sx rfl,sx rfl,sx rfl,trivial⟩) (⟨rfl,rfl,rfl,rfl,rfl,trivial⟩)) ?_;refine uAl (s:=⟨[(3,_,_),(4,_,_),(6,_,_),(7,_,_)],[(.l 3,_),(.l 4,_),(.l 6,_),(.l 7,_),(.o 0,_)],[(.b (.l 3) 1,_),(.b (.l 3) 2,_),(.b (.l 3) 3,_),(.b (.l 3) 4,_),(.b (.l 3) 5,_)],[]⟩) (uAi (⟨sx rfl,sx rfl,sx rfl,sx rfl,trivial⟩) (⟨sx rfl,sx rfl,sx rfl,sx rfl,sx rfl,trivial⟩) (⟨rfl,rfl,rfl,rfl,rfl,trivial⟩)) ?_;refine uBb (.l 3) rfl (fun w1 w2 w3 w4 w5=>?_);refine uAl (s:=⟨[(3,_,_),(4,_,_),(6,_,_),(7,_,_)],[(.l 3,_),(.l 4,_),(.l 6,_),(.l 7,_),(.o 0,_)],[(.b (.l 3) 1,_),(.b (.l 3) 2,_),(.b (.l 3) 3,_),(.b (.l 3) 4,_),(.b (.l 3) 5,_)],[]⟩) (uAi (⟨sx rfl,sx rfl,sx rfl,sx rfl,trivial⟩) (⟨sx rfl,sx rfl,sx rfl,sx rfl,sx rfl,trivial⟩) (⟨rfl,rfl,rfl,rfl,rfl,trivial⟩)) ?_;refine uAe ?_;refine awp_drawn' (by kernel_rfl) ?_;refine uAD rfl rfl rfl rfl rfl rfl rfl gU rfl rfl rfl rfl rfl ?_;refine uAD rfl rfl rfl rfl rfl rfl rfl gU rfl rfl rfl rfl rfl ?_
  refine uAR rfl rfl rfl rfl rfl rfl rfl rfl rfl rfl rfl rfl ?_;refine uAR rfl rfl rfl rfl rfl rfl rfl rfl rfl rfl rfl rfl ?_;refine uA1 (by kernel_rfl) ?_;refine uAl (s:=⟨[(3,_,_),(6,_,_),(7,_,_)],[(.l 3,_),(.l 6,_),(.l 7,_),(.o 0,_)],[(.b (.l 3) 1,_),(.b (.l 3) 2,_),(.b (.l 3) 3,_),(.b (.l 3) 4,_),(.b (.l 3) 5,_)],[]⟩) (uAi (⟨sx rfl,sx rfl,sx rfl,trivial⟩) (⟨sx rfl,sx rfl,sx rfl,sx rfl,trivial⟩) (⟨(ak rfl (ak rfl (ak rfl (ak rfl (rfl))))),(ak rfl (ak rfl (ak rfl (ak rfl (rfl))))),(ak rfl (ak rfl (ak rfl (ak rfl (rfl))))),(ak rfl (ak rfl (ak rfl (ak rfl (rfl))))),(ak rfl (ak rfl (ak rfl (ak rfl (rfl))))),trivial⟩)) ?_;refine uBh (.l 6) (.l 3) rfl rfl rfl rfl rfl ?_;refine uAl (s:=⟨[(3,_,_),(6,_,_),(7,_,_)],[(.l 3,_),(.l 6,_),(.l 7,_),(.o 0,_)],[(.b (.l 6) 1,_),(.b (.l 6) 2,_),(.b (.l 6) 3,_),(.b (.l 6) 4,_),(.b (.l 6) 5,_)],[]⟩) (uAi (⟨sx rfl,sx rfl,sx rfl,trivial⟩) (⟨sx rfl,sx rfl,sx rfl,sx rfl,trivial⟩) (⟨rfl,rfl,rfl,rfl,rfl,trivial⟩)) ?_;refine uAo ?_
  repeat (first | refine tR ?_ | refine bR ?_)
  refine uBq rfl ?_ ⟨⟨_,rfl,rfl⟩,trivial⟩ (by simp) rfl rfl rfl rfl rfl rfl;exact congrArg (fun z=>X.tup [.agg (narC n.name (strR n.roles) (Fs.rows n.fresh) (strR n.tags) (Sp.rows n.steps) z), .agg (pbx l (uA5 l (uAY l (l.length + 1)) (uAP l [58] (uAv l [] (uAv l [] (chR l uBA p).2).2).2)).2)]) (Gl.rows_app n.goals [⟨(chR l uBA p).1,(uAv l [] (chR l uBA p).2).1,(uAv l [] (uAv l [] (chR l uBA p).2).2).1,(uA5 l (uAY l (l.length + 1)) (uAP l [58] (uAv l [] (uAv l [] (chR l uBA p).2).2).2)).1,line⟩]).symm
 ·have h : uBm (chR l uBA p).1=false:=hc
  have hg : uDx l line p=(⟨(chR l uBA p).1,(uAv l [] (chR l uBA p).2).1,[],(uA5 l (uAY l (l.length + 1)) (uAP l [58] (uAv l [] (chR l uBA p).2).2)).1,line⟩,(uA5 l (uAY l (l.length + 1)) (uAP l [58] (uAv l [] (chR l uBA p).2).2)).2):=by
   simp only [uDx,h,Bool.false_eq_true,if_false]
  rw [hg]
  refine uAp ?_;refine uAe (uAb ?_);refine uAa rfl rfl rfl (uAm rfl gU rfl rfl rfl rfl rfl) ?_;refine uAx rfl rfl rfl rfl rfl rfl gU gU (up (uAU l _ _ (by omega) (le3 hl (by repeat (first | exact hp | refine uBV ?_ | refine uBB ?_ | refine uDR ?_))))) rfl ?_;refine uAx rfl rfl rfl rfl rfl rfl gU gU (up (uEq l (l.length + 1) hl (fun q h1 h2=>uDG l hl _ q h1 h2) (uCV l _) _ (by repeat (first | exact hp | refine uBV ?_ | refine uBB ?_ | refine uDR ?_)) (by omega))) rfl ?_;refine uAa rfl rfl rfl (uAd rfl gU) ?_;refine uAa rfl rfl rfl (uAr rfl gU rfl) ?_;refine uAa rfl rfl rfl (uAr rfl gU rfl) ?_;refine uAa rfl rfl rfl (uAg rfl gU rfl rfl) ?_;refine uAt rfl (uAy rfl rfl rfl rfl rfl rfl rfl) ?_;refine uAt rfl (uAy rfl rfl rfl rfl rfl rfl rfl) ?_;refine uAf ?_;refine uAl (s:=⟨[(3,_,_),(4,_,_),(6,_,_),(7,_,_),(8,_,_)],[(.l 3,_),(.l 4,_),(.l 6,_),(.l 7,_),(.l 8,_),(.o 0,_)],[(.b (.l 3) 1,_),(.b (.l 3) 2,_),(.b (.l 3) 3,_),(.b (.l 3) 4,_),(.b (.l 3) 5,_)],[]⟩) (uAi (⟨sx rfl,sx rfl,sx rfl,sx rfl,sx rfl,trivial⟩) (⟨sx rfl,sx rfl,sx rfl,sx rfl,sx rfl,sx rfl,trivial⟩) (⟨rfl,rfl,rfl,rfl,rfl,trivial⟩)) ?_;refine uAe (uAb ?_);refine uAa rfl rfl rfl (uAg rfl gU rfl rfl) ?_;refine uAt rfl (uBu rfl rfl rfl rfl rfl rfl rfl) ?_
  refine uAa rfl rfl rfl (uAm rfl gU rfl rfl rfl rfl rfl) ?_;refine uAT (xs:=[_]) rfl rfl rfl rfl rfl rfl rfl rfl rfl gU rfl ?_;refine uAt rfl (uA0 rfl rfl rfl rfl rfl rfl rfl (by first | omega | (simp only [List.length_append,List.length_singleton,Gl.rows_len]; omega)) (by first | omega | (simp only [List.length_append,List.length_singleton,Gl.rows_len]; omega))) ?_;refine uAa rfl rfl rfl (uAg rfl gU rfl rfl) ?_;refine uAt rfl (uBt rfl rfl rfl rfl rfl rfl rfl) ?_;refine uAf ?_;refine uAl (s:=⟨[(3,_,_),(4,_,_),(6,_,_),(7,_,_)],[(.l 3,_),(.l 4,_),(.l 6,_),(.l 7,_),(.o 0,_)],[(.b (.l 3) 1,_),(.b (.l 3) 2,_),(.b (.l 3) 3,_),(.b (.l 3) 4,_),(.b (.l 3) 5,_)],[]⟩) (uAi (⟨sx rfl,sx rfl,sx rfl,sx rfl,trivial⟩) (⟨sx rfl,sx rfl,sx rfl,sx rfl,sx rfl,trivial⟩) (⟨rfl,rfl,rfl,rfl,rfl,trivial⟩)) ?_;refine uAl (s:=⟨[(3,_,_),(4,_,_),(6,_,_),(7,_,_)],[(.l 3,_),(.l 4,_),(.l 6,_),(.l 7,_),(.o 0,_)],[(.b (.l 3) 1,_),(.b (.l 3) 2,_),(.b (.l 3) 3,_),(.b (.l 3) 4,_),(.b (.l 3) 5,_)],[]⟩) (uAi (⟨sx rfl,sx rfl,sx rfl,sx rfl,trivial⟩) (⟨sx rfl,sx rfl,sx rfl,sx rfl,sx rfl,trivial⟩) (⟨rfl,rfl,rfl,rfl,rfl,trivial⟩)) ?_;refine uBb (.l 3) rfl (fun w1 w2 w3 w4 w5=>?_);refine uAl (s:=⟨[(3,_,_),(4,_,_),(6,_,_),(7,_,_)],[(.l 3,_),(.l 4,_),(.l 6,_),(.l 7,_),(.o 0,_)],[(.b (.l 3) 1,_),(.b (.l 3) 2,_),(.b (.l 3) 3,_),(.b (.l 3) 4,_),(.b (.l 3) 5,_)],[]⟩) (uAi (⟨sx rfl,sx rfl,sx rfl,sx rfl,trivial⟩) (⟨sx rfl,sx rfl,sx rfl,sx rfl,sx rfl,trivial⟩) (⟨rfl,rfl,rfl,rfl,rfl,trivial⟩)) ?_
  refine uAe ?_;refine awp_drawn' (by kernel_rfl) ?_;refine uAD rfl rfl rfl rfl rfl rfl rfl gU rfl rfl rfl rfl rfl ?_;refine uAD rfl rfl rfl rfl rfl rfl rfl gU rfl rfl rfl rfl rfl ?_;refine uAR rfl rfl rfl rfl rfl rfl rfl rfl rfl rfl rfl rfl ?_;refine uAR rfl rfl rfl rfl rfl rfl rfl rfl rfl rfl rfl rfl ?_;refine uA1 (by kernel_rfl) ?_;refine uAl (s:=⟨[(3,_,_),(6,_,_),(7,_,_)],[(.l 3,_),(.l 6,_),(.l 7,_),(.o 0,_)],[(.b (.l 3) 1,_),(.b (.l 3) 2,_),(.b (.l 3) 3,_),(.b (.l 3) 4,_),(.b (.l 3) 5,_)],[]⟩) (uAi (⟨sx rfl,sx rfl,sx rfl,trivial⟩) (⟨sx rfl,sx rfl,sx rfl,sx rfl,trivial⟩) (⟨(ak rfl (ak rfl (ak rfl (ak rfl (rfl))))),(ak rfl (ak rfl (ak rfl (ak rfl (rfl))))),(ak rfl (ak rfl (ak rfl (ak rfl (rfl))))),(ak rfl (ak rfl (ak rfl (ak rfl (rfl))))),(ak rfl (ak rfl (ak rfl (ak rfl (rfl))))),trivial⟩)) ?_;refine uBh (.l 6) (.l 3) rfl rfl rfl rfl rfl ?_;refine uAl (s:=⟨[(3,_,_),(6,_,_),(7,_,_)],[(.l 3,_),(.l 6,_),(.l 7,_),(.o 0,_)],[(.b (.l 6) 1,_),(.b (.l 6) 2,_),(.b (.l 6) 3,_),(.b (.l 6) 4,_),(.b (.l 6) 5,_)],[]⟩) (uAi (⟨sx rfl,sx rfl,sx rfl,trivial⟩) (⟨sx rfl,sx rfl,sx rfl,sx rfl,trivial⟩) (⟨rfl,rfl,rfl,rfl,rfl,trivial⟩)) ?_;refine uAo ?_
  repeat (first | refine tR ?_ | refine bR ?_)
  refine uBq rfl ?_ ⟨⟨_,rfl,rfl⟩,trivial⟩ (by simp) rfl rfl rfl rfl rfl rfl;exact congrArg (fun z=>X.tup [.agg (narC n.name (strR n.roles) (Fs.rows n.fresh) (strR n.tags) (Sp.rows n.steps) z), .agg (pbx l (uA5 l (uAY l (l.length + 1)) (uAP l [58] (uAv l [] (chR l uBA p).2).2)).2)]) (Gl.rows_app n.goals [⟨(chR l uBA p).1,(uAv l [] (chR l uBA p).2).1,[],(uA5 l (uAY l (l.length + 1)) (uAP l [58] (uAv l [] (chR l uBA p).2).2)).1,line⟩]).symm
end Go.Proofs.YteidahabkfgfjaaGreat
namespace Go.Proofs.YteidahabkfgfjaaGreat
open Go Go.Abs
theorem uK1 {l : List Tk} {p : PS} (h : (chR l uBn p).2.bad=false) : (chR l uBn p).2.at'=p.at' + 1:=by
 rw [(uKJ l p).1] at h ⊢
 have hq:=uFD h
 rw [uAv,if_pos hq]; rfl
abbrev frC (n : Nar) (o : List Fs) : List C:=narC n.name (strR n.roles) (Fs.rows o) (strR n.tags) (Sp.rows n.steps) (Gl.rows n.goals)
set_option maxHeartbeats 8000000 in
theorem uEh (l : List Tk) (p : PS) (n : Nar) (u1 u2 u3 u4 u5 : Value) (hl : l.length≤2000000) (hp : p.at'≤l.length) (hn : n.fresh.length≤3000000) :
  CtrO sysO 133 [.v (.agg (soC n u1 u2 u3 u4 u5)),xr l p] [soC n u1 u2 u3 u4 u5] osR (xnr l ({ n with fresh:=(frRd l p n.fresh).1 },(frRd l p n.fresh).2)) [soC n u1 u2 u3 u4 u5] .res:=by
 have hrl:=Tk.rows_len l
 have a3 : (uAP l [58] (uAv l [] p).2).at'≤l.length:=uBV (uBB hp)
 obtain ⟨role,hrole⟩ : ∃ r,(uAv l [] p).1=r:=⟨_,rfl⟩
 refine uBY Tryz.func133 rfl rfl rfl rfl rfl rfl rfl ?_;refine uAe (uAb ?_);refine uAt rfl (uAI rfl rfl rfl rfl) ?_;refine uAt rfl (uAI rfl rfl rfl rfl) ?_;refine uAt rfl (uAL rfl rfl rfl) ?_;refine uAt rfl (uAL rfl rfl rfl) ?_;refine uAf ?_;refine uAl (s:=⟨[(2,_,_),(3,_,_),(4,_,_),(5,_,_)],[(.l 2,_),(.l 3,_),(.l 4,_),(.l 5,_),(.o 0,_)],[(.b (.o 0) 1,_),(.b (.o 0) 2,_),(.b (.o 0) 3,_),(.b (.o 0) 4,_),(.b (.o 0) 5,_)],[]⟩) (uAi (⟨sx rfl,sx rfl,sx rfl,sx rfl,trivial⟩) (⟨sx rfl,sx rfl,sx rfl,sx rfl,sx rfl,trivial⟩) (⟨rfl,rfl,rfl,rfl,rfl,trivial⟩)) ?_;refine uBh (.l 2) (.o 0) rfl rfl rfl rfl rfl ?_;refine uAl (s:=⟨[(2,_,_),(3,_,_),(4,_,_),(5,_,_)],[(.l 2,_),(.l 3,_),(.l 4,_),(.l 5,_),(.o 0,_)],[(.b (.l 2) 1,_),(.b (.l 2) 2,_),(.b (.l 2) 3,_),(.b (.l 2) 4,_),(.b (.l 2) 5,_)],[]⟩) (uAi (⟨sx rfl,sx rfl,sx rfl,sx rfl,trivial⟩) (⟨sx rfl,sx rfl,sx rfl,sx rfl,sx rfl,trivial⟩) (⟨rfl,rfl,rfl,rfl,rfl,trivial⟩)) ?_;refine uAe (uAb ?_);refine uAa rfl rfl rfl (uAm rfl gU rfl rfl rfl rfl rfl) ?_;refine uAx rfl rfl rfl rfl rfl rfl gU gU (up (uBx l p (by omega) (le3 hl hp))) rfl ?_;refine uAa rfl rfl rfl (uAd rfl gU) ?_;refine uAa rfl rfl rfl (uAr rfl gU rfl) ?_
 refine uAa rfl rfl rfl (uAr rfl gU rfl) ?_;refine uAa rfl rfl rfl (uAc rfl gU) ?_;refine uAt rfl (uAy rfl rfl rfl rfl rfl rfl rfl) ?_;refine uAf ?_;refine uAl (s:=⟨[(2,_,_),(3,_,_),(4,_,_),(5,_,_),(6,_,_)],[(.l 2,_),(.l 3,_),(.l 4,_),(.l 5,_),(.o 0,_)],[(.b (.l 2) 1,_),(.b (.l 2) 2,_),(.b (.l 2) 3,_),(.b (.l 2) 4,_),(.b (.l 2) 5,_)],[]⟩) (uAi (⟨sx rfl,sx rfl,sx rfl,sx rfl,sx rfl,trivial⟩) (⟨sx rfl,sx rfl,sx rfl,sx rfl,sx rfl,trivial⟩) (⟨rfl,rfl,rfl,rfl,rfl,trivial⟩)) ?_;refine uAe (uAb ?_);refine uAa rfl rfl rfl (uAm rfl gU rfl rfl rfl rfl rfl) ?_;refine uAx rfl rfl rfl rfl rfl rfl gU gU (up (uAU l (uAv l [] p).2 _ (by omega) (le3 hl (uBB hp)))) rfl ?_;refine uAt rfl (uAy rfl rfl rfl rfl rfl rfl rfl) ?_;refine uAf ?_;refine uAe ?_;refine uAe (uAb ?_);refine uAa rfl rfl rfl (uAc rfl gU) ?_;refine uAf ?_;refine uAw ?_
 rw [hrole]
 refine uAW (ι:=PS × Bool × List Fs) { t:=[(2,_,_),(3,_,_),(4,_,_),(5,_,_),(6,_,_)],bx:=[(.l 4,_),(.l 5,_),(.o 0,_)],ow:=[(.b (.l 2) 1,_),(.b (.l 2) 2,_),(.b (.l 2) 3,_),(.b (.l 2) 4,_),(.b (.l 2) 5,_)] } (fun q=>[(7,true,xb q.2.1)]) (fun q=>[((.l 3),pbx l q.1),((.l 2),frC n q.2.2)]) (fun q=>q.1.at'≤l.length∧q.2.2.length≤n.fresh.length + q.1.at' + (if q.2.1=true then 0 else 1) ∧ ∃ k,l.length + 1≤k + q.1.at'∧(if q.2.1=true then frRA l role k q.1 q.2.2 else if symQ l q.1 [44]=true then frRA l role k q.1.go q.2.2 else (q.2.2,q.1))=frRd l p n.fresh) (fun q=>(if q.2.1=true then 1 else 0) + (l.length - q.1.at')) ((uAP l [58] (uAv l [] p).2,true,n.fresh)) (⟨a3,by simp,l.length + 1,by dsimp only; omega,by dsimp only; rw [if_pos rfl,← hrole]; rfl⟩) (uAi (⟨sx rfl,sx rfl,sx rfl,sx rfl,sx rfl,sx rfl,trivial⟩) (⟨sx rfl,sx rfl,sx rfl,sx rfl,sx rfl,trivial⟩) (⟨rfl,rfl,rfl,rfl,rfl,trivial⟩)) ?_
 intro q hok
 dsimp only [List.cons_append,List.nil_append] at *
 obtain ⟨q,first,out⟩:=q
 dsimp only at hok ⊢
 obtain ⟨hq,ho,k,hk,hi⟩:=hok
 have hro:=Fs.rows_len out
 cases first
 ·rw [if_neg (by simp)] at hi
  simp only [Bool.false_eq_true,if_false] at ho
  refine uAe ?_;refine uAe (uAb ?_);refine uAa rfl rfl rfl (uAd rfl gU) ?_;refine uAa rfl rfl rfl (uAd rfl gU) ?_;refine uAa rfl rfl rfl (uAm rfl gU rfl rfl rfl rfl rfl) ?_;refine uAx rfl rfl rfl rfl rfl rfl gU (fun hh=>gA ((fun hh=>hh) hh) (gA rfl (rfl))) (up (uCg l q _ (by omega) (le3 hl hq))) rfl ?_;refine uAa rfl rfl rfl (uAM rfl rfl gU (fun _ hi=>gP rfl hi)) ?_;refine uAf ?_;refine uAl (s:=⟨[(2,_,_),(3,_,_),(4,_,_),(5,_,_),(6,_,_),(7,_,_),(20,_,_)],[(.l 2,_),(.l 3,_),(.l 4,_),(.l 5,_),(.o 0,_)],[(.b (.l 2) 1,_),(.b (.l 2) 2,_),(.b (.l 2) 3,_),(.b (.l 2) 4,_),(.b (.l 2) 5,_)],[]⟩) (uAi (⟨sx rfl,sx rfl,sx rfl,sx rfl,sx rfl,sx rfl,sx rfl,trivial⟩) (⟨sx rfl,sx rfl,sx rfl,sx rfl,sx rfl,trivial⟩) (⟨rfl,rfl,rfl,rfl,rfl,trivial⟩)) ?_;refine uAn rfl (fun hc1=>?_) (fun hc1=>?_)
  ·try simp only [nn,uAh,T.rows_len,Tk.rows_len] at hc1
   have hc1:=hc1.resolve_left (by simp)
   have hlt:=(uB1 hc1).1
   have hs : uAP l [44] q=q.go:=by rw [uAP,if_pos hc1]
   have hg : q.go.at'=q.at' + 1:=rfl
   have hq2 : q.go.at'≤l.length:=by omega
   rw [if_pos hc1] at hi
   obtain ⟨k,rfl⟩ : ∃ j,k=j + 1:=⟨k - 1,by omega⟩
   have hsy:=uAU l q [44] (by omega) (le3 hl hq)
   rw [hs] at hsy
   refine uAp ?_;refine uAe ?_;refine uAw ?_;refine uAe ?_;refine uAe (uAb ?_);refine uAa rfl rfl rfl (uAd rfl gU) ?_;refine uAa rfl rfl rfl (uAZ rfl gU) ?_;refine uAf ?_;refine uAn rfl (fun hc2=>?_) (fun hc2=>?_)
   ·refine uAb ?_
    refine uAa rfl rfl rfl (uAm rfl gU rfl rfl rfl rfl rfl) ?_;refine uAx rfl rfl rfl rfl rfl rfl gU gU (up hsy) rfl ?_;refine uAt rfl (uAy rfl rfl rfl rfl rfl rfl rfl) ?_;refine uAf ?_;refine uAe (uAb ?_);refine uAa rfl rfl rfl (uAd rfl gU) ?_;refine uAa rfl rfl rfl (uBf rfl Tryz.underlying79 rfl gU) ?_;refine uAt rfl (uAL rfl rfl rfl) ?_;refine uAt rfl (uAy rfl rfl rfl rfl rfl rfl rfl) ?_;refine uAf ?_;refine uAl (s:=⟨[(2,_,_),(3,_,_),(4,_,_),(5,_,_),(6,_,_),(8,_,_)],[(.l 2,_),(.l 3,_),(.l 4,_),(.l 5,_),(.l 8,_),(.o 0,_)],[(.b (.l 2) 1,_),(.b (.l 2) 2,_),(.b (.l 2) 3,_),(.b (.l 2) 4,_),(.b (.l 2) 5,_)],[]⟩) (uAi (⟨sx rfl,sx rfl,sx rfl,sx rfl,sx rfl,sx rfl,trivial⟩) (⟨sx rfl,sx rfl,sx rfl,sx rfl,sx rfl,sx rfl,trivial⟩) (⟨rfl,rfl,rfl,rfl,rfl,trivial⟩)) ?_;refine uAe (uAb ?_)
    have b1:=(uA4 l [] q.go).1
    have b2:=(uIn l uBn (uAv l [] q.go).2).1
    have b3 : (chR l uBn (uAv l [] q.go).2).2.at'≤l.length:=uDR (uBB hq2)
    refine uAa rfl rfl rfl (uAm rfl gU rfl rfl rfl rfl rfl) ?_;refine uAx rfl rfl rfl rfl rfl rfl gU gU (up (uBx l q.go (by omega) (le3 hl hq2))) rfl ?_;refine uAa rfl rfl rfl (uAd rfl gU) ?_;refine uAa rfl rfl rfl (uAr rfl gU rfl) ?_;refine uAa rfl rfl rfl (uAr rfl gU rfl) ?_;refine uAa rfl rfl rfl (uAg rfl gU rfl rfl) ?_;refine uAt rfl (uAy rfl rfl rfl rfl rfl rfl rfl) ?_;refine uAt rfl (uAy rfl rfl rfl rfl rfl rfl rfl) ?_;refine uAf ?_;refine uAl (s:=⟨[(2,_,_),(3,_,_),(4,_,_),(5,_,_),(6,_,_),(8,_,_)],[(.l 2,_),(.l 3,_),(.l 4,_),(.l 5,_),(.l 8,_),(.o 0,_)],[(.b (.l 2) 1,_),(.b (.l 2) 2,_),(.b (.l 2) 3,_),(.b (.l 2) 4,_),(.b (.l 2) 5,_)],[]⟩) (uAi (⟨sx rfl,sx rfl,sx rfl,sx rfl,sx rfl,sx rfl,trivial⟩) (⟨sx rfl,sx rfl,sx rfl,sx rfl,sx rfl,sx rfl,trivial⟩) (⟨rfl,rfl,rfl,rfl,rfl,trivial⟩)) ?_;refine uAe ?_;refine awp_drawn' (by kernel_rfl) ?_;refine uAD rfl rfl rfl rfl rfl rfl rfl gU rfl rfl rfl rfl rfl ?_;refine uAS rfl rfl rfl rfl rfl rfl rfl gU gU (up uFQ) rfl ?_;refine uAS rfl rfl rfl rfl rfl rfl rfl gU gU (up (uCU l (uAv l [] q.go).2 uBn (by omega) (le3 hl (uBB hq2)))) rfl ?_;refine uAq rfl rfl rfl rfl (uAd rfl gU) ?_;refine uAq rfl rfl rfl rfl (uAr rfl gU rfl) ?_;refine uAq rfl rfl rfl rfl (uAr rfl gU rfl) ?_
    refine uAq rfl rfl rfl rfl (uAg rfl gU rfl rfl) ?_;refine uAR rfl rfl rfl rfl rfl rfl rfl rfl rfl rfl rfl rfl ?_;refine uAR rfl rfl rfl rfl rfl rfl rfl rfl rfl rfl rfl rfl ?_;refine uA1 (by kernel_rfl) ?_;refine uAl (s:=⟨[(2,_,_),(3,_,_),(4,_,_),(5,_,_),(6,_,_),(8,_,_)],[(.l 2,_),(.l 3,_),(.l 4,_),(.l 5,_),(.l 8,_),(.o 0,_)],[(.b (.l 2) 1,_),(.b (.l 2) 2,_),(.b (.l 2) 3,_),(.b (.l 2) 4,_),(.b (.l 2) 5,_)],[]⟩) (uAi (⟨sx rfl,sx rfl,sx rfl,sx rfl,sx rfl,sx rfl,trivial⟩) (⟨sx rfl,sx rfl,sx rfl,sx rfl,sx rfl,sx rfl,trivial⟩) (⟨(ak rfl (ak rfl (ak rfl (ak rfl (ak rfl (ak rfl (ak rfl (ak rfl (ak rfl (rfl)))))))))),(ak rfl (ak rfl (ak rfl (ak rfl (ak rfl (ak rfl (ak rfl (ak rfl (ak rfl (rfl)))))))))),(ak rfl (ak rfl (ak rfl (ak rfl (ak rfl (ak rfl (ak rfl (ak rfl (ak rfl (rfl)))))))))),(ak rfl (ak rfl (ak rfl (ak rfl (ak rfl (ak rfl (ak rfl (ak rfl (ak rfl (rfl)))))))))),(ak rfl (ak rfl (ak rfl (ak rfl (ak rfl (ak rfl (ak rfl (ak rfl (ak rfl (rfl)))))))))),trivial⟩)) ?_;refine uAe (uAb ?_);refine uAa rfl rfl rfl (uAg rfl gU rfl rfl) ?_;refine uAt rfl (uBu rfl rfl rfl rfl rfl rfl rfl) ?_;refine uAa rfl rfl rfl (uAm rfl gU rfl rfl rfl rfl rfl) ?_;refine uAT (xs:=[_]) rfl rfl rfl rfl rfl rfl rfl rfl rfl gU rfl ?_;refine uAt rfl (uA0 rfl rfl rfl rfl rfl rfl rfl (by first | omega | (simp only [List.length_append,List.length_singleton,Fs.rows_len]; omega)) (by first | omega | (simp only [List.length_append,List.length_singleton,Fs.rows_len]; omega))) ?_
    refine uAa rfl rfl rfl (uAg rfl gU rfl rfl) ?_;refine uAt rfl (uBt rfl rfl rfl rfl rfl rfl rfl) ?_;refine uAf ?_;refine uAl (s:=⟨[(2,_,_),(3,_,_),(4,_,_),(5,_,_),(6,_,_)],[(.l 2,_),(.l 3,_),(.l 4,_),(.l 5,_),(.o 0,_)],[(.b (.l 2) 1,_),(.b (.l 2) 2,_),(.b (.l 2) 3,_),(.b (.l 2) 4,_),(.b (.l 2) 5,_)],[]⟩) (uAi (⟨sx rfl,sx rfl,sx rfl,sx rfl,sx rfl,trivial⟩) (⟨sx rfl,sx rfl,sx rfl,sx rfl,sx rfl,trivial⟩) (⟨rfl,rfl,rfl,rfl,rfl,trivial⟩)) ?_;refine uAe (uAb ?_);refine uAa rfl rfl rfl (uAg rfl gU rfl rfl) ?_;refine uAa rfl rfl rfl (uAj rfl gU rfl rfl rfl rfl) ?_;refine uAf ?_;refine uAn rfl (fun hc3=>?_) (fun hc3=>?_)
    ·try simp only [nn,uAh,T.rows_len,Tk.rows_len] at hc3
     rw [frRA,if_pos hc3] at hi
     rw [← hi]
     refine uAl (s:=⟨[(2,_,_),(3,_,_),(4,_,_),(5,_,_)],[(.l 2,_),(.l 3,_),(.l 4,_),(.l 5,_),(.o 0,_)],[(.b (.l 2) 1,_),(.b (.l 2) 2,_),(.b (.l 2) 3,_),(.b (.l 2) 4,_),(.b (.l 2) 5,_)],[]⟩) (uAi (⟨sx rfl,sx rfl,sx rfl,sx rfl,trivial⟩) (⟨sx rfl,sx rfl,sx rfl,sx rfl,sx rfl,trivial⟩) (⟨rfl,rfl,rfl,rfl,rfl,trivial⟩)) ?_;refine uBb (.l 2) rfl (fun w1 w2 w3 w4 w5=>?_);refine uAl (s:=⟨[(2,_,_),(3,_,_),(4,_,_),(5,_,_)],[(.l 2,_),(.l 3,_),(.l 4,_),(.l 5,_),(.o 0,_)],[(.b (.l 2) 1,_),(.b (.l 2) 2,_),(.b (.l 2) 3,_),(.b (.l 2) 4,_),(.b (.l 2) 5,_)],[]⟩) (uAi (⟨sx rfl,sx rfl,sx rfl,sx rfl,trivial⟩) (⟨sx rfl,sx rfl,sx rfl,sx rfl,sx rfl,trivial⟩) (⟨rfl,rfl,rfl,rfl,rfl,trivial⟩)) ?_;refine uAe ?_;refine awp_drawn' (by kernel_rfl) ?_;refine uAD rfl rfl rfl rfl rfl rfl rfl gU rfl rfl rfl rfl rfl ?_;refine uAD rfl rfl rfl rfl rfl rfl rfl gU rfl rfl rfl rfl rfl ?_;refine uAR rfl rfl rfl rfl rfl rfl rfl rfl rfl rfl rfl rfl ?_;refine uAR rfl rfl rfl rfl rfl rfl rfl rfl rfl rfl rfl rfl ?_;refine uA1 (by kernel_rfl) ?_;refine uAl (s:=⟨[(2,_,_),(4,_,_),(5,_,_)],[(.l 2,_),(.l 4,_),(.l 5,_),(.o 0,_)],[(.b (.l 2) 1,_),(.b (.l 2) 2,_),(.b (.l 2) 3,_),(.b (.l 2) 4,_),(.b (.l 2) 5,_)],[]⟩) (uAi (⟨sx rfl,sx rfl,sx rfl,trivial⟩) (⟨sx rfl,sx rfl,sx rfl,sx rfl,trivial⟩) (⟨(ak rfl (ak rfl (ak rfl (ak rfl (rfl))))),(ak rfl (ak rfl (ak rfl (ak rfl (rfl))))),(ak rfl (ak rfl (ak rfl (ak rfl (rfl))))),(ak rfl (ak rfl (ak rfl (ak rfl (rfl))))),(ak rfl (ak rfl (ak rfl (ak rfl (rfl))))),trivial⟩)) ?_
     refine uBh (.l 4) (.l 2) rfl rfl rfl rfl rfl ?_;refine uAl (s:=⟨[(2,_,_),(4,_,_),(5,_,_)],[(.l 2,_),(.l 4,_),(.l 5,_),(.o 0,_)],[(.b (.l 4) 1,_),(.b (.l 4) 2,_),(.b (.l 4) 3,_),(.b (.l 4) 4,_),(.b (.l 4) 5,_)],[]⟩) (uAi (⟨sx rfl,sx rfl,sx rfl,trivial⟩) (⟨sx rfl,sx rfl,sx rfl,sx rfl,trivial⟩) (⟨rfl,rfl,rfl,rfl,rfl,trivial⟩)) ?_;refine uAo ?_
     repeat (first | refine tR ?_ | refine bR ?_)
     refine uBq rfl ?_ ⟨⟨_,rfl,rfl⟩,trivial⟩ (by simp) rfl rfl rfl rfl rfl rfl;exact congrArg (fun z=>X.tup [.agg (narC n.name (strR n.roles) z (strR n.tags) (Sp.rows n.steps) (Gl.rows n.goals)), .agg (pbx l (chR l uBn (uAv l [] q.go).2).2)]) (Fs.rows_app out [⟨role,(uAv l [] q.go).1,(chR l uBn (uAv l [] q.go).2).1⟩]).symm
    ·try simp only [nn,uAh,T.rows_len,Tk.rows_len] at hc3
     rw [frRA,if_neg (by rw [hc3]; simp)] at hi
     have b4:=uK1 hc3
     refine uAp ?_;refine uAb ?_;refine uAa rfl rfl rfl (uAc rfl gU) ?_;refine uAf ?_;refine ⟨((chR l uBn (uAv l [] q.go).2).2,false,out++[⟨role,(uAv l [] q.go).1,(chR l uBn (uAv l [] q.go).2).1⟩]),?_,?_,uAi (⟨⟨_,rfl,?_⟩,⟨sx rfl,sx rfl,sx rfl,sx rfl,sx rfl,trivial⟩⟩) (⟨⟨_,rfl,?_⟩,⟨⟨_,rfl,?_⟩,⟨sx rfl,sx rfl,sx rfl,trivial⟩⟩⟩) (⟨rfl,rfl,rfl,rfl,rfl,trivial⟩)⟩
     ·refine ⟨b3,by dsimp only; simp only [List.length_append,List.length_singleton,Bool.false_eq_true,if_false]; omega,k,by dsimp only; omega,?_⟩
      rw [if_neg (by simp)]; exact hi
     ·dsimp only
      simp only [Bool.false_eq_true,if_false,if_true]
      omega
     all_goals first | rfl | exact congrArg (fun z=>some (narC n.name (strR n.roles) z (strR n.tags) (Sp.rows n.steps) (Gl.rows n.goals))) (Fs.rows_app out [⟨role,(uAv l [] q.go).1,(chR l uBn (uAv l [] q.go).2).1⟩]).symm | exact congrArg (fun z=>narC n.name (strR n.roles) z (strR n.tags) (Sp.rows n.steps) (Gl.rows n.goals)) (Fs.rows_app out [⟨role,(uAv l [] q.go).1,(chR l uBn (uAv l [] q.go).2).1⟩]).symm
   ·exfalso
    simp at hc2
  ·try simp only [nn,uAh,T.rows_len,Tk.rows_len] at hc1
   have hc1:=hc1.2
   rw [if_neg (by rw [hc1]; simp)] at hi
   rw [← hi]
   refine uAO ?_
   repeat (first | refine uAF ?_ | refine uAG ?_ | refine uAC rfl ?_)
   refine uAl (s:=⟨[(2,_,_),(3,_,_),(4,_,_),(5,_,_)],[(.l 2,_),(.l 3,_),(.l 4,_),(.l 5,_),(.o 0,_)],[(.b (.l 2) 1,_),(.b (.l 2) 2,_),(.b (.l 2) 3,_),(.b (.l 2) 4,_),(.b (.l 2) 5,_)],[]⟩) (uAi (⟨sx rfl,sx rfl,sx rfl,sx rfl,trivial⟩) (⟨sx rfl,sx rfl,sx rfl,sx rfl,sx rfl,trivial⟩) (⟨rfl,rfl,rfl,rfl,rfl,trivial⟩)) ?_;refine uBb (.l 2) rfl (fun w1 w2 w3 w4 w5=>?_);refine uAl (s:=⟨[(2,_,_),(3,_,_),(4,_,_),(5,_,_)],[(.l 2,_),(.l 3,_),(.l 4,_),(.l 5,_),(.o 0,_)],[(.b (.l 2) 1,_),(.b (.l 2) 2,_),(.b (.l 2) 3,_),(.b (.l 2) 4,_),(.b (.l 2) 5,_)],[]⟩) (uAi (⟨sx rfl,sx rfl,sx rfl,sx rfl,trivial⟩) (⟨sx rfl,sx rfl,sx rfl,sx rfl,sx rfl,trivial⟩) (⟨rfl,rfl,rfl,rfl,rfl,trivial⟩)) ?_;refine uAe ?_;refine awp_drawn' (by kernel_rfl) ?_;refine uAD rfl rfl rfl rfl rfl rfl rfl gU rfl rfl rfl rfl rfl ?_;refine uAD rfl rfl rfl rfl rfl rfl rfl gU rfl rfl rfl rfl rfl ?_;refine uAR rfl rfl rfl rfl rfl rfl rfl rfl rfl rfl rfl rfl ?_;refine uAR rfl rfl rfl rfl rfl rfl rfl rfl rfl rfl rfl rfl ?_;refine uA1 (by kernel_rfl) ?_;refine uAl (s:=⟨[(2,_,_),(4,_,_),(5,_,_)],[(.l 2,_),(.l 4,_),(.l 5,_),(.o 0,_)],[(.b (.l 2) 1,_),(.b (.l 2) 2,_),(.b (.l 2) 3,_),(.b (.l 2) 4,_),(.b (.l 2) 5,_)],[]⟩) (uAi (⟨sx rfl,sx rfl,sx rfl,trivial⟩) (⟨sx rfl,sx rfl,sx rfl,sx rfl,trivial⟩) (⟨(ak rfl (ak rfl (ak rfl (ak rfl (rfl))))),(ak rfl (ak rfl (ak rfl (ak rfl (rfl))))),(ak rfl (ak rfl (ak rfl (ak rfl (rfl))))),(ak rfl (ak rfl (ak rfl (ak rfl (rfl))))),(ak rfl (ak rfl (ak rfl (ak rfl (rfl))))),trivial⟩)) ?_
   refine uBh (.l 4) (.l 2) rfl rfl rfl rfl rfl ?_;refine uAl (s:=⟨[(2,_,_),(4,_,_),(5,_,_)],[(.l 2,_),(.l 4,_),(.l 5,_),(.o 0,_)],[(.b (.l 4) 1,_),(.b (.l 4) 2,_),(.b (.l 4) 3,_),(.b (.l 4) 4,_),(.b (.l 4) 5,_)],[]⟩) (uAi (⟨sx rfl,sx rfl,sx rfl,trivial⟩) (⟨sx rfl,sx rfl,sx rfl,sx rfl,trivial⟩) (⟨rfl,rfl,rfl,rfl,rfl,trivial⟩)) ?_;refine uAo ?_
   repeat (first | refine tR ?_ | refine bR ?_)
   refine uBq rfl ?_ ⟨⟨_,rfl,rfl⟩,trivial⟩ (by simp) rfl rfl rfl rfl rfl rfl
   rfl
 ·rw [if_pos rfl] at hi
  simp only [if_true] at ho
  have hq2:=hq
  obtain ⟨k,rfl⟩ : ∃ j,k=j + 1:=⟨k - 1,by omega⟩
  refine uAe ?_;refine uAe (uAb ?_);refine uAa rfl rfl rfl (uAd rfl gU) ?_;refine uAa rfl rfl rfl (uAd rfl gU) ?_;refine uAa rfl rfl rfl (uAm rfl gU rfl rfl rfl rfl rfl) ?_;refine uAx rfl rfl rfl rfl rfl rfl gU (fun hh=>gA ((fun hh=>hh) hh) (gA rfl (rfl))) (up (uCg l q _ (by omega) (le3 hl hq))) rfl ?_;refine uAa rfl rfl rfl (uAM rfl rfl gU (fun _ hi=>gP rfl hi)) ?_;refine uAf ?_;refine uAl (s:=⟨[(2,_,_),(3,_,_),(4,_,_),(5,_,_),(6,_,_),(7,_,_),(20,_,_)],[(.l 2,_),(.l 3,_),(.l 4,_),(.l 5,_),(.o 0,_)],[(.b (.l 2) 1,_),(.b (.l 2) 2,_),(.b (.l 2) 3,_),(.b (.l 2) 4,_),(.b (.l 2) 5,_)],[]⟩) (uAi (⟨sx rfl,sx rfl,sx rfl,sx rfl,sx rfl,sx rfl,sx rfl,trivial⟩) (⟨sx rfl,sx rfl,sx rfl,sx rfl,sx rfl,trivial⟩) (⟨rfl,rfl,rfl,rfl,rfl,trivial⟩)) ?_;refine uAn rfl (fun hc1=>?_) (fun hc1=>?_)
  ·refine uAp ?_
   refine uAe ?_;refine uAw ?_;refine uAe ?_;refine uAe (uAb ?_);refine uAa rfl rfl rfl (uAd rfl gU) ?_;refine uAa rfl rfl rfl (uAZ rfl gU) ?_;refine uAf ?_;refine uAn rfl (fun hc2=>?_) (fun hc2=>?_)
   ·exfalso
    simp at hc2
   ·refine uAp ?_
    refine uAe (uAb ?_);refine uAa rfl rfl rfl (uAd rfl gU) ?_;refine uAa rfl rfl rfl (uBf rfl Tryz.underlying79 rfl gU) ?_;refine uAt rfl (uAL rfl rfl rfl) ?_;refine uAt rfl (uAy rfl rfl rfl rfl rfl rfl rfl) ?_;refine uAf ?_;refine uAl (s:=⟨[(2,_,_),(3,_,_),(4,_,_),(5,_,_),(6,_,_),(8,_,_)],[(.l 2,_),(.l 3,_),(.l 4,_),(.l 5,_),(.l 8,_),(.o 0,_)],[(.b (.l 2) 1,_),(.b (.l 2) 2,_),(.b (.l 2) 3,_),(.b (.l 2) 4,_),(.b (.l 2) 5,_)],[]⟩) (uAi (⟨sx rfl,sx rfl,sx rfl,sx rfl,sx rfl,sx rfl,trivial⟩) (⟨sx rfl,sx rfl,sx rfl,sx rfl,sx rfl,sx rfl,trivial⟩) (⟨rfl,rfl,rfl,rfl,rfl,trivial⟩)) ?_;refine uAe (uAb ?_)
    have b1:=(uA4 l [] q).1
    have b2:=(uIn l uBn (uAv l [] q).2).1
    have b3 : (chR l uBn (uAv l [] q).2).2.at'≤l.length:=uDR (uBB hq2)
    refine uAa rfl rfl rfl (uAm rfl gU rfl rfl rfl rfl rfl) ?_;refine uAx rfl rfl rfl rfl rfl rfl gU gU (up (uBx l q (by omega) (le3 hl hq2))) rfl ?_;refine uAa rfl rfl rfl (uAd rfl gU) ?_;refine uAa rfl rfl rfl (uAr rfl gU rfl) ?_;refine uAa rfl rfl rfl (uAr rfl gU rfl) ?_;refine uAa rfl rfl rfl (uAg rfl gU rfl rfl) ?_;refine uAt rfl (uAy rfl rfl rfl rfl rfl rfl rfl) ?_;refine uAt rfl (uAy rfl rfl rfl rfl rfl rfl rfl) ?_;refine uAf ?_;refine uAl (s:=⟨[(2,_,_),(3,_,_),(4,_,_),(5,_,_),(6,_,_),(8,_,_)],[(.l 2,_),(.l 3,_),(.l 4,_),(.l 5,_),(.l 8,_),(.o 0,_)],[(.b (.l 2) 1,_),(.b (.l 2) 2,_),(.b (.l 2) 3,_),(.b (.l 2) 4,_),(.b (.l 2) 5,_)],[]⟩) (uAi (⟨sx rfl,sx rfl,sx rfl,sx rfl,sx rfl,sx rfl,trivial⟩) (⟨sx rfl,sx rfl,sx rfl,sx rfl,sx rfl,sx rfl,trivial⟩) (⟨rfl,rfl,rfl,rfl,rfl,trivial⟩)) ?_;refine uAe ?_;refine awp_drawn' (by kernel_rfl) ?_;refine uAD rfl rfl rfl rfl rfl rfl rfl gU rfl rfl rfl rfl rfl ?_;refine uAS rfl rfl rfl rfl rfl rfl rfl gU gU (up uFQ) rfl ?_;refine uAS rfl rfl rfl rfl rfl rfl rfl gU gU (up (uCU l (uAv l [] q).2 uBn (by omega) (le3 hl (uBB hq2)))) rfl ?_;refine uAq rfl rfl rfl rfl (uAd rfl gU) ?_;refine uAq rfl rfl rfl rfl (uAr rfl gU rfl) ?_;refine uAq rfl rfl rfl rfl (uAr rfl gU rfl) ?_
    refine uAq rfl rfl rfl rfl (uAg rfl gU rfl rfl) ?_;refine uAR rfl rfl rfl rfl rfl rfl rfl rfl rfl rfl rfl rfl ?_;refine uAR rfl rfl rfl rfl rfl rfl rfl rfl rfl rfl rfl rfl ?_;refine uA1 (by kernel_rfl) ?_;refine uAl (s:=⟨[(2,_,_),(3,_,_),(4,_,_),(5,_,_),(6,_,_),(8,_,_)],[(.l 2,_),(.l 3,_),(.l 4,_),(.l 5,_),(.l 8,_),(.o 0,_)],[(.b (.l 2) 1,_),(.b (.l 2) 2,_),(.b (.l 2) 3,_),(.b (.l 2) 4,_),(.b (.l 2) 5,_)],[]⟩) (uAi (⟨sx rfl,sx rfl,sx rfl,sx rfl,sx rfl,sx rfl,trivial⟩) (⟨sx rfl,sx rfl,sx rfl,sx rfl,sx rfl,sx rfl,trivial⟩) (⟨(ak rfl (ak rfl (ak rfl (ak rfl (ak rfl (ak rfl (ak rfl (ak rfl (ak rfl (rfl)))))))))),(ak rfl (ak rfl (ak rfl (ak rfl (ak rfl (ak rfl (ak rfl (ak rfl (ak rfl (rfl)))))))))),(ak rfl (ak rfl (ak rfl (ak rfl (ak rfl (ak rfl (ak rfl (ak rfl (ak rfl (rfl)))))))))),(ak rfl (ak rfl (ak rfl (ak rfl (ak rfl (ak rfl (ak rfl (ak rfl (ak rfl (rfl)))))))))),(ak rfl (ak rfl (ak rfl (ak rfl (ak rfl (ak rfl (ak rfl (ak rfl (ak rfl (rfl)))))))))),trivial⟩)) ?_;refine uAe (uAb ?_);refine uAa rfl rfl rfl (uAg rfl gU rfl rfl) ?_;refine uAt rfl (uBu rfl rfl rfl rfl rfl rfl rfl) ?_;refine uAa rfl rfl rfl (uAm rfl gU rfl rfl rfl rfl rfl) ?_;refine uAT (xs:=[_]) rfl rfl rfl rfl rfl rfl rfl rfl rfl gU rfl ?_;refine uAt rfl (uA0 rfl rfl rfl rfl rfl rfl rfl (by first | omega | (simp only [List.length_append,List.length_singleton,Fs.rows_len]; omega)) (by first | omega | (simp only [List.length_append,List.length_singleton,Fs.rows_len]; omega))) ?_
    refine uAa rfl rfl rfl (uAg rfl gU rfl rfl) ?_;refine uAt rfl (uBt rfl rfl rfl rfl rfl rfl rfl) ?_;refine uAf ?_;refine uAl (s:=⟨[(2,_,_),(3,_,_),(4,_,_),(5,_,_),(6,_,_)],[(.l 2,_),(.l 3,_),(.l 4,_),(.l 5,_),(.o 0,_)],[(.b (.l 2) 1,_),(.b (.l 2) 2,_),(.b (.l 2) 3,_),(.b (.l 2) 4,_),(.b (.l 2) 5,_)],[]⟩) (uAi (⟨sx rfl,sx rfl,sx rfl,sx rfl,sx rfl,trivial⟩) (⟨sx rfl,sx rfl,sx rfl,sx rfl,sx rfl,trivial⟩) (⟨rfl,rfl,rfl,rfl,rfl,trivial⟩)) ?_;refine uAe (uAb ?_);refine uAa rfl rfl rfl (uAg rfl gU rfl rfl) ?_;refine uAa rfl rfl rfl (uAj rfl gU rfl rfl rfl rfl) ?_;refine uAf ?_;refine uAn rfl (fun hc3=>?_) (fun hc3=>?_)
    ·try simp only [nn,uAh,T.rows_len,Tk.rows_len] at hc3
     rw [frRA,if_pos hc3] at hi
     rw [← hi]
     refine uAl (s:=⟨[(2,_,_),(3,_,_),(4,_,_),(5,_,_)],[(.l 2,_),(.l 3,_),(.l 4,_),(.l 5,_),(.o 0,_)],[(.b (.l 2) 1,_),(.b (.l 2) 2,_),(.b (.l 2) 3,_),(.b (.l 2) 4,_),(.b (.l 2) 5,_)],[]⟩) (uAi (⟨sx rfl,sx rfl,sx rfl,sx rfl,trivial⟩) (⟨sx rfl,sx rfl,sx rfl,sx rfl,sx rfl,trivial⟩) (⟨rfl,rfl,rfl,rfl,rfl,trivial⟩)) ?_;refine uBb (.l 2) rfl (fun w1 w2 w3 w4 w5=>?_);refine uAl (s:=⟨[(2,_,_),(3,_,_),(4,_,_),(5,_,_)],[(.l 2,_),(.l 3,_),(.l 4,_),(.l 5,_),(.o 0,_)],[(.b (.l 2) 1,_),(.b (.l 2) 2,_),(.b (.l 2) 3,_),(.b (.l 2) 4,_),(.b (.l 2) 5,_)],[]⟩) (uAi (⟨sx rfl,sx rfl,sx rfl,sx rfl,trivial⟩) (⟨sx rfl,sx rfl,sx rfl,sx rfl,sx rfl,trivial⟩) (⟨rfl,rfl,rfl,rfl,rfl,trivial⟩)) ?_;refine uAe ?_;refine awp_drawn' (by kernel_rfl) ?_;refine uAD rfl rfl rfl rfl rfl rfl rfl gU rfl rfl rfl rfl rfl ?_;refine uAD rfl rfl rfl rfl rfl rfl rfl gU rfl rfl rfl rfl rfl ?_;refine uAR rfl rfl rfl rfl rfl rfl rfl rfl rfl rfl rfl rfl ?_;refine uAR rfl rfl rfl rfl rfl rfl rfl rfl rfl rfl rfl rfl ?_;refine uA1 (by kernel_rfl) ?_;refine uAl (s:=⟨[(2,_,_),(4,_,_),(5,_,_)],[(.l 2,_),(.l 4,_),(.l 5,_),(.o 0,_)],[(.b (.l 2) 1,_),(.b (.l 2) 2,_),(.b (.l 2) 3,_),(.b (.l 2) 4,_),(.b (.l 2) 5,_)],[]⟩) (uAi (⟨sx rfl,sx rfl,sx rfl,trivial⟩) (⟨sx rfl,sx rfl,sx rfl,sx rfl,trivial⟩) (⟨(ak rfl (ak rfl (ak rfl (ak rfl (rfl))))),(ak rfl (ak rfl (ak rfl (ak rfl (rfl))))),(ak rfl (ak rfl (ak rfl (ak rfl (rfl))))),(ak rfl (ak rfl (ak rfl (ak rfl (rfl))))),(ak rfl (ak rfl (ak rfl (ak rfl (rfl))))),trivial⟩)) ?_
     refine uBh (.l 4) (.l 2) rfl rfl rfl rfl rfl ?_;refine uAl (s:=⟨[(2,_,_),(4,_,_),(5,_,_)],[(.l 2,_),(.l 4,_),(.l 5,_),(.o 0,_)],[(.b (.l 4) 1,_),(.b (.l 4) 2,_),(.b (.l 4) 3,_),(.b (.l 4) 4,_),(.b (.l 4) 5,_)],[]⟩) (uAi (⟨sx rfl,sx rfl,sx rfl,trivial⟩) (⟨sx rfl,sx rfl,sx rfl,sx rfl,trivial⟩) (⟨rfl,rfl,rfl,rfl,rfl,trivial⟩)) ?_;refine uAo ?_
     repeat (first | refine tR ?_ | refine bR ?_)
     refine uBq rfl ?_ ⟨⟨_,rfl,rfl⟩,trivial⟩ (by simp) rfl rfl rfl rfl rfl rfl;exact congrArg (fun z=>X.tup [.agg (narC n.name (strR n.roles) z (strR n.tags) (Sp.rows n.steps) (Gl.rows n.goals)), .agg (pbx l (chR l uBn (uAv l [] q).2).2)]) (Fs.rows_app out [⟨role,(uAv l [] q).1,(chR l uBn (uAv l [] q).2).1⟩]).symm
    ·try simp only [nn,uAh,T.rows_len,Tk.rows_len] at hc3
     rw [frRA,if_neg (by rw [hc3]; simp)] at hi
     have b4:=uK1 hc3
     refine uAp ?_;refine uAb ?_;refine uAa rfl rfl rfl (uAc rfl gU) ?_;refine uAf ?_;refine ⟨((chR l uBn (uAv l [] q).2).2,false,out++[⟨role,(uAv l [] q).1,(chR l uBn (uAv l [] q).2).1⟩]),?_,?_,uAi (⟨⟨_,rfl,?_⟩,⟨sx rfl,sx rfl,sx rfl,sx rfl,sx rfl,trivial⟩⟩) (⟨⟨_,rfl,?_⟩,⟨⟨_,rfl,?_⟩,⟨sx rfl,sx rfl,sx rfl,trivial⟩⟩⟩) (⟨rfl,rfl,rfl,rfl,rfl,trivial⟩)⟩
     ·refine ⟨b3,by dsimp only; simp only [List.length_append,List.length_singleton,Bool.false_eq_true,if_false]; omega,k,by dsimp only; omega,?_⟩
      rw [if_neg (by simp)]; exact hi
     ·dsimp only
      simp only [Bool.false_eq_true,if_false,if_true]
      omega
     all_goals first | rfl | exact congrArg (fun z=>some (narC n.name (strR n.roles) z (strR n.tags) (Sp.rows n.steps) (Gl.rows n.goals))) (Fs.rows_app out [⟨role,(uAv l [] q).1,(chR l uBn (uAv l [] q).2).1⟩]).symm | exact congrArg (fun z=>narC n.name (strR n.roles) z (strR n.tags) (Sp.rows n.steps) (Gl.rows n.goals)) (Fs.rows_app out [⟨role,(uAv l [] q).1,(chR l uBn (uAv l [] q).2).1⟩]).symm
  ·exfalso
   simp at hc1
end Go.Proofs.YteidahabkfgfjaaGreat
namespace Go.Proofs.YteidahabkfgfjaaGreat
open Go Go.Abs
theorem uJy (l : List Tk) (n : Nar) (line : Int) (q : PS) : uB0 l n line 1 q=({ n with roles:=n.roles++(uBs l q).1 },(uBs l q).2):=by rw [uB0,if_pos rfl]
theorem uI4 (l : List Tk) (n : Nar) (line : Int) (q : PS) : uB0 l n line 2 q=({ n with fresh:=(frRd l q n.fresh).1 },(frRd l q n.fresh).2):=by rw [uB0,if_neg (by decide),if_pos rfl]
theorem uIT (l : List Tk) (n : Nar) (line : Int) (q : PS) : uB0 l n line 3 q=({ n with tags:=n.tags++(uBs l q).1 },(uBs l q).2):=by rw [uB0,if_neg (by decide),if_neg (by decide),if_pos rfl]
theorem uIr (l : List Tk) (n : Nar) (line : Int) (q : PS) : uB0 l n line 4 q=({ n with steps:=n.steps++[(uD3 l line q).1] },(uD3 l line q).2):=by rw [uB0,if_neg (by decide),if_neg (by decide),if_neg (by decide),if_pos rfl]
theorem uII (l : List Tk) (n : Nar) (line : Int) (q : PS) : uB0 l n line 5 q=({ n with goals:=n.goals++[(uDx l line q).1] },(uDx l line q).2):=by rw [uB0,if_neg (by decide),if_neg (by decide),if_neg (by decide),if_neg (by decide),if_pos rfl]
theorem uJE (l : List Tk) (n : Nar) (line : Int) (q : PS) {k : Int} (h1 : k≠1) (h2 : k≠2) (h3 : k≠3) (h4 : k≠4) (h5 : k≠5) : uB0 l n line k q=(n,q):=by rw [uB0,if_neg h1,if_neg h2,if_neg h3,if_neg h4,if_neg h5]
theorem uB3 {l : List Tk} {n n' : Nar} {p q : PS} {line : Int} {k : Int} (hw : chR l uDo p=(k,q)) (hl : uCj l p=line) {r : PS} (h : uB0 l n line k q=(n',r)) : uDJ l n p=(n',uAP l [59] r):=by
 unfold uDJ; rw [hl,hw]; dsimp only; rw [h]
theorem uNz (l : List Tk) (out : List Fs) : Fwd l (fun p=>frRd l p out):=fun p=>by
 have h:=(uIU l out p).1
 have h2:=uHl l out p
 dsimp only at h h2 ⊢
 rw [h]; exact h2
theorem uMz (l : List Tk) (line : Int) : Fwd l (uD3 l line):=fun p=>by rw [(uJz l line p).1]; exact uG8 l line p
theorem uNb (l : List Tk) (line : Int) : Fwd l (uDx l line):=fun p=>by rw [(uIA l line p).1]; exact uG1 l line p
set_option maxHeartbeats 16000000 in
theorem uJQ (l : List Tk) (p : PS) (n : Nar) (u1 u2 u3 u4 u5 : Value) (hl : l.length≤2000000) (hp : p.at'≤l.length) (hn : n.Le 2000000) :
  CtrO sysO 108 [.v (.agg (soC n u1 u2 u3 u4 u5)),xr l p] [soC n u1 u2 u3 u4 u5] osR (xnr l (uDJ l n p)) [soC n u1 u2 u3 u4 u5] .res:=by
 have hrl:=Tk.rows_len l
 have hr1:=uAh n.roles
 have hr2:=uAh n.tags
 have hq1:=uDR (ws:=uDo) hp
 obtain ⟨b1,b2,b3,b4,b5⟩:=hn
 obtain ⟨k,q,hk⟩ : ∃ k q,chR l uDo p=(k,q):=⟨_,_,rfl⟩
 have hns:=uCU l p uDo (by omega) (by omega)
 rw [hk] at hns hq1
 dsimp only at hns hq1
 have hnl : (uBs l q).1.length≤2000001:=by
  have h1:=uEt (uA4 l []) q
  have h2:=(uCz (uA4 l []) q).2 hq1
  unfold uBs; omega
 have hnr:=uAh (uBs l q).1
 have hq2 : (uBs l q).2.at'≤l.length:=(uCz (uA4 l []) q).2 hq1
 have hq3 : (frRd l q n.fresh).2.at'≤l.length:=(uNz l n.fresh q).2 hq1
 have hq4 : ∀ line,(uD3 l line q).2.at'≤l.length:=fun line=>(uMz l line q).2 hq1
 have hq5 : ∀ line,(uDx l line q).2.at'≤l.length:=fun line=>(uNb l line q).2 hq1
 refine uBY Tryz.func108 rfl rfl rfl rfl rfl rfl rfl ?_;refine uAe (uAb ?_);refine uAt rfl (uAI rfl rfl rfl rfl) ?_;refine uAt rfl (uAI rfl rfl rfl rfl) ?_;refine uAt rfl (uAL rfl rfl rfl) ?_;refine uAt rfl (uAL rfl rfl rfl) ?_;refine uAf ?_;refine uAl (s:=⟨[(2,_,_),(3,_,_),(4,_,_),(5,_,_)],[(.l 2,_),(.l 3,_),(.l 4,_),(.l 5,_),(.o 0,_)],[(.b (.o 0) 1,_),(.b (.o 0) 2,_),(.b (.o 0) 3,_),(.b (.o 0) 4,_),(.b (.o 0) 5,_)],[]⟩) (uAi (⟨sx rfl,sx rfl,sx rfl,sx rfl,trivial⟩) (⟨sx rfl,sx rfl,sx rfl,sx rfl,sx rfl,trivial⟩) (⟨rfl,rfl,rfl,rfl,rfl,trivial⟩)) ?_;refine uBh (.l 2) (.o 0) rfl rfl rfl rfl rfl ?_;refine uAl (s:=⟨[(2,_,_),(3,_,_),(4,_,_),(5,_,_)],[(.l 2,_),(.l 3,_),(.l 4,_),(.l 5,_),(.o 0,_)],[(.b (.l 2) 1,_),(.b (.l 2) 2,_),(.b (.l 2) 3,_),(.b (.l 2) 4,_),(.b (.l 2) 5,_)],[]⟩) (uAi (⟨sx rfl,sx rfl,sx rfl,sx rfl,trivial⟩) (⟨sx rfl,sx rfl,sx rfl,sx rfl,sx rfl,trivial⟩) (⟨rfl,rfl,rfl,rfl,rfl,trivial⟩)) ?_;refine uAe (uAb ?_);refine uAa rfl rfl rfl (uAc rfl gU) ?_;refine uAf ?_;refine uAe ?_;refine uAe (uAb ?_);refine uAa rfl rfl rfl (uAg rfl gU rfl rfl) ?_;refine uAa rfl rfl rfl (uAj rfl gU rfl rfl rfl rfl) ?_;refine uAa rfl rfl rfl (uAg rfl gU rfl rfl) ?_
 refine uAa rfl rfl rfl (uAj rfl gU rfl rfl rfl rfl) ?_;refine uAN rfl rfl rfl rfl rfl gU rfl rfl ?_ (fun hh=>by simp at hh); intro hlen;refine uAa rfl rfl rfl (uAk rfl rfl gU gU rfl) ?_;refine uAf ?_;refine uAl (s:=⟨[(2,_,_),(3,_,_),(4,_,_),(5,_,_),(6,_,_),(14,_,_)],[(.l 2,_),(.l 3,_),(.l 4,_),(.l 5,_),(.o 0,_)],[(.b (.l 2) 1,_),(.b (.l 2) 2,_),(.b (.l 2) 3,_),(.b (.l 2) 4,_),(.b (.l 2) 5,_)],[]⟩) (uAi (⟨sx rfl,sx rfl,sx rfl,sx rfl,sx rfl,sx rfl,trivial⟩) (⟨sx rfl,sx rfl,sx rfl,sx rfl,sx rfl,trivial⟩) (⟨rfl,rfl,rfl,rfl,rfl,trivial⟩)) ?_;refine uAn rfl (fun hcx=>?_) (fun hcx=>?_)
 ·try simp only [nn,uAh,T.rows_len,Tk.rows_len] at hcx
  have hline : uCj l p=(l.getD p.at' tk0).line:=by rw [uCj,if_pos (by omega)]
  refine uAb ?_;refine uAa rfl rfl rfl (uAg rfl gU rfl rfl) ?_;refine uAa rfl rfl rfl (uAj rfl gU rfl rfl rfl rfl) ?_;refine uAa rfl rfl rfl (uAg rfl gU rfl rfl) ?_;refine uAa rfl rfl rfl (uAj rfl gU rfl rfl rfl rfl) ?_;refine uAa rfl rfl rfl (uAu (j:=p.at') rfl rfl gU gU rfl rfl (by first | omega | (simp at hh ⊢; omega)) (fun hh=>Tk.rows_at (by first | omega | (simp at hh ⊢; omega)))) ?_;refine uAa rfl rfl rfl (uA2 rfl gU rfl rfl) ?_;refine uAa rfl rfl rfl (uAQ rfl gU rfl rfl rfl) ?_;refine uAa rfl rfl rfl (uAc rfl gU) ?_;refine uAf ?_;refine uAl (s:=⟨[(2,_,_),(3,_,_),(4,_,_),(5,_,_),(6,_,_)],[(.l 2,_),(.l 3,_),(.l 4,_),(.l 5,_),(.o 0,_)],[(.b (.l 2) 1,_),(.b (.l 2) 2,_),(.b (.l 2) 3,_),(.b (.l 2) 4,_),(.b (.l 2) 5,_)],[]⟩) (uAi (⟨sx rfl,sx rfl,sx rfl,sx rfl,sx rfl,trivial⟩) (⟨sx rfl,sx rfl,sx rfl,sx rfl,sx rfl,trivial⟩) (⟨rfl,rfl,rfl,rfl,rfl,trivial⟩)) ?_;refine uAe (uAb ?_);refine uAa rfl rfl rfl (uAm rfl gU rfl rfl rfl rfl rfl) ?_;refine uAT (xs:=[_,_,_,_,_,_]) rfl rfl rfl rfl rfl rfl rfl rfl rfl gU rfl ?_;refine uAx rfl rfl rfl rfl rfl rfl gU gU (up hns) rfl ?_;refine uAa rfl rfl rfl (uAd rfl gU) ?_;refine uAa rfl rfl rfl (uAr rfl gU rfl) ?_;refine uAa rfl rfl rfl (uAr rfl gU rfl) ?_
  refine uAa rfl rfl rfl (uAc rfl gU) ?_;refine uAt rfl (uAy rfl rfl rfl rfl rfl rfl rfl) ?_;refine uAf ?_;refine uAl (s:=⟨[(2,_,_),(3,_,_),(4,_,_),(5,_,_),(6,_,_),(7,_,_)],[(.l 2,_),(.l 3,_),(.l 4,_),(.l 5,_),(.o 0,_)],[(.b (.l 2) 1,_),(.b (.l 2) 2,_),(.b (.l 2) 3,_),(.b (.l 2) 4,_),(.b (.l 2) 5,_)],[]⟩) (uAi (⟨sx rfl,sx rfl,sx rfl,sx rfl,sx rfl,sx rfl,trivial⟩) (⟨sx rfl,sx rfl,sx rfl,sx rfl,sx rfl,trivial⟩) (⟨rfl,rfl,rfl,rfl,rfl,trivial⟩)) ?_;refine uAe (uAb ?_);refine uAt rfl (uBw (.inr rfl) rfl rfl) ?_;refine uAf ?_;refine uAe ?_;refine uAe (uAb ?_);refine uAa rfl rfl rfl (uAd rfl gU) ?_;refine uAf ?_;refine uAw ?_;refine uAe (uAb ?_);refine uAa rfl rfl rfl (uAk rfl rfl gU gU rfl) ?_;refine uAa rfl rfl rfl (uAc rfl gU) ?_;refine uAf ?_;refine uAn rfl (fun hcu1=>?_) (fun hcu1=>?_)
  ·try simp only [nn,uAh,T.rows_len,Tk.rows_len] at hcu1
   subst hcu1
   rw [uB3 hk hline (uJy l n (l.getD p.at' tk0).line q)]
   refine uAe (uAb ?_);refine uAa rfl rfl rfl (uAm rfl gU rfl rfl rfl rfl rfl) ?_;refine uAx rfl rfl rfl rfl rfl rfl gU gU (up (uCM l q (by omega) hq1)) rfl ?_;refine uAa rfl rfl rfl (uAd rfl gU) ?_;refine uAa rfl rfl rfl (uAr rfl gU rfl) ?_;refine uAa rfl rfl rfl (uAr rfl gU rfl) ?_;refine uAa rfl rfl rfl (uAc rfl gU) ?_;refine uAt rfl (uAy rfl rfl rfl rfl rfl rfl rfl) ?_;refine uAf ?_;refine uAl (s:=⟨[(2,_,_),(3,_,_),(4,_,_),(5,_,_),(8,_,_)],[(.l 2,_),(.l 3,_),(.l 4,_),(.l 5,_),(.o 0,_)],[(.b (.l 2) 1,_),(.b (.l 2) 2,_),(.b (.l 2) 3,_),(.b (.l 2) 4,_),(.b (.l 2) 5,_)],[]⟩) (uAi (⟨sx rfl,sx rfl,sx rfl,sx rfl,sx rfl,trivial⟩) (⟨sx rfl,sx rfl,sx rfl,sx rfl,sx rfl,trivial⟩) (⟨rfl,rfl,rfl,rfl,rfl,trivial⟩)) ?_;refine uAb ?_;refine uAa rfl rfl rfl (uAg rfl gU rfl rfl) ?_;refine uAt rfl (uBu rfl rfl rfl rfl rfl rfl rfl) ?_;refine uAa rfl rfl rfl (uAd rfl gU) ?_;refine uAt rfl (uA0 rfl rfl rfl rfl rfl rfl rfl (by first | omega | (simp only [List.length_append,List.length_singleton,uAh]; omega)) (by first | omega | (simp only [List.length_append,List.length_singleton,uAh]; omega))) ?_;refine uAa rfl rfl rfl (uAg rfl gU rfl rfl) ?_;refine uAt rfl (uBt rfl rfl rfl rfl rfl rfl rfl) ?_
   refine uAf ?_;refine uAl (s:=⟨[(2,_,_),(3,_,_),(4,_,_),(5,_,_)],[(.l 2,_),(.l 3,_),(.l 4,_),(.l 5,_),(.o 0,_)],[(.b (.l 2) 1,_),(.b (.l 2) 2,_),(.b (.l 2) 3,_),(.b (.l 2) 4,_),(.b (.l 2) 5,_)],[]⟩) (uAi (⟨sx rfl,sx rfl,sx rfl,sx rfl,trivial⟩) (⟨sx rfl,sx rfl,sx rfl,sx rfl,sx rfl,trivial⟩) (⟨rfl,rfl,rfl,rfl,rfl,trivial⟩)) ?_;refine uAl (s:=⟨[(2,_,_),(3,_,_),(4,_,_),(5,_,_)],[(.l 2,_),(.l 3,_),(.l 4,_),(.l 5,_),(.o 0,_)],[(.b (.l 2) 1,_),(.b (.l 2) 2,_),(.b (.l 2) 3,_),(.b (.l 2) 4,_),(.b (.l 2) 5,_)],[]⟩) (uAi (⟨sx rfl,sx rfl,sx rfl,sx rfl,trivial⟩) (⟨sx rfl,sx rfl,sx rfl,sx rfl,sx rfl,trivial⟩) (⟨rfl,rfl,rfl,rfl,rfl,trivial⟩)) ?_;refine uBb (.l 2) rfl (fun w1 w2 w3 w4 w5=>?_);refine uAl (s:=⟨[(2,_,_),(3,_,_),(4,_,_),(5,_,_)],[(.l 2,_),(.l 3,_),(.l 4,_),(.l 5,_),(.o 0,_)],[(.b (.l 2) 1,_),(.b (.l 2) 2,_),(.b (.l 2) 3,_),(.b (.l 2) 4,_),(.b (.l 2) 5,_)],[]⟩) (uAi (⟨sx rfl,sx rfl,sx rfl,sx rfl,trivial⟩) (⟨sx rfl,sx rfl,sx rfl,sx rfl,sx rfl,trivial⟩) (⟨rfl,rfl,rfl,rfl,rfl,trivial⟩)) ?_;refine uAe ?_;refine awp_drawn' (by kernel_rfl) ?_;refine uAD rfl rfl rfl rfl rfl rfl rfl gU rfl rfl rfl rfl rfl ?_;refine uAD rfl rfl rfl rfl rfl rfl rfl gU rfl rfl rfl rfl rfl ?_
   refine uAS rfl rfl rfl rfl rfl rfl rfl gU gU (up (uAU l _ _ (by omega) (le3 hl (by first | assumption | (dsimp only; first | assumption | exact hq4 _ | exact hq5 _))))) rfl ?_;refine uAR rfl rfl rfl rfl rfl rfl rfl rfl rfl rfl rfl rfl ?_;refine uAR rfl rfl rfl rfl rfl rfl rfl rfl rfl rfl rfl rfl ?_;refine uA1 (by kernel_rfl) ?_;refine uAl (s:=⟨[(2,_,_),(4,_,_),(5,_,_)],[(.l 2,_),(.l 4,_),(.l 5,_),(.o 0,_)],[(.b (.l 2) 1,_),(.b (.l 2) 2,_),(.b (.l 2) 3,_),(.b (.l 2) 4,_),(.b (.l 2) 5,_)],[]⟩) (uAi (⟨sx rfl,sx rfl,sx rfl,trivial⟩) (⟨sx rfl,sx rfl,sx rfl,sx rfl,trivial⟩) (⟨(ak rfl (ak rfl (ak rfl (ak rfl (ak rfl (rfl)))))),(ak rfl (ak rfl (ak rfl (ak rfl (ak rfl (rfl)))))),(ak rfl (ak rfl (ak rfl (ak rfl (ak rfl (rfl)))))),(ak rfl (ak rfl (ak rfl (ak rfl (ak rfl (rfl)))))),(ak rfl (ak rfl (ak rfl (ak rfl (ak rfl (rfl)))))),trivial⟩)) ?_;refine uBh (.l 4) (.l 2) rfl rfl rfl rfl rfl ?_;refine uAl (s:=⟨[(2,_,_),(4,_,_),(5,_,_)],[(.l 2,_),(.l 4,_),(.l 5,_),(.o 0,_)],[(.b (.l 4) 1,_),(.b (.l 4) 2,_),(.b (.l 4) 3,_),(.b (.l 4) 4,_),(.b (.l 4) 5,_)],[]⟩) (uAi (⟨sx rfl,sx rfl,sx rfl,trivial⟩) (⟨sx rfl,sx rfl,sx rfl,sx rfl,trivial⟩) (⟨rfl,rfl,rfl,rfl,rfl,trivial⟩)) ?_;refine uAo ?_
   repeat (first | refine tR ?_ | refine bR ?_)
   refine uBq rfl ?_ ⟨⟨_,rfl,rfl⟩,trivial⟩ (by simp) rfl rfl rfl rfl rfl rfl;exact congrArg (fun z=>X.tup [.agg (narC n.name z (Fs.rows n.fresh) (strR n.tags) (Sp.rows n.steps) (Gl.rows n.goals)), .agg (pbx l (uAP l [59] (uBs l q).2))]) (uD4 _ _).symm
  ·try simp only [nn,uAh,T.rows_len,Tk.rows_len] at hcu1
   refine uAe (uAb ?_);refine uAa rfl rfl rfl (uAk rfl rfl gU gU rfl) ?_;refine uAa rfl rfl rfl (uAc rfl gU) ?_;refine uAf ?_;refine uAl (s:=⟨[(2,_,_),(3,_,_),(4,_,_),(5,_,_),(6,_,_),(28,_,_),(41,_,_)],[(.l 2,_),(.l 3,_),(.l 4,_),(.l 5,_),(.o 0,_)],[(.b (.l 2) 1,_),(.b (.l 2) 2,_),(.b (.l 2) 3,_),(.b (.l 2) 4,_),(.b (.l 2) 5,_)],[]⟩) (uAi (⟨sx rfl,sx rfl,sx rfl,sx rfl,sx rfl,sx rfl,sx rfl,trivial⟩) (⟨sx rfl,sx rfl,sx rfl,sx rfl,sx rfl,trivial⟩) (⟨rfl,rfl,rfl,rfl,rfl,trivial⟩)) ?_;refine uAn rfl (fun hcu2=>?_) (fun hcu2=>?_)
   ·try simp only [nn,uAh,T.rows_len,Tk.rows_len] at hcu2
    subst hcu2
    rw [uB3 hk hline (uI4 l n (l.getD p.at' tk0).line q)]
    refine uAl (s:=⟨[(2,_,_),(3,_,_),(4,_,_),(5,_,_)],[(.l 2,_),(.l 3,_),(.l 4,_),(.l 5,_),(.o 0,_)],[(.b (.l 2) 1,_),(.b (.l 2) 2,_),(.b (.l 2) 3,_),(.b (.l 2) 4,_),(.b (.l 2) 5,_)],[]⟩) (uAi (⟨sx rfl,sx rfl,sx rfl,sx rfl,trivial⟩) (⟨sx rfl,sx rfl,sx rfl,sx rfl,sx rfl,trivial⟩) (⟨rfl,rfl,rfl,rfl,rfl,trivial⟩)) ?_;refine uBb (.l 2) rfl (fun w1 w2 w3 w4 w5=>?_);refine uAl (s:=⟨[(2,_,_),(3,_,_),(4,_,_),(5,_,_)],[(.l 2,_),(.l 3,_),(.l 4,_),(.l 5,_),(.o 0,_)],[(.b (.l 2) 1,_),(.b (.l 2) 2,_),(.b (.l 2) 3,_),(.b (.l 2) 4,_),(.b (.l 2) 5,_)],[]⟩) (uAi (⟨sx rfl,sx rfl,sx rfl,sx rfl,trivial⟩) (⟨sx rfl,sx rfl,sx rfl,sx rfl,sx rfl,trivial⟩) (⟨rfl,rfl,rfl,rfl,rfl,trivial⟩)) ?_;refine uAb ?_;refine uAa rfl rfl rfl (uAm rfl gU rfl rfl rfl rfl rfl) ?_;refine uAa rfl rfl rfl (uAm rfl gU rfl rfl rfl rfl rfl) ?_;refine uDh (.l 2) (.l 3) osR rfl rfl rfl rfl rfl rfl ⟨rfl,rfl,rfl,rfl,rfl,rfl⟩ ⟨rfl,rfl,rfl,rfl,rfl,rfl⟩ rfl rfl rfl rfl rfl rfl rfl rfl rfl ⟨rfl,rfl⟩ rfl (uEh l q n w1 w2 w3 w4 w5 hl hq1 (by omega)) rfl rfl rfl rfl rfl rfl rfl rfl ?_;refine uAf ?_;refine uAl (s:=⟨[(2,_,_),(3,_,_),(4,_,_),(5,_,_)],[(.l 2,_),(.l 3,_),(.l 4,_),(.l 5,_),(.o 0,_)],[(.b (.l 2) 1,_),(.b (.l 2) 2,_),(.b (.l 2) 3,_),(.b (.l 2) 4,_),(.b (.l 2) 5,_)],[]⟩) (uAi (⟨sx rfl,sx rfl,sx rfl,sx rfl,trivial⟩) (⟨sx rfl,sx rfl,sx rfl,sx rfl,sx rfl,trivial⟩) (⟨rfl,rfl,rfl,rfl,rfl,trivial⟩)) ?_
    refine uAl (s:=⟨[(2,_,_),(3,_,_),(4,_,_),(5,_,_)],[(.l 2,_),(.l 3,_),(.l 4,_),(.l 5,_),(.o 0,_)],[(.b (.l 2) 1,_),(.b (.l 2) 2,_),(.b (.l 2) 3,_),(.b (.l 2) 4,_),(.b (.l 2) 5,_)],[]⟩) (uAi (⟨sx rfl,sx rfl,sx rfl,sx rfl,trivial⟩) (⟨sx rfl,sx rfl,sx rfl,sx rfl,sx rfl,trivial⟩) (⟨rfl,rfl,rfl,rfl,rfl,trivial⟩)) ?_;refine uBb (.l 2) rfl (fun w1 w2 w3 w4 w5=>?_);refine uAl (s:=⟨[(2,_,_),(3,_,_),(4,_,_),(5,_,_)],[(.l 2,_),(.l 3,_),(.l 4,_),(.l 5,_),(.o 0,_)],[(.b (.l 2) 1,_),(.b (.l 2) 2,_),(.b (.l 2) 3,_),(.b (.l 2) 4,_),(.b (.l 2) 5,_)],[]⟩) (uAi (⟨sx rfl,sx rfl,sx rfl,sx rfl,trivial⟩) (⟨sx rfl,sx rfl,sx rfl,sx rfl,sx rfl,trivial⟩) (⟨rfl,rfl,rfl,rfl,rfl,trivial⟩)) ?_;refine uAe ?_;refine awp_drawn' (by kernel_rfl) ?_;refine uAD rfl rfl rfl rfl rfl rfl rfl gU rfl rfl rfl rfl rfl ?_;refine uAD rfl rfl rfl rfl rfl rfl rfl gU rfl rfl rfl rfl rfl ?_;refine uAS rfl rfl rfl rfl rfl rfl rfl gU gU (up (uAU l _ _ (by omega) (le3 hl (by first | assumption | (dsimp only; first | assumption | exact hq4 _ | exact hq5 _))))) rfl ?_;refine uAR rfl rfl rfl rfl rfl rfl rfl rfl rfl rfl rfl rfl ?_;refine uAR rfl rfl rfl rfl rfl rfl rfl rfl rfl rfl rfl rfl ?_;refine uA1 (by kernel_rfl) ?_;refine uAl (s:=⟨[(2,_,_),(4,_,_),(5,_,_)],[(.l 2,_),(.l 4,_),(.l 5,_),(.o 0,_)],[(.b (.l 2) 1,_),(.b (.l 2) 2,_),(.b (.l 2) 3,_),(.b (.l 2) 4,_),(.b (.l 2) 5,_)],[]⟩) (uAi (⟨sx rfl,sx rfl,sx rfl,trivial⟩) (⟨sx rfl,sx rfl,sx rfl,sx rfl,trivial⟩) (⟨(ak rfl (ak rfl (ak rfl (ak rfl (ak rfl (rfl)))))),(ak rfl (ak rfl (ak rfl (ak rfl (ak rfl (rfl)))))),(ak rfl (ak rfl (ak rfl (ak rfl (ak rfl (rfl)))))),(ak rfl (ak rfl (ak rfl (ak rfl (ak rfl (rfl)))))),(ak rfl (ak rfl (ak rfl (ak rfl (ak rfl (rfl)))))),trivial⟩)) ?_
    refine uBh (.l 4) (.l 2) rfl rfl rfl rfl rfl ?_;refine uAl (s:=⟨[(2,_,_),(4,_,_),(5,_,_)],[(.l 2,_),(.l 4,_),(.l 5,_),(.o 0,_)],[(.b (.l 4) 1,_),(.b (.l 4) 2,_),(.b (.l 4) 3,_),(.b (.l 4) 4,_),(.b (.l 4) 5,_)],[]⟩) (uAi (⟨sx rfl,sx rfl,sx rfl,trivial⟩) (⟨sx rfl,sx rfl,sx rfl,sx rfl,trivial⟩) (⟨rfl,rfl,rfl,rfl,rfl,trivial⟩)) ?_;refine uAo ?_
    repeat (first | refine tR ?_ | refine bR ?_)
    refine uBq rfl ?_ ⟨⟨_,rfl,rfl⟩,trivial⟩ (by simp) rfl rfl rfl rfl rfl rfl
    rfl
   ·try simp only [nn,uAh,T.rows_len,Tk.rows_len] at hcu2
    refine uAe (uAb ?_);refine uAa rfl rfl rfl (uAk rfl rfl gU gU rfl) ?_;refine uAa rfl rfl rfl (uAc rfl gU) ?_;refine uAf ?_;refine uAn rfl (fun hcu3=>?_) (fun hcu3=>?_)
    ·try simp only [nn,uAh,T.rows_len,Tk.rows_len] at hcu3
     subst hcu3
     rw [uB3 hk hline (uIT l n (l.getD p.at' tk0).line q)]
     refine uAe (uAb ?_);refine uAa rfl rfl rfl (uAm rfl gU rfl rfl rfl rfl rfl) ?_;refine uAx rfl rfl rfl rfl rfl rfl gU gU (up (uCM l q (by omega) hq1)) rfl ?_;refine uAa rfl rfl rfl (uAd rfl gU) ?_;refine uAa rfl rfl rfl (uAr rfl gU rfl) ?_;refine uAa rfl rfl rfl (uAr rfl gU rfl) ?_;refine uAa rfl rfl rfl (uAc rfl gU) ?_;refine uAt rfl (uAy rfl rfl rfl rfl rfl rfl rfl) ?_;refine uAf ?_;refine uAl (s:=⟨[(2,_,_),(3,_,_),(4,_,_),(5,_,_),(8,_,_)],[(.l 2,_),(.l 3,_),(.l 4,_),(.l 5,_),(.o 0,_)],[(.b (.l 2) 1,_),(.b (.l 2) 2,_),(.b (.l 2) 3,_),(.b (.l 2) 4,_),(.b (.l 2) 5,_)],[]⟩) (uAi (⟨sx rfl,sx rfl,sx rfl,sx rfl,sx rfl,trivial⟩) (⟨sx rfl,sx rfl,sx rfl,sx rfl,sx rfl,trivial⟩) (⟨rfl,rfl,rfl,rfl,rfl,trivial⟩)) ?_;refine uAb ?_;refine uAa rfl rfl rfl (uAg rfl gU rfl rfl) ?_;refine uAt rfl (uBu rfl rfl rfl rfl rfl rfl rfl) ?_;refine uAa rfl rfl rfl (uAd rfl gU) ?_;refine uAt rfl (uA0 rfl rfl rfl rfl rfl rfl rfl (by first | omega | (simp only [List.length_append,List.length_singleton,uAh]; omega)) (by first | omega | (simp only [List.length_append,List.length_singleton,uAh]; omega))) ?_;refine uAa rfl rfl rfl (uAg rfl gU rfl rfl) ?_;refine uAt rfl (uBt rfl rfl rfl rfl rfl rfl rfl) ?_
     refine uAf ?_;refine uAl (s:=⟨[(2,_,_),(3,_,_),(4,_,_),(5,_,_)],[(.l 2,_),(.l 3,_),(.l 4,_),(.l 5,_),(.o 0,_)],[(.b (.l 2) 1,_),(.b (.l 2) 2,_),(.b (.l 2) 3,_),(.b (.l 2) 4,_),(.b (.l 2) 5,_)],[]⟩) (uAi (⟨sx rfl,sx rfl,sx rfl,sx rfl,trivial⟩) (⟨sx rfl,sx rfl,sx rfl,sx rfl,sx rfl,trivial⟩) (⟨rfl,rfl,rfl,rfl,rfl,trivial⟩)) ?_;refine uAl (s:=⟨[(2,_,_),(3,_,_),(4,_,_),(5,_,_)],[(.l 2,_),(.l 3,_),(.l 4,_),(.l 5,_),(.o 0,_)],[(.b (.l 2) 1,_),(.b (.l 2) 2,_),(.b (.l 2) 3,_),(.b (.l 2) 4,_),(.b (.l 2) 5,_)],[]⟩) (uAi (⟨sx rfl,sx rfl,sx rfl,sx rfl,trivial⟩) (⟨sx rfl,sx rfl,sx rfl,sx rfl,sx rfl,trivial⟩) (⟨rfl,rfl,rfl,rfl,rfl,trivial⟩)) ?_;refine uBb (.l 2) rfl (fun w1 w2 w3 w4 w5=>?_);refine uAl (s:=⟨[(2,_,_),(3,_,_),(4,_,_),(5,_,_)],[(.l 2,_),(.l 3,_),(.l 4,_),(.l 5,_),(.o 0,_)],[(.b (.l 2) 1,_),(.b (.l 2) 2,_),(.b (.l 2) 3,_),(.b (.l 2) 4,_),(.b (.l 2) 5,_)],[]⟩) (uAi (⟨sx rfl,sx rfl,sx rfl,sx rfl,trivial⟩) (⟨sx rfl,sx rfl,sx rfl,sx rfl,sx rfl,trivial⟩) (⟨rfl,rfl,rfl,rfl,rfl,trivial⟩)) ?_;refine uAe ?_;refine awp_drawn' (by kernel_rfl) ?_;refine uAD rfl rfl rfl rfl rfl rfl rfl gU rfl rfl rfl rfl rfl ?_;refine uAD rfl rfl rfl rfl rfl rfl rfl gU rfl rfl rfl rfl rfl ?_
     refine uAS rfl rfl rfl rfl rfl rfl rfl gU gU (up (uAU l _ _ (by omega) (le3 hl (by first | assumption | (dsimp only; first | assumption | exact hq4 _ | exact hq5 _))))) rfl ?_;refine uAR rfl rfl rfl rfl rfl rfl rfl rfl rfl rfl rfl rfl ?_;refine uAR rfl rfl rfl rfl rfl rfl rfl rfl rfl rfl rfl rfl ?_;refine uA1 (by kernel_rfl) ?_;refine uAl (s:=⟨[(2,_,_),(4,_,_),(5,_,_)],[(.l 2,_),(.l 4,_),(.l 5,_),(.o 0,_)],[(.b (.l 2) 1,_),(.b (.l 2) 2,_),(.b (.l 2) 3,_),(.b (.l 2) 4,_),(.b (.l 2) 5,_)],[]⟩) (uAi (⟨sx rfl,sx rfl,sx rfl,trivial⟩) (⟨sx rfl,sx rfl,sx rfl,sx rfl,trivial⟩) (⟨(ak rfl (ak rfl (ak rfl (ak rfl (ak rfl (rfl)))))),(ak rfl (ak rfl (ak rfl (ak rfl (ak rfl (rfl)))))),(ak rfl (ak rfl (ak rfl (ak rfl (ak rfl (rfl)))))),(ak rfl (ak rfl (ak rfl (ak rfl (ak rfl (rfl)))))),(ak rfl (ak rfl (ak rfl (ak rfl (ak rfl (rfl)))))),trivial⟩)) ?_;refine uBh (.l 4) (.l 2) rfl rfl rfl rfl rfl ?_;refine uAl (s:=⟨[(2,_,_),(4,_,_),(5,_,_)],[(.l 2,_),(.l 4,_),(.l 5,_),(.o 0,_)],[(.b (.l 4) 1,_),(.b (.l 4) 2,_),(.b (.l 4) 3,_),(.b (.l 4) 4,_),(.b (.l 4) 5,_)],[]⟩) (uAi (⟨sx rfl,sx rfl,sx rfl,trivial⟩) (⟨sx rfl,sx rfl,sx rfl,sx rfl,trivial⟩) (⟨rfl,rfl,rfl,rfl,rfl,trivial⟩)) ?_;refine uAo ?_
     repeat (first | refine tR ?_ | refine bR ?_)
     refine uBq rfl ?_ ⟨⟨_,rfl,rfl⟩,trivial⟩ (by simp) rfl rfl rfl rfl rfl rfl;exact congrArg (fun z=>X.tup [.agg (narC n.name (strR n.roles) (Fs.rows n.fresh) z (Sp.rows n.steps) (Gl.rows n.goals)), .agg (pbx l (uAP l [59] (uBs l q).2))]) (uD4 _ _).symm
    ·try simp only [nn,uAh,T.rows_len,Tk.rows_len] at hcu3
     refine uAe (uAb ?_);refine uAa rfl rfl rfl (uAk rfl rfl gU gU rfl) ?_;refine uAa rfl rfl rfl (uAc rfl gU) ?_;refine uAf ?_;refine uAn rfl (fun hcu4=>?_) (fun hcu4=>?_)
     ·try simp only [nn,uAh,T.rows_len,Tk.rows_len] at hcu4
      subst hcu4
      rw [uB3 hk hline (uIr l n (l.getD p.at' tk0).line q)]
      refine uAl (s:=⟨[(2,_,_),(3,_,_),(4,_,_),(5,_,_),(6,_,_)],[(.l 2,_),(.l 3,_),(.l 4,_),(.l 5,_),(.o 0,_)],[(.b (.l 2) 1,_),(.b (.l 2) 2,_),(.b (.l 2) 3,_),(.b (.l 2) 4,_),(.b (.l 2) 5,_)],[]⟩) (uAi (⟨sx rfl,sx rfl,sx rfl,sx rfl,sx rfl,trivial⟩) (⟨sx rfl,sx rfl,sx rfl,sx rfl,sx rfl,trivial⟩) (⟨rfl,rfl,rfl,rfl,rfl,trivial⟩)) ?_;refine uBb (.l 2) rfl (fun w1 w2 w3 w4 w5=>?_);refine uAl (s:=⟨[(2,_,_),(3,_,_),(4,_,_),(5,_,_),(6,_,_)],[(.l 2,_),(.l 3,_),(.l 4,_),(.l 5,_),(.o 0,_)],[(.b (.l 2) 1,_),(.b (.l 2) 2,_),(.b (.l 2) 3,_),(.b (.l 2) 4,_),(.b (.l 2) 5,_)],[]⟩) (uAi (⟨sx rfl,sx rfl,sx rfl,sx rfl,sx rfl,trivial⟩) (⟨sx rfl,sx rfl,sx rfl,sx rfl,sx rfl,trivial⟩) (⟨rfl,rfl,rfl,rfl,rfl,trivial⟩)) ?_;refine uAb ?_;refine uAa rfl rfl rfl (uAm rfl gU rfl rfl rfl rfl rfl) ?_;refine uAa rfl rfl rfl (uAm rfl gU rfl rfl rfl rfl rfl) ?_;refine uAa rfl rfl rfl (uAd rfl gU) ?_;refine uDh (.l 2) (.l 3) osR rfl rfl rfl rfl rfl rfl ⟨rfl,rfl,rfl,rfl,rfl,rfl⟩ ⟨rfl,rfl,rfl,rfl,rfl,rfl⟩ rfl rfl rfl rfl rfl rfl rfl rfl rfl ⟨rfl,rfl⟩ rfl (uEI l q n ((l.getD p.at' tk0).line) w1 w2 w3 w4 w5 hl hq1 (by omega)) rfl rfl rfl rfl rfl rfl rfl rfl ?_;refine uAf ?_;refine uAl (s:=⟨[(2,_,_),(3,_,_),(4,_,_),(5,_,_)],[(.l 2,_),(.l 3,_),(.l 4,_),(.l 5,_),(.o 0,_)],[(.b (.l 2) 1,_),(.b (.l 2) 2,_),(.b (.l 2) 3,_),(.b (.l 2) 4,_),(.b (.l 2) 5,_)],[]⟩) (uAi (⟨sx rfl,sx rfl,sx rfl,sx rfl,trivial⟩) (⟨sx rfl,sx rfl,sx rfl,sx rfl,sx rfl,trivial⟩) (⟨rfl,rfl,rfl,rfl,rfl,trivial⟩)) ?_
      refine uAl (s:=⟨[(2,_,_),(3,_,_),(4,_,_),(5,_,_)],[(.l 2,_),(.l 3,_),(.l 4,_),(.l 5,_),(.o 0,_)],[(.b (.l 2) 1,_),(.b (.l 2) 2,_),(.b (.l 2) 3,_),(.b (.l 2) 4,_),(.b (.l 2) 5,_)],[]⟩) (uAi (⟨sx rfl,sx rfl,sx rfl,sx rfl,trivial⟩) (⟨sx rfl,sx rfl,sx rfl,sx rfl,sx rfl,trivial⟩) (⟨rfl,rfl,rfl,rfl,rfl,trivial⟩)) ?_;refine uBb (.l 2) rfl (fun w1 w2 w3 w4 w5=>?_);refine uAl (s:=⟨[(2,_,_),(3,_,_),(4,_,_),(5,_,_)],[(.l 2,_),(.l 3,_),(.l 4,_),(.l 5,_),(.o 0,_)],[(.b (.l 2) 1,_),(.b (.l 2) 2,_),(.b (.l 2) 3,_),(.b (.l 2) 4,_),(.b (.l 2) 5,_)],[]⟩) (uAi (⟨sx rfl,sx rfl,sx rfl,sx rfl,trivial⟩) (⟨sx rfl,sx rfl,sx rfl,sx rfl,sx rfl,trivial⟩) (⟨rfl,rfl,rfl,rfl,rfl,trivial⟩)) ?_;refine uAe ?_;refine awp_drawn' (by kernel_rfl) ?_;refine uAD rfl rfl rfl rfl rfl rfl rfl gU rfl rfl rfl rfl rfl ?_;refine uAD rfl rfl rfl rfl rfl rfl rfl gU rfl rfl rfl rfl rfl ?_;refine uAS rfl rfl rfl rfl rfl rfl rfl gU gU (up (uAU l _ _ (by omega) (le3 hl (by first | assumption | (dsimp only; first | assumption | exact hq4 _ | exact hq5 _))))) rfl ?_;refine uAR rfl rfl rfl rfl rfl rfl rfl rfl rfl rfl rfl rfl ?_;refine uAR rfl rfl rfl rfl rfl rfl rfl rfl rfl rfl rfl rfl ?_;refine uA1 (by kernel_rfl) ?_;refine uAl (s:=⟨[(2,_,_),(4,_,_),(5,_,_)],[(.l 2,_),(.l 4,_),(.l 5,_),(.o 0,_)],[(.b (.l 2) 1,_),(.b (.l 2) 2,_),(.b (.l 2) 3,_),(.b (.l 2) 4,_),(.b (.l 2) 5,_)],[]⟩) (uAi (⟨sx rfl,sx rfl,sx rfl,trivial⟩) (⟨sx rfl,sx rfl,sx rfl,sx rfl,trivial⟩) (⟨(ak rfl (ak rfl (ak rfl (ak rfl (ak rfl (rfl)))))),(ak rfl (ak rfl (ak rfl (ak rfl (ak rfl (rfl)))))),(ak rfl (ak rfl (ak rfl (ak rfl (ak rfl (rfl)))))),(ak rfl (ak rfl (ak rfl (ak rfl (ak rfl (rfl)))))),(ak rfl (ak rfl (ak rfl (ak rfl (ak rfl (rfl)))))),trivial⟩)) ?_
      refine uBh (.l 4) (.l 2) rfl rfl rfl rfl rfl ?_;refine uAl (s:=⟨[(2,_,_),(4,_,_),(5,_,_)],[(.l 2,_),(.l 4,_),(.l 5,_),(.o 0,_)],[(.b (.l 4) 1,_),(.b (.l 4) 2,_),(.b (.l 4) 3,_),(.b (.l 4) 4,_),(.b (.l 4) 5,_)],[]⟩) (uAi (⟨sx rfl,sx rfl,sx rfl,trivial⟩) (⟨sx rfl,sx rfl,sx rfl,sx rfl,trivial⟩) (⟨rfl,rfl,rfl,rfl,rfl,trivial⟩)) ?_;refine uAo ?_
      repeat (first | refine tR ?_ | refine bR ?_)
      refine uBq rfl ?_ ⟨⟨_,rfl,rfl⟩,trivial⟩ (by simp) rfl rfl rfl rfl rfl rfl
      rfl
     ·try simp only [nn,uAh,T.rows_len,Tk.rows_len] at hcu4
      refine uAe (uAb ?_);refine uAa rfl rfl rfl (uAk rfl rfl gU gU rfl) ?_;refine uAa rfl rfl rfl (uAc rfl gU) ?_;refine uAf ?_;refine uAl (s:=⟨[(2,_,_),(3,_,_),(4,_,_),(5,_,_),(6,_,_),(70,_,_)],[(.l 2,_),(.l 3,_),(.l 4,_),(.l 5,_),(.o 0,_)],[(.b (.l 2) 1,_),(.b (.l 2) 2,_),(.b (.l 2) 3,_),(.b (.l 2) 4,_),(.b (.l 2) 5,_)],[]⟩) (uAi (⟨sx rfl,sx rfl,sx rfl,sx rfl,sx rfl,sx rfl,trivial⟩) (⟨sx rfl,sx rfl,sx rfl,sx rfl,sx rfl,trivial⟩) (⟨rfl,rfl,rfl,rfl,rfl,trivial⟩)) ?_;refine uAn rfl (fun hcu5=>?_) (fun hcu5=>?_)
      ·try simp only [nn,uAh,T.rows_len,Tk.rows_len] at hcu5
       subst hcu5
       rw [uB3 hk hline (uII l n (l.getD p.at' tk0).line q)]
       refine uAl (s:=⟨[(2,_,_),(3,_,_),(4,_,_),(5,_,_),(6,_,_)],[(.l 2,_),(.l 3,_),(.l 4,_),(.l 5,_),(.o 0,_)],[(.b (.l 2) 1,_),(.b (.l 2) 2,_),(.b (.l 2) 3,_),(.b (.l 2) 4,_),(.b (.l 2) 5,_)],[]⟩) (uAi (⟨sx rfl,sx rfl,sx rfl,sx rfl,sx rfl,trivial⟩) (⟨sx rfl,sx rfl,sx rfl,sx rfl,sx rfl,trivial⟩) (⟨rfl,rfl,rfl,rfl,rfl,trivial⟩)) ?_;refine uBb (.l 2) rfl (fun w1 w2 w3 w4 w5=>?_);refine uAl (s:=⟨[(2,_,_),(3,_,_),(4,_,_),(5,_,_),(6,_,_)],[(.l 2,_),(.l 3,_),(.l 4,_),(.l 5,_),(.o 0,_)],[(.b (.l 2) 1,_),(.b (.l 2) 2,_),(.b (.l 2) 3,_),(.b (.l 2) 4,_),(.b (.l 2) 5,_)],[]⟩) (uAi (⟨sx rfl,sx rfl,sx rfl,sx rfl,sx rfl,trivial⟩) (⟨sx rfl,sx rfl,sx rfl,sx rfl,sx rfl,trivial⟩) (⟨rfl,rfl,rfl,rfl,rfl,trivial⟩)) ?_;refine uAb ?_;refine uAa rfl rfl rfl (uAm rfl gU rfl rfl rfl rfl rfl) ?_;refine uAa rfl rfl rfl (uAm rfl gU rfl rfl rfl rfl rfl) ?_;refine uAa rfl rfl rfl (uAd rfl gU) ?_;refine uDh (.l 2) (.l 3) osR rfl rfl rfl rfl rfl rfl ⟨rfl,rfl,rfl,rfl,rfl,rfl⟩ ⟨rfl,rfl,rfl,rfl,rfl,rfl⟩ rfl rfl rfl rfl rfl rfl rfl rfl rfl ⟨rfl,rfl⟩ rfl (uEG l q n ((l.getD p.at' tk0).line) w1 w2 w3 w4 w5 hl hq1 (by omega)) rfl rfl rfl rfl rfl rfl rfl rfl ?_;refine uAf ?_;refine uAl (s:=⟨[(2,_,_),(3,_,_),(4,_,_),(5,_,_)],[(.l 2,_),(.l 3,_),(.l 4,_),(.l 5,_),(.o 0,_)],[(.b (.l 2) 1,_),(.b (.l 2) 2,_),(.b (.l 2) 3,_),(.b (.l 2) 4,_),(.b (.l 2) 5,_)],[]⟩) (uAi (⟨sx rfl,sx rfl,sx rfl,sx rfl,trivial⟩) (⟨sx rfl,sx rfl,sx rfl,sx rfl,sx rfl,trivial⟩) (⟨rfl,rfl,rfl,rfl,rfl,trivial⟩)) ?_
       refine uAl (s:=⟨[(2,_,_),(3,_,_),(4,_,_),(5,_,_)],[(.l 2,_),(.l 3,_),(.l 4,_),(.l 5,_),(.o 0,_)],[(.b (.l 2) 1,_),(.b (.l 2) 2,_),(.b (.l 2) 3,_),(.b (.l 2) 4,_),(.b (.l 2) 5,_)],[]⟩) (uAi (⟨sx rfl,sx rfl,sx rfl,sx rfl,trivial⟩) (⟨sx rfl,sx rfl,sx rfl,sx rfl,sx rfl,trivial⟩) (⟨rfl,rfl,rfl,rfl,rfl,trivial⟩)) ?_;refine uBb (.l 2) rfl (fun w1 w2 w3 w4 w5=>?_);refine uAl (s:=⟨[(2,_,_),(3,_,_),(4,_,_),(5,_,_)],[(.l 2,_),(.l 3,_),(.l 4,_),(.l 5,_),(.o 0,_)],[(.b (.l 2) 1,_),(.b (.l 2) 2,_),(.b (.l 2) 3,_),(.b (.l 2) 4,_),(.b (.l 2) 5,_)],[]⟩) (uAi (⟨sx rfl,sx rfl,sx rfl,sx rfl,trivial⟩) (⟨sx rfl,sx rfl,sx rfl,sx rfl,sx rfl,trivial⟩) (⟨rfl,rfl,rfl,rfl,rfl,trivial⟩)) ?_;refine uAe ?_;refine awp_drawn' (by kernel_rfl) ?_;refine uAD rfl rfl rfl rfl rfl rfl rfl gU rfl rfl rfl rfl rfl ?_;refine uAD rfl rfl rfl rfl rfl rfl rfl gU rfl rfl rfl rfl rfl ?_;refine uAS rfl rfl rfl rfl rfl rfl rfl gU gU (up (uAU l _ _ (by omega) (le3 hl (by first | assumption | (dsimp only; first | assumption | exact hq4 _ | exact hq5 _))))) rfl ?_;refine uAR rfl rfl rfl rfl rfl rfl rfl rfl rfl rfl rfl rfl ?_;refine uAR rfl rfl rfl rfl rfl rfl rfl rfl rfl rfl rfl rfl ?_;refine uA1 (by kernel_rfl) ?_;refine uAl (s:=⟨[(2,_,_),(4,_,_),(5,_,_)],[(.l 2,_),(.l 4,_),(.l 5,_),(.o 0,_)],[(.b (.l 2) 1,_),(.b (.l 2) 2,_),(.b (.l 2) 3,_),(.b (.l 2) 4,_),(.b (.l 2) 5,_)],[]⟩) (uAi (⟨sx rfl,sx rfl,sx rfl,trivial⟩) (⟨sx rfl,sx rfl,sx rfl,sx rfl,trivial⟩) (⟨(ak rfl (ak rfl (ak rfl (ak rfl (ak rfl (rfl)))))),(ak rfl (ak rfl (ak rfl (ak rfl (ak rfl (rfl)))))),(ak rfl (ak rfl (ak rfl (ak rfl (ak rfl (rfl)))))),(ak rfl (ak rfl (ak rfl (ak rfl (ak rfl (rfl)))))),(ak rfl (ak rfl (ak rfl (ak rfl (ak rfl (rfl)))))),trivial⟩)) ?_
       refine uBh (.l 4) (.l 2) rfl rfl rfl rfl rfl ?_;refine uAl (s:=⟨[(2,_,_),(4,_,_),(5,_,_)],[(.l 2,_),(.l 4,_),(.l 5,_),(.o 0,_)],[(.b (.l 4) 1,_),(.b (.l 4) 2,_),(.b (.l 4) 3,_),(.b (.l 4) 4,_),(.b (.l 4) 5,_)],[]⟩) (uAi (⟨sx rfl,sx rfl,sx rfl,trivial⟩) (⟨sx rfl,sx rfl,sx rfl,sx rfl,trivial⟩) (⟨rfl,rfl,rfl,rfl,rfl,trivial⟩)) ?_;refine uAo ?_
       repeat (first | refine tR ?_ | refine bR ?_)
       refine uBq rfl ?_ ⟨⟨_,rfl,rfl⟩,trivial⟩ (by simp) rfl rfl rfl rfl rfl rfl
       rfl
      ·try simp only [nn,uAh,T.rows_len,Tk.rows_len] at hcu5
       rw [uB3 hk hline (uJE l n (l.getD p.at' tk0).line q hcu1 hcu2 hcu3 hcu4 hcu5)]
       refine uAp ?_;refine uAl (s:=⟨[(2,_,_),(3,_,_),(4,_,_),(5,_,_)],[(.l 2,_),(.l 3,_),(.l 4,_),(.l 5,_),(.o 0,_)],[(.b (.l 2) 1,_),(.b (.l 2) 2,_),(.b (.l 2) 3,_),(.b (.l 2) 4,_),(.b (.l 2) 5,_)],[]⟩) (uAi (⟨sx rfl,sx rfl,sx rfl,sx rfl,trivial⟩) (⟨sx rfl,sx rfl,sx rfl,sx rfl,sx rfl,trivial⟩) (⟨rfl,rfl,rfl,rfl,rfl,trivial⟩)) ?_;refine uBb (.l 2) rfl (fun w1 w2 w3 w4 w5=>?_);refine uAl (s:=⟨[(2,_,_),(3,_,_),(4,_,_),(5,_,_)],[(.l 2,_),(.l 3,_),(.l 4,_),(.l 5,_),(.o 0,_)],[(.b (.l 2) 1,_),(.b (.l 2) 2,_),(.b (.l 2) 3,_),(.b (.l 2) 4,_),(.b (.l 2) 5,_)],[]⟩) (uAi (⟨sx rfl,sx rfl,sx rfl,sx rfl,trivial⟩) (⟨sx rfl,sx rfl,sx rfl,sx rfl,sx rfl,trivial⟩) (⟨rfl,rfl,rfl,rfl,rfl,trivial⟩)) ?_;refine uAe ?_;refine awp_drawn' (by kernel_rfl) ?_;refine uAD rfl rfl rfl rfl rfl rfl rfl gU rfl rfl rfl rfl rfl ?_;refine uAD rfl rfl rfl rfl rfl rfl rfl gU rfl rfl rfl rfl rfl ?_;refine uAS rfl rfl rfl rfl rfl rfl rfl gU gU (up (uAU l _ _ (by omega) (le3 hl (by first | assumption | (dsimp only; first | assumption | exact hq4 _ | exact hq5 _))))) rfl ?_;refine uAR rfl rfl rfl rfl rfl rfl rfl rfl rfl rfl rfl rfl ?_;refine uAR rfl rfl rfl rfl rfl rfl rfl rfl rfl rfl rfl rfl ?_;refine uA1 (by kernel_rfl) ?_;refine uAl (s:=⟨[(2,_,_),(4,_,_),(5,_,_)],[(.l 2,_),(.l 4,_),(.l 5,_),(.o 0,_)],[(.b (.l 2) 1,_),(.b (.l 2) 2,_),(.b (.l 2) 3,_),(.b (.l 2) 4,_),(.b (.l 2) 5,_)],[]⟩) (uAi (⟨sx rfl,sx rfl,sx rfl,trivial⟩) (⟨sx rfl,sx rfl,sx rfl,sx rfl,trivial⟩) (⟨(ak rfl (ak rfl (ak rfl (ak rfl (ak rfl (rfl)))))),(ak rfl (ak rfl (ak rfl (ak rfl (ak rfl (rfl)))))),(ak rfl (ak rfl (ak rfl (ak rfl (ak rfl (rfl)))))),(ak rfl (ak rfl (ak rfl (ak rfl (ak rfl (rfl)))))),(ak rfl (ak rfl (ak rfl (ak rfl (ak rfl (rfl)))))),trivial⟩)) ?_
       refine uBh (.l 4) (.l 2) rfl rfl rfl rfl rfl ?_;refine uAl (s:=⟨[(2,_,_),(4,_,_),(5,_,_)],[(.l 2,_),(.l 4,_),(.l 5,_),(.o 0,_)],[(.b (.l 4) 1,_),(.b (.l 4) 2,_),(.b (.l 4) 3,_),(.b (.l 4) 4,_),(.b (.l 4) 5,_)],[]⟩) (uAi (⟨sx rfl,sx rfl,sx rfl,trivial⟩) (⟨sx rfl,sx rfl,sx rfl,sx rfl,trivial⟩) (⟨rfl,rfl,rfl,rfl,rfl,trivial⟩)) ?_;refine uAo ?_
       repeat (first | refine tR ?_ | refine bR ?_)
       refine uBq rfl ?_ ⟨⟨_,rfl,rfl⟩,trivial⟩ (by simp) rfl rfl rfl rfl rfl rfl
       rfl
 ·try simp only [nn,uAh,T.rows_len,Tk.rows_len] at hcx
  have hline : uCj l p=0:=by rw [uCj,if_neg (by omega)]
  refine uAp ?_;refine uAe (uAb ?_);refine uAa rfl rfl rfl (uAm rfl gU rfl rfl rfl rfl rfl) ?_;refine uAT (xs:=[_,_,_,_,_,_]) rfl rfl rfl rfl rfl rfl rfl rfl rfl gU rfl ?_;refine uAx rfl rfl rfl rfl rfl rfl gU gU (up hns) rfl ?_;refine uAa rfl rfl rfl (uAd rfl gU) ?_;refine uAa rfl rfl rfl (uAr rfl gU rfl) ?_;refine uAa rfl rfl rfl (uAr rfl gU rfl) ?_;refine uAa rfl rfl rfl (uAc rfl gU) ?_;refine uAt rfl (uAy rfl rfl rfl rfl rfl rfl rfl) ?_;refine uAf ?_;refine uAl (s:=⟨[(2,_,_),(3,_,_),(4,_,_),(5,_,_),(6,_,_),(7,_,_)],[(.l 2,_),(.l 3,_),(.l 4,_),(.l 5,_),(.o 0,_)],[(.b (.l 2) 1,_),(.b (.l 2) 2,_),(.b (.l 2) 3,_),(.b (.l 2) 4,_),(.b (.l 2) 5,_)],[]⟩) (uAi (⟨sx rfl,sx rfl,sx rfl,sx rfl,sx rfl,sx rfl,trivial⟩) (⟨sx rfl,sx rfl,sx rfl,sx rfl,sx rfl,trivial⟩) (⟨rfl,rfl,rfl,rfl,rfl,trivial⟩)) ?_;refine uAe (uAb ?_);refine uAt rfl (uBw (.inr rfl) rfl rfl) ?_;refine uAf ?_;refine uAe ?_;refine uAe (uAb ?_);refine uAa rfl rfl rfl (uAd rfl gU) ?_;refine uAf ?_;refine uAw ?_;refine uAe (uAb ?_);refine uAa rfl rfl rfl (uAk rfl rfl gU gU rfl) ?_;refine uAa rfl rfl rfl (uAc rfl gU) ?_;refine uAf ?_;refine uAn rfl (fun hcv1=>?_) (fun hcv1=>?_)
  ·try simp only [nn,uAh,T.rows_len,Tk.rows_len] at hcv1
   subst hcv1
   rw [uB3 hk hline (uJy l n 0 q)]
   refine uAe (uAb ?_);refine uAa rfl rfl rfl (uAm rfl gU rfl rfl rfl rfl rfl) ?_;refine uAx rfl rfl rfl rfl rfl rfl gU gU (up (uCM l q (by omega) hq1)) rfl ?_;refine uAa rfl rfl rfl (uAd rfl gU) ?_;refine uAa rfl rfl rfl (uAr rfl gU rfl) ?_;refine uAa rfl rfl rfl (uAr rfl gU rfl) ?_;refine uAa rfl rfl rfl (uAc rfl gU) ?_;refine uAt rfl (uAy rfl rfl rfl rfl rfl rfl rfl) ?_;refine uAf ?_;refine uAl (s:=⟨[(2,_,_),(3,_,_),(4,_,_),(5,_,_),(8,_,_)],[(.l 2,_),(.l 3,_),(.l 4,_),(.l 5,_),(.o 0,_)],[(.b (.l 2) 1,_),(.b (.l 2) 2,_),(.b (.l 2) 3,_),(.b (.l 2) 4,_),(.b (.l 2) 5,_)],[]⟩) (uAi (⟨sx rfl,sx rfl,sx rfl,sx rfl,sx rfl,trivial⟩) (⟨sx rfl,sx rfl,sx rfl,sx rfl,sx rfl,trivial⟩) (⟨rfl,rfl,rfl,rfl,rfl,trivial⟩)) ?_;refine uAb ?_;refine uAa rfl rfl rfl (uAg rfl gU rfl rfl) ?_;refine uAt rfl (uBu rfl rfl rfl rfl rfl rfl rfl) ?_;refine uAa rfl rfl rfl (uAd rfl gU) ?_;refine uAt rfl (uA0 rfl rfl rfl rfl rfl rfl rfl (by first | omega | (simp only [List.length_append,List.length_singleton,uAh]; omega)) (by first | omega | (simp only [List.length_append,List.length_singleton,uAh]; omega))) ?_;refine uAa rfl rfl rfl (uAg rfl gU rfl rfl) ?_;refine uAt rfl (uBt rfl rfl rfl rfl rfl rfl rfl) ?_
   refine uAf ?_;refine uAl (s:=⟨[(2,_,_),(3,_,_),(4,_,_),(5,_,_)],[(.l 2,_),(.l 3,_),(.l 4,_),(.l 5,_),(.o 0,_)],[(.b (.l 2) 1,_),(.b (.l 2) 2,_),(.b (.l 2) 3,_),(.b (.l 2) 4,_),(.b (.l 2) 5,_)],[]⟩) (uAi (⟨sx rfl,sx rfl,sx rfl,sx rfl,trivial⟩) (⟨sx rfl,sx rfl,sx rfl,sx rfl,sx rfl,trivial⟩) (⟨rfl,rfl,rfl,rfl,rfl,trivial⟩)) ?_;refine uAl (s:=⟨[(2,_,_),(3,_,_),(4,_,_),(5,_,_)],[(.l 2,_),(.l 3,_),(.l 4,_),(.l 5,_),(.o 0,_)],[(.b (.l 2) 1,_),(.b (.l 2) 2,_),(.b (.l 2) 3,_),(.b (.l 2) 4,_),(.b (.l 2) 5,_)],[]⟩) (uAi (⟨sx rfl,sx rfl,sx rfl,sx rfl,trivial⟩) (⟨sx rfl,sx rfl,sx rfl,sx rfl,sx rfl,trivial⟩) (⟨rfl,rfl,rfl,rfl,rfl,trivial⟩)) ?_;refine uBb (.l 2) rfl (fun w1 w2 w3 w4 w5=>?_);refine uAl (s:=⟨[(2,_,_),(3,_,_),(4,_,_),(5,_,_)],[(.l 2,_),(.l 3,_),(.l 4,_),(.l 5,_),(.o 0,_)],[(.b (.l 2) 1,_),(.b (.l 2) 2,_),(.b (.l 2) 3,_),(.b (.l 2) 4,_),(.b (.l 2) 5,_)],[]⟩) (uAi (⟨sx rfl,sx rfl,sx rfl,sx rfl,trivial⟩) (⟨sx rfl,sx rfl,sx rfl,sx rfl,sx rfl,trivial⟩) (⟨rfl,rfl,rfl,rfl,rfl,trivial⟩)) ?_;refine uAe ?_;refine awp_drawn' (by kernel_rfl) ?_;refine uAD rfl rfl rfl rfl rfl rfl rfl gU rfl rfl rfl rfl rfl ?_;refine uAD rfl rfl rfl rfl rfl rfl rfl gU rfl rfl rfl rfl rfl ?_
   refine uAS rfl rfl rfl rfl rfl rfl rfl gU gU (up (uAU l _ _ (by omega) (le3 hl (by first | assumption | (dsimp only; first | assumption | exact hq4 _ | exact hq5 _))))) rfl ?_;refine uAR rfl rfl rfl rfl rfl rfl rfl rfl rfl rfl rfl rfl ?_;refine uAR rfl rfl rfl rfl rfl rfl rfl rfl rfl rfl rfl rfl ?_;refine uA1 (by kernel_rfl) ?_;refine uAl (s:=⟨[(2,_,_),(4,_,_),(5,_,_)],[(.l 2,_),(.l 4,_),(.l 5,_),(.o 0,_)],[(.b (.l 2) 1,_),(.b (.l 2) 2,_),(.b (.l 2) 3,_),(.b (.l 2) 4,_),(.b (.l 2) 5,_)],[]⟩) (uAi (⟨sx rfl,sx rfl,sx rfl,trivial⟩) (⟨sx rfl,sx rfl,sx rfl,sx rfl,trivial⟩) (⟨(ak rfl (ak rfl (ak rfl (ak rfl (ak rfl (rfl)))))),(ak rfl (ak rfl (ak rfl (ak rfl (ak rfl (rfl)))))),(ak rfl (ak rfl (ak rfl (ak rfl (ak rfl (rfl)))))),(ak rfl (ak rfl (ak rfl (ak rfl (ak rfl (rfl)))))),(ak rfl (ak rfl (ak rfl (ak rfl (ak rfl (rfl)))))),trivial⟩)) ?_;refine uBh (.l 4) (.l 2) rfl rfl rfl rfl rfl ?_;refine uAl (s:=⟨[(2,_,_),(4,_,_),(5,_,_)],[(.l 2,_),(.l 4,_),(.l 5,_),(.o 0,_)],[(.b (.l 4) 1,_),(.b (.l 4) 2,_),(.b (.l 4) 3,_),(.b (.l 4) 4,_),(.b (.l 4) 5,_)],[]⟩) (uAi (⟨sx rfl,sx rfl,sx rfl,trivial⟩) (⟨sx rfl,sx rfl,sx rfl,sx rfl,trivial⟩) (⟨rfl,rfl,rfl,rfl,rfl,trivial⟩)) ?_;refine uAo ?_
   repeat (first | refine tR ?_ | refine bR ?_)
   refine uBq rfl ?_ ⟨⟨_,rfl,rfl⟩,trivial⟩ (by simp) rfl rfl rfl rfl rfl rfl;exact congrArg (fun z=>X.tup [.agg (narC n.name z (Fs.rows n.fresh) (strR n.tags) (Sp.rows n.steps) (Gl.rows n.goals)), .agg (pbx l (uAP l [59] (uBs l q).2))]) (uD4 _ _).symm
  ·try simp only [nn,uAh,T.rows_len,Tk.rows_len] at hcv1
   refine uAe (uAb ?_);refine uAa rfl rfl rfl (uAk rfl rfl gU gU rfl) ?_;refine uAa rfl rfl rfl (uAc rfl gU) ?_;refine uAf ?_;refine uAl (s:=⟨[(2,_,_),(3,_,_),(4,_,_),(5,_,_),(6,_,_),(28,_,_),(41,_,_)],[(.l 2,_),(.l 3,_),(.l 4,_),(.l 5,_),(.o 0,_)],[(.b (.l 2) 1,_),(.b (.l 2) 2,_),(.b (.l 2) 3,_),(.b (.l 2) 4,_),(.b (.l 2) 5,_)],[]⟩) (uAi (⟨sx rfl,sx rfl,sx rfl,sx rfl,sx rfl,sx rfl,sx rfl,trivial⟩) (⟨sx rfl,sx rfl,sx rfl,sx rfl,sx rfl,trivial⟩) (⟨rfl,rfl,rfl,rfl,rfl,trivial⟩)) ?_;refine uAn rfl (fun hcv2=>?_) (fun hcv2=>?_)
   ·try simp only [nn,uAh,T.rows_len,Tk.rows_len] at hcv2
    subst hcv2
    rw [uB3 hk hline (uI4 l n 0 q)]
    refine uAl (s:=⟨[(2,_,_),(3,_,_),(4,_,_),(5,_,_)],[(.l 2,_),(.l 3,_),(.l 4,_),(.l 5,_),(.o 0,_)],[(.b (.l 2) 1,_),(.b (.l 2) 2,_),(.b (.l 2) 3,_),(.b (.l 2) 4,_),(.b (.l 2) 5,_)],[]⟩) (uAi (⟨sx rfl,sx rfl,sx rfl,sx rfl,trivial⟩) (⟨sx rfl,sx rfl,sx rfl,sx rfl,sx rfl,trivial⟩) (⟨rfl,rfl,rfl,rfl,rfl,trivial⟩)) ?_;refine uBb (.l 2) rfl (fun w1 w2 w3 w4 w5=>?_);refine uAl (s:=⟨[(2,_,_),(3,_,_),(4,_,_),(5,_,_)],[(.l 2,_),(.l 3,_),(.l 4,_),(.l 5,_),(.o 0,_)],[(.b (.l 2) 1,_),(.b (.l 2) 2,_),(.b (.l 2) 3,_),(.b (.l 2) 4,_),(.b (.l 2) 5,_)],[]⟩) (uAi (⟨sx rfl,sx rfl,sx rfl,sx rfl,trivial⟩) (⟨sx rfl,sx rfl,sx rfl,sx rfl,sx rfl,trivial⟩) (⟨rfl,rfl,rfl,rfl,rfl,trivial⟩)) ?_;refine uAb ?_;refine uAa rfl rfl rfl (uAm rfl gU rfl rfl rfl rfl rfl) ?_;refine uAa rfl rfl rfl (uAm rfl gU rfl rfl rfl rfl rfl) ?_;refine uDh (.l 2) (.l 3) osR rfl rfl rfl rfl rfl rfl ⟨rfl,rfl,rfl,rfl,rfl,rfl⟩ ⟨rfl,rfl,rfl,rfl,rfl,rfl⟩ rfl rfl rfl rfl rfl rfl rfl rfl rfl ⟨rfl,rfl⟩ rfl (uEh l q n w1 w2 w3 w4 w5 hl hq1 (by omega)) rfl rfl rfl rfl rfl rfl rfl rfl ?_;refine uAf ?_;refine uAl (s:=⟨[(2,_,_),(3,_,_),(4,_,_),(5,_,_)],[(.l 2,_),(.l 3,_),(.l 4,_),(.l 5,_),(.o 0,_)],[(.b (.l 2) 1,_),(.b (.l 2) 2,_),(.b (.l 2) 3,_),(.b (.l 2) 4,_),(.b (.l 2) 5,_)],[]⟩) (uAi (⟨sx rfl,sx rfl,sx rfl,sx rfl,trivial⟩) (⟨sx rfl,sx rfl,sx rfl,sx rfl,sx rfl,trivial⟩) (⟨rfl,rfl,rfl,rfl,rfl,trivial⟩)) ?_
    refine uAl (s:=⟨[(2,_,_),(3,_,_),(4,_,_),(5,_,_)],[(.l 2,_),(.l 3,_),(.l 4,_),(.l 5,_),(.o 0,_)],[(.b (.l 2) 1,_),(.b (.l 2) 2,_),(.b (.l 2) 3,_),(.b (.l 2) 4,_),(.b (.l 2) 5,_)],[]⟩) (uAi (⟨sx rfl,sx rfl,sx rfl,sx rfl,trivial⟩) (⟨sx rfl,sx rfl,sx rfl,sx rfl,sx rfl,trivial⟩) (⟨rfl,rfl,rfl,rfl,rfl,trivial⟩)) ?_;refine uBb (.l 2) rfl (fun w1 w2 w3 w4 w5=>?_);refine uAl (s:=⟨[(2,_,_),(3,_,_),(4,_,_),(5,_,_)],[(.l 2,_),(.l 3,_),(.l 4,_),(.l 5,_),(.o 0,_)],[(.b (.l 2) 1,_),(.b (.l 2) 2,_),(.b (.l 2) 3,_),(.b (.l 2) 4,_),(.b (.l 2) 5,_)],[]⟩) (uAi (⟨sx rfl,sx rfl,sx rfl,sx rfl,trivial⟩) (⟨sx rfl,sx rfl,sx rfl,sx rfl,sx rfl,trivial⟩) (⟨rfl,rfl,rfl,rfl,rfl,trivial⟩)) ?_;refine uAe ?_;refine awp_drawn' (by kernel_rfl) ?_;refine uAD rfl rfl rfl rfl rfl rfl rfl gU rfl rfl rfl rfl rfl ?_;refine uAD rfl rfl rfl rfl rfl rfl rfl gU rfl rfl rfl rfl rfl ?_;refine uAS rfl rfl rfl rfl rfl rfl rfl gU gU (up (uAU l _ _ (by omega) (le3 hl (by first | assumption | (dsimp only; first | assumption | exact hq4 _ | exact hq5 _))))) rfl ?_;refine uAR rfl rfl rfl rfl rfl rfl rfl rfl rfl rfl rfl rfl ?_;refine uAR rfl rfl rfl rfl rfl rfl rfl rfl rfl rfl rfl rfl ?_;refine uA1 (by kernel_rfl) ?_;refine uAl (s:=⟨[(2,_,_),(4,_,_),(5,_,_)],[(.l 2,_),(.l 4,_),(.l 5,_),(.o 0,_)],[(.b (.l 2) 1,_),(.b (.l 2) 2,_),(.b (.l 2) 3,_),(.b (.l 2) 4,_),(.b (.l 2) 5,_)],[]⟩) (uAi (⟨sx rfl,sx rfl,sx rfl,trivial⟩) (⟨sx rfl,sx rfl,sx rfl,sx rfl,trivial⟩) (⟨(ak rfl (ak rfl (ak rfl (ak rfl (ak rfl (rfl)))))),(ak rfl (ak rfl (ak rfl (ak rfl (ak rfl (rfl)))))),(ak rfl (ak rfl (ak rfl (ak rfl (ak rfl (rfl)))))),(ak rfl (ak rfl (ak rfl (ak rfl (ak rfl (rfl)))))),(ak rfl (ak rfl (ak rfl (ak rfl (ak rfl (rfl)))))),trivial⟩)) ?_
    refine uBh (.l 4) (.l 2) rfl rfl rfl rfl rfl ?_;refine uAl (s:=⟨[(2,_,_),(4,_,_),(5,_,_)],[(.l 2,_),(.l 4,_),(.l 5,_),(.o 0,_)],[(.b (.l 4) 1,_),(.b (.l 4) 2,_),(.b (.l 4) 3,_),(.b (.l 4) 4,_),(.b (.l 4) 5,_)],[]⟩) (uAi (⟨sx rfl,sx rfl,sx rfl,trivial⟩) (⟨sx rfl,sx rfl,sx rfl,sx rfl,trivial⟩) (⟨rfl,rfl,rfl,rfl,rfl,trivial⟩)) ?_;refine uAo ?_
    repeat (first | refine tR ?_ | refine bR ?_)
    refine uBq rfl ?_ ⟨⟨_,rfl,rfl⟩,trivial⟩ (by simp) rfl rfl rfl rfl rfl rfl
    rfl
   ·try simp only [nn,uAh,T.rows_len,Tk.rows_len] at hcv2
    refine uAe (uAb ?_);refine uAa rfl rfl rfl (uAk rfl rfl gU gU rfl) ?_;refine uAa rfl rfl rfl (uAc rfl gU) ?_;refine uAf ?_;refine uAn rfl (fun hcv3=>?_) (fun hcv3=>?_)
    ·try simp only [nn,uAh,T.rows_len,Tk.rows_len] at hcv3
     subst hcv3
     rw [uB3 hk hline (uIT l n 0 q)]
     refine uAe (uAb ?_);refine uAa rfl rfl rfl (uAm rfl gU rfl rfl rfl rfl rfl) ?_;refine uAx rfl rfl rfl rfl rfl rfl gU gU (up (uCM l q (by omega) hq1)) rfl ?_;refine uAa rfl rfl rfl (uAd rfl gU) ?_;refine uAa rfl rfl rfl (uAr rfl gU rfl) ?_;refine uAa rfl rfl rfl (uAr rfl gU rfl) ?_;refine uAa rfl rfl rfl (uAc rfl gU) ?_;refine uAt rfl (uAy rfl rfl rfl rfl rfl rfl rfl) ?_;refine uAf ?_;refine uAl (s:=⟨[(2,_,_),(3,_,_),(4,_,_),(5,_,_),(8,_,_)],[(.l 2,_),(.l 3,_),(.l 4,_),(.l 5,_),(.o 0,_)],[(.b (.l 2) 1,_),(.b (.l 2) 2,_),(.b (.l 2) 3,_),(.b (.l 2) 4,_),(.b (.l 2) 5,_)],[]⟩) (uAi (⟨sx rfl,sx rfl,sx rfl,sx rfl,sx rfl,trivial⟩) (⟨sx rfl,sx rfl,sx rfl,sx rfl,sx rfl,trivial⟩) (⟨rfl,rfl,rfl,rfl,rfl,trivial⟩)) ?_;refine uAb ?_;refine uAa rfl rfl rfl (uAg rfl gU rfl rfl) ?_;refine uAt rfl (uBu rfl rfl rfl rfl rfl rfl rfl) ?_;refine uAa rfl rfl rfl (uAd rfl gU) ?_;refine uAt rfl (uA0 rfl rfl rfl rfl rfl rfl rfl (by first | omega | (simp only [List.length_append,List.length_singleton,uAh]; omega)) (by first | omega | (simp only [List.length_append,List.length_singleton,uAh]; omega))) ?_;refine uAa rfl rfl rfl (uAg rfl gU rfl rfl) ?_;refine uAt rfl (uBt rfl rfl rfl rfl rfl rfl rfl) ?_
     refine uAf ?_;refine uAl (s:=⟨[(2,_,_),(3,_,_),(4,_,_),(5,_,_)],[(.l 2,_),(.l 3,_),(.l 4,_),(.l 5,_),(.o 0,_)],[(.b (.l 2) 1,_),(.b (.l 2) 2,_),(.b (.l 2) 3,_),(.b (.l 2) 4,_),(.b (.l 2) 5,_)],[]⟩) (uAi (⟨sx rfl,sx rfl,sx rfl,sx rfl,trivial⟩) (⟨sx rfl,sx rfl,sx rfl,sx rfl,sx rfl,trivial⟩) (⟨rfl,rfl,rfl,rfl,rfl,trivial⟩)) ?_;refine uAl (s:=⟨[(2,_,_),(3,_,_),(4,_,_),(5,_,_)],[(.l 2,_),(.l 3,_),(.l 4,_),(.l 5,_),(.o 0,_)],[(.b (.l 2) 1,_),(.b (.l 2) 2,_),(.b (.l 2) 3,_),(.b (.l 2) 4,_),(.b (.l 2) 5,_)],[]⟩) (uAi (⟨sx rfl,sx rfl,sx rfl,sx rfl,trivial⟩) (⟨sx rfl,sx rfl,sx rfl,sx rfl,sx rfl,trivial⟩) (⟨rfl,rfl,rfl,rfl,rfl,trivial⟩)) ?_;refine uBb (.l 2) rfl (fun w1 w2 w3 w4 w5=>?_);refine uAl (s:=⟨[(2,_,_),(3,_,_),(4,_,_),(5,_,_)],[(.l 2,_),(.l 3,_),(.l 4,_),(.l 5,_),(.o 0,_)],[(.b (.l 2) 1,_),(.b (.l 2) 2,_),(.b (.l 2) 3,_),(.b (.l 2) 4,_),(.b (.l 2) 5,_)],[]⟩) (uAi (⟨sx rfl,sx rfl,sx rfl,sx rfl,trivial⟩) (⟨sx rfl,sx rfl,sx rfl,sx rfl,sx rfl,trivial⟩) (⟨rfl,rfl,rfl,rfl,rfl,trivial⟩)) ?_;refine uAe ?_;refine awp_drawn' (by kernel_rfl) ?_;refine uAD rfl rfl rfl rfl rfl rfl rfl gU rfl rfl rfl rfl rfl ?_;refine uAD rfl rfl rfl rfl rfl rfl rfl gU rfl rfl rfl rfl rfl ?_
     refine uAS rfl rfl rfl rfl rfl rfl rfl gU gU (up (uAU l _ _ (by omega) (le3 hl (by first | assumption | (dsimp only; first | assumption | exact hq4 _ | exact hq5 _))))) rfl ?_;refine uAR rfl rfl rfl rfl rfl rfl rfl rfl rfl rfl rfl rfl ?_;refine uAR rfl rfl rfl rfl rfl rfl rfl rfl rfl rfl rfl rfl ?_;refine uA1 (by kernel_rfl) ?_;refine uAl (s:=⟨[(2,_,_),(4,_,_),(5,_,_)],[(.l 2,_),(.l 4,_),(.l 5,_),(.o 0,_)],[(.b (.l 2) 1,_),(.b (.l 2) 2,_),(.b (.l 2) 3,_),(.b (.l 2) 4,_),(.b (.l 2) 5,_)],[]⟩) (uAi (⟨sx rfl,sx rfl,sx rfl,trivial⟩) (⟨sx rfl,sx rfl,sx rfl,sx rfl,trivial⟩) (⟨(ak rfl (ak rfl (ak rfl (ak rfl (ak rfl (rfl)))))),(ak rfl (ak rfl (ak rfl (ak rfl (ak rfl (rfl)))))),(ak rfl (ak rfl (ak rfl (ak rfl (ak rfl (rfl)))))),(ak rfl (ak rfl (ak rfl (ak rfl (ak rfl (rfl)))))),(ak rfl (ak rfl (ak rfl (ak rfl (ak rfl (rfl)))))),trivial⟩)) ?_;refine uBh (.l 4) (.l 2) rfl rfl rfl rfl rfl ?_;refine uAl (s:=⟨[(2,_,_),(4,_,_),(5,_,_)],[(.l 2,_),(.l 4,_),(.l 5,_),(.o 0,_)],[(.b (.l 4) 1,_),(.b (.l 4) 2,_),(.b (.l 4) 3,_),(.b (.l 4) 4,_),(.b (.l 4) 5,_)],[]⟩) (uAi (⟨sx rfl,sx rfl,sx rfl,trivial⟩) (⟨sx rfl,sx rfl,sx rfl,sx rfl,trivial⟩) (⟨rfl,rfl,rfl,rfl,rfl,trivial⟩)) ?_;refine uAo ?_
     repeat (first | refine tR ?_ | refine bR ?_)
     refine uBq rfl ?_ ⟨⟨_,rfl,rfl⟩,trivial⟩ (by simp) rfl rfl rfl rfl rfl rfl;exact congrArg (fun z=>X.tup [.agg (narC n.name (strR n.roles) (Fs.rows n.fresh) z (Sp.rows n.steps) (Gl.rows n.goals)), .agg (pbx l (uAP l [59] (uBs l q).2))]) (uD4 _ _).symm
    ·try simp only [nn,uAh,T.rows_len,Tk.rows_len] at hcv3
     refine uAe (uAb ?_);refine uAa rfl rfl rfl (uAk rfl rfl gU gU rfl) ?_;refine uAa rfl rfl rfl (uAc rfl gU) ?_;refine uAf ?_;refine uAn rfl (fun hcv4=>?_) (fun hcv4=>?_)
     ·try simp only [nn,uAh,T.rows_len,Tk.rows_len] at hcv4
      subst hcv4
      rw [uB3 hk hline (uIr l n 0 q)]
      refine uAl (s:=⟨[(2,_,_),(3,_,_),(4,_,_),(5,_,_),(6,_,_)],[(.l 2,_),(.l 3,_),(.l 4,_),(.l 5,_),(.o 0,_)],[(.b (.l 2) 1,_),(.b (.l 2) 2,_),(.b (.l 2) 3,_),(.b (.l 2) 4,_),(.b (.l 2) 5,_)],[]⟩) (uAi (⟨sx rfl,sx rfl,sx rfl,sx rfl,sx rfl,trivial⟩) (⟨sx rfl,sx rfl,sx rfl,sx rfl,sx rfl,trivial⟩) (⟨rfl,rfl,rfl,rfl,rfl,trivial⟩)) ?_;refine uBb (.l 2) rfl (fun w1 w2 w3 w4 w5=>?_);refine uAl (s:=⟨[(2,_,_),(3,_,_),(4,_,_),(5,_,_),(6,_,_)],[(.l 2,_),(.l 3,_),(.l 4,_),(.l 5,_),(.o 0,_)],[(.b (.l 2) 1,_),(.b (.l 2) 2,_),(.b (.l 2) 3,_),(.b (.l 2) 4,_),(.b (.l 2) 5,_)],[]⟩) (uAi (⟨sx rfl,sx rfl,sx rfl,sx rfl,sx rfl,trivial⟩) (⟨sx rfl,sx rfl,sx rfl,sx rfl,sx rfl,trivial⟩) (⟨rfl,rfl,rfl,rfl,rfl,trivial⟩)) ?_;refine uAb ?_;refine uAa rfl rfl rfl (uAm rfl gU rfl rfl rfl rfl rfl) ?_;refine uAa rfl rfl rfl (uAm rfl gU rfl rfl rfl rfl rfl) ?_;refine uAa rfl rfl rfl (uAd rfl gU) ?_;refine uDh (.l 2) (.l 3) osR rfl rfl rfl rfl rfl rfl ⟨rfl,rfl,rfl,rfl,rfl,rfl⟩ ⟨rfl,rfl,rfl,rfl,rfl,rfl⟩ rfl rfl rfl rfl rfl rfl rfl rfl rfl ⟨rfl,rfl⟩ rfl (uEI l q n (0) w1 w2 w3 w4 w5 hl hq1 (by omega)) rfl rfl rfl rfl rfl rfl rfl rfl ?_;refine uAf ?_;refine uAl (s:=⟨[(2,_,_),(3,_,_),(4,_,_),(5,_,_)],[(.l 2,_),(.l 3,_),(.l 4,_),(.l 5,_),(.o 0,_)],[(.b (.l 2) 1,_),(.b (.l 2) 2,_),(.b (.l 2) 3,_),(.b (.l 2) 4,_),(.b (.l 2) 5,_)],[]⟩) (uAi (⟨sx rfl,sx rfl,sx rfl,sx rfl,trivial⟩) (⟨sx rfl,sx rfl,sx rfl,sx rfl,sx rfl,trivial⟩) (⟨rfl,rfl,rfl,rfl,rfl,trivial⟩)) ?_
      refine uAl (s:=⟨[(2,_,_),(3,_,_),(4,_,_),(5,_,_)],[(.l 2,_),(.l 3,_),(.l 4,_),(.l 5,_),(.o 0,_)],[(.b (.l 2) 1,_),(.b (.l 2) 2,_),(.b (.l 2) 3,_),(.b (.l 2) 4,_),(.b (.l 2) 5,_)],[]⟩) (uAi (⟨sx rfl,sx rfl,sx rfl,sx rfl,trivial⟩) (⟨sx rfl,sx rfl,sx rfl,sx rfl,sx rfl,trivial⟩) (⟨rfl,rfl,rfl,rfl,rfl,trivial⟩)) ?_;refine uBb (.l 2) rfl (fun w1 w2 w3 w4 w5=>?_);refine uAl (s:=⟨[(2,_,_),(3,_,_),(4,_,_),(5,_,_)],[(.l 2,_),(.l 3,_),(.l 4,_),(.l 5,_),(.o 0,_)],[(.b (.l 2) 1,_),(.b (.l 2) 2,_),(.b (.l 2) 3,_),(.b (.l 2) 4,_),(.b (.l 2) 5,_)],[]⟩) (uAi (⟨sx rfl,sx rfl,sx rfl,sx rfl,trivial⟩) (⟨sx rfl,sx rfl,sx rfl,sx rfl,sx rfl,trivial⟩) (⟨rfl,rfl,rfl,rfl,rfl,trivial⟩)) ?_;refine uAe ?_;refine awp_drawn' (by kernel_rfl) ?_;refine uAD rfl rfl rfl rfl rfl rfl rfl gU rfl rfl rfl rfl rfl ?_;refine uAD rfl rfl rfl rfl rfl rfl rfl gU rfl rfl rfl rfl rfl ?_;refine uAS rfl rfl rfl rfl rfl rfl rfl gU gU (up (uAU l _ _ (by omega) (le3 hl (by first | assumption | (dsimp only; first | assumption | exact hq4 _ | exact hq5 _))))) rfl ?_;refine uAR rfl rfl rfl rfl rfl rfl rfl rfl rfl rfl rfl rfl ?_;refine uAR rfl rfl rfl rfl rfl rfl rfl rfl rfl rfl rfl rfl ?_;refine uA1 (by kernel_rfl) ?_;refine uAl (s:=⟨[(2,_,_),(4,_,_),(5,_,_)],[(.l 2,_),(.l 4,_),(.l 5,_),(.o 0,_)],[(.b (.l 2) 1,_),(.b (.l 2) 2,_),(.b (.l 2) 3,_),(.b (.l 2) 4,_),(.b (.l 2) 5,_)],[]⟩) (uAi (⟨sx rfl,sx rfl,sx rfl,trivial⟩) (⟨sx rfl,sx rfl,sx rfl,sx rfl,trivial⟩) (⟨(ak rfl (ak rfl (ak rfl (ak rfl (ak rfl (rfl)))))),(ak rfl (ak rfl (ak rfl (ak rfl (ak rfl (rfl)))))),(ak rfl (ak rfl (ak rfl (ak rfl (ak rfl (rfl)))))),(ak rfl (ak rfl (ak rfl (ak rfl (ak rfl (rfl)))))),(ak rfl (ak rfl (ak rfl (ak rfl (ak rfl (rfl)))))),trivial⟩)) ?_
      refine uBh (.l 4) (.l 2) rfl rfl rfl rfl rfl ?_;refine uAl (s:=⟨[(2,_,_),(4,_,_),(5,_,_)],[(.l 2,_),(.l 4,_),(.l 5,_),(.o 0,_)],[(.b (.l 4) 1,_),(.b (.l 4) 2,_),(.b (.l 4) 3,_),(.b (.l 4) 4,_),(.b (.l 4) 5,_)],[]⟩) (uAi (⟨sx rfl,sx rfl,sx rfl,trivial⟩) (⟨sx rfl,sx rfl,sx rfl,sx rfl,trivial⟩) (⟨rfl,rfl,rfl,rfl,rfl,trivial⟩)) ?_;refine uAo ?_
      repeat (first | refine tR ?_ | refine bR ?_)
      refine uBq rfl ?_ ⟨⟨_,rfl,rfl⟩,trivial⟩ (by simp) rfl rfl rfl rfl rfl rfl
      rfl
     ·try simp only [nn,uAh,T.rows_len,Tk.rows_len] at hcv4
      refine uAe (uAb ?_);refine uAa rfl rfl rfl (uAk rfl rfl gU gU rfl) ?_;refine uAa rfl rfl rfl (uAc rfl gU) ?_;refine uAf ?_;refine uAl (s:=⟨[(2,_,_),(3,_,_),(4,_,_),(5,_,_),(6,_,_),(70,_,_)],[(.l 2,_),(.l 3,_),(.l 4,_),(.l 5,_),(.o 0,_)],[(.b (.l 2) 1,_),(.b (.l 2) 2,_),(.b (.l 2) 3,_),(.b (.l 2) 4,_),(.b (.l 2) 5,_)],[]⟩) (uAi (⟨sx rfl,sx rfl,sx rfl,sx rfl,sx rfl,sx rfl,trivial⟩) (⟨sx rfl,sx rfl,sx rfl,sx rfl,sx rfl,trivial⟩) (⟨rfl,rfl,rfl,rfl,rfl,trivial⟩)) ?_;refine uAn rfl (fun hcv5=>?_) (fun hcv5=>?_)
      ·try simp only [nn,uAh,T.rows_len,Tk.rows_len] at hcv5
       subst hcv5
       rw [uB3 hk hline (uII l n 0 q)]
       refine uAl (s:=⟨[(2,_,_),(3,_,_),(4,_,_),(5,_,_),(6,_,_)],[(.l 2,_),(.l 3,_),(.l 4,_),(.l 5,_),(.o 0,_)],[(.b (.l 2) 1,_),(.b (.l 2) 2,_),(.b (.l 2) 3,_),(.b (.l 2) 4,_),(.b (.l 2) 5,_)],[]⟩) (uAi (⟨sx rfl,sx rfl,sx rfl,sx rfl,sx rfl,trivial⟩) (⟨sx rfl,sx rfl,sx rfl,sx rfl,sx rfl,trivial⟩) (⟨rfl,rfl,rfl,rfl,rfl,trivial⟩)) ?_;refine uBb (.l 2) rfl (fun w1 w2 w3 w4 w5=>?_);refine uAl (s:=⟨[(2,_,_),(3,_,_),(4,_,_),(5,_,_),(6,_,_)],[(.l 2,_),(.l 3,_),(.l 4,_),(.l 5,_),(.o 0,_)],[(.b (.l 2) 1,_),(.b (.l 2) 2,_),(.b (.l 2) 3,_),(.b (.l 2) 4,_),(.b (.l 2) 5,_)],[]⟩) (uAi (⟨sx rfl,sx rfl,sx rfl,sx rfl,sx rfl,trivial⟩) (⟨sx rfl,sx rfl,sx rfl,sx rfl,sx rfl,trivial⟩) (⟨rfl,rfl,rfl,rfl,rfl,trivial⟩)) ?_;refine uAb ?_;refine uAa rfl rfl rfl (uAm rfl gU rfl rfl rfl rfl rfl) ?_;refine uAa rfl rfl rfl (uAm rfl gU rfl rfl rfl rfl rfl) ?_;refine uAa rfl rfl rfl (uAd rfl gU) ?_;refine uDh (.l 2) (.l 3) osR rfl rfl rfl rfl rfl rfl ⟨rfl,rfl,rfl,rfl,rfl,rfl⟩ ⟨rfl,rfl,rfl,rfl,rfl,rfl⟩ rfl rfl rfl rfl rfl rfl rfl rfl rfl ⟨rfl,rfl⟩ rfl (uEG l q n (0) w1 w2 w3 w4 w5 hl hq1 (by omega)) rfl rfl rfl rfl rfl rfl rfl rfl ?_;refine uAf ?_;refine uAl (s:=⟨[(2,_,_),(3,_,_),(4,_,_),(5,_,_)],[(.l 2,_),(.l 3,_),(.l 4,_),(.l 5,_),(.o 0,_)],[(.b (.l 2) 1,_),(.b (.l 2) 2,_),(.b (.l 2) 3,_),(.b (.l 2) 4,_),(.b (.l 2) 5,_)],[]⟩) (uAi (⟨sx rfl,sx rfl,sx rfl,sx rfl,trivial⟩) (⟨sx rfl,sx rfl,sx rfl,sx rfl,sx rfl,trivial⟩) (⟨rfl,rfl,rfl,rfl,rfl,trivial⟩)) ?_
       refine uAl (s:=⟨[(2,_,_),(3,_,_),(4,_,_),(5,_,_)],[(.l 2,_),(.l 3,_),(.l 4,_),(.l 5,_),(.o 0,_)],[(.b (.l 2) 1,_),(.b (.l 2) 2,_),(.b (.l 2) 3,_),(.b (.l 2) 4,_),(.b (.l 2) 5,_)],[]⟩) (uAi (⟨sx rfl,sx rfl,sx rfl,sx rfl,trivial⟩) (⟨sx rfl,sx rfl,sx rfl,sx rfl,sx rfl,trivial⟩) (⟨rfl,rfl,rfl,rfl,rfl,trivial⟩)) ?_;refine uBb (.l 2) rfl (fun w1 w2 w3 w4 w5=>?_);refine uAl (s:=⟨[(2,_,_),(3,_,_),(4,_,_),(5,_,_)],[(.l 2,_),(.l 3,_),(.l 4,_),(.l 5,_),(.o 0,_)],[(.b (.l 2) 1,_),(.b (.l 2) 2,_),(.b (.l 2) 3,_),(.b (.l 2) 4,_),(.b (.l 2) 5,_)],[]⟩) (uAi (⟨sx rfl,sx rfl,sx rfl,sx rfl,trivial⟩) (⟨sx rfl,sx rfl,sx rfl,sx rfl,sx rfl,trivial⟩) (⟨rfl,rfl,rfl,rfl,rfl,trivial⟩)) ?_;refine uAe ?_;refine awp_drawn' (by kernel_rfl) ?_;refine uAD rfl rfl rfl rfl rfl rfl rfl gU rfl rfl rfl rfl rfl ?_;refine uAD rfl rfl rfl rfl rfl rfl rfl gU rfl rfl rfl rfl rfl ?_;refine uAS rfl rfl rfl rfl rfl rfl rfl gU gU (up (uAU l _ _ (by omega) (le3 hl (by first | assumption | (dsimp only; first | assumption | exact hq4 _ | exact hq5 _))))) rfl ?_;refine uAR rfl rfl rfl rfl rfl rfl rfl rfl rfl rfl rfl rfl ?_;refine uAR rfl rfl rfl rfl rfl rfl rfl rfl rfl rfl rfl rfl ?_;refine uA1 (by kernel_rfl) ?_;refine uAl (s:=⟨[(2,_,_),(4,_,_),(5,_,_)],[(.l 2,_),(.l 4,_),(.l 5,_),(.o 0,_)],[(.b (.l 2) 1,_),(.b (.l 2) 2,_),(.b (.l 2) 3,_),(.b (.l 2) 4,_),(.b (.l 2) 5,_)],[]⟩) (uAi (⟨sx rfl,sx rfl,sx rfl,trivial⟩) (⟨sx rfl,sx rfl,sx rfl,sx rfl,trivial⟩) (⟨(ak rfl (ak rfl (ak rfl (ak rfl (ak rfl (rfl)))))),(ak rfl (ak rfl (ak rfl (ak rfl (ak rfl (rfl)))))),(ak rfl (ak rfl (ak rfl (ak rfl (ak rfl (rfl)))))),(ak rfl (ak rfl (ak rfl (ak rfl (ak rfl (rfl)))))),(ak rfl (ak rfl (ak rfl (ak rfl (ak rfl (rfl)))))),trivial⟩)) ?_
       refine uBh (.l 4) (.l 2) rfl rfl rfl rfl rfl ?_;refine uAl (s:=⟨[(2,_,_),(4,_,_),(5,_,_)],[(.l 2,_),(.l 4,_),(.l 5,_),(.o 0,_)],[(.b (.l 4) 1,_),(.b (.l 4) 2,_),(.b (.l 4) 3,_),(.b (.l 4) 4,_),(.b (.l 4) 5,_)],[]⟩) (uAi (⟨sx rfl,sx rfl,sx rfl,trivial⟩) (⟨sx rfl,sx rfl,sx rfl,sx rfl,trivial⟩) (⟨rfl,rfl,rfl,rfl,rfl,trivial⟩)) ?_;refine uAo ?_
       repeat (first | refine tR ?_ | refine bR ?_)
       refine uBq rfl ?_ ⟨⟨_,rfl,rfl⟩,trivial⟩ (by simp) rfl rfl rfl rfl rfl rfl
       rfl
      ·try simp only [nn,uAh,T.rows_len,Tk.rows_len] at hcv5
       rw [uB3 hk hline (uJE l n 0 q hcv1 hcv2 hcv3 hcv4 hcv5)]
       refine uAp ?_;refine uAl (s:=⟨[(2,_,_),(3,_,_),(4,_,_),(5,_,_)],[(.l 2,_),(.l 3,_),(.l 4,_),(.l 5,_),(.o 0,_)],[(.b (.l 2) 1,_),(.b (.l 2) 2,_),(.b (.l 2) 3,_),(.b (.l 2) 4,_),(.b (.l 2) 5,_)],[]⟩) (uAi (⟨sx rfl,sx rfl,sx rfl,sx rfl,trivial⟩) (⟨sx rfl,sx rfl,sx rfl,sx rfl,sx rfl,trivial⟩) (⟨rfl,rfl,rfl,rfl,rfl,trivial⟩)) ?_;refine uBb (.l 2) rfl (fun w1 w2 w3 w4 w5=>?_);refine uAl (s:=⟨[(2,_,_),(3,_,_),(4,_,_),(5,_,_)],[(.l 2,_),(.l 3,_),(.l 4,_),(.l 5,_),(.o 0,_)],[(.b (.l 2) 1,_),(.b (.l 2) 2,_),(.b (.l 2) 3,_),(.b (.l 2) 4,_),(.b (.l 2) 5,_)],[]⟩) (uAi (⟨sx rfl,sx rfl,sx rfl,sx rfl,trivial⟩) (⟨sx rfl,sx rfl,sx rfl,sx rfl,sx rfl,trivial⟩) (⟨rfl,rfl,rfl,rfl,rfl,trivial⟩)) ?_;refine uAe ?_;refine awp_drawn' (by kernel_rfl) ?_;refine uAD rfl rfl rfl rfl rfl rfl rfl gU rfl rfl rfl rfl rfl ?_;refine uAD rfl rfl rfl rfl rfl rfl rfl gU rfl rfl rfl rfl rfl ?_;refine uAS rfl rfl rfl rfl rfl rfl rfl gU gU (up (uAU l _ _ (by omega) (le3 hl (by first | assumption | (dsimp only; first | assumption | exact hq4 _ | exact hq5 _))))) rfl ?_;refine uAR rfl rfl rfl rfl rfl rfl rfl rfl rfl rfl rfl rfl ?_;refine uAR rfl rfl rfl rfl rfl rfl rfl rfl rfl rfl rfl rfl ?_;refine uA1 (by kernel_rfl) ?_;refine uAl (s:=⟨[(2,_,_),(4,_,_),(5,_,_)],[(.l 2,_),(.l 4,_),(.l 5,_),(.o 0,_)],[(.b (.l 2) 1,_),(.b (.l 2) 2,_),(.b (.l 2) 3,_),(.b (.l 2) 4,_),(.b (.l 2) 5,_)],[]⟩) (uAi (⟨sx rfl,sx rfl,sx rfl,trivial⟩) (⟨sx rfl,sx rfl,sx rfl,sx rfl,trivial⟩) (⟨(ak rfl (ak rfl (ak rfl (ak rfl (ak rfl (rfl)))))),(ak rfl (ak rfl (ak rfl (ak rfl (ak rfl (rfl)))))),(ak rfl (ak rfl (ak rfl (ak rfl (ak rfl (rfl)))))),(ak rfl (ak rfl (ak rfl (ak rfl (ak rfl (rfl)))))),(ak rfl (ak rfl (ak rfl (ak rfl (ak rfl (rfl)))))),trivial⟩)) ?_
       refine uBh (.l 4) (.l 2) rfl rfl rfl rfl rfl ?_;refine uAl (s:=⟨[(2,_,_),(4,_,_),(5,_,_)],[(.l 2,_),(.l 4,_),(.l 5,_),(.o 0,_)],[(.b (.l 4) 1,_),(.b (.l 4) 2,_),(.b (.l 4) 3,_),(.b (.l 4) 4,_),(.b (.l 4) 5,_)],[]⟩) (uAi (⟨sx rfl,sx rfl,sx rfl,trivial⟩) (⟨sx rfl,sx rfl,sx rfl,sx rfl,trivial⟩) (⟨rfl,rfl,rfl,rfl,rfl,trivial⟩)) ?_;refine uAo ?_
       repeat (first | refine tR ?_ | refine bR ?_)
       refine uBq rfl ?_ ⟨⟨_,rfl,rfl⟩,trivial⟩ (by simp) rfl rfl rfl rfl rfl rfl
       rfl
end Go.Proofs.YteidahabkfgfjaaGreat
namespace Go.Proofs.YteidahabkfgfjaaGreat
open Go Go.Abs
abbrev xnie (r : Nar × Int × Int) : X:=.tup [.agg r.1.cells, .c (.i .i64 r.2.1), .c (.i .i64 r.2.2)]
def uHT (l : List Tk) : Nar × Int × Int :=
 if (endE l (uDM l).2).2≠0 then (nar0,(endE l (uDM l).2).1,(endE l (uDM l).2).2)
 else if narE uAJ (uDM l).1≠0 then (nar0,0,narE uAJ (uDM l).1)
 else ((uDM l).1,0,0)
def uDF (s : List UInt8) : Nar × Int × Int:=if (tokP s).2.2≠0 then (nar0,(tokP s).2.1,(tokP s).2.2) else uHT (tokP s).1
theorem uL3 (l : List Tk) (n : Nar) (p : PS) : p.at'≤(uDK l n p).2.at':=Nat.le_trans (uA4 l uBy p).1 (Nat.le_trans (uGB l n (uCj l p) (uAv l uBy p).1 (uAv l uBy p).2).1 (uBr l [59] _).1)
end Go.Proofs.YteidahabkfgfjaaGreat
namespace Go.Proofs.YteidahabkfgfjaaGreat
open Go Go.Abs
theorem uLC (s : List UInt8) (hs : s.length≤9223372036854775807) : Ctr sys 103 [xs s] [] (uN7 (tokP s)) none []:=by rw [← uMq s]; exact uFm s hs
theorem uJh {l : List Tk} {m : Nat} {n : Nar} {p : PS} (h : p.bad=true∨symQ l p [125]=true) : uCp l m n p=(n,p):=by
 cases m with
 | zero=>rfl
 | succ m =>
  rw [uCp]
  split
  ·rfl
  ·rename_i hb
   rw [if_pos (h.resolve_left hb)]
theorem uLD {l : List Tk} {m : Nat} {n : Nar} {p : PS} (h : p.bad=false) (hq : symQ l p [125]=false) : uCp l (m + 1) n p=uCp l m (uDJ l n p).1 (uDJ l n p).2:=by
 rw [uCp,if_neg (by rw [h]; simp),if_neg (by rw [hq]; simp)]
theorem uNi {l : List Tk} {n : Nar} {p : PS} (h : (n,p)=uCp l (l.length + 2) { nar0 with name:=(uAv l [] (chR l uCt ⟨0,false⟩).2).1 } (uAP l [123] (uAv l [] (chR l uCt ⟨0,false⟩).2).2)) : uIx l=(n,uAP l [125] p):=by
 unfold uIx; dsimp only; rw [← h]
set_option maxHeartbeats 8000000 in
theorem uHW (s : List UInt8) (hs : s.length≤100000) : Ctr sysO 69 [xs s] [] (xnie (uDF s)) none []:=by
 have hcnt:=uKu s
 have htl:=Tk.rows_len (tokP s).1
 obtain ⟨l,hl⟩ : ∃ l,(tokP s).1=l:=⟨_,rfl⟩
 have hll : l.length≤100000:=by rw [← hl]; omega
 have a1:=(uIn l uCt ⟨0,false⟩).2 (Nat.zero_le _)
 have a2:=(uA4 l [] (chR l uCt ⟨0,false⟩).2).2 a1
 have a3:=(uBr l [123] (uAv l [] (chR l uCt ⟨0,false⟩).2).2).2 a2
 have hn1:=uCU l ⟨0,false⟩ uCt (by omega) (by dsimp only; omega)
 have hn2:=uBx l (chR l uCt ⟨0,false⟩).2 (by omega) (by omega)
 have hn3:=uAU l (uAv l [] (chR l uCt ⟨0,false⟩).2).2 [123] (by omega) (by omega)
 obtain ⟨h1,h2⟩:=uMJ l
 refine uAA Tryz.func69 rfl rfl rfl rfl rfl rfl ?_;refine uAe (uAb ?_);refine uAt rfl (uAL rfl rfl rfl) ?_;refine uAa rfl rfl rfl (uAc rfl gU) ?_;refine uAa rfl rfl rfl (uAc rfl gU) ?_;refine uAf ?_;refine uAe (uAb ?_);refine uAa rfl rfl rfl (uAd rfl gU) ?_;refine uAx rfl rfl rfl rfl rfl rfl gU gU (up (uLC _ (by omega))) rfl ?_;refine uAa rfl rfl rfl (uAd rfl gU) ?_;refine uAa rfl rfl rfl (uAr rfl gU rfl) ?_;refine uAa rfl rfl rfl (uAr rfl gU rfl) ?_;refine uAa rfl rfl rfl (uAr rfl gU rfl) ?_;refine uAa rfl rfl rfl (uAc rfl gU) ?_;refine uAa rfl rfl rfl (uAc rfl gU) ?_;refine uAa rfl rfl rfl (uAc rfl gU) ?_;refine uAf ?_;refine uAl (s:=⟨[(2,_,_),(5,_,_),(6,_,_),(7,_,_)],[(.l 2,_)],[],[]⟩) (uAi (⟨sx rfl,sx rfl,sx rfl,sx rfl,trivial⟩) (⟨sx rfl,trivial⟩) trivial) ?_;refine uAe ?_;refine uAe (uAb ?_);refine uAa rfl rfl rfl (uAd rfl gU) ?_;refine uAa rfl rfl rfl (uAk rfl rfl gU gU rfl) ?_;refine uAf ?_;refine uAn rfl (fun hc=>?_) (fun hc=>?_)
 ·try simp only [nn,uAh,T.rows_len,Tk.rows_len] at hc
  refine uAe (uAb ?_);refine uAa rfl rfl rfl (uBf rfl Tryz.underlying27 rfl gU) ?_;refine uAa rfl rfl rfl (uAd rfl gU) ?_;refine uAa rfl rfl rfl (uAd rfl gU) ?_;refine uAt rfl (uAy rfl rfl rfl rfl rfl rfl rfl) ?_;refine uAa rfl rfl rfl (uAc rfl gU) ?_;refine uAa rfl rfl rfl (uAc rfl gU) ?_;refine uAf ?_;refine uAo ?_
  repeat (first | refine tR ?_ | refine bR ?_)
  refine uAs rfl ?_ trivial
  (rw [uDF,if_pos hc]; rfl)
 ·try simp only [nn,uAh,T.rows_len,Tk.rows_len] at hc
  have hpe : uDF s=uHT l:=by rw [uDF,if_neg (by simpa using hc),hl]
  rw [hpe]
  rw [hl]
  refine uAp ?_;refine uAe (uAb ?_);refine uAt rfl (uF3 rfl rfl rfl rfl) ?_;refine uAf ?_;refine uAe (uAb ?_);refine uAa rfl rfl rfl (uAd rfl gU) ?_;refine uAa rfl rfl rfl (uBf rfl Tryz.underlying119 rfl gU) ?_;refine uAT (xs:=[_,_]) rfl rfl rfl rfl rfl rfl rfl rfl rfl gU rfl ?_;refine uAx rfl rfl rfl rfl rfl rfl gU gU (up hn1) rfl ?_;refine uAa rfl rfl rfl (uAd rfl gU) ?_;refine uAa rfl rfl rfl (uAr rfl gU rfl) ?_;refine uAa rfl rfl rfl (uAr rfl gU rfl) ?_;refine uAt rfl (uAL rfl rfl rfl) ?_;refine uAa rfl rfl rfl (uAc rfl gU) ?_;refine uA7 (s:=⟨[(2,_,_),(5,_,_),(8,_,_),(10,_,_),(29,_,_)],[(.l 10,_),(.l 2,_),(.l 8,_)],[],[]⟩) (uAi (⟨sx rfl,sx rfl,sx rfl,sx rfl,sx rfl,trivial⟩) (⟨sx rfl,sx rfl,sx rfl,trivial⟩) trivial) ?_;refine uAt rfl (uAy rfl rfl rfl rfl rfl rfl rfl) ?_;refine uAf ?_;refine uAe (uAb ?_);refine uAa rfl rfl rfl (uAm rfl gU rfl rfl rfl rfl rfl) ?_;refine uAx rfl rfl rfl rfl rfl rfl gU gU (up hn2) rfl ?_;refine uAa rfl rfl rfl (uAd rfl gU) ?_;refine uAa rfl rfl rfl (uAr rfl gU rfl) ?_;refine uAa rfl rfl rfl (uAr rfl gU rfl) ?_;refine uAa rfl rfl rfl (uAg rfl gU rfl rfl) ?_;refine uAt rfl (uAy rfl rfl rfl rfl rfl rfl rfl) ?_;refine uAt rfl (uAy rfl rfl rfl rfl rfl rfl rfl) ?_
  refine uAf ?_;refine uAl (s:=⟨[(2,_,_),(5,_,_),(8,_,_),(10,_,_)],[(.l 10,_),(.l 2,_),(.l 8,_)],[],[]⟩) (uAi (⟨sx rfl,sx rfl,sx rfl,sx rfl,trivial⟩) (⟨sx rfl,sx rfl,sx rfl,trivial⟩) trivial) ?_;refine uAe (uAb ?_);refine uAa rfl rfl rfl (uAm rfl gU rfl rfl rfl rfl rfl) ?_;refine uAx rfl rfl rfl rfl rfl rfl gU gU (up hn3) rfl ?_;refine uAt rfl (uAy rfl rfl rfl rfl rfl rfl rfl) ?_;refine uAf ?_;refine uAe ?_;refine uAw ?_;refine uEy (.l 8) 1 1 rfl rfl rfl ?_;refine uEy (.l 8) 2 3 rfl rfl rfl ?_;refine uEy (.l 8) 3 1 rfl rfl rfl ?_;refine uEy (.l 8) 4 7 rfl rfl rfl ?_;refine uEy (.l 8) 5 5 rfl rfl rfl ?_;refine uAW (ι:=PS × Nar) { t:=[(2,_,_),(5,_,_),(8,_,_),(10,_,_)],bx:=[(.l 2,_)],ow:=[(.b (.l 8) 1,_),(.b (.l 8) 2,_),(.b (.l 8) 3,_),(.b (.l 8) 4,_),(.b (.l 8) 5,_)] } (fun q=>[]) (fun q=>[((.l 10),pbx l q.1),((.l 8),q.2.cells)]) (fun q=>q.1.at'≤l.length∧(q.1.bad=false→q.2.Le q.1.at'∧q.2.Sm (2 * l.length + 2)) ∧ ∃ m,(q.1.bad=true∨l.length < m + q.1.at')∧uCp l m q.2 q.1=uCp l (l.length + 2) { nar0 with name:=(uAv l [] (chR l uCt ⟨0,false⟩).2).1 } (uAP l [123] (uAv l [] (chR l uCt ⟨0,false⟩).2).2)) (fun q=>(l.length - q.1.at') + (if q.1.bad=true then 0 else 1)) ((uAP l [123] (uAv l [] (chR l uCt ⟨0,false⟩).2).2,{ nar0 with name:=(uAv l [] (chR l uCt ⟨0,false⟩).2).1 })) (⟨a3,fun _=>⟨⟨Nat.zero_le _,Nat.zero_le _,Nat.zero_le _,Nat.zero_le _,Nat.zero_le _⟩,⟨fun s hs=>by simp [nar0] at hs,fun s hs=>by simp [nar0] at hs⟩⟩,l.length + 2, .inr (by omega),rfl⟩) (uAi (⟨sx rfl,sx rfl,sx rfl,sx rfl,trivial⟩) (⟨sx rfl,sx rfl,sx rfl,trivial⟩) (⟨rfl,rfl,rfl,rfl,rfl,trivial⟩)) ?_
  intro q hok
  dsimp only [List.cons_append,List.nil_append] at *
  obtain ⟨q,n⟩:=q
  dsimp only at hok ⊢
  obtain ⟨hq,hln,m,hm,hi⟩:=hok
  refine uAe ?_;refine uAe (uAb ?_);refine uAa rfl rfl rfl (uAg rfl gU rfl rfl) ?_;refine uAa rfl rfl rfl (uAj rfl gU rfl rfl rfl rfl) ?_;refine uAa rfl rfl rfl (uAZ rfl gU) ?_;refine uAa rfl rfl rfl (uAd rfl gU) ?_;refine uAa rfl rfl rfl (uAm rfl gU rfl rfl rfl rfl rfl) ?_;refine uAx rfl rfl rfl rfl rfl rfl gU (fun hh=>gA ((fun hh=>hh) hh) (gA rfl (rfl))) (up (uCg l q _ (by omega) (by omega))) rfl ?_;refine uAa rfl rfl rfl (uAZ rfl (fun hh=>hh)) ?_;refine uAa rfl rfl rfl (uAH rfl rfl gU (fun _ hi=>gP rfl hi)) ?_;refine uAf ?_;refine uAl (s:=⟨[(2,_,_),(5,_,_),(8,_,_),(10,_,_),(45,_,_)],[(.l 10,_),(.l 2,_),(.l 8,_)],[(.b (.l 8) 1,_),(.b (.l 8) 2,_),(.b (.l 8) 3,_),(.b (.l 8) 4,_),(.b (.l 8) 5,_)],[]⟩) (uAi (⟨sx rfl,sx rfl,sx rfl,sx rfl,sx rfl,trivial⟩) (⟨sx rfl,sx rfl,sx rfl,trivial⟩) (⟨rfl,rfl,rfl,rfl,rfl,trivial⟩)) ?_;refine uAn rfl (fun hc2=>?_) (fun hc2=>?_)
  ·try simp only [nn,uAh,T.rows_len,Tk.rows_len] at hc2
   obtain ⟨hb,hz⟩:=hc2
   obtain ⟨hle,hsm⟩:=hln hb
   have hm : l.length < m + q.at':=hm.resolve_left (by rw [hb]; simp)
   obtain ⟨m,rfl⟩ : ∃ j,m=j + 1:=⟨m - 1,by omega⟩
   rw [uLD hb hz] at hi
   obtain ⟨i1,i2⟩:=uIE l n q hq
   have i5:=uL3 l n q
   have i3:=uMG (l:=l) (p:=q) hle
   have i4:=uMh (l:=l) (p:=q) hsm hq
   obtain ⟨e1,e2⟩:=uJu l n q
   rw [← e1] at i1 i2 i5 i3
   refine uAp ?_;refine uAw ?_;refine uAl (s:=⟨[(2,_,_),(5,_,_),(8,_,_),(10,_,_)],[(.l 10,_),(.l 2,_),(.l 8,_)],[(.b (.l 8) 1,_),(.b (.l 8) 2,_),(.b (.l 8) 3,_),(.b (.l 8) 4,_),(.b (.l 8) 5,_)],[]⟩) (uAi (⟨sx rfl,sx rfl,sx rfl,sx rfl,trivial⟩) (⟨sx rfl,sx rfl,sx rfl,trivial⟩) (⟨rfl,rfl,rfl,rfl,rfl,trivial⟩)) ?_;refine uBb (.l 8) rfl (fun w1 w2 w3 w4 w5=>?_);refine uAl (s:=⟨[(2,_,_),(5,_,_),(8,_,_),(10,_,_)],[(.l 10,_),(.l 2,_),(.l 8,_)],[(.b (.l 8) 1,_),(.b (.l 8) 2,_),(.b (.l 8) 3,_),(.b (.l 8) 4,_),(.b (.l 8) 5,_)],[]⟩) (uAi (⟨sx rfl,sx rfl,sx rfl,sx rfl,trivial⟩) (⟨sx rfl,sx rfl,sx rfl,trivial⟩) (⟨rfl,rfl,rfl,rfl,rfl,trivial⟩)) ?_;refine uAb ?_;refine uAa rfl rfl rfl (uAm rfl gU rfl rfl rfl rfl rfl) ?_;refine uAa rfl rfl rfl (uAm rfl gU rfl rfl rfl rfl rfl) ?_;refine uDh (.l 8) (.l 10) osR rfl rfl rfl rfl rfl rfl ⟨rfl,rfl,rfl,rfl,rfl,rfl⟩ ⟨rfl,rfl,rfl,rfl,rfl,rfl⟩ rfl rfl rfl rfl rfl rfl rfl rfl rfl ⟨rfl,rfl⟩ rfl (uJQ l q n w1 w2 w3 w4 w5 (by omega) hq (hle.mono (by omega))) rfl rfl rfl rfl rfl rfl rfl rfl ?_;refine uAf ?_;refine ⟨((uDJ l n q).2,(uDJ l n q).1),?_,?_,uAi (⟨sx rfl,sx rfl,sx rfl,sx rfl,trivial⟩) (⟨⟨_,rfl,?_⟩,⟨⟨_,rfl,?_⟩,⟨sx rfl,trivial⟩⟩⟩) (⟨rfl,rfl,rfl,rfl,rfl,trivial⟩)⟩
   ·refine ⟨i1,fun hb2=>?_,m,?_,hi⟩
    ·dsimp only at hb2 ⊢
     have he:=e2 hb2
     rw [he]; exact ⟨i3,i4⟩
    ·cases hz2 : (uDJ l n q).2.bad with
     | true=>exact .inl rfl
     | false=>exact .inr (by have := i2 hz2; dsimp only; omega)
   ·dsimp only
    rw [hb]
    cases hz2 : (uDJ l n q).2.bad with
    | true=>simp; omega
    | false=>have := i2 hz2; simp; omega
   all_goals rfl
  ·try simp only [nn,uAh,T.rows_len,Tk.rows_len] at hc2
   have hst : q.bad=true∨symQ l q [125]=true:=by
    rcases hc2 with x | x
    ·exact .inl (by simpa using x)
    ·exact .inr (by simpa using x)
   rw [uJh hst] at hi
   have hR:=uNi hi
   rw [hR] at h1 h2
   dsimp only at h1 h2
   have hpl : uHT l=(if (endE l (uAP l [125] q)).2≠0 then (nar0,(endE l (uAP l [125] q)).1,(endE l (uAP l [125] q)).2) else if narE uAJ (uDM l).1≠0 then (nar0,0,narE uAJ (uDM l).1) else ((uDM l).1,0,0)):=by
    rw [uHT,← h1]
   rw [← h1] at h2
   refine uAO ?_
   repeat (first | refine uAF ?_ | refine uAG ?_ | refine uAC rfl ?_)
   refine uAe (uAb ?_);refine uAa rfl rfl rfl (uAm rfl gU rfl rfl rfl rfl rfl) ?_;refine uAx rfl rfl rfl rfl rfl rfl gU gU (up (uAU l q [125] (by omega) (by omega))) rfl ?_;refine uAt rfl (uAy rfl rfl rfl rfl rfl rfl rfl) ?_;refine uAf ?_;refine uAe ?_;refine uAe (uAb ?_);refine uAa rfl rfl rfl (uAg rfl gU rfl rfl) ?_;refine uAa rfl rfl rfl (uAj rfl gU rfl rfl rfl rfl) ?_;refine uAa rfl rfl rfl (uAd rfl gU) ?_;refine uAa rfl rfl rfl (uAg rfl gU rfl rfl) ?_;refine uAa rfl rfl rfl (uAj rfl (fun hh=>hh) rfl rfl rfl rfl) ?_;refine uAa rfl rfl rfl (uAd rfl gU) ?_;refine uAa rfl rfl rfl (uA6 rfl (fun hh=>hh) rfl rfl) ?_;refine uAa rfl rfl rfl (uAk rfl rfl (fun hh=>hh) (fun hh=>hh) rfl) ?_;refine uAa rfl rfl rfl (uAM rfl rfl gU (fun _ hi=>gP rfl hi)) ?_;refine uAf ?_;refine uAl (s:=⟨[(2,_,_),(8,_,_),(10,_,_),(62,_,_)],[(.l 10,_),(.l 2,_),(.l 8,_)],[(.b (.l 8) 1,_),(.b (.l 8) 2,_),(.b (.l 8) 3,_),(.b (.l 8) 4,_),(.b (.l 8) 5,_)],[]⟩) (uAi (⟨sx rfl,sx rfl,sx rfl,sx rfl,trivial⟩) (⟨sx rfl,sx rfl,sx rfl,trivial⟩) (⟨rfl,rfl,rfl,rfl,rfl,trivial⟩)) ?_;refine uAn rfl (fun hc3=>?_) (fun hc3=>?_)
   ·try simp only [nn,uAh,T.rows_len,Tk.rows_len] at hc3
    have he : endE l (uAP l [125] q)=(uJA l (uAP l [125] q),2):=by rw [endE,if_pos (by rcases hc3 with x | x; exact .inl x; exact .inr (by omega))]
    rw [he,if_pos (by simp)] at hpl
    refine uAe (uAb ?_);refine uAa rfl rfl rfl (uBf rfl Tryz.underlying27 rfl gU) ?_;refine uAa rfl rfl rfl (uAm rfl gU rfl rfl rfl rfl rfl) ?_;refine uAx rfl rfl rfl rfl rfl rfl gU gU (up (uJ2 _ _ (by omega))) rfl ?_;refine uAt rfl (uAy rfl rfl rfl rfl rfl rfl rfl) ?_;refine uAa rfl rfl rfl (uAc rfl gU) ?_;refine uAa rfl rfl rfl (uAc rfl gU) ?_;refine uAf ?_;refine uAo ?_
    repeat (first | refine tR ?_ | refine bR ?_)
    refine uAs rfl ?_ trivial
    (rw [hpl]; rfl)
   ·try simp only [nn,uAh,T.rows_len,Tk.rows_len] at hc3
    have he : endE l (uAP l [125] q)=(0,0) := by rw [endE,if_neg (by rintro (x | x); { rw [hc3.1] at x; cases x }; { have := hc3.2; omega })]
    rw [he,if_neg (by simp),← h2 hc3.1] at hpl
    have hb:=uCI hc3.1
    obtain ⟨hle,hsm⟩:=hln hb
    refine uAp ?_;refine uAe ?_;refine uAe (uAb ?_);refine uAa rfl rfl rfl (uAm rfl gU rfl rfl rfl rfl rfl) ?_;refine uAx rfl rfl rfl rfl rfl rfl gU gU (up (uF5 n (fun s hs=>Nat.le_trans (hsm.steps s hs) (by omega)) (fun g hg=>Nat.le_trans (hsm.goals g hg) (by omega)))) rfl ?_;refine uAa rfl rfl rfl (uAc rfl gU) ?_;refine uAf ?_;refine uAe (uAb ?_);refine uAa rfl rfl rfl (uAd rfl gU) ?_;refine uAa rfl rfl rfl (uAk rfl rfl gU gU rfl) ?_;refine uAf ?_;refine uAl (s:=⟨[(2,_,_),(8,_,_),(11,_,_),(69,_,_)],[(.l 2,_),(.l 8,_)],[(.b (.l 8) 1,_),(.b (.l 8) 2,_),(.b (.l 8) 3,_),(.b (.l 8) 4,_),(.b (.l 8) 5,_)],[]⟩) (uAi (⟨sx rfl,sx rfl,sx rfl,sx rfl,trivial⟩) (⟨sx rfl,sx rfl,trivial⟩) (⟨rfl,rfl,rfl,rfl,rfl,trivial⟩)) ?_;refine uAn rfl (fun hc4=>?_) (fun hc4=>?_)
    ·try simp only [nn,uAh,T.rows_len,Tk.rows_len] at hc4
     rw [if_pos hc4] at hpl
     refine uAe (uAb ?_);refine uAa rfl rfl rfl (uBf rfl Tryz.underlying27 rfl gU) ?_;refine uAa rfl rfl rfl (uAd rfl gU) ?_;refine uAt rfl (uAy rfl rfl rfl rfl rfl rfl rfl) ?_;refine uAa rfl rfl rfl (uAc rfl gU) ?_;refine uAa rfl rfl rfl (uAc rfl gU) ?_;refine uAf ?_;refine uAo ?_
     repeat (first | refine tR ?_ | refine bR ?_)
     refine uAs rfl ?_ trivial
     (rw [hpl]; rfl)
    ·try simp only [nn,uAh,T.rows_len,Tk.rows_len] at hc4
     rw [if_neg (by simpa using hc4)] at hpl
     refine uAp ?_;refine uAe (uAb ?_);refine uAa rfl rfl rfl (uAm rfl gU rfl rfl rfl rfl rfl) ?_;refine uAt rfl (uAy rfl rfl rfl rfl rfl rfl rfl) ?_;refine uAa rfl rfl rfl (uAc rfl gU) ?_;refine uAa rfl rfl rfl (uAc rfl gU) ?_;refine uAf ?_;refine uAo ?_
     repeat (first | refine tR ?_ | refine bR ?_)
     refine uAs rfl ?_ trivial
     (rw [hpl]; rfl)
theorem uJn (s : List UInt8) (hs : s.length≤100000) : Ctr sys 69 [xs s] [] (xnie (uDF s)) none []:=(uHW s hs).wk rfl fun _ h=>h
end Go.Proofs.YteidahabkfgfjaaGreat
namespace Go.Proofs.YteidahabkfgfjaaGreat
open Go Go.Abs
namespace T
def cmp0 (a b : T) : Int :=
 if uEZ a.size b.size≠0 then uEZ a.size b.size else if uEZ a.kind b.kind≠0 then uEZ a.kind b.kind
 else if Op.bytesLess a.name b.name=true then -1 else if (!(Op.bytesLess a.name b.name || a.name == b.name))=true then 1
 else if uEZ a.sort b.sort≠0 then uEZ a.sort b.sort else uEZ a.kids.length b.kids.length
mutual
def cmp : T→T→Int
 | mk k n s ks,b=>if cmp0 (mk k n s ks) b≠0 then cmp0 (mk k n s ks) b else cmps ks b.kids
def cmps : List T→List T→Int
 | [],_=>0
 | _ :: _,[]=>0
 | x :: xs,y :: ys=>if cmp x y≠0 then cmp x y else cmps xs ys
end
end T
end Go.Proofs.YteidahabkfgfjaaGreat
namespace Go.Proofs.YteidahabkfgfjaaGreat
open Go Go.Abs
end Go.Proofs.YteidahabkfgfjaaGreat
namespace Go.Proofs.YteidahabkfgfjaaGreat
open Go Go.Abs
theorem map_none {α β : Type} (f : Itm→List β) (g : α→Itm) (hf : ∀ x,f (g x)=[]) (l : List α) : (l.map g).flatMap f=[]:=by
 rw [List.flatMap_eq_nil_iff]
 intro i hi
 obtain ⟨x,_,rfl⟩:=List.mem_map.1 hi
 exact hf x
end Go.Proofs.YteidahabkfgfjaaGreat
namespace Go.Proofs.YteidahabkfgfjaaGreat
open Go Go.Abs
theorem uJw (a b : List Int) (h : a=b) : Ctr sys 15 [xis a,xis b] [] (xb true) none []:=by
 have la:=uAB a
 have lb:=uAB b
 have hl : a.length=b.length:=by rw [h]
 refine uAA Tryz.func15 rfl rfl rfl rfl rfl rfl ?_;refine uAe (uAb ?_);refine uAa rfl rfl rfl (uAc rfl gU) ?_;refine uAf ?_;refine uAe ?_;refine uAe (uAb ?_);refine uAa rfl rfl rfl (uAd rfl gU) ?_;refine uAN rfl rfl rfl rfl rfl gU rfl rfl ?_ (fun hh=>by simp at hh); intro hlen;refine uAa rfl rfl rfl (uAd rfl gU) ?_;refine uAN rfl rfl rfl rfl rfl gU rfl rfl ?_ (fun hh=>by simp at hh); intro hlen;refine uAa rfl rfl rfl (uAk rfl rfl gU gU rfl) ?_;refine uAf ?_;refine uAl (s:=⟨[(0,_,_),(1,_,_),(10,_,_)],[],[],[]⟩) (uAi (⟨sx rfl,sx rfl,sx rfl,trivial⟩) trivial trivial) ?_;refine uAn rfl (fun hc=>?_) (fun hc=>?_)
 ·try simp only [nn,uAB] at hc
  exact absurd (by omega) hc
 ·try simp only [nn,uAB] at hc
  refine uAp ?_;refine uAe ?_;refine uAe (uAb ?_);refine uAa rfl rfl rfl (uAd rfl gU) ?_;refine uAN rfl rfl rfl rfl rfl gU rfl rfl ?_ (fun hh=>by simp at hh); intro hlen;refine uAa rfl rfl rfl (uAd rfl gU) ?_;refine uAf ?_;refine uAw ?_;refine uAW (ι:=Nat) { t:=[(0,_,_),(1,_,_),(12,_,_)],bx:=[],ow:=[] } (fun k=>[(13,true,xi (k : Int))]) (fun k=>[]) (fun k=>k≤a.length) (fun k=>a.length - k) (0) (by simp) (uAi (⟨sx rfl,sx rfl,sx rfl,sx rfl,trivial⟩) trivial trivial) ?_
  intro k hok
  dsimp only [List.cons_append,List.nil_append]
  refine uAe (uAb ?_);refine uAa rfl rfl rfl (uAk rfl rfl gU gU rfl) ?_;refine uAf ?_;refine uAe ?_;refine uAn rfl (fun hc2=>?_) (fun hc2=>?_)
  ·try simp only [nn,uAB] at hc2
   refine uAp ?_;refine uAe ?_;refine uAw ?_;refine uAe (uAb ?_);refine uAa rfl rfl rfl (uAd rfl gU) ?_;refine uAa rfl rfl rfl (uAc rfl gU) ?_;refine uAf ?_;refine uAe ?_;refine awp_drawn' (by kernel_rfl) ?_;refine uAq rfl rfl rfl rfl (uAd rfl gU) ?_;refine uAq rfl rfl rfl rfl (uAd rfl gU) ?_;refine uAq rfl rfl rfl rfl (uAu rfl rfl gU gU rfl rfl rfl (fun hh=>uH5 (by first | omega | (simp at hh ⊢; omega)))) ?_;refine uAq rfl rfl rfl rfl (uAQ rfl gU rfl rfl rfl) ?_;refine uAq rfl rfl rfl rfl (uAd rfl gU) ?_;refine uAq rfl rfl rfl rfl (uAd rfl gU) ?_;refine uAq rfl rfl rfl rfl (uAu rfl rfl gU gU rfl rfl rfl (fun hh=>uH5 (by first | omega | (simp at hh ⊢; omega)))) ?_;refine uAq rfl rfl rfl rfl (uAQ rfl gU rfl rfl rfl) ?_;refine uAq rfl rfl rfl rfl (uAk rfl rfl gU gU rfl) ?_;refine uA1 (by kernel_rfl) ?_;refine uAl (s:=⟨[(0,_,_),(1,_,_),(12,_,_),(13,_,_),(24,_,_)],[],[],[]⟩) (uAi (⟨sx rfl,sx rfl,sx rfl,sx rfl,sx rfl,trivial⟩) trivial trivial) ?_;refine uAn rfl (fun hc3=>?_) (fun hc3=>?_)
   ·try simp only [nn,uAB] at hc3
    exact absurd (by rw [h]) hc3
   ·try simp only [nn,uAB] at hc3
    refine uAp ?_;refine uAb ?_;refine uAa rfl rfl rfl (uAz rfl rfl gU gU rfl (IntWalk.i64_in _ (by omega))) ?_;refine uAa rfl rfl rfl (uAd rfl gU) ?_;refine uAf ?_;refine ⟨k + 1,?_,?_,uAi (⟨⟨_,rfl,?_⟩,⟨sx rfl,sx rfl,sx rfl,trivial⟩⟩) trivial trivial⟩
    all_goals (first | rfl | omega)
  ·try simp only [nn,uAB] at hc2
   refine uAO ?_
   repeat (first | refine uAF ?_ | refine uAG ?_ | refine uAC rfl ?_)
   refine uAe (uAb ?_);refine uAa rfl rfl rfl (uAc rfl gU) ?_;refine uAf ?_;refine uAo ?_
   repeat (first | refine tR ?_ | refine bR ?_)
   refine uAs rfl ?_ trivial
   rfl
end Go.Proofs.YteidahabkfgfjaaGreat
namespace Go.Proofs.YteidahabkfgfjaaGreat
open Go Go.Abs
def exP : List UInt8:=[112,114,111,116,111,99,111,108,32,112,32,123,32,114,111,108,101,32,65,44,32,66,59,32,102,114,101,115,104,32,65,58,32,110,32,110,111,110,99,101,59,32,109,101,115,115,97,103,101,32,65,32,45,62,32,66,58,32]
def exQ : List UInt8:=[59,32,125]
def exW0 : List UInt8:=[97,101,110,99,40,60,110,44,32,65,62,44,32,112,107,40,115,107,40,66,41,41,41]
def exN0 : Nar:=⟨[112],[[65],[66]],[⟨[65],[110],2⟩],[],[⟨[65],[66],⟨3,[97,101,110,99],0,[⟨3,[112,97,105,114],0,[⟨2,[110],0,[]⟩,⟨2,[65],0,[]⟩]⟩,⟨3,[112,107],0,[⟨3,[115,107],0,[⟨2,[66],0,[]⟩]⟩]⟩]⟩,1⟩],[]⟩
set_option maxRecDepth 100000 in
theorem exR0 : uDF (exP++exW0++exQ)=(exN0,0,0):=by kernel_rfl
def exW1 : List UInt8:=[101,110,99,40,110,44,32,107,41]
def exN1 : Nar:=⟨[112],[[65],[66]],[⟨[65],[110],2⟩],[],[⟨[65],[66],⟨3,[101,110,99],0,[⟨2,[110],0,[]⟩,⟨2,[107],0,[]⟩]⟩,1⟩],[]⟩
set_option maxRecDepth 100000 in
theorem exR1 : uDF (exP++exW1++exQ)=(exN1,0,0):=by kernel_rfl
def exW2 : List UInt8:=[115,105,103,110,40,110,44,32,110,41]
def exN2 : Nar:=⟨[112],[[65],[66]],[⟨[65],[110],2⟩],[],[⟨[65],[66],⟨3,[115,105,103,110],0,[⟨2,[110],0,[]⟩,⟨2,[110],0,[]⟩]⟩,1⟩],[]⟩
set_option maxRecDepth 100000 in
theorem exR2 : uDF (exP++exW2++exQ)=(exN2,0,0):=by kernel_rfl
def exW3 : List UInt8:=[115,107,40,66,41]
def exN3 : Nar:=⟨[112],[[65],[66]],[⟨[65],[110],2⟩],[],[⟨[65],[66],⟨3,[115,107],0,[⟨2,[66],0,[]⟩]⟩,1⟩],[]⟩
set_option maxRecDepth 100000 in
theorem exR3 : uDF (exP++exW3++exQ)=(exN3,0,0):=by kernel_rfl
set_option maxRecDepth 100000 in
theorem exC0 : chkE uAJ exN0=(0,0):=by decide +kernel
set_option maxRecDepth 100000 in
theorem exC1 : chkE uAJ exN1=(1,13):=by decide +kernel
set_option maxRecDepth 100000 in
theorem exC2 : chkE uAJ exN2=(1,10):=by decide +kernel
set_option maxRecDepth 100000 in
theorem exC3 : chkE uAJ exN3=(1,10):=by decide +kernel
set_option maxRecDepth 100000 in
theorem exS1 : uFX exN0 [110]=(2,0):=by decide +kernel
set_option maxRecDepth 100000 in
theorem exS2 : uFX exN0 [65]=(1,0):=by decide +kernel
set_option maxRecDepth 100000 in
theorem exU : uK0 exN0 [110]=[0]:=by decide +kernel
theorem uDc (s : List UInt8) (h : s.length≤1000) : Ctr sys 35 [xs s] [] (xn (uDF (exP++s++exQ)).1) none []:=by
 refine uAA Tryz.func35 rfl rfl rfl rfl rfl rfl ?_;refine uAe (uAb ?_);refine uAt rfl (uAL rfl rfl rfl) ?_;refine uAf ?_;refine uAe (uAb ?_);refine uAa rfl rfl rfl (uAd rfl gU) ?_;refine uAa rfl rfl rfl (uEb rfl rfl gU gU (by simp; omega)) ?_;refine uAa rfl rfl rfl (uEb rfl rfl gU gU (by simp; omega)) ?_;refine uAx rfl rfl rfl rfl rfl rfl gU gU (uJn (exP++s++exQ) (by have e1 : exP.length=58:=rfl; have e2 : exQ.length=3:=rfl; rw [List.length_append,List.length_append]; omega)) rfl ?_;refine uAa rfl rfl rfl (uAd rfl gU) ?_;refine uAa rfl rfl rfl (uAr rfl gU rfl) ?_;refine uAa rfl rfl rfl (uAr rfl gU rfl) ?_;refine uAa rfl rfl rfl (uAr rfl gU rfl) ?_;refine uAt rfl (uAL rfl rfl rfl) ?_;refine uAt rfl (uAy rfl rfl rfl rfl rfl rfl rfl) ?_;refine uAa rfl rfl rfl (uAc rfl gU) ?_;refine uAa rfl rfl rfl (uAc rfl gU) ?_;refine uAf ?_;refine uAl (s:=⟨[(2,_,_),(3,_,_)],[(.l 2,_),(.l 3,_)],[],[]⟩) (uAi (⟨sx rfl,sx rfl,trivial⟩) (⟨sx rfl,sx rfl,trivial⟩) trivial) ?_;refine uAe (uAb ?_);refine uAa rfl rfl rfl (uAm rfl gU rfl rfl rfl rfl rfl) ?_;refine uAt rfl (uAy rfl rfl rfl rfl rfl rfl rfl) ?_;refine uAf ?_;refine uAo ?_
 repeat (first | refine tR ?_ | refine bR ?_)
 refine uAs rfl ?_ trivial
 rfl
theorem uGn : Ctr sys 11 [] [] (xb true) none []:=by
 have a0:=uDc exW0 (by decide)
 rw [exR0] at a0
 have c0:=uCe exN0 (by decide) (by decide)
 rw [exC0] at c0
 have a1:=uDc exW1 (by decide)
 rw [exR1] at a1
 have c1:=uCe exN1 (by decide) (by decide)
 rw [exC1] at c1
 have a2:=uDc exW2 (by decide)
 rw [exR2] at a2
 have c2:=uCe exN2 (by decide) (by decide)
 rw [exC2] at c2
 have a3:=uDc exW3 (by decide)
 rw [exR3] at a3
 have c3:=uCe exN3 (by decide) (by decide)
 rw [exC3] at c3
 have s1:=uEM exN0 [110] (by decide) (by decide)
 rw [exS1] at s1
 have s2:=uEM exN0 [65] (by decide) (by decide)
 rw [exS2] at s2
 have u1:=uKn exN0 [110] (by decide) (by decide)
 rw [exU] at u1
 refine uAA Tryz.func11 rfl rfl rfl rfl rfl rfl ?_;refine uAe (uAb ?_);refine uAa rfl rfl rfl (uAc rfl gU) ?_;refine uAf ?_;refine uAe (uAb ?_);refine uAx rfl rfl rfl rfl rfl rfl gU gU (a0) rfl ?_;refine uAt rfl (uAL rfl rfl rfl) ?_;refine uAt rfl (uAy rfl rfl rfl rfl rfl rfl rfl) ?_;refine uAf ?_;refine uAe (uAb ?_);refine uAa rfl rfl rfl (uAm rfl gU rfl rfl rfl rfl rfl) ?_;refine uAx rfl rfl rfl rfl rfl rfl gU gU (c0) rfl ?_;refine uAa rfl rfl rfl (uAd rfl gU) ?_;refine uAa rfl rfl rfl (uAr rfl gU rfl) ?_;refine uAa rfl rfl rfl (uAr rfl gU rfl) ?_;refine uAa rfl rfl rfl (uAc rfl gU) ?_;refine uAa rfl rfl rfl (uAc rfl gU) ?_;refine uAf ?_;refine uAl (s:=⟨[(1,_,_),(2,_,_),(3,_,_)],[(.l 1,_)],[],[]⟩) (uAi (⟨sx rfl,sx rfl,sx rfl,trivial⟩) (⟨sx rfl,trivial⟩) trivial) ?_;refine uAe (uAb ?_);refine uAa rfl rfl rfl (uAm rfl gU rfl rfl rfl rfl rfl) ?_;refine uAx rfl rfl rfl rfl rfl rfl gU gU (s1) rfl ?_;refine uAa rfl rfl rfl (uAd rfl gU) ?_;refine uAa rfl rfl rfl (uAr rfl gU rfl) ?_;refine uAa rfl rfl rfl (uAr rfl gU rfl) ?_;refine uAa rfl rfl rfl (uAc rfl gU) ?_;refine uAa rfl rfl rfl (uAc rfl gU) ?_;refine uAf ?_;refine uAl (s:=⟨[(1,_,_),(2,_,_),(3,_,_),(4,_,_),(5,_,_)],[(.l 1,_)],[],[]⟩) (uAi (⟨sx rfl,sx rfl,sx rfl,sx rfl,sx rfl,trivial⟩) (⟨sx rfl,trivial⟩) trivial) ?_
 refine uAe (uAb ?_);refine uAa rfl rfl rfl (uAm rfl gU rfl rfl rfl rfl rfl) ?_;refine uAx rfl rfl rfl rfl rfl rfl gU gU (s2) rfl ?_;refine uAa rfl rfl rfl (uAd rfl gU) ?_;refine uAa rfl rfl rfl (uAr rfl gU rfl) ?_;refine uAa rfl rfl rfl (uAr rfl gU rfl) ?_;refine uAa rfl rfl rfl (uAc rfl gU) ?_;refine uAa rfl rfl rfl (uAc rfl gU) ?_;refine uAf ?_;refine uAl (s:=⟨[(1,_,_),(2,_,_),(3,_,_),(4,_,_),(5,_,_),(6,_,_),(7,_,_)],[(.l 1,_)],[],[]⟩) (uAi (⟨sx rfl,sx rfl,sx rfl,sx rfl,sx rfl,sx rfl,sx rfl,trivial⟩) (⟨sx rfl,trivial⟩) trivial) ?_;refine uAe (uAb ?_);refine uAx rfl rfl rfl rfl rfl rfl gU gU (a1) rfl ?_;refine uAx rfl rfl rfl rfl rfl rfl gU gU (c1) rfl ?_;refine uAa rfl rfl rfl (uAd rfl gU) ?_;refine uAa rfl rfl rfl (uAr rfl gU rfl) ?_;refine uAa rfl rfl rfl (uAr rfl gU rfl) ?_;refine uAa rfl rfl rfl (uAc rfl gU) ?_;refine uAa rfl rfl rfl (uAc rfl gU) ?_;refine uAf ?_;refine uAl (s:=⟨[(1,_,_),(2,_,_),(3,_,_),(4,_,_),(5,_,_),(6,_,_),(7,_,_),(8,_,_),(9,_,_)],[(.l 1,_)],[],[]⟩) (uAi (⟨sx rfl,sx rfl,sx rfl,sx rfl,sx rfl,sx rfl,sx rfl,sx rfl,sx rfl,trivial⟩) (⟨sx rfl,trivial⟩) trivial) ?_;refine uAe (uAb ?_);refine uAx rfl rfl rfl rfl rfl rfl gU gU (a2) rfl ?_
 refine uAx rfl rfl rfl rfl rfl rfl gU gU (c2) rfl ?_;refine uAa rfl rfl rfl (uAd rfl gU) ?_;refine uAa rfl rfl rfl (uAr rfl gU rfl) ?_;refine uAa rfl rfl rfl (uAr rfl gU rfl) ?_;refine uAa rfl rfl rfl (uAc rfl gU) ?_;refine uAa rfl rfl rfl (uAc rfl gU) ?_;refine uAf ?_;refine uAl (s:=⟨[(1,_,_),(2,_,_),(3,_,_),(4,_,_),(5,_,_),(6,_,_),(7,_,_),(8,_,_),(9,_,_),(11,_,_)],[(.l 1,_)],[],[]⟩) (uAi (⟨sx rfl,sx rfl,sx rfl,sx rfl,sx rfl,sx rfl,sx rfl,sx rfl,sx rfl,sx rfl,trivial⟩) (⟨sx rfl,trivial⟩) trivial) ?_;refine uAe (uAb ?_);refine uAx rfl rfl rfl rfl rfl rfl gU gU (a3) rfl ?_;refine uAx rfl rfl rfl rfl rfl rfl gU gU (c3) rfl ?_;refine uAa rfl rfl rfl (uAd rfl gU) ?_;refine uAa rfl rfl rfl (uAr rfl gU rfl) ?_;refine uAa rfl rfl rfl (uAr rfl gU rfl) ?_;refine uAa rfl rfl rfl (uAc rfl gU) ?_;refine uAa rfl rfl rfl (uAc rfl gU) ?_;refine uAf ?_;refine uAl (s:=⟨[(1,_,_),(2,_,_),(3,_,_),(4,_,_),(5,_,_),(6,_,_),(7,_,_),(8,_,_),(9,_,_),(11,_,_),(13,_,_)],[(.l 1,_)],[],[]⟩) (uAi (⟨sx rfl,sx rfl,sx rfl,sx rfl,sx rfl,sx rfl,sx rfl,sx rfl,sx rfl,sx rfl,sx rfl,trivial⟩) (⟨sx rfl,trivial⟩) trivial) ?_;refine uAe (uAb ?_);refine uAa rfl rfl rfl (uAd rfl gU) ?_
 refine uAa rfl rfl rfl (uAk rfl rfl gU gU rfl) ?_;refine uAa rfl rfl rfl (uAd rfl gU) ?_;refine uAa rfl rfl rfl (uAd rfl gU) ?_;refine uAa rfl rfl rfl (uAk rfl rfl (fun hh=>hh) gU rfl) ?_;refine uAa rfl rfl rfl (uAH rfl rfl gU (fun _ hi=>gP rfl hi)) ?_;refine uAa rfl rfl rfl (uAd rfl gU) ?_;refine uAa rfl rfl rfl (uAd rfl gU) ?_;refine uAa rfl rfl rfl (uAk rfl rfl (fun hh=>hh) gU rfl) ?_;refine uAa rfl rfl rfl (uAH rfl rfl gU (fun _ hi=>gP rfl hi)) ?_;refine uAa rfl rfl rfl (uAd rfl gU) ?_;refine uAa rfl rfl rfl (uAd rfl gU) ?_;refine uA7 (s:=⟨[(1,_,_),(6,_,_),(7,_,_),(8,_,_),(9,_,_),(11,_,_),(13,_,_),(55,_,_),(56,_,_)],[(.l 1,_)],[],[]⟩) (uAi (⟨sx rfl,sx rfl,sx rfl,sx rfl,sx rfl,sx rfl,sx rfl,sx rfl,sx rfl,trivial⟩) (⟨sx rfl,trivial⟩) trivial) ?_;refine uAa rfl rfl rfl (uAk rfl rfl (fun hh=>hh) gU rfl) ?_;refine uAa rfl rfl rfl (uAH rfl rfl gU (fun _ hi=>gP rfl hi)) ?_;refine uAa rfl rfl rfl (uAd rfl gU) ?_;refine uAa rfl rfl rfl (uAd rfl gU) ?_;refine uAa rfl rfl rfl (uAk rfl rfl (fun hh=>hh) gU rfl) ?_;refine uAa rfl rfl rfl (uAH rfl rfl gU (fun _ hi=>gP rfl hi)) ?_;refine uAa rfl rfl rfl (uAd rfl gU) ?_;refine uAa rfl rfl rfl (uAd rfl gU) ?_;refine uAa rfl rfl rfl (uAk rfl rfl (fun hh=>hh) gU rfl) ?_
 refine uAa rfl rfl rfl (uAH rfl rfl gU (fun _ hi=>gP rfl hi)) ?_;refine uAa rfl rfl rfl (uAd rfl gU) ?_;refine uAa rfl rfl rfl (uAm rfl gU rfl rfl rfl rfl rfl) ?_;refine uA7 (s:=⟨[(8,_,_),(9,_,_),(11,_,_),(13,_,_),(67,_,_),(68,_,_)],[],[],[]⟩) (uAi (⟨sx rfl,sx rfl,sx rfl,sx rfl,sx rfl,sx rfl,trivial⟩) trivial trivial) ?_;refine uAx rfl rfl rfl rfl rfl rfl gU (fun hh=>gA ((fun hh=>hh) hh) (gA rfl (rfl))) (u1) rfl ?_;refine uGI (xs:=[_]) rfl rfl rfl rfl rfl rfl rfl rfl rfl (by first | exact fun hh=>hh | exact fun _=>rfl | exact fun hh=>gL hh | exact fun hh=>gL (gL hh) | (intro hh; simp_all)) rfl ?_;refine uAx rfl rfl rfl rfl rfl rfl gU (fun hh=>gA ((fun hh=>hh) hh) (gA ((fun hh=>hh) hh) (rfl))) (uJw [0] [0] rfl) rfl ?_;refine uAa rfl rfl rfl (uAH rfl rfl gU (fun _ hi=>gP rfl hi)) ?_;refine uAa rfl rfl rfl (uAd rfl gU) ?_;refine uAa rfl rfl rfl (uAd rfl gU) ?_;refine uAa rfl rfl rfl (uAk rfl rfl (fun hh=>hh) gU rfl) ?_;refine uAa rfl rfl rfl (uAH rfl rfl gU (fun _ hi=>gP rfl hi)) ?_;refine uAa rfl rfl rfl (uAd rfl gU) ?_;refine uAa rfl rfl rfl (uAd rfl gU) ?_;refine uAa rfl rfl rfl (uAk rfl rfl (fun hh=>hh) gU rfl) ?_;refine uAa rfl rfl rfl (uAH rfl rfl gU (fun _ hi=>gP rfl hi)) ?_;refine uA7 (s:=⟨[(11,_,_),(13,_,_),(80,_,_)],[],[],[]⟩) (uAi (⟨sx rfl,sx rfl,sx rfl,trivial⟩) trivial trivial) ?_
 refine uAa rfl rfl rfl (uAd rfl gU) ?_;refine uAa rfl rfl rfl (uAd rfl gU) ?_;refine uAa rfl rfl rfl (uAk rfl rfl (fun hh=>hh) gU rfl) ?_;refine uAa rfl rfl rfl (uAH rfl rfl gU (fun _ hi=>gP rfl hi)) ?_;refine uAa rfl rfl rfl (uAd rfl gU) ?_;refine uAa rfl rfl rfl (uAd rfl gU) ?_;refine uAa rfl rfl rfl (uAk rfl rfl (fun hh=>hh) gU rfl) ?_;refine uAa rfl rfl rfl (uAH rfl rfl gU (fun _ hi=>gP rfl hi)) ?_;refine uAa rfl rfl rfl (uAc rfl gU) ?_;refine uAf ?_;refine uAo ?_
 repeat (first | refine tR ?_ | refine bR ?_)
 refine uAs rfl ?_ trivial
 rfl
end Go.Proofs.YteidahabkfgfjaaGreat
namespace Go.Proofs.YteidahabkfgfjaaGreat
open Go Go.Abs
def ixS (l : List (List UInt8)) (s : List UInt8) : Int:=idxF (fun x=>decide (s=x)) l
theorem uCy (l : List (List UInt8)) (s : List UInt8) : ixS l s < 0 ↔ l.contains s=false:=by
 have h:=(uDk (fun x=>decide (s=x)) l).trans (uCh s l)
 rw [← h,ixS]; simp
theorem uDW (l : List (List UInt8)) (s : List UInt8) : 0≤ixS l s ↔ l.contains s=true:=by
 have h:=(uDk (fun x=>decide (s=x)) l).trans (uCh s l)
 rw [← h,ixS]; simp
theorem uCm (l : List (List UInt8)) (s : List UInt8) : Ctr sys 52 [xss l,xs s] [] (xi (ixS l s)) none []:=by
 have hrl:=uAh l
 refine uAA Tryz.func52 rfl rfl rfl rfl rfl rfl ?_;refine uAe (uAb ?_);refine uAa rfl rfl rfl (uAc rfl gU) ?_;refine uAf ?_;refine uAe ?_;refine uAe (uAb ?_);refine uAa rfl rfl rfl (uAc rfl gU) ?_;refine uAf ?_;refine uAw ?_;refine uAW (ι:=Nat) { t:=[(0,_,_),(1,_,_)],bx:=[],ow:=[] } (fun k=>[(5,true,xi (k : Int))]) (fun k=>[]) (fun k=>k≤l.length∧(if idxF (fun x=>decide (s=x)) (l.drop k) < 0 then -1 else idxF (fun x=>decide (s=x)) (l.drop k) + k)=idxF (fun x=>decide (s=x)) l) (fun k=>l.length - k) (0) (⟨by simp,(uE4 _ _).trans (uFx _ _)⟩) (uAi (⟨sx rfl,sx rfl,sx rfl,trivial⟩) trivial trivial) ?_
 intro k hok
 dsimp only [List.cons_append,List.nil_append]
 obtain ⟨hk,hi⟩:=hok
 refine uAe ?_;refine uAe (uAb ?_);refine uAa rfl rfl rfl (uAd rfl gU) ?_;refine uAa rfl rfl rfl (uAd rfl gU) ?_;refine uAN rfl rfl rfl rfl rfl gU rfl rfl ?_ (fun hh=>by simp at hh); intro hlen;refine uAa rfl rfl rfl (uAk rfl rfl gU gU rfl) ?_;refine uAf ?_;refine uAn rfl (fun hc=>?_) (fun hc=>?_)
 ·try simp only [nn,uAh,uAB,T.rows_len,Gl.rows_len,Fs.rows_len,Sp.rows_len] at hc
  have hd:=uFu (k:=k) (l:=l) (by omega) hi
  refine uAp ?_;refine uAe ?_;refine uAw ?_;refine uAe (uAb ?_);refine uAa rfl rfl rfl (uAd rfl gU) ?_;refine uAa rfl rfl rfl (uAd rfl gU) ?_;refine uAa rfl rfl rfl (uAu rfl rfl gU gU rfl rfl rfl (fun hh=>uBQ (by first | omega | (simp at hh ⊢; omega) | (simp [isT] at hh ⊢; omega)))) ?_;refine uAa rfl rfl rfl (uAQ rfl gU rfl rfl rfl) ?_;refine uAa rfl rfl rfl (uAd rfl gU) ?_;refine uAa rfl rfl rfl (uA3 rfl rfl gU gU rfl) ?_;refine uAf ?_;refine uAl (s:=⟨[(0,_,_),(1,_,_),(5,_,_),(17,_,_)],[],[],[]⟩) (uAi (⟨sx rfl,sx rfl,sx rfl,sx rfl,trivial⟩) trivial trivial) ?_;refine uAn rfl (fun hc2=>?_) (fun hc2=>?_)
  ·try simp only [nn,uAh,uAB,T.rows_len,Gl.rows_len,Fs.rows_len,Sp.rows_len] at hc2
   refine uAe (uAb ?_);refine uAa rfl rfl rfl (uAd rfl gU) ?_;refine uAa rfl rfl rfl (uAc rfl gU) ?_;refine uAf ?_;refine uAo ?_
   repeat (first | refine tR ?_ | refine bR ?_)
   refine uAs rfl ?_ trivial;exact uA9 (hd.1 (decide_eq_true hc2.symm)).symm
  ·try simp only [nn,uAh,uAB,T.rows_len,Gl.rows_len,Fs.rows_len,Sp.rows_len] at hc2
   refine uAp ?_;refine uAb ?_;refine uAa rfl rfl rfl (uAd rfl gU) ?_;refine uAa rfl rfl rfl (uAz rfl rfl gU gU rfl (IntWalk.i64_in _ (by omega))) ?_;refine uAa rfl rfl rfl (uAc rfl gU) ?_;refine uAf ?_;refine ⟨k + 1,?_,?_,uAi (⟨⟨_,rfl,?_⟩,⟨sx rfl,sx rfl,trivial⟩⟩) trivial trivial⟩
   all_goals (first | rfl | omega | exact ⟨by omega,hd.2 (decide_eq_false fun q=>hc2 q.symm)⟩)
 ·try simp only [nn,uAh,uAB,T.rows_len,Gl.rows_len,Fs.rows_len,Sp.rows_len] at hc
  refine uAO ?_
  repeat (first | refine uAF ?_ | refine uAG ?_ | refine uAC rfl ?_)
  refine uAe (uAb ?_);refine uAa rfl rfl rfl (uAc rfl gU) ?_;refine uAf ?_;refine uAo ?_
  repeat (first | refine tR ?_ | refine bR ?_)
  refine uAs rfl ?_ trivial;exact uA9 (uGN (by omega) hi).symm
def srtL (n : Nar) : List Int:=(nmsL n).map (·.2)
abbrev x2l (a : List (List UInt8)) (b : List Int) : X:=.tup [.c (.sl 1 (strR a)), .c (.sl 1 (intR b))]
theorem uGM (n : Nar) : uBa n=n.roles++(n.fresh.map Fs.name++n.tags):=by
 rw [uBa,nmsL]
 simp [List.map_append,List.map_map,Function.comp_def]
theorem uNu (n : Nar) : srtL n=n.roles.map (fun _=>(1 : Int))++(n.fresh.map Fs.sort++n.tags.map fun _=>(5 : Int)):=by
 rw [srtL,nmsL]
 simp [List.map_append,List.map_map,Function.comp_def]
theorem uEf (n : Nar) (h1 : n.roles.length≤900000) (h2 : n.fresh.length≤900000) (h3 : n.tags.length≤900000) : Ctr sys 51 [xn n] [] (x2l (uBa n) (srtL n)) none []:=by
 have l1:=uAh n.roles
 have l2:=Fs.rows_len n.fresh
 have l3:=uAh n.tags
 rw [uGM,uNu]
 refine uAA Tryz.func51 rfl rfl rfl rfl rfl rfl ?_;refine uAe (uAb ?_);refine uAt rfl (uAI rfl rfl rfl rfl) ?_;refine uAt rfl (uBw (.inr rfl) rfl rfl) ?_;refine uAt rfl (uBw (.inr rfl) rfl rfl) ?_;refine uAf ?_;refine uAe (uAb ?_);refine uAt rfl (uBw (.inr rfl) rfl rfl) ?_;refine uAf ?_;refine uAe (uAb ?_);refine uAt rfl (uBw (.inr rfl) rfl rfl) ?_;refine uAf ?_;refine uAl (s:=⟨[(1,_,_),(4,_,_),(5,_,_)],[(.l 1,_)],[(.t 4,_),(.t 5,_)],[]⟩) (uAi (⟨sx rfl,sx rfl,sx rfl,trivial⟩) (⟨sx rfl,trivial⟩) (⟨rfl,rfl,trivial⟩)) ?_;refine uAe ?_;refine uAe (uAb ?_);refine uAa rfl rfl rfl (uAc rfl gU) ?_;refine uAf ?_;refine uAw ?_;refine uAW (ι:=Nat) { t:=[(1,_,_)],bx:=[(.l 1,_)],ow:=[(.t 4,_),(.t 5,_)] } (fun k=>[(6,true,xi (k : Int)),(4,true,xss (n.roles.take k)),(5,true,xis ((n.roles.take k).map fun _=>(1 : Int)))]) (fun k=>[]) (fun k=>k≤n.roles.length) (fun k=>n.roles.length - k) (0) (by simp) (uAi (⟨sx rfl,sx rfl,sx rfl,sx rfl,trivial⟩) (⟨sx rfl,trivial⟩) (⟨rfl,rfl,trivial⟩)) ?_
 intro k hoka
 dsimp only [List.cons_append,List.nil_append]
 refine uAe ?_;refine uAe (uAb ?_);refine uAa rfl rfl rfl (uAd rfl gU) ?_;refine uAa rfl rfl rfl (uAg rfl gU rfl rfl) ?_;refine uAa rfl rfl rfl (uAj rfl gU rfl rfl rfl rfl) ?_;refine uAN rfl rfl rfl rfl rfl gU rfl rfl ?_ (fun hh=>by simp at hh); intro hlen;refine uAa rfl rfl rfl (uAk rfl rfl gU gU rfl) ?_;refine uAf ?_;refine uAl (s:=⟨[(1,_,_),(4,_,_),(5,_,_),(6,_,_),(13,_,_)],[(.l 1,_)],[(.t 4,_),(.t 5,_)],[]⟩) (uAi (⟨sx rfl,sx rfl,sx rfl,sx rfl,sx rfl,trivial⟩) (⟨sx rfl,trivial⟩) (⟨rfl,rfl,trivial⟩)) ?_;refine uAn rfl (fun hc=>?_) (fun hc=>?_)
 ·try simp only [nn,uAh,uAB,T.rows_len,Gl.rows_len,Fs.rows_len,Sp.rows_len] at hc
  have hT:=uBH (l:=n.roles) (d:=[]) (k:=k) (by omega)
  refine uAp ?_;refine uAe ?_;refine uAw ?_;refine uAb ?_;refine uAt rfl (uAV (.inl rfl) rfl rfl rfl) ?_;refine uAa rfl rfl rfl (uAg rfl gU rfl rfl) ?_;refine uAa rfl rfl rfl (uAj rfl gU rfl rfl rfl rfl) ?_;refine uAa rfl rfl rfl (uAd rfl gU) ?_;refine uAa rfl rfl rfl (uAu rfl rfl gU gU rfl rfl rfl (fun hh=>uBQ (by first | omega | (simp at hh ⊢; omega) | (simp [isT] at hh ⊢; omega)))) ?_;refine uAa rfl rfl rfl (uAQ rfl gU rfl rfl rfl) ?_;refine uAT (xs:=[_]) rfl rfl rfl rfl rfl rfl rfl rfl rfl gU rfl ?_;refine uAt rfl (uA0 rfl rfl rfl rfl rfl rfl rfl (by first | omega | (simp only [List.length_append,List.length_singleton,uAh,uAB,List.length_map,List.length_take]; omega)) (by first | omega | (simp only [List.length_append,List.length_singleton,uAh,uAB,List.length_map,List.length_take]; omega))) ?_;refine uAt rfl (uAV (.inl rfl) rfl rfl rfl) ?_;refine uAT (xs:=[_]) rfl rfl rfl rfl rfl rfl rfl rfl rfl gU rfl ?_;refine uAt rfl (uA0 rfl rfl rfl rfl rfl rfl rfl (by first | omega | (simp only [List.length_append,List.length_singleton,uAh,uAB,List.length_map,List.length_take]; omega)) (by first | omega | (simp only [List.length_append,List.length_singleton,uAh,uAB,List.length_map,List.length_take]; omega))) ?_;refine uAt rfl (uAV (.inr rfl) rfl rfl rfl) ?_;refine uA7 (s:=⟨[(1,_,_),(4,_,_),(6,_,_),(26,_,_)],[(.l 1,_)],[(.t 26,_),(.t 4,_)],[]⟩) (uAi (⟨sx rfl,sx rfl,sx rfl,sx rfl,trivial⟩) (⟨sx rfl,trivial⟩) (⟨rfl,rfl,trivial⟩)) ?_
  refine uAt rfl (uAV (.inr rfl) rfl rfl rfl) ?_;refine uAf ?_;refine uAb ?_;refine uAa rfl rfl rfl (uAd rfl gU) ?_;refine uAa rfl rfl rfl (uAz rfl rfl gU gU rfl (IntWalk.i64_in _ (by omega))) ?_;refine uAa rfl rfl rfl (uAc rfl gU) ?_;refine uAf ?_;refine ⟨k + 1,?_,?_,uAi (⟨⟨_,rfl,?_⟩,⟨⟨_,rfl,?_⟩,⟨⟨_,rfl,?_⟩,⟨sx rfl,trivial⟩⟩⟩⟩) (⟨sx rfl,trivial⟩) (⟨rfl,rfl,trivial⟩)⟩
  all_goals (first | rfl | omega | exact tx ((uDN _ _).trans (by rw [hT])) | exact tx ((uFe _ _).trans (by rw [hT,List.map_append]; rfl)))
 ·try simp only [nn,uAh,uAB,T.rows_len,Gl.rows_len,Fs.rows_len,Sp.rows_len] at hc
  have hk : k=n.roles.length:=by omega
  subst hk
  rw [List.take_length]
  refine uAO ?_
  repeat (first | refine uAF ?_ | refine uAG ?_ | refine uAC rfl ?_)
  refine uAe ?_;refine uAe (uAb ?_);refine uAa rfl rfl rfl (uAc rfl gU) ?_;refine uAf ?_;refine uAw ?_;refine uAW (ι:=Nat) { t:=[(1,_,_)],bx:=[(.l 1,_)],ow:=[(.t 4,_),(.t 5,_)] } (fun j=>[(7,true,xi (j : Int)),(4,true,xss (n.roles++(n.fresh.take j).map Fs.name)),(5,true,xis (n.roles.map (fun _=>(1 : Int))++(n.fresh.take j).map Fs.sort))]) (fun j=>[]) (fun j=>j≤n.fresh.length) (fun j=>n.fresh.length - j) (0) (by simp) (uAi (⟨sx rfl,⟨⟨_,rfl,by simp⟩,⟨⟨_,rfl,by simp⟩,⟨sx rfl,trivial⟩⟩⟩⟩) (⟨sx rfl,trivial⟩) (⟨rfl,rfl,trivial⟩)) ?_
  intro j hokb
  dsimp only [List.cons_append,List.nil_append]
  refine uAe ?_;refine uAe (uAb ?_);refine uAa rfl rfl rfl (uAd rfl gU) ?_;refine uAa rfl rfl rfl (uAg rfl gU rfl rfl) ?_;refine uAa rfl rfl rfl (uAj rfl gU rfl rfl rfl rfl) ?_;refine uAN rfl rfl rfl rfl rfl gU rfl rfl ?_ (fun hh=>by simp at hh); intro hlen;refine uAa rfl rfl rfl (uAk rfl rfl gU gU rfl) ?_;refine uAf ?_;refine uAl (s:=⟨[(1,_,_),(4,_,_),(5,_,_),(7,_,_),(31,_,_)],[(.l 1,_)],[(.t 4,_),(.t 5,_)],[]⟩) (uAi (⟨sx rfl,sx rfl,sx rfl,sx rfl,sx rfl,trivial⟩) (⟨sx rfl,trivial⟩) (⟨rfl,rfl,trivial⟩)) ?_;refine uAn rfl (fun hc2=>?_) (fun hc2=>?_)
  ·try simp only [nn,uAh,uAB,T.rows_len,Gl.rows_len,Fs.rows_len,Sp.rows_len] at hc2
   have hT:=uBH (l:=n.fresh) (d:=default) (k:=j) (by omega)
   refine uAp ?_;refine uAe ?_;refine uAw ?_;refine awp_drawn' (by kernel_rfl) ?_;refine uDu rfl (.inl rfl) rfl rfl rfl rfl rfl ?_;refine uAq rfl rfl rfl rfl (uAg rfl gU rfl rfl) ?_;refine uBj rfl rfl rfl rfl rfl rfl rfl gU rfl rfl rfl rfl ?_;refine uAq rfl rfl rfl rfl (uAd rfl gU) ?_;refine uAq rfl rfl rfl rfl (uAu rfl rfl gU gU rfl rfl rfl (fun hh=>Fs.rows_at (by first | omega | (simp at hh ⊢; omega) | (simp [isT] at hh ⊢; omega)))) ?_;refine uAq rfl rfl rfl rfl (uA2 rfl gU rfl rfl) ?_;refine uAq rfl rfl rfl rfl (uAQ rfl gU rfl rfl rfl) ?_;refine uEc (xs:=[_]) rfl rfl rfl rfl rfl rfl rfl rfl rfl rfl gU rfl ?_;refine uFH rfl rfl rfl rfl rfl (rko (ak2 rfl (ak rfl (ak rfl (ak rfl (ak rfl (ak rfl (ak rfl (rfl))))))))) rfl rfl rfl rfl rfl (by first | omega | (simp only [List.length_append,List.length_singleton,uAh,uAB,List.length_map,List.length_take]; omega)) (by first | omega | (simp only [List.length_append,List.length_singleton,uAh,uAB,List.length_map,List.length_take]; omega)) ?_;refine uDu rfl (.inl rfl) rfl rfl rfl rfl rfl ?_;refine uAq rfl rfl rfl rfl (uAg rfl gU rfl rfl) ?_;refine uBj rfl rfl rfl rfl rfl rfl rfl gU rfl rfl rfl rfl ?_;refine uAq rfl rfl rfl rfl (uAd rfl gU) ?_;refine uAq rfl rfl rfl rfl (uAu rfl rfl gU gU rfl rfl rfl (fun hh=>Fs.rows_at (by first | omega | (simp at hh ⊢; omega) | (simp [isT] at hh ⊢; omega)))) ?_
   refine uAq rfl rfl rfl rfl (uA2 rfl gU rfl rfl) ?_;refine uAq rfl rfl rfl rfl (uAQ rfl gU rfl rfl rfl) ?_;refine uEc (xs:=[_]) rfl rfl rfl rfl rfl rfl rfl rfl rfl rfl gU rfl ?_;refine uFH rfl rfl rfl rfl rfl (rko (ak2 rfl (ak rfl (ak rfl (ak rfl (ak rfl (ak rfl (ak rfl (rfl))))))))) rfl rfl rfl rfl rfl (by first | omega | (simp only [List.length_append,List.length_singleton,uAh,uAB,List.length_map,List.length_take]; omega)) (by first | omega | (simp only [List.length_append,List.length_singleton,uAh,uAB,List.length_map,List.length_take]; omega)) ?_;refine uDu rfl (.inr rfl) rfl rfl rfl rfl rfl ?_;refine uDu rfl (.inr rfl) rfl rfl rfl rfl rfl ?_;refine uA1 (by kernel_rfl) ?_;refine uAl (s:=⟨[(1,_,_),(4,_,_),(5,_,_),(7,_,_)],[(.l 1,_)],[(.t 4,_),(.t 5,_)],[]⟩) (uAi (⟨sx rfl,sx rfl,sx rfl,sx rfl,trivial⟩) (⟨sx rfl,trivial⟩) (⟨rfl,rfl,trivial⟩)) ?_;refine uAb ?_;refine uAa rfl rfl rfl (uAd rfl gU) ?_;refine uAa rfl rfl rfl (uAz rfl rfl gU gU rfl (IntWalk.i64_in _ (by omega))) ?_;refine uAa rfl rfl rfl (uAc rfl gU) ?_;refine uAf ?_;refine ⟨j + 1,?_,?_,uAi (⟨⟨_,rfl,?_⟩,⟨⟨_,rfl,?_⟩,⟨⟨_,rfl,?_⟩,⟨sx rfl,trivial⟩⟩⟩⟩) (⟨sx rfl,trivial⟩) (⟨rfl,rfl,trivial⟩)⟩
   all_goals (first | rfl | omega | exact tx ((uDN _ _).trans (by rw [hT,List.map_append,List.append_assoc]; rfl)) | exact tx ((uFe _ _).trans (by rw [hT,List.map_append,List.append_assoc]; rfl)))
  ·try simp only [nn,uAh,uAB,T.rows_len,Gl.rows_len,Fs.rows_len,Sp.rows_len] at hc2
   have hj : j=n.fresh.length:=by omega
   subst hj
   rw [List.take_length]
   refine uAO ?_
   repeat (first | refine uAF ?_ | refine uAG ?_ | refine uAC rfl ?_)
   refine uAe ?_;refine uAe (uAb ?_);refine uAa rfl rfl rfl (uAc rfl gU) ?_;refine uAf ?_;refine uAw ?_;refine uAW (ι:=Nat) { t:=[(1,_,_)],bx:=[(.l 1,_)],ow:=[(.t 4,_),(.t 5,_)] } (fun i=>[(8,true,xi (i : Int)),(4,true,xss (n.roles++(n.fresh.map Fs.name++n.tags.take i))),(5,true,xis (n.roles.map (fun _=>(1 : Int))++(n.fresh.map Fs.sort++(n.tags.take i).map fun _=>(5 : Int))))]) (fun i=>[]) (fun i=>i≤n.tags.length) (fun i=>n.tags.length - i) (0) (by simp) (uAi (⟨sx rfl,⟨⟨_,rfl,by simp⟩,⟨⟨_,rfl,by simp⟩,⟨sx rfl,trivial⟩⟩⟩⟩) (⟨sx rfl,trivial⟩) (⟨rfl,rfl,trivial⟩)) ?_
   intro i hokc
   dsimp only [List.cons_append,List.nil_append]
   refine uAe ?_;refine uAe (uAb ?_);refine uAa rfl rfl rfl (uAd rfl gU) ?_;refine uAa rfl rfl rfl (uAg rfl gU rfl rfl) ?_;refine uAa rfl rfl rfl (uAj rfl gU rfl rfl rfl rfl) ?_;refine uAN rfl rfl rfl rfl rfl gU rfl rfl ?_ (fun hh=>by simp at hh); intro hlen;refine uAa rfl rfl rfl (uAk rfl rfl gU gU rfl) ?_;refine uAf ?_;refine uAl (s:=⟨[(1,_,_),(4,_,_),(5,_,_),(8,_,_),(56,_,_)],[(.l 1,_)],[(.t 4,_),(.t 5,_)],[]⟩) (uAi (⟨sx rfl,sx rfl,sx rfl,sx rfl,sx rfl,trivial⟩) (⟨sx rfl,trivial⟩) (⟨rfl,rfl,trivial⟩)) ?_;refine uAn rfl (fun hc3=>?_) (fun hc3=>?_)
   ·try simp only [nn,uAh,uAB,T.rows_len,Gl.rows_len,Fs.rows_len,Sp.rows_len] at hc3
    have hT:=uBH (l:=n.tags) (d:=[]) (k:=i) (by omega)
    refine uAp ?_;refine uAe ?_;refine uAw ?_;refine uAb ?_;refine uAt rfl (uAV (.inl rfl) rfl rfl rfl) ?_;refine uAa rfl rfl rfl (uAg rfl gU rfl rfl) ?_;refine uAa rfl rfl rfl (uAj rfl gU rfl rfl rfl rfl) ?_;refine uAa rfl rfl rfl (uAd rfl gU) ?_;refine uAa rfl rfl rfl (uAu rfl rfl gU gU rfl rfl rfl (fun hh=>uBQ (by first | omega | (simp at hh ⊢; omega) | (simp [isT] at hh ⊢; omega)))) ?_;refine uAa rfl rfl rfl (uAQ rfl gU rfl rfl rfl) ?_;refine uAT (xs:=[_]) rfl rfl rfl rfl rfl rfl rfl rfl rfl gU rfl ?_;refine uAt rfl (uA0 rfl rfl rfl rfl rfl rfl rfl (by first | omega | (simp only [List.length_append,List.length_singleton,uAh,uAB,List.length_map,List.length_take]; omega)) (by first | omega | (simp only [List.length_append,List.length_singleton,uAh,uAB,List.length_map,List.length_take]; omega))) ?_;refine uAt rfl (uAV (.inl rfl) rfl rfl rfl) ?_;refine uAT (xs:=[_]) rfl rfl rfl rfl rfl rfl rfl rfl rfl gU rfl ?_;refine uAt rfl (uA0 rfl rfl rfl rfl rfl rfl rfl (by first | omega | (simp only [List.length_append,List.length_singleton,uAh,uAB,List.length_map,List.length_take]; omega)) (by first | omega | (simp only [List.length_append,List.length_singleton,uAh,uAB,List.length_map,List.length_take]; omega))) ?_;refine uAt rfl (uAV (.inr rfl) rfl rfl rfl) ?_;refine uA7 (s:=⟨[(1,_,_),(4,_,_),(8,_,_),(69,_,_)],[(.l 1,_)],[(.t 4,_),(.t 69,_)],[]⟩) (uAi (⟨sx rfl,sx rfl,sx rfl,sx rfl,trivial⟩) (⟨sx rfl,trivial⟩) (⟨rfl,rfl,trivial⟩)) ?_
    refine uAt rfl (uAV (.inr rfl) rfl rfl rfl) ?_;refine uAf ?_;refine uAb ?_;refine uAa rfl rfl rfl (uAd rfl gU) ?_;refine uAa rfl rfl rfl (uAz rfl rfl gU gU rfl (IntWalk.i64_in _ (by omega))) ?_;refine uAa rfl rfl rfl (uAc rfl gU) ?_;refine uAf ?_;refine ⟨i + 1,?_,?_,uAi (⟨⟨_,rfl,?_⟩,⟨⟨_,rfl,?_⟩,⟨⟨_,rfl,?_⟩,⟨sx rfl,trivial⟩⟩⟩⟩) (⟨sx rfl,trivial⟩) (⟨rfl,rfl,trivial⟩)⟩
    all_goals (first | rfl | omega | exact tx ((uDN _ _).trans (by rw [hT,List.append_assoc,List.append_assoc])) | exact tx ((uFe _ _).trans (by rw [hT,List.map_append,List.append_assoc,List.append_assoc]; rfl)))
   ·try simp only [nn,uAh,uAB,T.rows_len,Gl.rows_len,Fs.rows_len,Sp.rows_len] at hc3
    have hi : i=n.tags.length:=by omega
    subst hi
    rw [List.take_length]
    refine uAO ?_
    repeat (first | refine uAF ?_ | refine uAG ?_ | refine uAC rfl ?_)
    refine uAe (uAb ?_);refine uAt rfl (uAV (.inl rfl) rfl rfl rfl) ?_;refine uAt rfl (uAV (.inl rfl) rfl rfl rfl) ?_;refine uAt rfl (uAV (.inr rfl) rfl rfl rfl) ?_;refine uAt rfl (uAV (.inr rfl) rfl rfl rfl) ?_;refine uAf ?_;refine uAo ?_
    repeat (first | refine tR ?_ | refine bR ?_)
    refine uAs rfl ?_ trivial
    rfl
theorem uE2 (n : Nar) (t : T) : Ctr sys 147 [xn n,xm t] [] (xb (uFf n.roles t)) none []:=by
 refine uAA Tryz.func147 rfl rfl rfl rfl rfl rfl ?_;refine uAe (uAb ?_);refine uAt rfl (uAI rfl rfl rfl rfl) ?_;refine uAt rfl (uAI rfl rfl rfl rfl) ?_;refine uAa rfl rfl rfl (uAc rfl gU) ?_;refine uAf ?_;refine uAe (uAb ?_);refine uAa rfl rfl rfl (uAg rfl gU rfl rfl) ?_;refine uAa rfl rfl rfl (uAj rfl gU rfl rfl rfl rfl) ?_;refine uAa rfl rfl rfl (uAk rfl rfl gU gU rfl) ?_;refine uAa rfl rfl rfl (uAd rfl gU) ?_;refine uAa rfl rfl rfl (uAg rfl gU rfl rfl) ?_;refine uAa rfl rfl rfl (uAj rfl (fun hh=>hh) rfl rfl rfl rfl) ?_;refine uAa rfl rfl rfl (uAg rfl gU rfl rfl) ?_;refine uAa rfl rfl rfl (uAj rfl (fun hh=>hh) rfl rfl rfl rfl) ?_;refine uAx rfl rfl rfl rfl rfl rfl gU (fun hh=>gA ((fun hh=>hh) hh) (gA ((fun hh=>hh) hh) (rfl))) (uCm _ _) rfl ?_;refine uA7 (s:=⟨[(8,_,_),(13,_,_)],[],[],[]⟩) (uAi (⟨sx rfl,sx rfl,trivial⟩) trivial trivial) ?_;refine uAa rfl rfl rfl (uAk rfl rfl (fun hh=>hh) gU rfl) ?_;refine uAa rfl rfl rfl (uAH rfl rfl gU (fun _ hi=>gP rfl hi)) ?_;refine uAa rfl rfl rfl (uAc rfl gU) ?_;refine uAf ?_;refine uAo ?_
 repeat (first | refine tR ?_ | refine bR ?_)
 refine uAs rfl ?_ trivial;refine uB4 ?_
 rw [uFf,← (uDk _ n.roles).trans (uCh t.name n.roles)]
 rw [Bool.eq_iff_iff]
 simp [ixS]
 intro _; exact decide_eq_true_iff
theorem uGA (n : Nar) (t : T) : Ctr sys 146 [xn n,xm t] [] (xb (uEi n.roles t)) none []:=by
 have hr:=T.rows_len t.kids
 refine uAA Tryz.func146 rfl rfl rfl rfl rfl rfl ?_;refine uAe (uAb ?_);refine uAt rfl (uAI rfl rfl rfl rfl) ?_;refine uAt rfl (uAI rfl rfl rfl rfl) ?_;refine uAa rfl rfl rfl (uAc rfl gU) ?_;refine uAf ?_;refine uAe ?_;refine awp_drawn' (by kernel_rfl) ?_;refine uAD rfl rfl rfl rfl rfl rfl rfl gU rfl rfl rfl rfl rfl ?_;refine uAS rfl rfl rfl rfl rfl rfl rfl gU gU (uI2 _ _) rfl ?_;refine uAq rfl rfl rfl rfl (uAd rfl gU) ?_;refine uAq rfl rfl rfl rfl (uAg rfl gU rfl rfl) ?_;refine uBj rfl rfl rfl rfl rfl rfl rfl (fun hh=>hh) rfl rfl rfl rfl ?_;refine uAq rfl rfl rfl rfl (uA6 rfl (fun hh=>hh) rfl rfl) ?_;refine uAq rfl rfl rfl rfl (uAk rfl rfl (fun hh=>hh) gU rfl) ?_;refine uAq rfl rfl rfl rfl (uAH rfl rfl gU (fun _ hi=>gP rfl hi)) ?_;refine uAq rfl rfl rfl rfl (uAd rfl gU) ?_;refine uAD rfl rfl rfl rfl rfl rfl rfl gU rfl rfl rfl rfl rfl ?_;refine uAq rfl rfl rfl rfl (uAg rfl gU rfl rfl) ?_;refine uBj rfl rfl rfl rfl rfl rfl rfl (fun hh=>hh) rfl rfl rfl rfl ?_;refine uAq rfl rfl rfl rfl (uAu (j:=0) rfl rfl (fun hh=>hh) gU rfl rfl (by first | omega | (simp at hh ⊢; omega) | (simp [isT] at hh ⊢; omega)) (fun hh=>T.rows_at (by first | omega | (simp at hh ⊢; omega) | (simp [isT] at hh ⊢; omega)))) ?_;refine uAq rfl rfl rfl rfl (uAE rfl (fun hh=>hh) rfl rfl rfl rfl) ?_;refine uAS rfl rfl rfl rfl rfl rfl rfl gU (fun hh=>gA ((fun hh=>hh) hh) (gA ((fun hh=>hh) hh) (rfl))) (uE2 _ _) rfl ?_
 refine uAq rfl rfl rfl rfl (uAH rfl rfl gU (fun _ hi=>gP rfl hi)) ?_;refine uAq rfl rfl rfl rfl (uAc rfl gU) ?_;refine uA1 (by kernel_rfl) ?_;refine uAo ?_
 repeat (first | refine tR ?_ | refine bR ?_)
 refine uAs rfl ?_ trivial;refine uB4 ?_
 rw [uEi,isT,kid,Bool.eq_iff_iff]
 simp [and_assoc]
 intro _; rw [hr]; exact Iff.rfl
theorem uHn (n : Nar) (t : T) : Ctr sys 145 [xn n,xm t] [] (xb (pubT n.roles t)) none []:=by
 have hr:=T.rows_len t.kids
 refine uAA Tryz.func145 rfl rfl rfl rfl rfl rfl ?_;refine uAe (uAb ?_);refine uAt rfl (uAI rfl rfl rfl rfl) ?_;refine uAt rfl (uAI rfl rfl rfl rfl) ?_;refine uAa rfl rfl rfl (uAc rfl gU) ?_;refine uAf ?_;refine uAe ?_;refine awp_drawn' (by kernel_rfl) ?_;refine uAD rfl rfl rfl rfl rfl rfl rfl gU rfl rfl rfl rfl rfl ?_;refine uAS rfl rfl rfl rfl rfl rfl rfl gU gU (uI2 _ _) rfl ?_;refine uAq rfl rfl rfl rfl (uAd rfl gU) ?_;refine uAq rfl rfl rfl rfl (uAg rfl gU rfl rfl) ?_;refine uBj rfl rfl rfl rfl rfl rfl rfl (fun hh=>hh) rfl rfl rfl rfl ?_;refine uAq rfl rfl rfl rfl (uA6 rfl (fun hh=>hh) rfl rfl) ?_;refine uAq rfl rfl rfl rfl (uAk rfl rfl (fun hh=>hh) gU rfl) ?_;refine uAq rfl rfl rfl rfl (uAH rfl rfl gU (fun _ hi=>gP rfl hi)) ?_;refine uAq rfl rfl rfl rfl (uAd rfl gU) ?_;refine uAD rfl rfl rfl rfl rfl rfl rfl gU rfl rfl rfl rfl rfl ?_;refine uAq rfl rfl rfl rfl (uAg rfl gU rfl rfl) ?_;refine uBj rfl rfl rfl rfl rfl rfl rfl (fun hh=>hh) rfl rfl rfl rfl ?_;refine uAq rfl rfl rfl rfl (uAu (j:=0) rfl rfl (fun hh=>hh) gU rfl rfl (by first | omega | (simp at hh ⊢; omega) | (simp [isT] at hh ⊢; omega)) (fun hh=>T.rows_at (by first | omega | (simp at hh ⊢; omega) | (simp [isT] at hh ⊢; omega)))) ?_;refine uAq rfl rfl rfl rfl (uAE rfl (fun hh=>hh) rfl rfl rfl rfl) ?_;refine uAS rfl rfl rfl rfl rfl rfl rfl gU (fun hh=>gA ((fun hh=>hh) hh) (gA ((fun hh=>hh) hh) (rfl))) (uGA _ _) rfl ?_
 refine uAq rfl rfl rfl rfl (uAH rfl rfl gU (fun _ hi=>gP rfl hi)) ?_;refine uAq rfl rfl rfl rfl (uAc rfl gU) ?_;refine uA1 (by kernel_rfl) ?_;refine uAo ?_
 repeat (first | refine tR ?_ | refine bR ?_)
 refine uAs rfl ?_ trivial;refine uB4 ?_
 rw [pubT,isT,kid,Bool.eq_iff_iff]
 simp [and_assoc]
 intro _; rw [hr]; exact Iff.rfl
end Go.Proofs.YteidahabkfgfjaaGreat
