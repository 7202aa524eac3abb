/- Our abstract program logic and contracts of this seat's functions, part 5: no statement of its own (long names of ours are shortened by a program). -/
import Derived.Test.YteidahabkfgfjaaGreatM4
import Derived.KernelRfl
set_option linter.unusedVariables false
set_option linter.unusedSimpArgs false
namespace Go.Proofs.YteidahabkfgfjaaGreat
open Go Go.Abs
abbrev xr (l : List Tk) (p : PS) : X:=.v (.agg (pbx l p))
theorem uHq (s : List UInt8) (k : Int) : Ctr sys 50 [xs s,xi k] [] (xm ⟨2,s,k,[]⟩) none []:=by
 refine uAA Tryz.func50 rfl rfl rfl rfl rfl rfl ?_;refine uAd (uAb ?_);refine uAt rfl (uAM rfl rfl rfl) ?_;refine uAf ?_;refine uAd (uAb ?_);refine uAa rfl rfl rfl (uAc rfl gU) ?_;refine uAa rfl rfl rfl (uAc rfl gU) ?_;refine uAa rfl rfl rfl (uBc rfl Tryz.underlying47 rfl gU) ?_;refine uAt rfl (uAz rfl rfl rfl rfl rfl rfl rfl) ?_;refine uAf ?_;refine uAo ?_
 repeat (first | refine tR ?_ | refine bR ?_)
 refine uAs rfl ?_ trivial
 rfl
theorem uMH (s : List UInt8) (ks : List T) (hk : ks.length≤3000000) : Ctr sys 166 [xs s,xl ks] [] (xm ⟨3,s,0,ks⟩) none []:=by
 have hrl:=T.rows_len ks
 refine uAA Tryz.func166 rfl rfl rfl rfl rfl rfl ?_;refine uAd (uAb ?_);refine uAt rfl (uAM rfl rfl rfl) ?_;refine uAf ?_;refine uAd (uAb ?_);refine uAa rfl rfl rfl (uAc rfl gU) ?_;refine uAU (xs:=[]) rfl rfl rfl rfl rfl rfl rfl rfl rfl gU rfl ?_;refine uAa rfl rfl rfl (uAc rfl gU) ?_;refine uAt rfl (uA3 rfl rfl rfl rfl rfl rfl rfl (by first | omega | (simp only [List.length_nil]; omega)) (by first | omega | (simp only [List.length_nil]; omega))) ?_;refine uAa rfl rfl rfl (uBc rfl Tryz.underlying47 rfl gU) ?_;refine uAt rfl (uAz rfl rfl rfl rfl rfl rfl rfl) ?_;refine uAf ?_;refine uAo ?_
 repeat (first | refine tR ?_ | refine bR ?_)
 refine uAs rfl ?_ trivial
 rfl
theorem uFP (s : List UInt8) (rs : List (List C)) (ks : List T) (h : rs=T.rows ks) (hk : ks.length≤3000000) : Ctr sys 166 [xs s, .v (.c (.sl 4 rs))] [] (xm ⟨3,s,0,ks⟩) none []:=by
 subst h; exact uMH s ks hk
theorem uAV (l : List Tk) (p : PS) (c : List UInt8) (hl : l.length≤2000000) (hp : p.at'≤3000000) : Ctr sys 106 [xr l p,xs c] [] (xr l (uAP l c p)) none []:=by
 have hrl:=Tk.rows_len l
 refine uAA Tryz.func106 rfl rfl rfl rfl rfl rfl ?_;refine uAd (uAb ?_);refine uAt rfl (uAI rfl rfl rfl rfl) ?_;refine uAt rfl (uAM rfl rfl rfl) ?_;refine uAf ?_;refine uAd ?_;refine uAd (uAb ?_);refine uAa rfl rfl rfl (uAg rfl gU rfl rfl) ?_;refine uAa rfl rfl rfl (uAi rfl gU rfl rfl rfl rfl) ?_;refine uAa rfl rfl rfl (uAc rfl gU) ?_;refine uAa rfl rfl rfl (uAg rfl gU rfl rfl) ?_;refine uAa rfl rfl rfl (uAi rfl (fun hh=>hh) rfl rfl rfl rfl) ?_;refine uAa rfl rfl rfl (uAg rfl gU rfl rfl) ?_;refine uAa rfl rfl rfl (uAi rfl (fun hh=>hh) rfl rfl rfl rfl) ?_;refine uAa rfl rfl rfl (uA4 rfl (fun hh=>hh) rfl rfl) ?_;refine uAa rfl rfl rfl (uAk rfl rfl (fun hh=>hh) (fun hh=>hh) rfl) ?_;refine uAa rfl rfl rfl (uAN rfl rfl gU (fun _ hi=>gP rfl hi)) ?_;refine uA8 (s:=⟨[(1,_,_),(2,_,_),(4,_,_),(14,_,_)],[(.l 2,_),(.l 4,_)],[],[]⟩) (uAj (⟨sx rfl,sx rfl,sx rfl,sx rfl,trivial⟩) (⟨sx rfl,sx rfl,trivial⟩) trivial) ?_;refine uAa rfl rfl rfl (uAc rfl gU) ?_;refine uAa rfl rfl rfl (uAg rfl gU rfl rfl) ?_;refine uAa rfl rfl rfl (uAi rfl (fun hh=>hh) rfl rfl rfl rfl) ?_;refine uAa rfl rfl rfl (uAg rfl gU rfl rfl) ?_;refine uAa rfl rfl rfl (uAi rfl (fun hh=>hh) rfl rfl rfl rfl) ?_;refine uAa rfl rfl rfl (uAr (j:=p.at') rfl rfl (fun hh=>hh) (fun hh=>hh) rfl rfl (by first | omega | (simp at hh ⊢; omega)) (fun hh=>Tk.rows_at (by first | omega | (simp at hh ⊢; omega)))) ?_
 refine uAa rfl rfl rfl (uA0 rfl (fun hh=>hh) rfl rfl) ?_;refine uAa rfl rfl rfl (uAQ rfl (fun hh=>hh) rfl rfl rfl) ?_;refine uAa rfl rfl rfl (uAk rfl rfl (fun hh=>hh) gU rfl) ?_;refine uAa rfl rfl rfl (uAN rfl rfl gU (fun _ hi=>gP rfl hi)) ?_;refine uAa rfl rfl rfl (uAc rfl gU) ?_;refine uAa rfl rfl rfl (uAg rfl gU rfl rfl) ?_;refine uA8 (s:=⟨[(1,_,_),(2,_,_),(4,_,_),(25,_,_),(26,_,_)],[(.l 2,_),(.l 4,_)],[],[]⟩) (uAj (⟨sx rfl,sx rfl,sx rfl,sx rfl,sx rfl,trivial⟩) (⟨sx rfl,sx rfl,trivial⟩) trivial) ?_;refine uAa rfl rfl rfl (uAi rfl (fun hh=>hh) rfl rfl rfl rfl) ?_;refine uAa rfl rfl rfl (uAg rfl gU rfl rfl) ?_;refine uAa rfl rfl rfl (uAi rfl (fun hh=>hh) rfl rfl rfl rfl) ?_;refine uAa rfl rfl rfl (uAr (j:=p.at') rfl rfl (fun hh=>hh) (fun hh=>hh) rfl rfl (by first | omega | (simp at hh ⊢; omega)) (fun hh=>Tk.rows_at (by first | omega | (simp at hh ⊢; omega)))) ?_;refine uAa rfl rfl rfl (uA0 rfl (fun hh=>hh) rfl rfl) ?_;refine uAa rfl rfl rfl (uAQ rfl (fun hh=>hh) rfl rfl rfl) ?_;refine uAa rfl rfl rfl (uAc rfl gU) ?_;refine uAa rfl rfl rfl (uA2 rfl rfl (fun hh=>hh) (fun hh=>hh) rfl) ?_;refine uAa rfl rfl rfl (uAN rfl rfl gU (fun _ hi=>gP rfl hi)) ?_;refine uAf ?_;refine uAl (s:=⟨[(2,_,_),(4,_,_),(35,_,_)],[(.l 2,_),(.l 4,_)],[],[]⟩) (uAj (⟨sx rfl,sx rfl,sx rfl,trivial⟩) (⟨sx rfl,sx rfl,trivial⟩) trivial) ?_
 refine uAn rfl (fun hc=>?_) (fun hc=>?_)
 ·try simp only [nn,uAh,T.rows_len,Tk.rows_len] at hc
  have h : symQ l p c=false:=by simp only [symQ]; grind
  have h2 : uAP l c p=p.off:=by rw [uAP,h]; rfl
  rw [h2]
  refine uAd (uAb ?_);refine uAa rfl rfl rfl (uAg rfl gU rfl rfl) ?_;refine uAt rfl (uAz rfl rfl rfl rfl rfl rfl rfl) ?_;refine uAf ?_;refine uAd (uAb ?_);refine uAa rfl rfl rfl (uAm rfl gU rfl rfl rfl rfl rfl) ?_;refine uAt rfl (uAz rfl rfl rfl rfl rfl rfl rfl) ?_;refine uAf ?_;refine uAo ?_
  repeat (first | refine tR ?_ | refine bR ?_)
  refine uAs rfl ?_ trivial
  rfl
 ·try simp only [nn,uAh,T.rows_len,Tk.rows_len] at hc
  have h : symQ l p c=true:=by simp only [symQ]; grind
  have h2 : uAP l c p=p.go:=by rw [uAP,if_pos h]
  rw [h2]
  refine uAp ?_;refine uAd (uAb ?_);refine uAa rfl rfl rfl (uAg rfl gU rfl rfl) ?_;refine uAa rfl rfl rfl (uAi rfl gU rfl rfl rfl rfl) ?_;refine uAa rfl rfl rfl (uAy rfl rfl gU gU rfl (IntWalk.i64_in _ (by omega))) ?_;refine uAa rfl rfl rfl (uAg rfl gU rfl rfl) ?_;refine uAt rfl (uAz rfl rfl rfl rfl rfl rfl rfl) ?_;refine uAf ?_;refine uAd (uAb ?_);refine uAa rfl rfl rfl (uAm rfl gU rfl rfl rfl rfl rfl) ?_;refine uAt rfl (uAz rfl rfl rfl rfl rfl rfl rfl) ?_;refine uAf ?_;refine uAo ?_
  repeat (first | refine tR ?_ | refine bR ?_)
  refine uAs rfl ?_ trivial
  (first | rfl | exact congrArg (fun z=>X.v (.agg z)) (uMx (by simp [PS.go]) rfl))
theorem uMX (l : List Tk) (c : List UInt8) (p : PS) : (uAP l c p).bad = !symQ l p c:=by
 unfold uAP
 split
 ·rename_i h
  rw [h]; exact (uB3 h).2
 ·rename_i h
  have : symQ l p c=false:=by simpa using h
  rw [this]; rfl
theorem uCf (l : List Tk) (p : PS) (c : List UInt8) (hl : l.length≤2000000) (hp : p.at'≤3000000) : Ctr sys 107 [xr l p,xs c] [] (xb (symQ l p c)) none []:=by
 refine uAA Tryz.func107 rfl rfl rfl rfl rfl rfl ?_;refine uAd (uAb ?_);refine uAt rfl (uAI rfl rfl rfl rfl) ?_;refine uAa rfl rfl rfl (uAe rfl gU) ?_;refine uAf ?_;refine uAd (uAb ?_);refine uAa rfl rfl rfl (uAm rfl gU rfl rfl rfl rfl rfl) ?_;refine uAa rfl rfl rfl (uAc rfl gU) ?_;refine uAx rfl rfl rfl rfl rfl rfl gU gU (uAV _ _ _ (by omega) (by omega)) rfl ?_;refine uAa rfl rfl rfl (uGz rfl gU (Tryz.underlying119) rfl rfl rfl rfl rfl rfl) ?_;refine uAa rfl rfl rfl (uAX rfl gU) ?_;refine uAa rfl rfl rfl (uAe rfl gU) ?_;refine uAf ?_;refine uAo ?_
 repeat (first | refine tR ?_ | refine bR ?_)
 refine uAs rfl ?_ trivial;exact uBV (by rw [uMX]; simp)
theorem uBz (l : List Tk) (p : PS) (hl : l.length≤2000000) (hp : p.at'≤3000000) : Ctr sys 105 [xr l p] [] (.tup [.c (.s (uAw l [] p).1), .agg (pbx l (uAw l [] p).2)]) none []:=by
 have hrl:=Tk.rows_len l
 refine uAA Tryz.func105 rfl rfl rfl rfl rfl rfl ?_;refine uAd (uAb ?_);refine uAt rfl (uAI rfl rfl rfl rfl) ?_;refine uAa rfl rfl rfl (uAe rfl gU) ?_;refine uAt rfl (uAM rfl rfl rfl) ?_;refine uAf ?_;refine uAd ?_;refine uAd (uAb ?_);refine uAa rfl rfl rfl (uAg rfl gU rfl rfl) ?_;refine uAa rfl rfl rfl (uAi rfl gU rfl rfl rfl rfl) ?_;refine uAa rfl rfl rfl (uAc rfl gU) ?_;refine uAa rfl rfl rfl (uAg rfl gU rfl rfl) ?_;refine uAa rfl rfl rfl (uAi rfl (fun hh=>hh) rfl rfl rfl rfl) ?_;refine uAa rfl rfl rfl (uAg rfl gU rfl rfl) ?_;refine uAa rfl rfl rfl (uAi rfl (fun hh=>hh) rfl rfl rfl rfl) ?_;refine uAa rfl rfl rfl (uA4 rfl (fun hh=>hh) rfl rfl) ?_;refine uAa rfl rfl rfl (uAk rfl rfl (fun hh=>hh) (fun hh=>hh) rfl) ?_;refine uA8 (s:=⟨[(1,_,_),(3,_,_),(6,_,_),(12,_,_)],[(.l 1,_),(.l 3,_)],[],[]⟩) (uAj (⟨sx rfl,sx rfl,sx rfl,sx rfl,trivial⟩) (⟨sx rfl,sx rfl,trivial⟩) trivial) ?_;refine uAa rfl rfl rfl (uAN rfl rfl gU (fun _ hi=>gP rfl hi)) ?_;refine uAa rfl rfl rfl (uAc rfl gU) ?_;refine uAa rfl rfl rfl (uAg rfl gU rfl rfl) ?_;refine uAa rfl rfl rfl (uAi rfl (fun hh=>hh) rfl rfl rfl rfl) ?_;refine uAa rfl rfl rfl (uAg rfl gU rfl rfl) ?_;refine uAa rfl rfl rfl (uAi rfl (fun hh=>hh) rfl rfl rfl rfl) ?_
 refine uAa rfl rfl rfl (uAr (j:=p.at') rfl rfl (fun hh=>hh) (fun hh=>hh) rfl rfl (by first | omega | (simp at hh ⊢; omega)) (fun hh=>Tk.rows_at (by first | omega | (simp at hh ⊢; omega)))) ?_;refine uAa rfl rfl rfl (uA0 rfl (fun hh=>hh) rfl rfl) ?_;refine uAa rfl rfl rfl (uAQ rfl (fun hh=>hh) rfl rfl rfl) ?_;refine uAa rfl rfl rfl (uAk rfl rfl (fun hh=>hh) gU rfl) ?_;refine uAa rfl rfl rfl (uAN rfl rfl gU (fun _ hi=>gP rfl hi)) ?_;refine uAf ?_;refine uAl (s:=⟨[(1,_,_),(3,_,_),(23,_,_)],[(.l 1,_),(.l 3,_)],[],[]⟩) (uAj (⟨sx rfl,sx rfl,sx rfl,trivial⟩) (⟨sx rfl,sx rfl,trivial⟩) trivial) ?_;refine uAn rfl (fun hc=>?_) (fun hc=>?_)
 ·try simp only [nn,uAh,T.rows_len,Tk.rows_len] at hc
  have h : namQ l p []=false:=by simp only [namQ]; grind
  have h2 : uAw l [] p=([],p.off):=by rw [uAw,h]; rfl
  rw [h2]
  refine uAd (uAb ?_);refine uAa rfl rfl rfl (uAg rfl gU rfl rfl) ?_;refine uAt rfl (uAz rfl rfl rfl rfl rfl rfl rfl) ?_;refine uAf ?_;refine uAd ?_;refine awp_drawn' (by kernel_rfl) ?_;refine uAD rfl rfl rfl rfl rfl rfl rfl gU rfl rfl rfl rfl rfl ?_;refine uAq rfl rfl rfl rfl (uAe rfl gU) ?_;refine uAS rfl rfl rfl rfl rfl rfl rfl rfl rfl rfl rfl rfl ?_;refine uA1 (by kernel_rfl) ?_;refine uAo ?_
  repeat (first | refine tR ?_ | refine bR ?_)
  refine uAs rfl ?_ trivial
  rfl
 ·try simp only [nn,uAh,T.rows_len,Tk.rows_len] at hc
  have h : namQ l p []=true:=by simp only [namQ]; grind
  have h2 : uAw l [] p=((l.getD p.at' tk0).text,p.go):=by rw [uAw,if_pos h]
  rw [h2]
  refine uAp ?_;refine uAd (uAb ?_);refine uAa rfl rfl rfl (uAg rfl gU rfl rfl) ?_;refine uAa rfl rfl rfl (uAi rfl gU rfl rfl rfl rfl) ?_;refine uAa rfl rfl rfl (uAy rfl rfl gU gU rfl (IntWalk.i64_in _ (by omega))) ?_;refine uAa rfl rfl rfl (uAg rfl gU rfl rfl) ?_;refine uAt rfl (uAz rfl rfl rfl rfl rfl rfl rfl) ?_;refine uAf ?_;refine uAd ?_;refine awp_drawn' (by kernel_rfl) ?_;refine uAq rfl rfl rfl rfl (uAg rfl gU rfl rfl) ?_;refine uBa rfl rfl rfl rfl rfl rfl rfl gU rfl rfl rfl rfl ?_;refine uAq rfl rfl rfl rfl (uAg rfl gU rfl rfl) ?_;refine uBa rfl rfl rfl rfl rfl rfl rfl gU rfl rfl rfl rfl ?_;refine uAq rfl rfl rfl rfl (uAy rfl rfl gU gU rfl (IntWalk.i64_in _ (by omega))) ?_;refine uAq rfl rfl rfl rfl (uAr (j:=p.at') rfl rfl gU gU rfl rfl (by first | omega | (simp at hh ⊢; omega)) (fun hh=>Tk.rows_at (by first | omega | (simp at hh ⊢; omega)))) ?_;refine uAq rfl rfl rfl rfl (uA0 rfl gU rfl rfl) ?_;refine uAq rfl rfl rfl rfl (uAQ rfl gU rfl rfl rfl) ?_;refine uAD rfl rfl rfl rfl rfl rfl rfl gU rfl rfl rfl rfl rfl ?_;refine uAq rfl rfl rfl rfl (uAe rfl gU) ?_;refine uAS rfl rfl rfl rfl rfl rfl rfl rfl rfl rfl rfl rfl ?_;refine uA1 (by kernel_rfl) ?_;refine uAo ?_
  repeat (first | refine tR ?_ | refine bR ?_)
  refine uAs rfl ?_ trivial
  (first | rfl | exact congrArg (fun z=>X.tup [.c (.s (l.getD p.at' tk0).text), .agg z]) (uMx (by simp [PS.go]) rfl))
theorem uKq (l : List Tk) (p : PS) (hl : l.length≤2000000) : Ctr sys 109 [xr l p] [] (xi (uJD l p)) none []:=by
 have hrl:=Tk.rows_len l
 refine uAA Tryz.func109 rfl rfl rfl rfl rfl rfl ?_;refine uAd (uAb ?_);refine uAt rfl (uAI rfl rfl rfl rfl) ?_;refine uAa rfl rfl rfl (uAe rfl gU) ?_;refine uAf ?_;refine uAd ?_;refine uAd (uAb ?_);refine uAa rfl rfl rfl (uAg rfl gU rfl rfl) ?_;refine uAa rfl rfl rfl (uAi rfl gU rfl rfl rfl rfl) ?_;refine uAJ rfl rfl rfl rfl rfl gU rfl rfl ?_ (fun hh=>by simp at hh); intro hlen;refine uAa rfl rfl rfl (uAk rfl rfl gU gU rfl) ?_;refine uAf ?_;refine uAl (s:=⟨[(1,_,_),(6,_,_)],[(.l 1,_)],[],[]⟩) (uAj (⟨sx rfl,sx rfl,trivial⟩) (⟨sx rfl,trivial⟩) trivial) ?_;refine uAn rfl (fun hc=>?_) (fun hc=>?_)
 ·try simp only [nn,uAh,T.rows_len,Tk.rows_len] at hc
  refine uAd (uAb ?_);refine uAa rfl rfl rfl (uAe rfl gU) ?_;refine uAf ?_;refine uAo ?_
  repeat (first | refine tR ?_ | refine bR ?_)
  refine uAs rfl ?_ trivial
  (rw [uJD,if_pos (by omega)]; rfl)
 ·try simp only [nn,uAh,T.rows_len,Tk.rows_len] at hc
  refine uAp ?_;refine uAd (uAb ?_);refine uAa rfl rfl rfl (uAg rfl gU rfl rfl) ?_;refine uAa rfl rfl rfl (uAi rfl gU rfl rfl rfl rfl) ?_;refine uAa rfl rfl rfl (uAg rfl gU rfl rfl) ?_;refine uAa rfl rfl rfl (uAi rfl gU rfl rfl rfl rfl) ?_;refine uAa rfl rfl rfl (uAg rfl gU rfl rfl) ?_;refine uAa rfl rfl rfl (uAi rfl gU rfl rfl rfl rfl) ?_;refine uAJ rfl rfl rfl rfl rfl gU rfl rfl ?_ (fun hh=>by simp at hh); intro hlen;refine uAa rfl rfl rfl (uAy rfl rfl gU gU rfl (IntWalk.i64_in _ (by omega))) ?_;refine uAa rfl rfl rfl (uNp rfl rfl gU gU) ?_;refine uAa rfl rfl rfl (uAr (j:=(min p.at' (l.length - 1))) rfl rfl gU gU rfl rfl (by first | omega | (simp at hh ⊢; omega)) (fun hh=>Tk.rows_at (by first | omega | (simp at hh ⊢; omega)))) ?_;refine uAa rfl rfl rfl (uA0 rfl gU rfl rfl) ?_;refine uAa rfl rfl rfl (uAQ rfl gU rfl rfl rfl) ?_;refine uA8 (s:=⟨[(18,_,_)],[],[],[]⟩) (uAj (⟨sx rfl,trivial⟩) trivial trivial) ?_;refine uAa rfl rfl rfl (uAe rfl gU) ?_;refine uAf ?_;refine uAo ?_
  repeat (first | refine tR ?_ | refine bR ?_)
  refine uAs rfl ?_ trivial
  rw [uJD,if_neg (by omega)]
  split
  ·rename_i h
   exact uA7 (by rw [show min p.at' (l.length - 1)=l.length - 1 by omega])
  ·rename_i h
   exact uA7 (by rw [show min p.at' (l.length - 1)=p.at' by omega])
theorem uLq {l : List (List UInt8)} {s : List UInt8} {k : Nat} {e : Int} (h : k < l.length) (hi : (if idxF (fun x=>decide (x=s) && decide (s≠[])) (l.drop k) < 0 then 0 else idxF (fun x=>decide (x=s) && decide (s≠[])) (l.drop k) + k)=e) :
  ((l.getD k []=s∧s≠[])→e=k)∧(¬(l.getD k []=s∧s≠[])→(if idxF (fun x=>decide (x=s) && decide (s≠[])) (l.drop (k + 1)) < 0 then 0 else idxF (fun x=>decide (x=s) && decide (s≠[])) (l.drop (k + 1)) + (k + 1 : Nat))=e):=by
 rw [uHH (d:=[]) h,idxF] at hi
 refine ⟨fun q=>?_,fun q=>?_⟩
 ·have e1 : (decide (l.getD k []=s) && decide (s≠[]))=true:=by simp only [Bool.and_eq_true,decide_eq_true_eq]; exact q
  rw [e1] at hi
  simp at hi; omega
 ·have e1 : (decide (l.getD k []=s) && decide (s≠[]))=false:=by
   rw [Bool.eq_false_iff]; simp only [ne_eq,Bool.and_eq_true,decide_eq_true_eq]; exact q
  rw [e1] at hi
  simp only [Bool.false_eq_true,if_false] at hi
  have hg:=uIg (fun x=>decide (x=s) && decide (s≠[])) (l.drop (k + 1))
  generalize idxF (fun x=>decide (x=s) && decide (s≠[])) (List.drop (k + 1) l)=x at hi hg ⊢
  rw [← hi]
  by_cases hx : x < 0
  ·rw [if_pos hx,if_pos hx]; simp
  ·rw [if_neg hx,if_neg hx,if_neg (by omega)]; push_cast; omega
theorem uF0 (l : List (List UInt8)) (s : List UInt8) : Ctr sys 131 [xss l,xs s] [] (xi (idx0 l s)) none []:=by
 have hrl:=uAh l
 refine uAA Tryz.func131 rfl rfl rfl rfl rfl rfl ?_;refine uAd (uAb ?_);refine uAa rfl rfl rfl (uAe rfl gU) ?_;refine uAf ?_;refine uAd ?_;refine uAd (uAb ?_);refine uAa rfl rfl rfl (uAe rfl gU) ?_;refine uAf ?_;refine uAv ?_;refine uAW (ι:=Nat) { t:=[(0,_,_),(1,_,_)],bx:=[],ow:=[] } (fun k=>[(5,true,xi (k : Int))]) (fun k=>[]) (fun k=>k≤l.length∧(if idxF (fun x=>decide (x=s) && decide (s≠[])) (l.drop k) < 0 then 0 else idxF (fun x=>decide (x=s) && decide (s≠[])) (l.drop k) + k)=idx0 l s) (fun k=>l.length - k) (0) (⟨by simp,by simp [idx0]⟩) (uAj (⟨sx rfl,sx rfl,sx rfl,trivial⟩) trivial trivial) ?_
 intro k hok
 dsimp only [List.cons_append,List.nil_append]
 obtain ⟨hk,hi⟩:=hok
 refine uAd ?_;refine uAd (uAb ?_);refine uAa rfl rfl rfl (uAc rfl gU) ?_;refine uAa rfl rfl rfl (uAc rfl gU) ?_;refine uAJ rfl rfl rfl rfl rfl gU rfl rfl ?_ (fun hh=>by simp at hh); intro hlen;refine uAa rfl rfl rfl (uAk rfl rfl gU gU rfl) ?_;refine uAf ?_;refine uAn rfl (fun hc=>?_) (fun hc=>?_)
 ·try simp only [nn,uAh,T.rows_len,Tk.rows_len] at hc
  have hlt : k < l.length:=by omega
  have hd:=uLq hlt hi
  refine uAp ?_;refine uAd ?_;refine uAv ?_;refine uAd (uAb ?_);refine uAa rfl rfl rfl (uAc rfl gU) ?_;refine uAa rfl rfl rfl (uAc rfl gU) ?_;refine uAa rfl rfl rfl (uAr rfl rfl gU gU rfl rfl rfl (fun hh=>uBI (by first | omega | (simp at hh ⊢; omega)))) ?_;refine uAa rfl rfl rfl (uAQ rfl gU rfl rfl rfl) ?_;refine uAa rfl rfl rfl (uAc rfl gU) ?_;refine uAa rfl rfl rfl (uA2 rfl rfl gU gU rfl) ?_;refine uAa rfl rfl rfl (uAc rfl gU) ?_;refine uAa rfl rfl rfl (uAc rfl gU) ?_;refine uA8 (s:=⟨[(0,_,_),(1,_,_),(5,_,_),(18,_,_),(19,_,_)],[],[],[]⟩) (uAj (⟨sx rfl,sx rfl,sx rfl,sx rfl,sx rfl,trivial⟩) trivial trivial) ?_;refine uAa rfl rfl rfl (uA2 rfl rfl (fun hh=>hh) gU rfl) ?_;refine uAa rfl rfl rfl (uAH rfl rfl gU (fun _ hi=>gP rfl hi)) ?_;refine uAf ?_;refine uAn rfl (fun hc2=>?_) (fun hc2=>?_)
  ·try simp only [nn,uAh,T.rows_len,Tk.rows_len] at hc2
   refine uAd (uAb ?_);refine uAa rfl rfl rfl (uAc rfl gU) ?_;refine uAa rfl rfl rfl (uAe rfl gU) ?_;refine uAf ?_;refine uAo ?_
   repeat (first | refine tR ?_ | refine bR ?_)
   refine uAs rfl ?_ trivial;exact uA7 (hd.1 hc2).symm
  ·try simp only [nn,uAh,T.rows_len,Tk.rows_len] at hc2
   refine uAp ?_;refine uAb ?_;refine uAa rfl rfl rfl (uAc rfl gU) ?_;refine uAa rfl rfl rfl (uAy rfl rfl gU gU rfl (IntWalk.i64_in _ (by omega))) ?_;refine uAa rfl rfl rfl (uAe rfl gU) ?_;refine uAf ?_;refine ⟨k + 1,?_,?_,uAj (⟨⟨_,rfl,?_⟩,⟨sx rfl,sx rfl,trivial⟩⟩) trivial trivial⟩
   all_goals (first | rfl | omega | exact ⟨by omega,hd.2 (by rintro ⟨q1,q2⟩; rcases hc2 with q | q; exact q q1; exact q2 (by simpa using q))⟩)
 ·try simp only [nn,uAh,T.rows_len,Tk.rows_len] at hc
  rw [List.drop_of_length_le (by omega)] at hi
  refine uAO ?_
  repeat (first | refine uAG ?_ | refine uAF ?_ | refine uAC rfl ?_)
  refine uAd (uAb ?_);refine uAa rfl rfl rfl (uAe rfl gU) ?_;refine uAf ?_;refine uAo ?_
  repeat (first | refine tR ?_ | refine bR ?_)
  refine uAs rfl ?_ trivial;exact uA7 hi
theorem uCY (l : List Tk) (p : PS) (ws : List (List UInt8)) (hl : l.length≤2000000) (hp : p.at'≤3000000) : Ctr sys 104 [xr l p,xss ws] [] (.tup [.c (.i .i64 (chR l ws p).1), .agg (pbx l (chR l ws p).2)]) none []:=by
 refine uAA Tryz.func104 rfl rfl rfl rfl rfl rfl ?_;refine uAd (uAb ?_);refine uAt rfl (uAI rfl rfl rfl rfl) ?_;refine uAa rfl rfl rfl (uAe rfl gU) ?_;refine uAt rfl (uAM rfl rfl rfl) ?_;refine uAf ?_;refine uAd (uAb ?_);refine uAa rfl rfl rfl (uAm rfl gU rfl rfl rfl rfl rfl) ?_;refine uAx rfl rfl rfl rfl rfl rfl gU gU (uBz _ _ (by omega) (by omega)) rfl ?_;refine uAa rfl rfl rfl (uAc rfl gU) ?_;refine uAa rfl rfl rfl (uAu rfl gU rfl) ?_;refine uAa rfl rfl rfl (uAu rfl gU rfl) ?_;refine uAt rfl (uAM rfl rfl rfl) ?_;refine uAa rfl rfl rfl (uAe rfl gU) ?_;refine uAt rfl (uAz rfl rfl rfl rfl rfl rfl rfl) ?_;refine uAf ?_;refine uAl (s:=⟨[(1,_,_),(2,_,_),(5,_,_),(6,_,_),(7,_,_)],[(.l 2,_),(.l 5,_),(.l 7,_)],[],[]⟩) (uAj (⟨sx rfl,sx rfl,sx rfl,sx rfl,sx rfl,trivial⟩) (⟨sx rfl,sx rfl,sx rfl,trivial⟩) trivial) ?_;refine uAd ?_;refine uAd (uAb ?_);refine uAa rfl rfl rfl (uAg rfl gU rfl rfl) ?_;refine uAa rfl rfl rfl (uAi rfl gU rfl rfl rfl rfl) ?_;refine uAa rfl rfl rfl (uAc rfl gU) ?_;refine uAa rfl rfl rfl (uAc rfl gU) ?_;refine uAa rfl rfl rfl (uAc rfl gU) ?_;refine uAx rfl rfl rfl rfl rfl rfl gU (fun hh=>gA ((fun hh=>hh) hh) (gA ((fun hh=>hh) hh) (rfl))) (uF0 _ _) rfl ?_
 refine uAa rfl rfl rfl (uAk rfl rfl (fun hh=>hh) gU rfl) ?_;refine uAa rfl rfl rfl (uAN rfl rfl gU (fun _ hi=>gP rfl hi)) ?_;refine uAf ?_;refine uAl (s:=⟨[(1,_,_),(2,_,_),(5,_,_),(6,_,_),(7,_,_),(20,_,_)],[(.l 2,_),(.l 5,_),(.l 7,_)],[],[]⟩) (uAj (⟨sx rfl,sx rfl,sx rfl,sx rfl,sx rfl,sx rfl,trivial⟩) (⟨sx rfl,sx rfl,sx rfl,trivial⟩) trivial) ?_;refine uAn rfl (fun hc=>?_) (fun hc=>?_)
 ·try simp only [nn,uAh,T.rows_len,Tk.rows_len] at hc
  have h : chR l ws p=(0,p.off):=by rw [chR,if_pos hc]
  rw [h]
  refine uAd (uAb ?_);refine uAa rfl rfl rfl (uAg rfl gU rfl rfl) ?_;refine uAt rfl (uAz rfl rfl rfl rfl rfl rfl rfl) ?_;refine uAf ?_;refine uAd ?_;refine awp_drawn' (by kernel_rfl) ?_;refine uAD rfl rfl rfl rfl rfl rfl rfl gU rfl rfl rfl rfl rfl ?_;refine uAq rfl rfl rfl rfl (uAe rfl gU) ?_;refine uAS rfl rfl rfl rfl rfl rfl rfl rfl rfl rfl rfl rfl ?_;refine uA1 (by kernel_rfl) ?_;refine uAo ?_
  repeat (first | refine tR ?_ | refine bR ?_)
  refine uAs rfl ?_ trivial
  rfl
 ·try simp only [nn,uAh,T.rows_len,Tk.rows_len] at hc
  have h : chR l ws p=(idx0 ws (uAw l [] p).1,(uAw l [] p).2):=by rw [chR,if_neg (by rintro (q | q); { rw [hc.1] at q; cases q }; { exact hc.2 q })]
  rw [h]
  refine uAp ?_;refine uAd ?_;refine awp_drawn' (by kernel_rfl) ?_;refine uAq rfl rfl rfl rfl (uAc rfl gU) ?_;refine uAq rfl rfl rfl rfl (uAc rfl gU) ?_;refine uAR rfl rfl rfl rfl rfl rfl rfl gU gU (uF0 _ _) rfl ?_;refine uAD rfl rfl rfl rfl rfl rfl rfl gU rfl rfl rfl rfl rfl ?_;refine uAq rfl rfl rfl rfl (uAe rfl gU) ?_;refine uAS rfl rfl rfl rfl rfl rfl rfl rfl rfl rfl rfl rfl ?_;refine uA1 (by kernel_rfl) ?_;refine uAo ?_
  repeat (first | refine tR ?_ | refine bR ?_)
  refine uAs rfl ?_ trivial
  rfl
theorem uCR (l : List Tk) (p : PS) (hl : l.length≤2000000) (hp : p.at'≤l.length) : Ctr sys 132 [xr l p] [] (.tup [.c (.sl 1 (strR (uBt l p).1)), .agg (pbx l (uBt l p).2)]) none []:=by
 have hrl:=Tk.rows_len l
 have h0:=uA5 l [] p
 refine uAA Tryz.func132 rfl rfl rfl rfl rfl rfl ?_;refine uAd (uAb ?_);refine uAt rfl (uAI rfl rfl rfl rfl) ?_;refine uAt rfl (uBl (.inr rfl) rfl rfl) ?_;refine uAt rfl (uAM rfl rfl rfl) ?_;refine uAf ?_;refine uAd (uAb ?_);refine uAa rfl rfl rfl (uAm rfl gU rfl rfl rfl rfl rfl) ?_;refine uAx rfl rfl rfl rfl rfl rfl gU gU (uBz _ _ (by omega) (by omega)) rfl ?_;refine uAa rfl rfl rfl (uAc rfl gU) ?_;refine uAa rfl rfl rfl (uAu rfl gU rfl) ?_;refine uAa rfl rfl rfl (uAu rfl gU rfl) ?_;refine uAa rfl rfl rfl (uAe rfl gU) ?_;refine uAt rfl (uAz rfl rfl rfl rfl rfl rfl rfl) ?_;refine uAf ?_;refine uAl (s:=⟨[(1,_,_),(3,_,_),(4,_,_)],[(.l 1,_),(.l 3,_)],[],[]⟩) (uAj (⟨sx rfl,sx rfl,sx rfl,trivial⟩) (⟨sx rfl,sx rfl,trivial⟩) trivial) ?_;refine uAd (uAb ?_);refine uAa rfl rfl rfl (uAc rfl gU) ?_;refine uAU (xs:=[_]) rfl rfl rfl rfl rfl rfl rfl rfl rfl gU rfl ?_;refine uAt rfl (uAT (.inr rfl) rfl rfl rfl) ?_;refine uAf ?_;refine uAd ?_;refine uAv ?_;refine uAW (ι:=PS × List (List UInt8) × List UInt8) { t:=[(1,_,_),(3,_,_)],bx:=[(.l 3,_)],ow:=[(.t 5,_)] } (fun q=>[(4,true,xs q.2.2),(5,true,xss q.2.1)]) (fun q=>[((.l 1),pbx l q.1)]) (fun q=>q.1.at'≤l.length∧q.2.1.length≤q.1.at' + 1 ∧ ∃ n,l.length + 1≤n + q.1.at'∧uBL l (uAw l []) n q.1 q.2.1=uBt l p) (fun q=>l.length - q.1.at') (((uAw l [] p).2,[(uAw l [] p).1],(uAw l [] p).1)) (⟨h0.2 hp,by simp,_,by dsimp only; omega,rfl⟩) (uAj (⟨sx rfl,sx rfl,sx rfl,sx rfl,trivial⟩) (⟨sx rfl,sx rfl,trivial⟩) (⟨rfl,trivial⟩)) ?_
 intro q hok
 dsimp only [List.cons_append,List.nil_append] at *
 obtain ⟨q,out,x⟩:=q
 dsimp only at hok ⊢
 obtain ⟨hq,ho,n,hn,hi⟩:=hok
 have hro:=uAh out
 refine uAd ?_;refine uAd (uAb ?_);refine uAa rfl rfl rfl (uAm rfl gU rfl rfl rfl rfl rfl) ?_;refine uAx rfl rfl rfl rfl rfl rfl gU gU (uCf _ _ _ (by omega) (by omega)) rfl ?_;refine uAf ?_;refine uAn rfl (fun hc=>?_) (fun hc=>?_)
 ·try simp only [nn,uAh,T.rows_len,Tk.rows_len] at hc
  have hlt:=(uB3 hc).1
  have hs : uAP l [44] q=q.go:=by rw [uAP,if_pos hc]
  have h1:=uA5 l [] q.go
  have hg : q.go.at'=q.at' + 1:=rfl
  obtain ⟨n,rfl⟩ : ∃ k,n=k + 1:=⟨n - 1,by omega⟩
  rw [uID hc] at hi
  have hsy:=uAV l q [44] (by omega) (by omega)
  rw [hs] at hsy
  refine uAp ?_;refine uAv ?_;refine uAd (uAb ?_);refine uAa rfl rfl rfl (uAm rfl gU rfl rfl rfl rfl rfl) ?_;refine uAx rfl rfl rfl rfl rfl rfl gU gU (hsy) rfl ?_;refine uAx rfl rfl rfl rfl rfl rfl gU gU (uBz l q.go (by omega) (by omega)) rfl ?_;refine uAa rfl rfl rfl (uAc rfl gU) ?_;refine uAa rfl rfl rfl (uAu rfl gU rfl) ?_;refine uAa rfl rfl rfl (uAu rfl gU rfl) ?_;refine uAa rfl rfl rfl (uAe rfl gU) ?_;refine uAt rfl (uAz rfl rfl rfl rfl rfl rfl rfl) ?_;refine uAf ?_;refine uAl (s:=⟨[(1,_,_),(3,_,_),(4,_,_),(5,_,_)],[(.l 1,_),(.l 3,_)],[(.t 5,_)],[]⟩) (uAj (⟨sx rfl,sx rfl,sx rfl,sx rfl,trivial⟩) (⟨sx rfl,sx rfl,trivial⟩) (⟨rfl,trivial⟩)) ?_;refine uAb ?_;refine uAt rfl (uAT (.inl rfl) rfl rfl rfl) ?_;refine uAa rfl rfl rfl (uAc rfl gU) ?_;refine uAU (xs:=[_]) rfl rfl rfl rfl rfl rfl rfl rfl rfl gU rfl ?_;refine uAt rfl (uA3 rfl rfl rfl rfl rfl rfl rfl (by first | omega | (simp only [List.length_append,List.length_singleton,uAh]; omega)) (by first | omega | (simp only [List.length_append,List.length_singleton,uAh]; omega))) ?_;refine uAt rfl (uAT (.inr rfl) rfl rfl rfl) ?_;refine uAf ?_;refine ⟨((uAw l [] q.go).2,out++[(uAw l [] q.go).1],(uAw l [] q.go).1),?_,?_,uAj (⟨⟨_,rfl,?_⟩,⟨⟨_,rfl,?_⟩,⟨sx rfl,sx rfl,trivial⟩⟩⟩) (⟨⟨_,rfl,?_⟩,⟨sx rfl,trivial⟩⟩) (⟨rfl,trivial⟩)⟩
  ·exact ⟨h1.2 (by omega),by simp only [List.length_append,List.length_singleton]; omega,n,by dsimp only; omega,hi⟩
  ·dsimp only; omega
  ·rfl
  ·exact tx (uDK _ _)
  all_goals rfl
 ·try simp only [nn,uAh,T.rows_len,Tk.rows_len] at hc
  rw [uEX hc] at hi
  refine uAO ?_
  repeat (first | refine uAG ?_ | refine uAF ?_ | refine uAC rfl ?_)
  refine uAd ?_;refine awp_drawn' (by kernel_rfl) ?_;refine uCN rfl (.inl rfl) rfl rfl rfl rfl rfl ?_;refine uAD rfl rfl rfl rfl rfl rfl rfl gU rfl rfl rfl rfl rfl ?_;refine uCN rfl (.inr rfl) rfl rfl rfl rfl rfl ?_;refine uAS rfl rfl rfl rfl rfl rfl rfl rfl rfl rfl rfl rfl ?_;refine uA1 (by kernel_rfl) ?_;refine uAo ?_
  repeat (first | refine tR ?_ | refine bR ?_)
  refine uAs rfl ?_ trivial
  (rw [← hi]; rfl)
theorem uLC : ∀ (n : Nat) (ts : List T),ts.length≤n→n≤3000000→0 < ts.length→Ctr sys 165 [xl ts] [] (xm (tupT ts)) none []:=by
 intro n
 induction n with
 | zero=>intro ts h _ h0; omega
 | succ n ih =>
  intro ts hts hn h0
  have hrl:=T.rows_len ts
  refine uAA Tryz.func165 rfl rfl rfl rfl rfl rfl ?_;refine uAd (uAb ?_);refine uAt rfl (uAM rfl rfl rfl) ?_;refine uAf ?_;refine uAd ?_;refine uAd (uAb ?_);refine uAa rfl rfl rfl (uAc rfl gU) ?_;refine uAJ rfl rfl rfl rfl rfl gU rfl rfl ?_ (fun hh=>by simp at hh); intro hlen;refine uAa rfl rfl rfl (uAk rfl rfl gU gU rfl) ?_;refine uAf ?_;refine uAn rfl (fun hc=>?_) (fun hc=>?_)
  ·try simp only [nn,uAh,T.rows_len,Tk.rows_len] at hc
   obtain ⟨t,rfl⟩ : ∃ t,ts=[t]:=by
    match ts,hc with
    | [t],_=>exact ⟨t,rfl⟩
    | [],h=>simp at h
    | _ :: _ :: _,h=>simp at h; omega
   refine uAd (uAb ?_);refine uAa rfl rfl rfl (uAc rfl gU) ?_;refine uAa rfl rfl rfl (uAr (j:=0) rfl rfl gU gU rfl rfl (by first | omega | (simp at hh ⊢; omega)) (fun hh=>T.rows_at (by first | omega | (simp at hh ⊢; omega)))) ?_;refine uAa rfl rfl rfl (uAE rfl gU rfl rfl rfl rfl) ?_;refine uAt rfl (uAz rfl rfl rfl rfl rfl rfl rfl) ?_;refine uAf ?_;refine uAo ?_
   repeat (first | refine tR ?_ | refine bR ?_)
   refine uAs rfl ?_ trivial
   rfl
  ·try simp only [nn,uAh,T.rows_len,Tk.rows_len] at hc
   obtain ⟨t,u,r,rfl⟩ : ∃ t u r,ts=t :: u :: r:=by
    match ts,hc,h0 with
    | [t],h,_=>exact absurd rfl h
    | [],_,h=>simp at h
    | t :: u :: r,_,_=>exact ⟨t,u,r,rfl⟩
   simp only [List.length_cons] at hts hrl
   have htu:=ih (u :: r) (by simp only [List.length_cons]; omega) (by omega) (by simp)
   have htu2 : ∀ rs : List (List C),rs=T.rows (u :: r)→Ctr sys 165 [.v (.c (.sl 4 rs))] [] (xm (tupT (u :: r))) none []:=by
    intro rs h; subst h; exact htu
   refine uAp ?_;refine uAd ?_;refine awp_drawn' (by kernel_rfl) ?_;refine uAq rfl rfl rfl rfl (uAc rfl gU) ?_;refine uAq rfl rfl rfl rfl (uAr (j:=0) rfl rfl gU gU rfl rfl (by first | omega | (simp at hh ⊢; omega)) (fun hh=>T.rows_at (by first | omega | (simp at hh ⊢; omega)))) ?_;refine uAq rfl rfl rfl rfl (uAE rfl gU rfl rfl rfl rfl) ?_;refine uAq rfl rfl rfl rfl (uAc rfl gU) ?_;refine uAq rfl rfl rfl rfl (uDY (l:=1) rfl gU rfl rfl (fun _=>⟨_,_,_,rfl,gU,by first | omega | (simp at hh ⊢; omega)⟩) (fun _=>rfl) (fun hh=>by first | omega | (simp at hh ⊢; omega)) (fun hh=>by first | omega | (simp at hh ⊢; omega))) ?_;refine uAR rfl rfl rfl rfl rfl rfl rfl gU gU (htu2 _ (by simp [T.rows_eq,List.take_of_length_le])) rfl ?_;refine uDM (xs:=[_,_]) rfl rfl rfl rfl rfl rfl rfl rfl rfl rfl gU rfl ?_;refine uAR rfl rfl rfl rfl rfl rfl rfl gU gU (uFP _ _ [t,tupT (u :: r)] (by simp [T.rows_eq,T.cells]) (by simp)) rfl ?_;refine uAS rfl rfl rfl rfl rfl rfl rfl rfl rfl rfl rfl rfl ?_;refine uA1 (by kernel_rfl) ?_;refine uAo ?_
   repeat (first | refine tR ?_ | refine bR ?_)
   refine uAs rfl ?_ trivial
   rfl
theorem uJl (ts : List T) (rs : List (List C)) (h : rs=T.rows ts) (hts : ts.length≤3000000) (h0 : 0 < ts.length) : Ctr sys 165 [.v (.c (.sl 4 rs))] [] (xm (tupT ts)) none []:=by
 subst h; exact uLC _ ts hts (Nat.le_refl _) h0
theorem uEy (l : List Tk) (n : Nat) (hl : l.length≤2000000) (ih : ∀ p : PS,p.at'≤l.length→l.length - p.at' < n→Ctr sys 153 [xr l p] [] (.tup [.agg (uAZ l n p).1.cells, .agg (pbx l (uAZ l n p).2)]) none []) (hf : Fwd l (uAZ l n)) (p : PS) (hp : p.at'≤l.length) (hn : l.length - p.at' < n) :
  Ctr sys 155 [xr l p] [] (.tup [.c (.sl 4 (T.rows (uA6 l (uAZ l n) p).1)), .agg (pbx l (uA6 l (uAZ l n) p).2)]) none []:=by
 have hrl:=Tk.rows_len l
 have h0:=hf p
 refine uAA Tryz.func155 rfl rfl rfl rfl rfl rfl ?_;refine uAd (uAb ?_);refine uAt rfl (uAI rfl rfl rfl rfl) ?_;refine uAt rfl (uBl (.inr rfl) rfl rfl) ?_;refine uAt rfl (uAM rfl rfl rfl) ?_;refine uAf ?_;refine uAd (uAb ?_);refine uAa rfl rfl rfl (uAm rfl gU rfl rfl rfl rfl rfl) ?_;refine uAx rfl rfl rfl rfl rfl rfl gU gU (ih p hp hn) rfl ?_;refine uAa rfl rfl rfl (uAc rfl gU) ?_;refine uAa rfl rfl rfl (uAu rfl gU rfl) ?_;refine uAa rfl rfl rfl (uAu rfl gU rfl) ?_;refine uAt rfl (uAM rfl rfl rfl) ?_;refine uAt rfl (uAz rfl rfl rfl rfl rfl rfl rfl) ?_;refine uAt rfl (uAz rfl rfl rfl rfl rfl rfl rfl) ?_;refine uAf ?_;refine uAl (s:=⟨[(1,_,_),(3,_,_),(4,_,_)],[(.l 1,_),(.l 3,_),(.l 4,_)],[],[]⟩) (uAj (⟨sx rfl,sx rfl,sx rfl,trivial⟩) (⟨sx rfl,sx rfl,sx rfl,trivial⟩) trivial) ?_;refine uAd (uAb ?_);refine uAa rfl rfl rfl (uAm rfl gU rfl rfl rfl rfl rfl) ?_;refine uAU (xs:=[_]) rfl rfl rfl rfl rfl rfl rfl rfl rfl gU rfl ?_;refine uAt rfl (uAT (.inr rfl) rfl rfl rfl) ?_;refine uAf ?_;refine uAd ?_;refine uAv ?_;refine uAW (ι:=PS × List T × T) { t:=[(1,_,_),(3,_,_),(4,_,_)],bx:=[(.l 3,_)],ow:=[(.t 5,_)] } (fun q=>[(5,true,xl q.2.1)]) (fun q=>[((.l 4),q.2.2.cells),((.l 1),pbx l q.1)]) (fun q=>p.at'≤q.1.at'∧q.1.at'≤l.length∧q.2.1.length≤q.1.at' + 1 ∧ ∃ k,l.length + 1≤k + q.1.at'∧uBL l (uAZ l n) k q.1 q.2.1=uA6 l (uAZ l n) p) (fun q=>l.length - q.1.at') (((uAZ l n p).2,[(uAZ l n p).1],(uAZ l n p).1)) (⟨h0.1,h0.2 hp,by simp,_,by dsimp only; omega,rfl⟩) (uAj (⟨⟨_,rfl,by exact tx (uFi [] (uAZ l n p).1)⟩,⟨sx rfl,sx rfl,sx rfl,trivial⟩⟩) (⟨sx rfl,sx rfl,sx rfl,trivial⟩) (⟨rfl,trivial⟩)) ?_
 intro q hok
 dsimp only [List.cons_append,List.nil_append] at *
 obtain ⟨q,out,x⟩:=q
 dsimp only at hok ⊢
 obtain ⟨hq0,hq,ho,k,hk,hi⟩:=hok
 have hro:=T.rows_len out
 refine uAd ?_;refine uAd (uAb ?_);refine uAa rfl rfl rfl (uAm rfl gU rfl rfl rfl rfl rfl) ?_;refine uAx rfl rfl rfl rfl rfl rfl gU gU (uCf _ _ _ (by omega) (by omega)) rfl ?_;refine uAf ?_;refine uAn rfl (fun hc=>?_) (fun hc=>?_)
 ·try simp only [nn,uAh,T.rows_len,Tk.rows_len] at hc
  have hlt:=(uB3 hc).1
  have hs : uAP l [44] q=q.go:=by rw [uAP,if_pos hc]
  have hg : q.go.at'=q.at' + 1:=rfl
  have h1:=hf q.go
  obtain ⟨k,rfl⟩ : ∃ j,k=j + 1:=⟨k - 1,by omega⟩
  rw [uID hc] at hi
  have hsy:=uAV l q [44] (by omega) (by omega)
  rw [hs] at hsy
  refine uAp ?_;refine uAv ?_;refine uAd (uAb ?_);refine uAa rfl rfl rfl (uAm rfl gU rfl rfl rfl rfl rfl) ?_;refine uAx rfl rfl rfl rfl rfl rfl gU gU (hsy) rfl ?_;refine uAx rfl rfl rfl rfl rfl rfl gU gU (ih q.go (by omega) (by omega)) rfl ?_;refine uAa rfl rfl rfl (uAc rfl gU) ?_;refine uAa rfl rfl rfl (uAu rfl gU rfl) ?_;refine uAa rfl rfl rfl (uAu rfl gU rfl) ?_;refine uAt rfl (uAz rfl rfl rfl rfl rfl rfl rfl) ?_;refine uAt rfl (uAz rfl rfl rfl rfl rfl rfl rfl) ?_;refine uAf ?_;refine uAl (s:=⟨[(1,_,_),(3,_,_),(4,_,_),(5,_,_)],[(.l 1,_),(.l 3,_),(.l 4,_)],[(.t 5,_)],[]⟩) (uAj (⟨sx rfl,sx rfl,sx rfl,sx rfl,trivial⟩) (⟨sx rfl,sx rfl,sx rfl,trivial⟩) (⟨rfl,trivial⟩)) ?_;refine uAb ?_;refine uAt rfl (uAT (.inl rfl) rfl rfl rfl) ?_;refine uAa rfl rfl rfl (uAm rfl gU rfl rfl rfl rfl rfl) ?_;refine uAU (xs:=[_]) rfl rfl rfl rfl rfl rfl rfl rfl rfl gU rfl ?_;refine uAt rfl (uA3 rfl rfl rfl rfl rfl rfl rfl (by first | omega | (simp only [List.length_append,List.length_singleton,T.rows_len]; omega)) (by first | omega | (simp only [List.length_append,List.length_singleton,T.rows_len]; omega))) ?_;refine uAt rfl (uAT (.inr rfl) rfl rfl rfl) ?_;refine uAf ?_;refine ⟨((uAZ l n q.go).2,out++[(uAZ l n q.go).1],(uAZ l n q.go).1),?_,?_,uAj (⟨⟨_,rfl,?_⟩,⟨sx rfl,sx rfl,sx rfl,trivial⟩⟩) (⟨⟨_,rfl,?_⟩,⟨⟨_,rfl,?_⟩,⟨sx rfl,trivial⟩⟩⟩) (⟨rfl,trivial⟩)⟩
  ·exact ⟨by dsimp only; omega,h1.2 (by omega),by simp only [List.length_append,List.length_singleton]; omega,k,by dsimp only; omega,hi⟩
  ·dsimp only; omega
  all_goals first
   | rfl
   | exact tx (uFi out (uAZ l n q.go).1)
 ·try simp only [nn,uAh,T.rows_len,Tk.rows_len] at hc
  rw [uEX hc] at hi
  refine uAO ?_
  repeat (first | refine uAG ?_ | refine uAF ?_ | refine uAC rfl ?_)
  refine uAd ?_;refine awp_drawn' (by kernel_rfl) ?_;refine uCN rfl (.inl rfl) rfl rfl rfl rfl rfl ?_;refine uAD rfl rfl rfl rfl rfl rfl rfl gU rfl rfl rfl rfl rfl ?_;refine uCN rfl (.inr rfl) rfl rfl rfl rfl rfl ?_;refine uAS rfl rfl rfl rfl rfl rfl rfl rfl rfl rfl rfl rfl ?_;refine uA1 (by kernel_rfl) ?_;refine uAo ?_
  repeat (first | refine tR ?_ | refine bR ?_)
  refine uAs rfl ?_ trivial
  (rw [← hi]; rfl)
theorem uC0 (l : List Tk) (n : Nat) : Fwd l (uAZ l n):=fun p=>by rw [(uFk l n p).1]; exact uEf l n p
theorem uHv (l : List Tk) (n : Nat) (p : PS) : (uA6 l (uAZ l n) p).1.length + p.at'≤1 + (uA6 l (uAZ l n) p).2.at':=uEC (uC0 l n) p
theorem uMF {l : List Tk} {n : Nat} {p : PS} (h : symQ l p [60]=true) (hb : (uAP l [62] (uA6 l (uAZ l n) (uAP l [44] (uAZ l n p.go).2)).2).bad=true) : uAZ l (n + 1) p=(T0,uAP l [62] (uA6 l (uAZ l n) (uAP l [44] (uAZ l n p.go).2)).2):=by
 rw [uAZ,if_pos h,if_pos hb]
theorem uMq {l : List Tk} {n : Nat} {p : PS} (h : symQ l p [60]=true) (hb : (uAP l [62] (uA6 l (uAZ l n) (uAP l [44] (uAZ l n p.go).2)).2).bad=false) :
  uAZ l (n + 1) p=(tupT ((uAZ l n p.go).1 :: (uA6 l (uAZ l n) (uAP l [44] (uAZ l n p.go).2)).1),uAP l [62] (uA6 l (uAZ l n) (uAP l [44] (uAZ l n p.go).2)).2):=by
 rw [uAZ,if_pos h,if_neg (by rw [hb]; simp)]
theorem uNX {l : List Tk} {n : Nat} {p : PS} (h : symQ l p [60]=false) (h2 : symQ l (uAw l [] p).2 [40]=false) : uAZ l (n + 1) p=(⟨2,(uAw l [] p).1,0,[]⟩,(uAw l [] p).2):=by
 rw [uAZ,if_neg (by rw [h]; simp),if_neg (by rw [h2]; simp)]
theorem uNW {l : List Tk} {n : Nat} {p : PS} (h : symQ l p [60]=false) (h2 : symQ l (uAw l [] p).2 [40]=true) (h3 : symQ l (uAw l [] p).2.go [41]=true) : uAZ l (n + 1) p=(⟨3,(uAw l [] p).1,0,[]⟩,(uAw l [] p).2.go.go):=by
 rw [uAZ,if_neg (by rw [h]; simp),if_pos h2,if_pos h3]
theorem uNy {l : List Tk} {n : Nat} {p : PS} (h : symQ l p [60]=false) (h2 : symQ l (uAw l [] p).2 [40]=true) (h3 : symQ l (uAw l [] p).2.go [41]=false) :
  uAZ l (n + 1) p=(⟨3,(uAw l [] p).1,0,(uA6 l (uAZ l n) (uAw l [] p).2.go).1⟩,uAP l [41] (uA6 l (uAZ l n) (uAw l [] p).2.go).2):=by
 rw [uAZ,if_neg (by rw [h]; simp),if_pos h2,if_neg (by rw [h3]; simp)]
set_option maxHeartbeats 4000000 in
theorem uDF (l : List Tk) (hl : l.length≤2000000) : ∀ (n : Nat) (p : PS),p.at'≤l.length→l.length - p.at' < n→Ctr sys 153 [xr l p] [] (.tup [.agg (uAZ l n p).1.cells, .agg (pbx l (uAZ l n p).2)]) none []:=by
 intro n
 induction n with
 | zero=>intro p _ h; omega
 | succ n ih =>
  intro p hp hn
  have hrl:=Tk.rows_len l
  have hg : ∀ q : PS,q.go.at'=q.at' + 1:=fun _=>rfl
  have hml : ∀ q : PS,(T.rows (uA6 l (uAZ l n) q).1).length=(uA6 l (uAZ l n) q).1.length:=fun q=>T.rows_len _
  refine uAA Tryz.func153 rfl rfl rfl rfl rfl rfl ?_;refine uAd (uAb ?_);refine uAt rfl (uAI rfl rfl rfl rfl) ?_;refine uAt rfl (uAM rfl rfl rfl) ?_;refine uAt rfl (uAM rfl rfl rfl) ?_;refine uAf ?_;refine uAd ?_;refine uAd (uAb ?_);refine uAa rfl rfl rfl (uAm rfl gU rfl rfl rfl rfl rfl) ?_;refine uAx rfl rfl rfl rfl rfl rfl gU gU (uCf _ _ _ (by omega) (by omega)) rfl ?_;refine uAf ?_;refine uAl (s:=⟨[(1,_,_),(2,_,_),(3,_,_),(10,_,_)],[(.l 1,_),(.l 2,_),(.l 3,_)],[],[]⟩) (uAj (⟨sx rfl,sx rfl,sx rfl,sx rfl,trivial⟩) (⟨sx rfl,sx rfl,sx rfl,trivial⟩) trivial) ?_;refine uAn rfl (fun hc=>?_) (fun hc=>?_)
  ·try simp only [nn,uAh,T.rows_len,Tk.rows_len] at hc
   have hlt:=(uB3 hc).1
   have hs : uAP l [60] p=p.go:=by rw [uAP,if_pos hc]
   have hgp:=hg p
   have a1:=uC0 l n p.go
   have a2:=uBs l [44] (uAZ l n p.go).2
   have a3:=uCB (uC0 l n) (uAP l [44] (uAZ l n p.go).2)
   have a4:=uBs l [62] (uA6 l (uAZ l n) (uAP l [44] (uAZ l n p.go).2)).2
   have a5:=uHv l n (uAP l [44] (uAZ l n p.go).2)
   have a6:=hml (uAP l [44] (uAZ l n p.go).2)
   have hsy:=uAV l p [60] (by omega) (by omega)
   rw [hs] at hsy
   refine uAd (uAb ?_);refine uAa rfl rfl rfl (uAm rfl gU rfl rfl rfl rfl rfl) ?_;refine uAx rfl rfl rfl rfl rfl rfl gU gU (hsy) rfl ?_;refine uAx rfl rfl rfl rfl rfl rfl gU gU (ih p.go (by omega) (by omega)) rfl ?_;refine uAa rfl rfl rfl (uAc rfl gU) ?_;refine uAa rfl rfl rfl (uAu rfl gU rfl) ?_;refine uAa rfl rfl rfl (uAu rfl gU rfl) ?_;refine uAt rfl (uAM rfl rfl rfl) ?_;refine uAt rfl (uAM rfl rfl rfl) ?_;refine uAt rfl (uAz rfl rfl rfl rfl rfl rfl rfl) ?_;refine uAt rfl (uAz rfl rfl rfl rfl rfl rfl rfl) ?_;refine uAf ?_;refine uAl (s:=⟨[(2,_,_),(3,_,_),(4,_,_),(5,_,_)],[(.l 2,_),(.l 3,_),(.l 4,_),(.l 5,_)],[],[]⟩) (uAj (⟨sx rfl,sx rfl,sx rfl,sx rfl,trivial⟩) (⟨sx rfl,sx rfl,sx rfl,sx rfl,trivial⟩) trivial) ?_;refine uAd (uAb ?_);refine uAa rfl rfl rfl (uAm rfl gU rfl rfl rfl rfl rfl) ?_;refine uAx rfl rfl rfl rfl rfl rfl gU gU (uAV l (uAZ l n p.go).2 [44] (by omega) (by omega)) rfl ?_;refine uAx rfl rfl rfl rfl rfl rfl gU gU (uEy l n hl ih (uC0 l n) (uAP l [44] (uAZ l n p.go).2) (by omega) (by omega)) rfl ?_;refine uAa rfl rfl rfl (uAc rfl gU) ?_;refine uAa rfl rfl rfl (uAu rfl gU rfl) ?_;refine uAa rfl rfl rfl (uAu rfl gU rfl) ?_;refine uAa rfl rfl rfl (uAe rfl gU) ?_;refine uAt rfl (uAz rfl rfl rfl rfl rfl rfl rfl) ?_
   refine uAf ?_;refine uAl (s:=⟨[(2,_,_),(3,_,_),(4,_,_),(5,_,_),(6,_,_)],[(.l 2,_),(.l 3,_),(.l 4,_),(.l 5,_)],[],[]⟩) (uAj (⟨sx rfl,sx rfl,sx rfl,sx rfl,sx rfl,trivial⟩) (⟨sx rfl,sx rfl,sx rfl,sx rfl,trivial⟩) trivial) ?_;refine uAd (uAb ?_);refine uAa rfl rfl rfl (uAm rfl gU rfl rfl rfl rfl rfl) ?_;refine uAx rfl rfl rfl rfl rfl rfl gU gU (uAV l (uA6 l (uAZ l n) (uAP l [44] (uAZ l n p.go).2)).2 [62] (by omega) (by omega)) rfl ?_;refine uAt rfl (uAz rfl rfl rfl rfl rfl rfl rfl) ?_;refine uAf ?_;refine uAd ?_;refine uAd (uAb ?_);refine uAa rfl rfl rfl (uAg rfl gU rfl rfl) ?_;refine uAa rfl rfl rfl (uAi rfl gU rfl rfl rfl rfl) ?_;refine uAf ?_;refine uAn rfl (fun hc2=>?_) (fun hc2=>?_)
   ·try simp only [nn,uAh,T.rows_len,Tk.rows_len] at hc2
    rw [uMF hc hc2]
    refine uAd ?_;refine awp_drawn' (by kernel_rfl) ?_;refine uAq rfl rfl rfl rfl (uBc rfl Tryz.underlying47 rfl gU) ?_;refine uAD rfl rfl rfl rfl rfl rfl rfl gU rfl rfl rfl rfl rfl ?_;refine uAS rfl rfl rfl rfl rfl rfl rfl rfl rfl rfl rfl rfl ?_;refine uAS rfl rfl rfl rfl rfl rfl rfl rfl rfl rfl rfl rfl ?_;refine uA1 (by kernel_rfl) ?_;refine uAo ?_
    repeat (first | refine tR ?_ | refine bR ?_)
    refine uAs rfl ?_ trivial
    rfl
   ·try simp only [nn,uAh,T.rows_len,Tk.rows_len] at hc2
    rw [uMq hc hc2]
    refine uAp ?_;refine uAd ?_;refine awp_drawn' (by kernel_rfl) ?_;refine uAD rfl rfl rfl rfl rfl rfl rfl gU rfl rfl rfl rfl rfl ?_;refine uDM (xs:=[_]) rfl rfl rfl rfl rfl rfl rfl rfl rfl rfl gU rfl ?_;refine uAq rfl rfl rfl rfl (uAc rfl gU) ?_;refine uEq rfl rfl rfl rfl rfl rfl rfl rfl rfl rfl rfl (by first | omega | (simp only [List.length_append,List.length_singleton,T.rows_len]; omega)) (by first | omega | (simp only [List.length_append,List.length_singleton,T.rows_len]; omega)) ?_;refine uAR rfl rfl rfl rfl rfl rfl rfl gU gU (uJl ((uAZ l n p.go).1 :: (uA6 l (uAZ l n) (uAP l [44] (uAZ l n p.go).2)).1) _ (by rw [T.rows_eq,T.rows_eq]; rfl) (by simp only [List.length_cons]; omega) (by simp)) rfl ?_;refine uAD rfl rfl rfl rfl rfl rfl rfl gU rfl rfl rfl rfl rfl ?_;refine uAS rfl rfl rfl rfl rfl rfl rfl rfl rfl rfl rfl rfl ?_;refine uAS rfl rfl rfl rfl rfl rfl rfl rfl rfl rfl rfl rfl ?_;refine uA1 (by kernel_rfl) ?_;refine uAo ?_
    repeat (first | refine tR ?_ | refine bR ?_)
    refine uAs rfl ?_ trivial
    rfl
  ·try simp only [nn,uAh,T.rows_len,Tk.rows_len] at hc
   have a1:=uA5 l [] p
   refine uAp ?_;refine uAd (uAb ?_);refine uAa rfl rfl rfl (uAm rfl gU rfl rfl rfl rfl rfl) ?_;refine uAx rfl rfl rfl rfl rfl rfl gU gU (uBz l p (by omega) (by omega)) rfl ?_;refine uAa rfl rfl rfl (uAc rfl gU) ?_;refine uAa rfl rfl rfl (uAu rfl gU rfl) ?_;refine uAa rfl rfl rfl (uAu rfl gU rfl) ?_;refine uAa rfl rfl rfl (uAe rfl gU) ?_;refine uAt rfl (uAz rfl rfl rfl rfl rfl rfl rfl) ?_;refine uAf ?_;refine uAl (s:=⟨[(1,_,_),(2,_,_),(3,_,_),(7,_,_)],[(.l 1,_),(.l 2,_),(.l 3,_)],[],[]⟩) (uAj (⟨sx rfl,sx rfl,sx rfl,sx rfl,trivial⟩) (⟨sx rfl,sx rfl,sx rfl,trivial⟩) trivial) ?_;refine uAd ?_;refine uAd (uAb ?_);refine uAa rfl rfl rfl (uAg rfl gU rfl rfl) ?_;refine uAa rfl rfl rfl (uAi rfl gU rfl rfl rfl rfl) ?_;refine uAa rfl rfl rfl (uAc rfl gU) ?_;refine uAa rfl rfl rfl (uAm rfl gU rfl rfl rfl rfl rfl) ?_;refine uAx rfl rfl rfl rfl rfl rfl gU (fun hh=>gA ((fun hh=>hh) hh) (gA rfl (rfl))) (uCf _ _ _ (by omega) (by omega)) rfl ?_;refine uAa rfl rfl rfl (uAX rfl (fun hh=>hh)) ?_;refine uAa rfl rfl rfl (uAN rfl rfl gU (fun _ hi=>gP rfl hi)) ?_;refine uAf ?_;refine uAl (s:=⟨[(1,_,_),(2,_,_),(3,_,_),(7,_,_),(46,_,_)],[(.l 1,_),(.l 2,_),(.l 3,_)],[],[]⟩) (uAj (⟨sx rfl,sx rfl,sx rfl,sx rfl,sx rfl,trivial⟩) (⟨sx rfl,sx rfl,sx rfl,trivial⟩) trivial) ?_
   refine uAn rfl (fun hc2=>?_) (fun hc2=>?_)
   ·try simp only [nn,uAh,T.rows_len,Tk.rows_len] at hc2
    have h2 : symQ l (uAw l [] p).2 [40]=false:=by
     rcases hc2 with q | q
     ·exact uCw q
     ·exact q
    rw [uNX hc h2]
    refine uAd ?_;refine awp_drawn' (by kernel_rfl) ?_;refine uAq rfl rfl rfl rfl (uAc rfl gU) ?_;refine uAR rfl rfl rfl rfl rfl rfl rfl gU gU (uHq _ _) rfl ?_;refine uAD rfl rfl rfl rfl rfl rfl rfl gU rfl rfl rfl rfl rfl ?_;refine uAS rfl rfl rfl rfl rfl rfl rfl rfl rfl rfl rfl rfl ?_;refine uAS rfl rfl rfl rfl rfl rfl rfl rfl rfl rfl rfl rfl ?_;refine uA1 (by kernel_rfl) ?_;refine uAo ?_
    repeat (first | refine tR ?_ | refine bR ?_)
    refine uAs rfl ?_ trivial
    rfl
   ·try simp only [nn,uAh,T.rows_len,Tk.rows_len] at hc2
    have h2:=hc2.2
    have hlt:=(uB3 h2).1
    have hg2:=hg (uAw l [] p).2
    have hs2 : uAP l [40] (uAw l [] p).2=(uAw l [] p).2.go:=by rw [uAP,if_pos h2]
    have hsy:=uAV l (uAw l [] p).2 [40] (by omega) (by omega)
    rw [hs2] at hsy
    refine uAp ?_;refine uAd (uAb ?_);refine uAa rfl rfl rfl (uAm rfl gU rfl rfl rfl rfl rfl) ?_;refine uAx rfl rfl rfl rfl rfl rfl gU gU (hsy) rfl ?_;refine uAt rfl (uAz rfl rfl rfl rfl rfl rfl rfl) ?_;refine uAf ?_;refine uAd ?_;refine uAd (uAb ?_);refine uAa rfl rfl rfl (uAm rfl gU rfl rfl rfl rfl rfl) ?_;refine uAx rfl rfl rfl rfl rfl rfl gU gU (uCf _ _ _ (by omega) (by omega)) rfl ?_;refine uAf ?_;refine uAn rfl (fun hc3=>?_) (fun hc3=>?_)
    ·try simp only [nn,uAh,T.rows_len,Tk.rows_len] at hc3
     have hlt3:=(uB3 hc3).1
     rw [uNW hc h2 hc3]
     have hs3 : uAP l [41] (uAw l [] p).2.go=(uAw l [] p).2.go.go:=by rw [uAP,if_pos hc3]
     have hsy3:=uAV l (uAw l [] p).2.go [41] (by omega) (by omega)
     rw [hs3] at hsy3
     refine uAd ?_;refine awp_drawn' (by kernel_rfl) ?_;refine uAq rfl rfl rfl rfl (uAc rfl gU) ?_;refine uAR rfl rfl rfl rfl rfl rfl rfl gU gU (uFP _ _ [] rfl (by simp)) rfl ?_;refine uAD rfl rfl rfl rfl rfl rfl rfl gU rfl rfl rfl rfl rfl ?_;refine uAR rfl rfl rfl rfl rfl rfl rfl gU gU (hsy3) rfl ?_;refine uAS rfl rfl rfl rfl rfl rfl rfl rfl rfl rfl rfl rfl ?_;refine uAS rfl rfl rfl rfl rfl rfl rfl rfl rfl rfl rfl rfl ?_;refine uA1 (by kernel_rfl) ?_;refine uAo ?_
     repeat (first | refine tR ?_ | refine bR ?_)
     refine uAs rfl ?_ trivial
     rfl
    ·try simp only [nn,uAh,T.rows_len,Tk.rows_len] at hc3
     rw [uNy hc h2 hc3]
     have a3:=uCB (uC0 l n) (uAw l [] p).2.go
     have a5:=uHv l n (uAw l [] p).2.go
     refine uAp ?_;refine uAd (uAb ?_);refine uAa rfl rfl rfl (uAm rfl gU rfl rfl rfl rfl rfl) ?_;refine uAx rfl rfl rfl rfl rfl rfl gU gU (uEy l n hl ih (uC0 l n) (uAw l [] p).2.go (by omega) (by omega)) rfl ?_;refine uAa rfl rfl rfl (uAc rfl gU) ?_;refine uAa rfl rfl rfl (uAu rfl gU rfl) ?_;refine uAa rfl rfl rfl (uAu rfl gU rfl) ?_;refine uAa rfl rfl rfl (uAe rfl gU) ?_;refine uAt rfl (uAz rfl rfl rfl rfl rfl rfl rfl) ?_;refine uAf ?_;refine uAl (s:=⟨[(1,_,_),(2,_,_),(3,_,_),(7,_,_),(8,_,_)],[(.l 1,_),(.l 2,_),(.l 3,_)],[],[]⟩) (uAj (⟨sx rfl,sx rfl,sx rfl,sx rfl,sx rfl,trivial⟩) (⟨sx rfl,sx rfl,sx rfl,trivial⟩) trivial) ?_;refine uAd ?_;refine awp_drawn' (by kernel_rfl) ?_;refine uAq rfl rfl rfl rfl (uAc rfl gU) ?_;refine uAq rfl rfl rfl rfl (uAc rfl gU) ?_;refine uAR rfl rfl rfl rfl rfl rfl rfl gU gU (uFP _ _ (uA6 l (uAZ l n) (uAw l [] p).2.go).1 rfl (by omega)) rfl ?_;refine uAD rfl rfl rfl rfl rfl rfl rfl gU rfl rfl rfl rfl rfl ?_;refine uAR rfl rfl rfl rfl rfl rfl rfl gU gU (uAV l (uA6 l (uAZ l n) (uAw l [] p).2.go).2 [41] (by omega) (by omega)) rfl ?_;refine uAS rfl rfl rfl rfl rfl rfl rfl rfl rfl rfl rfl rfl ?_;refine uAS rfl rfl rfl rfl rfl rfl rfl rfl rfl rfl rfl rfl ?_;refine uA1 (by kernel_rfl) ?_;refine uAo ?_
     repeat (first | refine tR ?_ | refine bR ?_)
     refine uAs rfl ?_ trivial
     rfl
end Go.Proofs.YteidahabkfgfjaaGreat
namespace Go.Proofs.YteidahabkfgfjaaGreat
open Go Go.Abs
def soC (n : Nar) (u1 u2 u3 u4 u5 : Value) : List C:=[.s n.name, .so u1 1 (strR n.roles), .so u2 3 (Fs.rows n.fresh), .so u3 1 (strR n.tags), .so u4 7 (Sp.rows n.steps), .so u5 5 (Gl.rows n.goals)]
abbrev narC (a : List UInt8) (r1 r2 r3 r4 r5 : List (List C)) : List C:=[.s a, .sl 1 r1, .sl 3 r2, .sl 1 r3, .sl 7 r4, .sl 5 r5]
abbrev uNi (a : List UInt8) (r1 r2 r3 r4 r5 : List (List C)) (u1 u2 u3 u4 u5 : Value) : List C:=[.s a, .so u1 1 r1, .so u2 3 r2, .so u3 1 r3, .so u4 7 r4, .so u5 5 r5]
theorem uNA {st st' : St} {n : Nm} {cs : List C} (hb : st'.box n=some cs) (hbx : ∀ m,m≠n→st'.box m=st.box m) (ht : st'.t=st.t) (ho : st'.ow=st.ow) (hm : st'.mp=st.mp) : Sub { st with bx:=(n,cs) :: st.bx } st' where
 t:=fun k e h=>by
  show getT st'.t k=some e
  rw [ht]; exact h
 bx:=fun m ds h=>by
  have h2 : getB ((n,cs) :: st.bx) m=some ds:=h
  rw [uBj] at h2
  split at h2
  ·rename_i he; subst he; rw [hb]; exact h2
  ·rename_i he; rw [hbx m fun q=>he q.symm]; exact h2
 ow:=fun p sz h=>by
  show getO st'.ow p=some sz
  rw [ho]; exact h
 mp:=.inr hm.symm
theorem uCM (st : St) (n : Nm) (cs : List C) (m : Nm) : ({ st with bx:=(n,cs) :: st.bx } : St).box m=if n=m then some cs else st.box m:=uBj _ _ _ _
theorem uBb {N : Nat} {c : Code} {Q : Exit→St→Prop} {st : St} (n : Nm) {a : List UInt8} {r1 r2 r3 r4 r5 : List (List C)} (hb : st.box n=some (narC a r1 r2 r3 r4 r5))
  (h : ∀ u1 u2 u3 u4 u5,AWP sysO N c Q { st with bx:=(n,uNi a r1 r2 r3 r4 r5 u1 u2 u3 u4 u5) :: st.bx }) : AWP sysO N c Q st:=by
 refine uEc n 1 hb rfl fun u1=>?_
 refine uEc n 2 ((uCM _ _ _ _).trans (if_pos rfl)) rfl fun u2=>?_
 refine uEc n 3 ((uCM _ _ _ _).trans (if_pos rfl)) rfl fun u3=>?_
 refine uEc n 4 ((uCM _ _ _ _).trans (if_pos rfl)) rfl fun u4=>?_
 refine uEc n 5 ((uCM _ _ _ _).trans (if_pos rfl)) rfl fun u5=>?_
 have hn : ∀ {m : Nm},m≠n → ¬n=m:=fun h q=>h q.symm
 exact uAl (uNA ((uCM _ _ _ _).trans (if_pos rfl)) (fun m hm=>(uCM _ _ _ _).trans ((if_neg (hn hm)).trans ((uCM _ _ _ _).trans ((if_neg (hn hm)).trans ((uCM _ _ _ _).trans ((if_neg (hn hm)).trans ((uCM _ _ _ _).trans ((if_neg (hn hm)).trans ((uCM _ _ _ _).trans (if_neg (hn hm)))))))))) ) rfl rfl rfl) (h u1 u2 u3 u4 u5)
theorem uMV (st : St) (n m : Nm) (k sz : Nat) (cs : List C) (x : Nm) : ((({ st with bx:=(n,cs) :: st.bx } : St).unown (.b m k)).addOwn (.b n k) sz).box x=if n=x then some cs else st.box x:=uBj _ _ _ _
theorem uNh (st : St) (n m : Nm) (k sz : Nat) (cs : List C) (p : Pl) : ((({ st with bx:=(n,cs) :: st.bx } : St).unown (.b m k)).addOwn (.b n k) sz).own p=if .b n k=p then some sz else if p = .b m k then none else st.own p:=by
 rw [St.addOwn_own,St.unown_own]; rfl
def uNq (st : St) (m : Nm) : Bool:=decide (st.own (.b m 1)=some 1) && decide (st.own (.b m 2)=some 3) && decide (st.own (.b m 3)=some 1) && decide (st.own (.b m 4)=some 7) && decide (st.own (.b m 5)=some 5)
theorem uBi {N : Nat} {c : Code} {Q : Exit→St→Prop} {st : St} (n m : Nm) {a : List UInt8} {r1 r2 r3 r4 r5 : List (List C)} {u1 u2 u3 u4 u5 : Value} (hb : st.box n=some (uNi a r1 r2 r3 r4 r5 u1 u2 u3 u4 u5)) (hbm : st.box m=some (uNi a r1 r2 r3 r4 r5 u1 u2 u3 u4 u5))
  (ho : uNq st m=true) (hnb : n.isBd=false) (hne : Nm.beq m n=false)
  (h : AWP sysO N c Q { st with bx:=(n,narC a r1 r2 r3 r4 r5) :: st.bx,ow:=(.b n 1,1) :: (.b n 2,3) :: (.b n 3,1) :: (.b n 4,7) :: (.b n 5,5) :: st.ow.filter fun q=>!Pl.inBox m q.1 }) : AWP sysO N c Q st:=by
 have hmn : ¬n=m:=fun q=>by subst q; rw [Nm.beq_self] at hne; cases hne
 simp only [uNq,Bool.and_eq_true,decide_eq_true_eq] at ho
 obtain ⟨⟨⟨⟨o1,o2⟩,o3⟩,o4⟩,o5⟩:=ho
 have hpb : ∀ i j,Pl.beq (.b m i) (.b n j)=false:=fun i j=>by simp [Pl.beq,hne]
 have bn : ∀ (s : St) (k sz : Nat) (cs : List C),((({ s with bx:=(n,cs) :: s.bx } : St).unown (.b m k)).addOwn (.b n k) sz).box n=some cs:=fun s k sz cs=>(uMV s n m k sz cs n).trans (if_pos rfl)
 have bm : ∀ (s : St) (k sz : Nat) (cs : List C) {x : Nm},¬n=x→((({ s with bx:=(n,cs) :: s.bx } : St).unown (.b m k)).addOwn (.b n k) sz).box x=s.box x:=fun s k sz cs x hx=>(uMV s n m k sz cs x).trans (if_neg hx)
 have ow : ∀ (s : St) (k sz : Nat) (cs : List C) {p : Pl},¬Pl.b n k=p → ¬p=Pl.b m k→((({ s with bx:=(n,cs) :: s.bx } : St).unown (.b m k)).addOwn (.b n k) sz).own p=s.own p:=fun s k sz cs p h1 h2=>(uNh s n m k sz cs p).trans ((if_neg h1).trans (if_neg h2))
 have os : ∀ (s : St) (k sz : Nat) (cs : List C),((({ s with bx:=(n,cs) :: s.bx } : St).unown (.b m k)).addOwn (.b n k) sz).own (.b n k)=some sz:=fun s k sz cs=>(uNh s n m k sz cs _).trans (if_pos rfl)
 have dn : ∀ {i j : Nat} {x y : Nm},i≠j → ¬Pl.b x i=Pl.b y j:=fun h q=>by simp at q; exact h q.2
 have hnm : ∀ {i j : Nat},¬Pl.b n i=Pl.b m j:=fun q=>by simp at q; exact hmn q.1
 refine uD7 n 1 m 1 hb rfl hbm rfl o1 hnb (hpb _ _) ?_;refine uD7 n 2 m 2 (bn _ _ _ _) rfl ((bm _ _ _ _ hmn).trans hbm) rfl ((ow _ _ _ _ (dn (by decide)) (dn (by decide))).trans o2) hnb (hpb _ _) ?_;refine uD7 n 3 m 3 (bn _ _ _ _) rfl ((bm _ _ _ _ hmn).trans ((bm _ _ _ _ hmn).trans hbm)) rfl ((ow _ _ _ _ (dn (by decide)) (dn (by decide))).trans ((ow _ _ _ _ (dn (by decide)) (dn (by decide))).trans o3)) hnb (hpb _ _) ?_;refine uD7 n 4 m 4 (bn _ _ _ _) rfl ((bm _ _ _ _ hmn).trans ((bm _ _ _ _ hmn).trans ((bm _ _ _ _ hmn).trans hbm))) rfl
  ((ow _ _ _ _ (dn (by decide)) (dn (by decide))).trans ((ow _ _ _ _ (dn (by decide)) (dn (by decide))).trans ((ow _ _ _ _ (dn (by decide)) (dn (by decide))).trans o4))) hnb (hpb _ _) ?_
 refine uD7 n 5 m 5 (bn _ _ _ _) rfl ((bm _ _ _ _ hmn).trans ((bm _ _ _ _ hmn).trans ((bm _ _ _ _ hmn).trans ((bm _ _ _ _ hmn).trans hbm)))) rfl
  ((ow _ _ _ _ (dn (by decide)) (dn (by decide))).trans ((ow _ _ _ _ (dn (by decide)) (dn (by decide))).trans ((ow _ _ _ _ (dn (by decide)) (dn (by decide))).trans ((ow _ _ _ _ (dn (by decide)) (dn (by decide))).trans o5)))) hnb (hpb _ _) ?_
 refine uAl ?_ h;refine ⟨fun k e q=>q,fun x cs q=>?_,fun p sz q=>?_, .inr rfl⟩
 ·have q2 : getB ((n,narC a r1 r2 r3 r4 r5) :: st.bx) x=some cs:=q
  clear q
  rw [uBj] at q2
  split at q2
  ·rename_i he; subst he; exact (bn _ _ _ _).trans q2
  ·rename_i he
   have q:=q2
   exact (bm _ _ _ _ he).trans ((bm _ _ _ _ he).trans ((bm _ _ _ _ he).trans ((bm _ _ _ _ he).trans ((bm _ _ _ _ he).trans q))))
 ·have q3 : getO ((Pl.b n 1,1) :: (.b n 2,3) :: (.b n 3,1) :: (.b n 4,7) :: (.b n 5,5) :: st.ow.filter fun q=>!Pl.inBox m q.1) p=some sz:=q
  clear q
  have q:=q3
  clear q3
  simp only [uBN] at q
  split at q
  ·rename_i he; subst he
   exact (ow _ _ _ _ (dn (by decide)) hnm).trans ((ow _ _ _ _ (dn (by decide)) hnm).trans ((ow _ _ _ _ (dn (by decide)) hnm).trans ((ow _ _ _ _ (dn (by decide)) hnm).trans ((os _ _ _ _).trans q))))
  rename_i p1
  split at q
  ·rename_i he; subst he
   exact (ow _ _ _ _ (dn (by decide)) hnm).trans ((ow _ _ _ _ (dn (by decide)) hnm).trans ((ow _ _ _ _ (dn (by decide)) hnm).trans ((os _ _ _ _).trans q)))
  rename_i p2
  split at q
  ·rename_i he; subst he
   exact (ow _ _ _ _ (dn (by decide)) hnm).trans ((ow _ _ _ _ (dn (by decide)) hnm).trans ((os _ _ _ _).trans q))
  rename_i p3
  split at q
  ·rename_i he; subst he
   exact (ow _ _ _ _ (dn (by decide)) hnm).trans ((os _ _ _ _).trans q)
  rename_i p4
  split at q
  ·rename_i he; subst he
   exact (os _ _ _ _).trans q
  rename_i p5
  rw [uBK (fun r=>!Pl.inBox m r)] at q
  split at q
  ·rename_i hin
   have hpm : ∀ {j : Nat},¬p=Pl.b m j:=fun e=>by subst e; simp [Pl.inBox,Nm.beq_self] at hin
   exact (ow _ _ _ _ p5 hpm).trans ((ow _ _ _ _ p4 hpm).trans ((ow _ _ _ _ p3 hpm).trans ((ow _ _ _ _ p2 hpm).trans ((ow _ _ _ _ p1 hpm).trans q))))
  ·cases q
def osR : OS:=[(0,1,1),(0,2,3),(0,3,1),(0,4,7),(0,5,5)]
abbrev xnr (l : List Tk) (r : Nar × PS) : X:=.tup [.agg r.1.cells, .agg (pbx l r.2)]
set_option maxHeartbeats 4000000 in
theorem uEL (l : List Tk) (p : PS) (n : Nar) (line : Int) (u1 u2 u3 u4 u5 : Value) (hl : l.length≤2000000) (hp : p.at'≤l.length) (hn : n.steps.length≤3000000) :
  CtrO sysO 134 [.v (.agg (soC n u1 u2 u3 u4 u5)),xr l p,xi line] [soC n u1 u2 u3 u4 u5] osR (xnr l ({ n with steps:=n.steps++[(uEd l line p).1] },(uEd l line p).2)) [soC n u1 u2 u3 u4 u5] .res:=by
 have hrs:=Sp.rows_len n.steps
 have hrl:=Tk.rows_len l
 refine uB0 Tryz.func134 rfl rfl rfl rfl rfl rfl rfl ?_;refine uAd (uAb ?_);refine uAt rfl (uAI rfl rfl rfl rfl) ?_;refine uAt rfl (uAI rfl rfl rfl rfl) ?_;refine uAt rfl (uAM rfl rfl rfl) ?_;refine uAt rfl (uAM rfl rfl rfl) ?_;refine uAf ?_;refine uAl (s:=⟨[(2,_,_),(3,_,_),(4,_,_),(6,_,_),(7,_,_)],[(.l 3,_),(.l 4,_),(.l 6,_),(.l 7,_),(.o 0,_)],[(.b (.o 0) 1,_),(.b (.o 0) 2,_),(.b (.o 0) 3,_),(.b (.o 0) 4,_),(.b (.o 0) 5,_)],[]⟩) (uAj (⟨sx rfl,sx rfl,sx rfl,sx rfl,sx rfl,trivial⟩) (⟨sx rfl,sx rfl,sx rfl,sx rfl,sx rfl,trivial⟩) (⟨rfl,rfl,rfl,rfl,rfl,trivial⟩)) ?_;refine uBi (.l 3) (.o 0) rfl rfl rfl rfl rfl ?_;refine uAl (s:=⟨[(2,_,_),(3,_,_),(4,_,_),(6,_,_),(7,_,_)],[(.l 3,_),(.l 4,_),(.l 6,_),(.l 7,_),(.o 0,_)],[(.b (.l 3) 1,_),(.b (.l 3) 2,_),(.b (.l 3) 3,_),(.b (.l 3) 4,_),(.b (.l 3) 5,_)],[]⟩) (uAj (⟨sx rfl,sx rfl,sx rfl,sx rfl,sx rfl,trivial⟩) (⟨sx rfl,sx rfl,sx rfl,sx rfl,sx rfl,trivial⟩) (⟨rfl,rfl,rfl,rfl,rfl,trivial⟩)) ?_;refine uAd (uAb ?_);refine uAa rfl rfl rfl (uAc rfl gU) ?_;refine uAa rfl rfl rfl (uBc rfl Tryz.underlying49 rfl gU) ?_;refine uAt rfl (uAM rfl rfl rfl) ?_;refine uAt rfl (uAz rfl rfl rfl rfl rfl rfl rfl) ?_;refine uAf ?_
 refine uAd (uAb ?_);refine uAa rfl rfl rfl (uAm rfl gU rfl rfl rfl rfl rfl) ?_;refine uAx rfl rfl rfl rfl rfl rfl gU gU (up (uBz l _ (by omega) (le3 hl (by repeat (first | exact hp | refine uBX ?_ | refine uBC ?_))))) rfl ?_;refine uAa rfl rfl rfl (uAc rfl gU) ?_;refine uAa rfl rfl rfl (uAu rfl gU rfl) ?_;refine uAa rfl rfl rfl (uAu rfl gU rfl) ?_;refine uAa rfl rfl rfl (uAg rfl gU rfl rfl) ?_;refine uAt rfl (uAz rfl rfl rfl rfl rfl rfl rfl) ?_;refine uAt rfl (uAz rfl rfl rfl rfl rfl rfl rfl) ?_;refine uAf ?_;refine uAl (s:=⟨[(3,_,_),(4,_,_),(6,_,_),(7,_,_),(8,_,_)],[(.l 3,_),(.l 4,_),(.l 6,_),(.l 7,_),(.l 8,_),(.o 0,_)],[(.b (.l 3) 1,_),(.b (.l 3) 2,_),(.b (.l 3) 3,_),(.b (.l 3) 4,_),(.b (.l 3) 5,_)],[]⟩) (uAj (⟨sx rfl,sx rfl,sx rfl,sx rfl,sx rfl,trivial⟩) (⟨sx rfl,sx rfl,sx rfl,sx rfl,sx rfl,sx rfl,trivial⟩) (⟨rfl,rfl,rfl,rfl,rfl,trivial⟩)) ?_;refine uAd (uAb ?_);refine uAa rfl rfl rfl (uAm rfl gU rfl rfl rfl rfl rfl) ?_;refine uAx rfl rfl rfl rfl rfl rfl gU gU (up (uAV l _ _ (by omega) (le3 hl (by repeat (first | exact hp | refine uBX ?_ | refine uBC ?_))))) rfl ?_;refine uAx rfl rfl rfl rfl rfl rfl gU gU (up (uAV l _ _ (by omega) (le3 hl (by repeat (first | exact hp | refine uBX ?_ | refine uBC ?_))))) rfl ?_
 refine uAt rfl (uAz rfl rfl rfl rfl rfl rfl rfl) ?_;refine uAf ?_;refine uAd (uAb ?_);refine uAa rfl rfl rfl (uAm rfl gU rfl rfl rfl rfl rfl) ?_;refine uAx rfl rfl rfl rfl rfl rfl gU gU (up (uBz l _ (by omega) (le3 hl (by repeat (first | exact hp | refine uBX ?_ | refine uBC ?_))))) rfl ?_;refine uAa rfl rfl rfl (uAc rfl gU) ?_;refine uAa rfl rfl rfl (uAu rfl gU rfl) ?_;refine uAa rfl rfl rfl (uAu rfl gU rfl) ?_;refine uAa rfl rfl rfl (uAg rfl gU rfl rfl) ?_;refine uAt rfl (uAz rfl rfl rfl rfl rfl rfl rfl) ?_;refine uAt rfl (uAz rfl rfl rfl rfl rfl rfl rfl) ?_;refine uAf ?_;refine uAl (s:=⟨[(3,_,_),(4,_,_),(6,_,_),(7,_,_),(8,_,_)],[(.l 3,_),(.l 4,_),(.l 6,_),(.l 7,_),(.l 8,_),(.o 0,_)],[(.b (.l 3) 1,_),(.b (.l 3) 2,_),(.b (.l 3) 3,_),(.b (.l 3) 4,_),(.b (.l 3) 5,_)],[]⟩) (uAj (⟨sx rfl,sx rfl,sx rfl,sx rfl,sx rfl,trivial⟩) (⟨sx rfl,sx rfl,sx rfl,sx rfl,sx rfl,sx rfl,trivial⟩) (⟨rfl,rfl,rfl,rfl,rfl,trivial⟩)) ?_;refine uAd (uAb ?_);refine uAa rfl rfl rfl (uAm rfl gU rfl rfl rfl rfl rfl) ?_;refine uAx rfl rfl rfl rfl rfl rfl gU gU (up (uAV l _ _ (by omega) (le3 hl (by repeat (first | exact hp | refine uBX ?_ | refine uBC ?_))))) rfl ?_;refine uAx rfl rfl rfl rfl rfl rfl gU gU (up (uDF l (by omega) (l.length + 1) _ (by repeat (first | exact hp | refine uBX ?_ | refine uBC ?_)) (by omega))) rfl ?_
 refine uAa rfl rfl rfl (uAc rfl gU) ?_;refine uAa rfl rfl rfl (uAu rfl gU rfl) ?_;refine uAa rfl rfl rfl (uAu rfl gU rfl) ?_;refine uAa rfl rfl rfl (uAg rfl gU rfl rfl) ?_;refine uAt rfl (uAz rfl rfl rfl rfl rfl rfl rfl) ?_;refine uAt rfl (uAz rfl rfl rfl rfl rfl rfl rfl) ?_;refine uAf ?_;refine uAl (s:=⟨[(3,_,_),(4,_,_),(6,_,_),(7,_,_),(8,_,_)],[(.l 3,_),(.l 4,_),(.l 6,_),(.l 7,_),(.l 8,_),(.o 0,_)],[(.b (.l 3) 1,_),(.b (.l 3) 2,_),(.b (.l 3) 3,_),(.b (.l 3) 4,_),(.b (.l 3) 5,_)],[]⟩) (uAj (⟨sx rfl,sx rfl,sx rfl,sx rfl,sx rfl,trivial⟩) (⟨sx rfl,sx rfl,sx rfl,sx rfl,sx rfl,sx rfl,trivial⟩) (⟨rfl,rfl,rfl,rfl,rfl,trivial⟩)) ?_;refine uAd (uAb ?_);refine uAa rfl rfl rfl (uAg rfl gU rfl rfl) ?_;refine uAt rfl (uBv rfl rfl rfl rfl rfl rfl rfl) ?_;refine uAa rfl rfl rfl (uAm rfl gU rfl rfl rfl rfl rfl) ?_;refine uAU (xs:=[_]) rfl rfl rfl rfl rfl rfl rfl rfl rfl gU rfl ?_;refine uAt rfl (uA3 rfl rfl rfl rfl rfl rfl rfl (by first | omega | (simp only [List.length_append,List.length_singleton,Sp.rows_len]; omega)) (by first | omega | (simp only [List.length_append,List.length_singleton,Sp.rows_len]; omega))) ?_;refine uAa rfl rfl rfl (uAg rfl gU rfl rfl) ?_;refine uAt rfl (uBu rfl rfl rfl rfl rfl rfl rfl) ?_
 refine uAf ?_;refine uAl (s:=⟨[(3,_,_),(4,_,_),(6,_,_),(7,_,_)],[(.l 3,_),(.l 4,_),(.l 6,_),(.l 7,_),(.o 0,_)],[(.b (.l 3) 1,_),(.b (.l 3) 2,_),(.b (.l 3) 3,_),(.b (.l 3) 4,_),(.b (.l 3) 5,_)],[]⟩) (uAj (⟨sx rfl,sx rfl,sx rfl,sx rfl,trivial⟩) (⟨sx rfl,sx rfl,sx rfl,sx rfl,sx rfl,trivial⟩) (⟨rfl,rfl,rfl,rfl,rfl,trivial⟩)) ?_;refine uAl (s:=⟨[(3,_,_),(4,_,_),(6,_,_),(7,_,_)],[(.l 3,_),(.l 4,_),(.l 6,_),(.l 7,_),(.o 0,_)],[(.b (.l 3) 1,_),(.b (.l 3) 2,_),(.b (.l 3) 3,_),(.b (.l 3) 4,_),(.b (.l 3) 5,_)],[]⟩) (uAj (⟨sx rfl,sx rfl,sx rfl,sx rfl,trivial⟩) (⟨sx rfl,sx rfl,sx rfl,sx rfl,sx rfl,trivial⟩) (⟨rfl,rfl,rfl,rfl,rfl,trivial⟩)) ?_;refine uBb (.l 3) rfl (fun w1 w2 w3 w4 w5=>?_);refine uAl (s:=⟨[(3,_,_),(4,_,_),(6,_,_),(7,_,_)],[(.l 3,_),(.l 4,_),(.l 6,_),(.l 7,_),(.o 0,_)],[(.b (.l 3) 1,_),(.b (.l 3) 2,_),(.b (.l 3) 3,_),(.b (.l 3) 4,_),(.b (.l 3) 5,_)],[]⟩) (uAj (⟨sx rfl,sx rfl,sx rfl,sx rfl,trivial⟩) (⟨sx rfl,sx rfl,sx rfl,sx rfl,sx rfl,trivial⟩) (⟨rfl,rfl,rfl,rfl,rfl,trivial⟩)) ?_;refine uAd ?_;refine awp_drawn' (by kernel_rfl) ?_;refine uAD rfl rfl rfl rfl rfl rfl rfl gU rfl rfl rfl rfl rfl ?_;refine uAD rfl rfl rfl rfl rfl rfl rfl gU rfl rfl rfl rfl rfl ?_
 refine uAS rfl rfl rfl rfl rfl rfl rfl rfl rfl rfl rfl rfl ?_;refine uAS rfl rfl rfl rfl rfl rfl rfl rfl rfl rfl rfl rfl ?_;refine uA1 (by kernel_rfl) ?_;refine uAl (s:=⟨[(3,_,_),(6,_,_),(7,_,_)],[(.l 3,_),(.l 6,_),(.l 7,_),(.o 0,_)],[(.b (.l 3) 1,_),(.b (.l 3) 2,_),(.b (.l 3) 3,_),(.b (.l 3) 4,_),(.b (.l 3) 5,_)],[]⟩) (uAj (⟨sx rfl,sx rfl,sx rfl,trivial⟩) (⟨sx rfl,sx rfl,sx rfl,sx rfl,trivial⟩) (⟨(ak rfl (ak rfl (ak rfl (ak rfl (rfl))))),(ak rfl (ak rfl (ak rfl (ak rfl (rfl))))),(ak rfl (ak rfl (ak rfl (ak rfl (rfl))))),(ak rfl (ak rfl (ak rfl (ak rfl (rfl))))),(ak rfl (ak rfl (ak rfl (ak rfl (rfl))))),trivial⟩)) ?_;refine uBi (.l 6) (.l 3) rfl rfl rfl rfl rfl ?_;refine uAl (s:=⟨[(3,_,_),(6,_,_),(7,_,_)],[(.l 3,_),(.l 6,_),(.l 7,_),(.o 0,_)],[(.b (.l 6) 1,_),(.b (.l 6) 2,_),(.b (.l 6) 3,_),(.b (.l 6) 4,_),(.b (.l 6) 5,_)],[]⟩) (uAj (⟨sx rfl,sx rfl,sx rfl,trivial⟩) (⟨sx rfl,sx rfl,sx rfl,sx rfl,trivial⟩) (⟨rfl,rfl,rfl,rfl,rfl,trivial⟩)) ?_;refine uAo ?_
 repeat (first | refine tR ?_ | refine bR ?_)
 refine uBr rfl ?_ ⟨⟨_,rfl,rfl⟩,trivial⟩ (by simp) rfl rfl rfl rfl rfl rfl;exact congrArg (fun z=>X.tup [.agg (narC n.name (strR n.roles) (Fs.rows n.fresh) (strR n.tags) z (Gl.rows n.goals)), .agg (pbx l (uEd l line p).2)]) (Sp.rows_app n.steps [(uEd l line p).1]).symm
end Go.Proofs.YteidahabkfgfjaaGreat
namespace Go.Proofs.YteidahabkfgfjaaGreat
open Go Go.Abs
theorem uIc (l : List Tk) (ws : List (List UInt8)) : Fwd l (chR l ws):=fun p=>by
 have h:=uA5 l [] p
 unfold chR
 split
 ·simp [PS.off]
 ·exact h
theorem uD3 {l : List Tk} {ws : List (List UInt8)} {p : PS} (h : p.at'≤l.length) : (chR l ws p).2.at'≤l.length:=(uIc l ws p).2 h
set_option maxHeartbeats 4000000 in
theorem uEI (l : List Tk) (p : PS) (n : Nar) (line : Int) (u1 u2 u3 u4 u5 : Value) (hl : l.length≤2000000) (hp : p.at'≤l.length) (hn : n.goals.length≤3000000) :
  CtrO sysO 135 [.v (.agg (soC n u1 u2 u3 u4 u5)),xr l p,xi line] [soC n u1 u2 u3 u4 u5] osR (xnr l ({ n with goals:=n.goals++[(uDD l line p).1] },(uDD l line p).2)) [soC n u1 u2 u3 u4 u5] .res:=by
 have hrs:=Gl.rows_len n.goals
 have hrl:=Tk.rows_len l
 refine uB0 Tryz.func135 rfl rfl rfl rfl rfl rfl rfl ?_;refine uAd (uAb ?_);refine uAt rfl (uAI rfl rfl rfl rfl) ?_;refine uAt rfl (uAI rfl rfl rfl rfl) ?_;refine uAt rfl (uAM rfl rfl rfl) ?_;refine uAt rfl (uAM rfl rfl rfl) ?_;refine uAf ?_;refine uAl (s:=⟨[(2,_,_),(3,_,_),(4,_,_),(6,_,_),(7,_,_)],[(.l 3,_),(.l 4,_),(.l 6,_),(.l 7,_),(.o 0,_)],[(.b (.o 0) 1,_),(.b (.o 0) 2,_),(.b (.o 0) 3,_),(.b (.o 0) 4,_),(.b (.o 0) 5,_)],[]⟩) (uAj (⟨sx rfl,sx rfl,sx rfl,sx rfl,sx rfl,trivial⟩) (⟨sx rfl,sx rfl,sx rfl,sx rfl,sx rfl,trivial⟩) (⟨rfl,rfl,rfl,rfl,rfl,trivial⟩)) ?_;refine uBi (.l 3) (.o 0) rfl rfl rfl rfl rfl ?_;refine uAl (s:=⟨[(2,_,_),(3,_,_),(4,_,_),(6,_,_),(7,_,_)],[(.l 3,_),(.l 4,_),(.l 6,_),(.l 7,_),(.o 0,_)],[(.b (.l 3) 1,_),(.b (.l 3) 2,_),(.b (.l 3) 3,_),(.b (.l 3) 4,_),(.b (.l 3) 5,_)],[]⟩) (uAj (⟨sx rfl,sx rfl,sx rfl,sx rfl,sx rfl,trivial⟩) (⟨sx rfl,sx rfl,sx rfl,sx rfl,sx rfl,trivial⟩) (⟨rfl,rfl,rfl,rfl,rfl,trivial⟩)) ?_;refine uAd (uAb ?_);refine uAa rfl rfl rfl (uAc rfl gU) ?_;refine uAa rfl rfl rfl (uBc rfl Tryz.underlying51 rfl gU) ?_;refine uAt rfl (uAM rfl rfl rfl) ?_;refine uAt rfl (uAz rfl rfl rfl rfl rfl rfl rfl) ?_;refine uAf ?_
 refine uAd ?_;refine awp_drawn' (by kernel_rfl) ?_;refine uAD rfl rfl rfl rfl rfl rfl rfl gU rfl rfl rfl rfl rfl ?_;refine uAR rfl rfl rfl rfl rfl rfl rfl gU gU (up uJY) rfl ?_;refine uAR rfl rfl rfl rfl rfl rfl rfl gU gU (up (uCY l p uBA (by omega) (by omega))) rfl ?_;refine uAq rfl rfl rfl rfl (uAc rfl gU) ?_;refine uAq rfl rfl rfl rfl (uAu rfl gU rfl) ?_;refine uAq rfl rfl rfl rfl (uAu rfl gU rfl) ?_;refine uAq rfl rfl rfl rfl (uAg rfl gU rfl rfl) ?_;refine uAS rfl rfl rfl rfl rfl rfl rfl rfl rfl rfl rfl rfl ?_;refine uAS rfl rfl rfl rfl rfl rfl rfl rfl rfl rfl rfl rfl ?_;refine uA1 (by kernel_rfl) ?_;refine uAl (s:=⟨[(3,_,_),(4,_,_),(6,_,_),(7,_,_),(8,_,_)],[(.l 3,_),(.l 4,_),(.l 6,_),(.l 7,_),(.l 8,_),(.o 0,_)],[(.b (.l 3) 1,_),(.b (.l 3) 2,_),(.b (.l 3) 3,_),(.b (.l 3) 4,_),(.b (.l 3) 5,_)],[]⟩) (uAj (⟨sx rfl,sx rfl,sx rfl,sx rfl,sx rfl,trivial⟩) (⟨sx rfl,sx rfl,sx rfl,sx rfl,sx rfl,sx rfl,trivial⟩) (⟨(ak rfl (ak rfl (ak rfl (ak rfl (ak rfl (ak rfl (ak rfl (ak rfl (ak rfl (rfl)))))))))),(ak rfl (ak rfl (ak rfl (ak rfl (ak rfl (ak rfl (ak rfl (ak rfl (ak rfl (rfl)))))))))),(ak rfl (ak rfl (ak rfl (ak rfl (ak rfl (ak rfl (ak rfl (ak rfl (ak rfl (rfl)))))))))),(ak rfl (ak rfl (ak rfl (ak rfl (ak rfl (ak rfl (ak rfl (ak rfl (ak rfl (rfl)))))))))),(ak rfl (ak rfl (ak rfl (ak rfl (ak rfl (ak rfl (ak rfl (ak rfl (ak rfl (rfl)))))))))),trivial⟩)) ?_
 refine uAd (uAb ?_);refine uAa rfl rfl rfl (uAm rfl gU rfl rfl rfl rfl rfl) ?_;refine uAx rfl rfl rfl rfl rfl rfl gU gU (up (uBz l _ (by omega) (le3 hl (by repeat (first | exact hp | refine uBX ?_ | refine uBC ?_ | refine uD3 ?_))))) rfl ?_;refine uAa rfl rfl rfl (uAc rfl gU) ?_;refine uAa rfl rfl rfl (uAu rfl gU rfl) ?_;refine uAa rfl rfl rfl (uAu rfl gU rfl) ?_;refine uAa rfl rfl rfl (uAg rfl gU rfl rfl) ?_;refine uAt rfl (uAz rfl rfl rfl rfl rfl rfl rfl) ?_;refine uAt rfl (uAz rfl rfl rfl rfl rfl rfl rfl) ?_;refine uAf ?_;refine uAl (s:=⟨[(3,_,_),(4,_,_),(6,_,_),(7,_,_),(8,_,_)],[(.l 3,_),(.l 4,_),(.l 6,_),(.l 7,_),(.l 8,_),(.o 0,_)],[(.b (.l 3) 1,_),(.b (.l 3) 2,_),(.b (.l 3) 3,_),(.b (.l 3) 4,_),(.b (.l 3) 5,_)],[]⟩) (uAj (⟨sx rfl,sx rfl,sx rfl,sx rfl,sx rfl,trivial⟩) (⟨sx rfl,sx rfl,sx rfl,sx rfl,sx rfl,sx rfl,trivial⟩) (⟨rfl,rfl,rfl,rfl,rfl,trivial⟩)) ?_;refine uAd ?_;refine uAd (uAb ?_);refine uAa rfl rfl rfl (uAm rfl gU rfl rfl rfl rfl rfl) ?_;refine uAx rfl rfl rfl rfl rfl rfl gU gU (up (uCo ⟨(chR l uBA p).1,(uAw l [] (chR l uBA p).2).1,[],[],line⟩)) rfl ?_;refine uAf ?_;refine uAn rfl (fun hc=>?_) (fun hc=>?_)
 ·have h : uBm (chR l uBA p).1=true:=hc
  have hg : uDD l line p=(⟨(chR l uBA p).1,(uAw l [] (chR l uBA p).2).1,(uAw l [] (uAw l [] (chR l uBA p).2).2).1,(uA6 l (uAZ l (l.length + 1)) (uAP l [58] (uAw l [] (uAw l [] (chR l uBA p).2).2).2)).1,line⟩,(uA6 l (uAZ l (l.length + 1)) (uAP l [58] (uAw l [] (uAw l [] (chR l uBA p).2).2).2)).2):=by
   simp only [uDD,h,if_true]
  rw [hg]
  refine uAb ?_;refine uAa rfl rfl rfl (uAm rfl gU rfl rfl rfl rfl rfl) ?_;refine uAx rfl rfl rfl rfl rfl rfl gU gU (up (uBz l _ (by omega) (le3 hl (by repeat (first | exact hp | refine uBX ?_ | refine uBC ?_ | refine uD3 ?_))))) rfl ?_;refine uAa rfl rfl rfl (uAc rfl gU) ?_;refine uAa rfl rfl rfl (uAu rfl gU rfl) ?_;refine uAa rfl rfl rfl (uAu rfl gU rfl) ?_;refine uAa rfl rfl rfl (uAg rfl gU rfl rfl) ?_;refine uAt rfl (uAz rfl rfl rfl rfl rfl rfl rfl) ?_;refine uAt rfl (uAz rfl rfl rfl rfl rfl rfl rfl) ?_;refine uAf ?_;refine uAl (s:=⟨[(3,_,_),(4,_,_),(6,_,_),(7,_,_),(8,_,_)],[(.l 3,_),(.l 4,_),(.l 6,_),(.l 7,_),(.l 8,_),(.o 0,_)],[(.b (.l 3) 1,_),(.b (.l 3) 2,_),(.b (.l 3) 3,_),(.b (.l 3) 4,_),(.b (.l 3) 5,_)],[]⟩) (uAj (⟨sx rfl,sx rfl,sx rfl,sx rfl,sx rfl,trivial⟩) (⟨sx rfl,sx rfl,sx rfl,sx rfl,sx rfl,sx rfl,trivial⟩) (⟨rfl,rfl,rfl,rfl,rfl,trivial⟩)) ?_;refine uAd (uAb ?_);refine uAa rfl rfl rfl (uAm rfl gU rfl rfl rfl rfl rfl) ?_;refine uAx rfl rfl rfl rfl rfl rfl gU gU (up (uAV l _ _ (by omega) (le3 hl (by repeat (first | exact hp | refine uBX ?_ | refine uBC ?_ | refine uD3 ?_))))) rfl ?_;refine uAx rfl rfl rfl rfl rfl rfl gU gU (up (uEy l (l.length + 1) hl (fun q h1 h2=>uDF l hl _ q h1 h2) (uC0 l _) _ (by repeat (first | exact hp | refine uBX ?_ | refine uBC ?_ | refine uD3 ?_)) (by omega))) rfl ?_
  refine uAa rfl rfl rfl (uAc rfl gU) ?_;refine uAa rfl rfl rfl (uAu rfl gU rfl) ?_;refine uAa rfl rfl rfl (uAu rfl gU rfl) ?_;refine uAa rfl rfl rfl (uAg rfl gU rfl rfl) ?_;refine uAt rfl (uAz rfl rfl rfl rfl rfl rfl rfl) ?_;refine uAt rfl (uAz rfl rfl rfl rfl rfl rfl rfl) ?_;refine uAf ?_;refine uAl (s:=⟨[(3,_,_),(4,_,_),(6,_,_),(7,_,_),(8,_,_)],[(.l 3,_),(.l 4,_),(.l 6,_),(.l 7,_),(.l 8,_),(.o 0,_)],[(.b (.l 3) 1,_),(.b (.l 3) 2,_),(.b (.l 3) 3,_),(.b (.l 3) 4,_),(.b (.l 3) 5,_)],[]⟩) (uAj (⟨sx rfl,sx rfl,sx rfl,sx rfl,sx rfl,trivial⟩) (⟨sx rfl,sx rfl,sx rfl,sx rfl,sx rfl,sx rfl,trivial⟩) (⟨rfl,rfl,rfl,rfl,rfl,trivial⟩)) ?_;refine uAd (uAb ?_);refine uAa rfl rfl rfl (uAg rfl gU rfl rfl) ?_;refine uAt rfl (uBv rfl rfl rfl rfl rfl rfl rfl) ?_;refine uAa rfl rfl rfl (uAm rfl gU rfl rfl rfl rfl rfl) ?_;refine uAU (xs:=[_]) rfl rfl rfl rfl rfl rfl rfl rfl rfl gU rfl ?_;refine uAt rfl (uA3 rfl rfl rfl rfl rfl rfl rfl (by first | omega | (simp only [List.length_append,List.length_singleton,Gl.rows_len]; omega)) (by first | omega | (simp only [List.length_append,List.length_singleton,Gl.rows_len]; omega))) ?_;refine uAa rfl rfl rfl (uAg rfl gU rfl rfl) ?_;refine uAt rfl (uBu rfl rfl rfl rfl rfl rfl rfl) ?_
  refine uAf ?_;refine uAl (s:=⟨[(3,_,_),(4,_,_),(6,_,_),(7,_,_)],[(.l 3,_),(.l 4,_),(.l 6,_),(.l 7,_),(.o 0,_)],[(.b (.l 3) 1,_),(.b (.l 3) 2,_),(.b (.l 3) 3,_),(.b (.l 3) 4,_),(.b (.l 3) 5,_)],[]⟩) (uAj (⟨sx rfl,sx rfl,sx rfl,sx rfl,trivial⟩) (⟨sx rfl,sx rfl,sx rfl,sx rfl,sx rfl,trivial⟩) (⟨rfl,rfl,rfl,rfl,rfl,trivial⟩)) ?_;refine uAl (s:=⟨[(3,_,_),(4,_,_),(6,_,_),(7,_,_)],[(.l 3,_),(.l 4,_),(.l 6,_),(.l 7,_),(.o 0,_)],[(.b (.l 3) 1,_),(.b (.l 3) 2,_),(.b (.l 3) 3,_),(.b (.l 3) 4,_),(.b (.l 3) 5,_)],[]⟩) (uAj (⟨sx rfl,sx rfl,sx rfl,sx rfl,trivial⟩) (⟨sx rfl,sx rfl,sx rfl,sx rfl,sx rfl,trivial⟩) (⟨rfl,rfl,rfl,rfl,rfl,trivial⟩)) ?_;refine uBb (.l 3) rfl (fun w1 w2 w3 w4 w5=>?_);refine uAl (s:=⟨[(3,_,_),(4,_,_),(6,_,_),(7,_,_)],[(.l 3,_),(.l 4,_),(.l 6,_),(.l 7,_),(.o 0,_)],[(.b (.l 3) 1,_),(.b (.l 3) 2,_),(.b (.l 3) 3,_),(.b (.l 3) 4,_),(.b (.l 3) 5,_)],[]⟩) (uAj (⟨sx rfl,sx rfl,sx rfl,sx rfl,trivial⟩) (⟨sx rfl,sx rfl,sx rfl,sx rfl,sx rfl,trivial⟩) (⟨rfl,rfl,rfl,rfl,rfl,trivial⟩)) ?_;refine uAd ?_;refine awp_drawn' (by kernel_rfl) ?_;refine uAD rfl rfl rfl rfl rfl rfl rfl gU rfl rfl rfl rfl rfl ?_;refine uAD rfl rfl rfl rfl rfl rfl rfl gU rfl rfl rfl rfl rfl ?_
  refine uAS rfl rfl rfl rfl rfl rfl rfl rfl rfl rfl rfl rfl ?_;refine uAS rfl rfl rfl rfl rfl rfl rfl rfl rfl rfl rfl rfl ?_;refine uA1 (by kernel_rfl) ?_;refine uAl (s:=⟨[(3,_,_),(6,_,_),(7,_,_)],[(.l 3,_),(.l 6,_),(.l 7,_),(.o 0,_)],[(.b (.l 3) 1,_),(.b (.l 3) 2,_),(.b (.l 3) 3,_),(.b (.l 3) 4,_),(.b (.l 3) 5,_)],[]⟩) (uAj (⟨sx rfl,sx rfl,sx rfl,trivial⟩) (⟨sx rfl,sx rfl,sx rfl,sx rfl,trivial⟩) (⟨(ak rfl (ak rfl (ak rfl (ak rfl (rfl))))),(ak rfl (ak rfl (ak rfl (ak rfl (rfl))))),(ak rfl (ak rfl (ak rfl (ak rfl (rfl))))),(ak rfl (ak rfl (ak rfl (ak rfl (rfl))))),(ak rfl (ak rfl (ak rfl (ak rfl (rfl))))),trivial⟩)) ?_;refine uBi (.l 6) (.l 3) rfl rfl rfl rfl rfl ?_;refine uAl (s:=⟨[(3,_,_),(6,_,_),(7,_,_)],[(.l 3,_),(.l 6,_),(.l 7,_),(.o 0,_)],[(.b (.l 6) 1,_),(.b (.l 6) 2,_),(.b (.l 6) 3,_),(.b (.l 6) 4,_),(.b (.l 6) 5,_)],[]⟩) (uAj (⟨sx rfl,sx rfl,sx rfl,trivial⟩) (⟨sx rfl,sx rfl,sx rfl,sx rfl,trivial⟩) (⟨rfl,rfl,rfl,rfl,rfl,trivial⟩)) ?_;refine uAo ?_
  repeat (first | refine tR ?_ | refine bR ?_)
  refine uBr rfl ?_ ⟨⟨_,rfl,rfl⟩,trivial⟩ (by simp) rfl rfl rfl rfl rfl rfl;exact congrArg (fun z=>X.tup [.agg (narC n.name (strR n.roles) (Fs.rows n.fresh) (strR n.tags) (Sp.rows n.steps) z), .agg (pbx l (uA6 l (uAZ l (l.length + 1)) (uAP l [58] (uAw l [] (uAw l [] (chR l uBA p).2).2).2)).2)]) (Gl.rows_app n.goals [⟨(chR l uBA p).1,(uAw l [] (chR l uBA p).2).1,(uAw l [] (uAw l [] (chR l uBA p).2).2).1,(uA6 l (uAZ l (l.length + 1)) (uAP l [58] (uAw l [] (uAw l [] (chR l uBA p).2).2).2)).1,line⟩]).symm
 ·have h : uBm (chR l uBA p).1=false:=hc
  have hg : uDD l line p=(⟨(chR l uBA p).1,(uAw l [] (chR l uBA p).2).1,[],(uA6 l (uAZ l (l.length + 1)) (uAP l [58] (uAw l [] (chR l uBA p).2).2)).1,line⟩,(uA6 l (uAZ l (l.length + 1)) (uAP l [58] (uAw l [] (chR l uBA p).2).2)).2):=by
   simp only [uDD,h,Bool.false_eq_true,if_false]
  rw [hg]
  refine uAp ?_;refine uAd (uAb ?_);refine uAa rfl rfl rfl (uAm rfl gU rfl rfl rfl rfl rfl) ?_;refine uAx rfl rfl rfl rfl rfl rfl gU gU (up (uAV l _ _ (by omega) (le3 hl (by repeat (first | exact hp | refine uBX ?_ | refine uBC ?_ | refine uD3 ?_))))) rfl ?_;refine uAx rfl rfl rfl rfl rfl rfl gU gU (up (uEy l (l.length + 1) hl (fun q h1 h2=>uDF l hl _ q h1 h2) (uC0 l _) _ (by repeat (first | exact hp | refine uBX ?_ | refine uBC ?_ | refine uD3 ?_)) (by omega))) rfl ?_;refine uAa rfl rfl rfl (uAc rfl gU) ?_;refine uAa rfl rfl rfl (uAu rfl gU rfl) ?_;refine uAa rfl rfl rfl (uAu rfl gU rfl) ?_;refine uAa rfl rfl rfl (uAg rfl gU rfl rfl) ?_;refine uAt rfl (uAz rfl rfl rfl rfl rfl rfl rfl) ?_;refine uAt rfl (uAz rfl rfl rfl rfl rfl rfl rfl) ?_;refine uAf ?_;refine uAl (s:=⟨[(3,_,_),(4,_,_),(6,_,_),(7,_,_),(8,_,_)],[(.l 3,_),(.l 4,_),(.l 6,_),(.l 7,_),(.l 8,_),(.o 0,_)],[(.b (.l 3) 1,_),(.b (.l 3) 2,_),(.b (.l 3) 3,_),(.b (.l 3) 4,_),(.b (.l 3) 5,_)],[]⟩) (uAj (⟨sx rfl,sx rfl,sx rfl,sx rfl,sx rfl,trivial⟩) (⟨sx rfl,sx rfl,sx rfl,sx rfl,sx rfl,sx rfl,trivial⟩) (⟨rfl,rfl,rfl,rfl,rfl,trivial⟩)) ?_;refine uAd (uAb ?_);refine uAa rfl rfl rfl (uAg rfl gU rfl rfl) ?_;refine uAt rfl (uBv rfl rfl rfl rfl rfl rfl rfl) ?_
  refine uAa rfl rfl rfl (uAm rfl gU rfl rfl rfl rfl rfl) ?_;refine uAU (xs:=[_]) rfl rfl rfl rfl rfl rfl rfl rfl rfl gU rfl ?_;refine uAt rfl (uA3 rfl rfl rfl rfl rfl rfl rfl (by first | omega | (simp only [List.length_append,List.length_singleton,Gl.rows_len]; omega)) (by first | omega | (simp only [List.length_append,List.length_singleton,Gl.rows_len]; omega))) ?_;refine uAa rfl rfl rfl (uAg rfl gU rfl rfl) ?_;refine uAt rfl (uBu rfl rfl rfl rfl rfl rfl rfl) ?_;refine uAf ?_;refine uAl (s:=⟨[(3,_,_),(4,_,_),(6,_,_),(7,_,_)],[(.l 3,_),(.l 4,_),(.l 6,_),(.l 7,_),(.o 0,_)],[(.b (.l 3) 1,_),(.b (.l 3) 2,_),(.b (.l 3) 3,_),(.b (.l 3) 4,_),(.b (.l 3) 5,_)],[]⟩) (uAj (⟨sx rfl,sx rfl,sx rfl,sx rfl,trivial⟩) (⟨sx rfl,sx rfl,sx rfl,sx rfl,sx rfl,trivial⟩) (⟨rfl,rfl,rfl,rfl,rfl,trivial⟩)) ?_;refine uAl (s:=⟨[(3,_,_),(4,_,_),(6,_,_),(7,_,_)],[(.l 3,_),(.l 4,_),(.l 6,_),(.l 7,_),(.o 0,_)],[(.b (.l 3) 1,_),(.b (.l 3) 2,_),(.b (.l 3) 3,_),(.b (.l 3) 4,_),(.b (.l 3) 5,_)],[]⟩) (uAj (⟨sx rfl,sx rfl,sx rfl,sx rfl,trivial⟩) (⟨sx rfl,sx rfl,sx rfl,sx rfl,sx rfl,trivial⟩) (⟨rfl,rfl,rfl,rfl,rfl,trivial⟩)) ?_;refine uBb (.l 3) rfl (fun w1 w2 w3 w4 w5=>?_);refine uAl (s:=⟨[(3,_,_),(4,_,_),(6,_,_),(7,_,_)],[(.l 3,_),(.l 4,_),(.l 6,_),(.l 7,_),(.o 0,_)],[(.b (.l 3) 1,_),(.b (.l 3) 2,_),(.b (.l 3) 3,_),(.b (.l 3) 4,_),(.b (.l 3) 5,_)],[]⟩) (uAj (⟨sx rfl,sx rfl,sx rfl,sx rfl,trivial⟩) (⟨sx rfl,sx rfl,sx rfl,sx rfl,sx rfl,trivial⟩) (⟨rfl,rfl,rfl,rfl,rfl,trivial⟩)) ?_
  refine uAd ?_;refine awp_drawn' (by kernel_rfl) ?_;refine uAD rfl rfl rfl rfl rfl rfl rfl gU rfl rfl rfl rfl rfl ?_;refine uAD rfl rfl rfl rfl rfl rfl rfl gU rfl rfl rfl rfl rfl ?_;refine uAS rfl rfl rfl rfl rfl rfl rfl rfl rfl rfl rfl rfl ?_;refine uAS rfl rfl rfl rfl rfl rfl rfl rfl rfl rfl rfl rfl ?_;refine uA1 (by kernel_rfl) ?_;refine uAl (s:=⟨[(3,_,_),(6,_,_),(7,_,_)],[(.l 3,_),(.l 6,_),(.l 7,_),(.o 0,_)],[(.b (.l 3) 1,_),(.b (.l 3) 2,_),(.b (.l 3) 3,_),(.b (.l 3) 4,_),(.b (.l 3) 5,_)],[]⟩) (uAj (⟨sx rfl,sx rfl,sx rfl,trivial⟩) (⟨sx rfl,sx rfl,sx rfl,sx rfl,trivial⟩) (⟨(ak rfl (ak rfl (ak rfl (ak rfl (rfl))))),(ak rfl (ak rfl (ak rfl (ak rfl (rfl))))),(ak rfl (ak rfl (ak rfl (ak rfl (rfl))))),(ak rfl (ak rfl (ak rfl (ak rfl (rfl))))),(ak rfl (ak rfl (ak rfl (ak rfl (rfl))))),trivial⟩)) ?_;refine uBi (.l 6) (.l 3) rfl rfl rfl rfl rfl ?_;refine uAl (s:=⟨[(3,_,_),(6,_,_),(7,_,_)],[(.l 3,_),(.l 6,_),(.l 7,_),(.o 0,_)],[(.b (.l 6) 1,_),(.b (.l 6) 2,_),(.b (.l 6) 3,_),(.b (.l 6) 4,_),(.b (.l 6) 5,_)],[]⟩) (uAj (⟨sx rfl,sx rfl,sx rfl,trivial⟩) (⟨sx rfl,sx rfl,sx rfl,sx rfl,trivial⟩) (⟨rfl,rfl,rfl,rfl,rfl,trivial⟩)) ?_;refine uAo ?_
  repeat (first | refine tR ?_ | refine bR ?_)
  refine uBr rfl ?_ ⟨⟨_,rfl,rfl⟩,trivial⟩ (by simp) rfl rfl rfl rfl rfl rfl;exact congrArg (fun z=>X.tup [.agg (narC n.name (strR n.roles) (Fs.rows n.fresh) (strR n.tags) (Sp.rows n.steps) z), .agg (pbx l (uA6 l (uAZ l (l.length + 1)) (uAP l [58] (uAw l [] (chR l uBA p).2).2)).2)]) (Gl.rows_app n.goals [⟨(chR l uBA p).1,(uAw l [] (chR l uBA p).2).1,[],(uA6 l (uAZ l (l.length + 1)) (uAP l [58] (uAw l [] (chR l uBA p).2).2)).1,line⟩]).symm
end Go.Proofs.YteidahabkfgfjaaGreat
namespace Go.Proofs.YteidahabkfgfjaaGreat
open Go Go.Abs
theorem uLn {l : List Tk} {p : PS} (h : (chR l uBo p).2.bad=false) : (chR l uBo p).2.at'=p.at' + 1:=by
 rw [(uK5 l p).1] at h ⊢
 have hq:=uFF h
 rw [uAw,if_pos hq]; rfl
abbrev frC (n : Nar) (o : List Fs) : List C:=narC n.name (strR n.roles) (Fs.rows o) (strR n.tags) (Sp.rows n.steps) (Gl.rows n.goals)
set_option maxHeartbeats 8000000 in
theorem uEj (l : List Tk) (p : PS) (n : Nar) (u1 u2 u3 u4 u5 : Value) (hl : l.length≤2000000) (hp : p.at'≤l.length) (hn : n.fresh.length≤3000000) :
  CtrO sysO 133 [.v (.agg (soC n u1 u2 u3 u4 u5)),xr l p] [soC n u1 u2 u3 u4 u5] osR (xnr l ({ n with fresh:=(frRd l p n.fresh).1 },(frRd l p n.fresh).2)) [soC n u1 u2 u3 u4 u5] .res:=by
 have hrl:=Tk.rows_len l
 have a3 : (uAP l [58] (uAw l [] p).2).at'≤l.length:=uBX (uBC hp)
 obtain ⟨role,hrole⟩ : ∃ r,(uAw l [] p).1=r:=⟨_,rfl⟩
 refine uB0 Tryz.func133 rfl rfl rfl rfl rfl rfl rfl ?_;refine uAd (uAb ?_);refine uAt rfl (uAI rfl rfl rfl rfl) ?_;refine uAt rfl (uAI rfl rfl rfl rfl) ?_;refine uAt rfl (uAM rfl rfl rfl) ?_;refine uAt rfl (uAM rfl rfl rfl) ?_;refine uAf ?_;refine uAl (s:=⟨[(2,_,_),(3,_,_),(4,_,_),(5,_,_)],[(.l 2,_),(.l 3,_),(.l 4,_),(.l 5,_),(.o 0,_)],[(.b (.o 0) 1,_),(.b (.o 0) 2,_),(.b (.o 0) 3,_),(.b (.o 0) 4,_),(.b (.o 0) 5,_)],[]⟩) (uAj (⟨sx rfl,sx rfl,sx rfl,sx rfl,trivial⟩) (⟨sx rfl,sx rfl,sx rfl,sx rfl,sx rfl,trivial⟩) (⟨rfl,rfl,rfl,rfl,rfl,trivial⟩)) ?_;refine uBi (.l 2) (.o 0) rfl rfl rfl rfl rfl ?_;refine uAl (s:=⟨[(2,_,_),(3,_,_),(4,_,_),(5,_,_)],[(.l 2,_),(.l 3,_),(.l 4,_),(.l 5,_),(.o 0,_)],[(.b (.l 2) 1,_),(.b (.l 2) 2,_),(.b (.l 2) 3,_),(.b (.l 2) 4,_),(.b (.l 2) 5,_)],[]⟩) (uAj (⟨sx rfl,sx rfl,sx rfl,sx rfl,trivial⟩) (⟨sx rfl,sx rfl,sx rfl,sx rfl,sx rfl,trivial⟩) (⟨rfl,rfl,rfl,rfl,rfl,trivial⟩)) ?_;refine uAd (uAb ?_);refine uAa rfl rfl rfl (uAm rfl gU rfl rfl rfl rfl rfl) ?_;refine uAx rfl rfl rfl rfl rfl rfl gU gU (up (uBz l p (by omega) (le3 hl hp))) rfl ?_;refine uAa rfl rfl rfl (uAc rfl gU) ?_;refine uAa rfl rfl rfl (uAu rfl gU rfl) ?_
 refine uAa rfl rfl rfl (uAu rfl gU rfl) ?_;refine uAa rfl rfl rfl (uAe rfl gU) ?_;refine uAt rfl (uAz rfl rfl rfl rfl rfl rfl rfl) ?_;refine uAf ?_;refine uAl (s:=⟨[(2,_,_),(3,_,_),(4,_,_),(5,_,_),(6,_,_)],[(.l 2,_),(.l 3,_),(.l 4,_),(.l 5,_),(.o 0,_)],[(.b (.l 2) 1,_),(.b (.l 2) 2,_),(.b (.l 2) 3,_),(.b (.l 2) 4,_),(.b (.l 2) 5,_)],[]⟩) (uAj (⟨sx rfl,sx rfl,sx rfl,sx rfl,sx rfl,trivial⟩) (⟨sx rfl,sx rfl,sx rfl,sx rfl,sx rfl,trivial⟩) (⟨rfl,rfl,rfl,rfl,rfl,trivial⟩)) ?_;refine uAd (uAb ?_);refine uAa rfl rfl rfl (uAm rfl gU rfl rfl rfl rfl rfl) ?_;refine uAx rfl rfl rfl rfl rfl rfl gU gU (up (uAV l (uAw l [] p).2 _ (by omega) (le3 hl (uBC hp)))) rfl ?_;refine uAt rfl (uAz rfl rfl rfl rfl rfl rfl rfl) ?_;refine uAf ?_;refine uAd ?_;refine uAd (uAb ?_);refine uAa rfl rfl rfl (uAe rfl gU) ?_;refine uAf ?_;refine uAv ?_
 rw [hrole]
 refine uAW (ι:=PS × Bool × List Fs) { t:=[(2,_,_),(3,_,_),(4,_,_),(5,_,_),(6,_,_)],bx:=[(.l 4,_),(.l 5,_),(.o 0,_)],ow:=[(.b (.l 2) 1,_),(.b (.l 2) 2,_),(.b (.l 2) 3,_),(.b (.l 2) 4,_),(.b (.l 2) 5,_)] } (fun q=>[(7,true,xb q.2.1)]) (fun q=>[((.l 3),pbx l q.1),((.l 2),frC n q.2.2)]) (fun q=>q.1.at'≤l.length∧q.2.2.length≤n.fresh.length + q.1.at' + (if q.2.1=true then 0 else 1) ∧ ∃ k,l.length + 1≤k + q.1.at'∧(if q.2.1=true then frRA l role k q.1 q.2.2 else if symQ l q.1 [44]=true then frRA l role k q.1.go q.2.2 else (q.2.2,q.1))=frRd l p n.fresh) (fun q=>(if q.2.1=true then 1 else 0) + (l.length - q.1.at')) ((uAP l [58] (uAw l [] p).2,true,n.fresh)) (⟨a3,by simp,l.length + 1,by dsimp only; omega,by dsimp only; rw [if_pos rfl,← hrole]; rfl⟩) (uAj (⟨sx rfl,sx rfl,sx rfl,sx rfl,sx rfl,sx rfl,trivial⟩) (⟨sx rfl,sx rfl,sx rfl,sx rfl,sx rfl,trivial⟩) (⟨rfl,rfl,rfl,rfl,rfl,trivial⟩)) ?_
 intro q hok
 dsimp only [List.cons_append,List.nil_append] at *
 obtain ⟨q,first,out⟩:=q
 dsimp only at hok ⊢
 obtain ⟨hq,ho,k,hk,hi⟩:=hok
 have hro:=Fs.rows_len out
 cases first
 ·rw [if_neg (by simp)] at hi
  simp only [Bool.false_eq_true,if_false] at ho
  refine uAd ?_;refine uAd (uAb ?_);refine uAa rfl rfl rfl (uAc rfl gU) ?_;refine uAa rfl rfl rfl (uAc rfl gU) ?_;refine uAa rfl rfl rfl (uAm rfl gU rfl rfl rfl rfl rfl) ?_;refine uAx rfl rfl rfl rfl rfl rfl gU (fun hh=>gA ((fun hh=>hh) hh) (gA rfl (rfl))) (up (uCf l q _ (by omega) (le3 hl hq))) rfl ?_;refine uAa rfl rfl rfl (uAN rfl rfl gU (fun _ hi=>gP rfl hi)) ?_;refine uAf ?_;refine uAl (s:=⟨[(2,_,_),(3,_,_),(4,_,_),(5,_,_),(6,_,_),(7,_,_),(20,_,_)],[(.l 2,_),(.l 3,_),(.l 4,_),(.l 5,_),(.o 0,_)],[(.b (.l 2) 1,_),(.b (.l 2) 2,_),(.b (.l 2) 3,_),(.b (.l 2) 4,_),(.b (.l 2) 5,_)],[]⟩) (uAj (⟨sx rfl,sx rfl,sx rfl,sx rfl,sx rfl,sx rfl,sx rfl,trivial⟩) (⟨sx rfl,sx rfl,sx rfl,sx rfl,sx rfl,trivial⟩) (⟨rfl,rfl,rfl,rfl,rfl,trivial⟩)) ?_;refine uAn rfl (fun hc1=>?_) (fun hc1=>?_)
  ·try simp only [nn,uAh,T.rows_len,Tk.rows_len] at hc1
   have hc1:=hc1.resolve_left (by simp)
   have hlt:=(uB3 hc1).1
   have hs : uAP l [44] q=q.go:=by rw [uAP,if_pos hc1]
   have hg : q.go.at'=q.at' + 1:=rfl
   have hq2 : q.go.at'≤l.length:=by omega
   rw [if_pos hc1] at hi
   obtain ⟨k,rfl⟩ : ∃ j,k=j + 1:=⟨k - 1,by omega⟩
   have hsy:=uAV l q [44] (by omega) (le3 hl hq)
   rw [hs] at hsy
   refine uAp ?_;refine uAd ?_;refine uAv ?_;refine uAd ?_;refine uAd (uAb ?_);refine uAa rfl rfl rfl (uAc rfl gU) ?_;refine uAa rfl rfl rfl (uAX rfl gU) ?_;refine uAf ?_;refine uAn rfl (fun hc2=>?_) (fun hc2=>?_)
   ·refine uAb ?_
    refine uAa rfl rfl rfl (uAm rfl gU rfl rfl rfl rfl rfl) ?_;refine uAx rfl rfl rfl rfl rfl rfl gU gU (up hsy) rfl ?_;refine uAt rfl (uAz rfl rfl rfl rfl rfl rfl rfl) ?_;refine uAf ?_;refine uAd (uAb ?_);refine uAa rfl rfl rfl (uAc rfl gU) ?_;refine uAa rfl rfl rfl (uBc rfl Tryz.underlying79 rfl gU) ?_;refine uAt rfl (uAM rfl rfl rfl) ?_;refine uAt rfl (uAz rfl rfl rfl rfl rfl rfl rfl) ?_;refine uAf ?_;refine uAl (s:=⟨[(2,_,_),(3,_,_),(4,_,_),(5,_,_),(6,_,_),(8,_,_)],[(.l 2,_),(.l 3,_),(.l 4,_),(.l 5,_),(.l 8,_),(.o 0,_)],[(.b (.l 2) 1,_),(.b (.l 2) 2,_),(.b (.l 2) 3,_),(.b (.l 2) 4,_),(.b (.l 2) 5,_)],[]⟩) (uAj (⟨sx rfl,sx rfl,sx rfl,sx rfl,sx rfl,sx rfl,trivial⟩) (⟨sx rfl,sx rfl,sx rfl,sx rfl,sx rfl,sx rfl,trivial⟩) (⟨rfl,rfl,rfl,rfl,rfl,trivial⟩)) ?_;refine uAd (uAb ?_)
    have b1:=(uA5 l [] q.go).1
    have b2:=(uIc l uBo (uAw l [] q.go).2).1
    have b3 : (chR l uBo (uAw l [] q.go).2).2.at'≤l.length:=uD3 (uBC hq2)
    refine uAa rfl rfl rfl (uAm rfl gU rfl rfl rfl rfl rfl) ?_;refine uAx rfl rfl rfl rfl rfl rfl gU gU (up (uBz l q.go (by omega) (le3 hl hq2))) rfl ?_;refine uAa rfl rfl rfl (uAc rfl gU) ?_;refine uAa rfl rfl rfl (uAu rfl gU rfl) ?_;refine uAa rfl rfl rfl (uAu rfl gU rfl) ?_;refine uAa rfl rfl rfl (uAg rfl gU rfl rfl) ?_;refine uAt rfl (uAz rfl rfl rfl rfl rfl rfl rfl) ?_;refine uAt rfl (uAz rfl rfl rfl rfl rfl rfl rfl) ?_;refine uAf ?_;refine uAl (s:=⟨[(2,_,_),(3,_,_),(4,_,_),(5,_,_),(6,_,_),(8,_,_)],[(.l 2,_),(.l 3,_),(.l 4,_),(.l 5,_),(.l 8,_),(.o 0,_)],[(.b (.l 2) 1,_),(.b (.l 2) 2,_),(.b (.l 2) 3,_),(.b (.l 2) 4,_),(.b (.l 2) 5,_)],[]⟩) (uAj (⟨sx rfl,sx rfl,sx rfl,sx rfl,sx rfl,sx rfl,trivial⟩) (⟨sx rfl,sx rfl,sx rfl,sx rfl,sx rfl,sx rfl,trivial⟩) (⟨rfl,rfl,rfl,rfl,rfl,trivial⟩)) ?_;refine uAd ?_;refine awp_drawn' (by kernel_rfl) ?_;refine uAD rfl rfl rfl rfl rfl rfl rfl gU rfl rfl rfl rfl rfl ?_;refine uAR rfl rfl rfl rfl rfl rfl rfl gU gU (up uF2) rfl ?_;refine uAR rfl rfl rfl rfl rfl rfl rfl gU gU (up (uCY l (uAw l [] q.go).2 uBo (by omega) (le3 hl (uBC hq2)))) rfl ?_;refine uAq rfl rfl rfl rfl (uAc rfl gU) ?_;refine uAq rfl rfl rfl rfl (uAu rfl gU rfl) ?_;refine uAq rfl rfl rfl rfl (uAu rfl gU rfl) ?_
    refine uAq rfl rfl rfl rfl (uAg rfl gU rfl rfl) ?_;refine uAS rfl rfl rfl rfl rfl rfl rfl rfl rfl rfl rfl rfl ?_;refine uAS rfl rfl rfl rfl rfl rfl rfl rfl rfl rfl rfl rfl ?_;refine uA1 (by kernel_rfl) ?_;refine uAl (s:=⟨[(2,_,_),(3,_,_),(4,_,_),(5,_,_),(6,_,_),(8,_,_)],[(.l 2,_),(.l 3,_),(.l 4,_),(.l 5,_),(.l 8,_),(.o 0,_)],[(.b (.l 2) 1,_),(.b (.l 2) 2,_),(.b (.l 2) 3,_),(.b (.l 2) 4,_),(.b (.l 2) 5,_)],[]⟩) (uAj (⟨sx rfl,sx rfl,sx rfl,sx rfl,sx rfl,sx rfl,trivial⟩) (⟨sx rfl,sx rfl,sx rfl,sx rfl,sx rfl,sx rfl,trivial⟩) (⟨(ak rfl (ak rfl (ak rfl (ak rfl (ak rfl (ak rfl (ak rfl (ak rfl (ak rfl (rfl)))))))))),(ak rfl (ak rfl (ak rfl (ak rfl (ak rfl (ak rfl (ak rfl (ak rfl (ak rfl (rfl)))))))))),(ak rfl (ak rfl (ak rfl (ak rfl (ak rfl (ak rfl (ak rfl (ak rfl (ak rfl (rfl)))))))))),(ak rfl (ak rfl (ak rfl (ak rfl (ak rfl (ak rfl (ak rfl (ak rfl (ak rfl (rfl)))))))))),(ak rfl (ak rfl (ak rfl (ak rfl (ak rfl (ak rfl (ak rfl (ak rfl (ak rfl (rfl)))))))))),trivial⟩)) ?_;refine uAd (uAb ?_);refine uAa rfl rfl rfl (uAg rfl gU rfl rfl) ?_;refine uAt rfl (uBv rfl rfl rfl rfl rfl rfl rfl) ?_;refine uAa rfl rfl rfl (uAm rfl gU rfl rfl rfl rfl rfl) ?_;refine uAU (xs:=[_]) rfl rfl rfl rfl rfl rfl rfl rfl rfl gU rfl ?_;refine uAt rfl (uA3 rfl rfl rfl rfl rfl rfl rfl (by first | omega | (simp only [List.length_append,List.length_singleton,Fs.rows_len]; omega)) (by first | omega | (simp only [List.length_append,List.length_singleton,Fs.rows_len]; omega))) ?_
    refine uAa rfl rfl rfl (uAg rfl gU rfl rfl) ?_;refine uAt rfl (uBu rfl rfl rfl rfl rfl rfl rfl) ?_;refine uAf ?_;refine uAl (s:=⟨[(2,_,_),(3,_,_),(4,_,_),(5,_,_),(6,_,_)],[(.l 2,_),(.l 3,_),(.l 4,_),(.l 5,_),(.o 0,_)],[(.b (.l 2) 1,_),(.b (.l 2) 2,_),(.b (.l 2) 3,_),(.b (.l 2) 4,_),(.b (.l 2) 5,_)],[]⟩) (uAj (⟨sx rfl,sx rfl,sx rfl,sx rfl,sx rfl,trivial⟩) (⟨sx rfl,sx rfl,sx rfl,sx rfl,sx rfl,trivial⟩) (⟨rfl,rfl,rfl,rfl,rfl,trivial⟩)) ?_;refine uAd (uAb ?_);refine uAa rfl rfl rfl (uAg rfl gU rfl rfl) ?_;refine uAa rfl rfl rfl (uAi rfl gU rfl rfl rfl rfl) ?_;refine uAf ?_;refine uAn rfl (fun hc3=>?_) (fun hc3=>?_)
    ·try simp only [nn,uAh,T.rows_len,Tk.rows_len] at hc3
     rw [frRA,if_pos hc3] at hi
     rw [← hi]
     refine uAl (s:=⟨[(2,_,_),(3,_,_),(4,_,_),(5,_,_)],[(.l 2,_),(.l 3,_),(.l 4,_),(.l 5,_),(.o 0,_)],[(.b (.l 2) 1,_),(.b (.l 2) 2,_),(.b (.l 2) 3,_),(.b (.l 2) 4,_),(.b (.l 2) 5,_)],[]⟩) (uAj (⟨sx rfl,sx rfl,sx rfl,sx rfl,trivial⟩) (⟨sx rfl,sx rfl,sx rfl,sx rfl,sx rfl,trivial⟩) (⟨rfl,rfl,rfl,rfl,rfl,trivial⟩)) ?_;refine uBb (.l 2) rfl (fun w1 w2 w3 w4 w5=>?_);refine uAl (s:=⟨[(2,_,_),(3,_,_),(4,_,_),(5,_,_)],[(.l 2,_),(.l 3,_),(.l 4,_),(.l 5,_),(.o 0,_)],[(.b (.l 2) 1,_),(.b (.l 2) 2,_),(.b (.l 2) 3,_),(.b (.l 2) 4,_),(.b (.l 2) 5,_)],[]⟩) (uAj (⟨sx rfl,sx rfl,sx rfl,sx rfl,trivial⟩) (⟨sx rfl,sx rfl,sx rfl,sx rfl,sx rfl,trivial⟩) (⟨rfl,rfl,rfl,rfl,rfl,trivial⟩)) ?_;refine uAd ?_;refine awp_drawn' (by kernel_rfl) ?_;refine uAD rfl rfl rfl rfl rfl rfl rfl gU rfl rfl rfl rfl rfl ?_;refine uAD rfl rfl rfl rfl rfl rfl rfl gU rfl rfl rfl rfl rfl ?_;refine uAS rfl rfl rfl rfl rfl rfl rfl rfl rfl rfl rfl rfl ?_;refine uAS rfl rfl rfl rfl rfl rfl rfl rfl rfl rfl rfl rfl ?_;refine uA1 (by kernel_rfl) ?_;refine uAl (s:=⟨[(2,_,_),(4,_,_),(5,_,_)],[(.l 2,_),(.l 4,_),(.l 5,_),(.o 0,_)],[(.b (.l 2) 1,_),(.b (.l 2) 2,_),(.b (.l 2) 3,_),(.b (.l 2) 4,_),(.b (.l 2) 5,_)],[]⟩) (uAj (⟨sx rfl,sx rfl,sx rfl,trivial⟩) (⟨sx rfl,sx rfl,sx rfl,sx rfl,trivial⟩) (⟨(ak rfl (ak rfl (ak rfl (ak rfl (rfl))))),(ak rfl (ak rfl (ak rfl (ak rfl (rfl))))),(ak rfl (ak rfl (ak rfl (ak rfl (rfl))))),(ak rfl (ak rfl (ak rfl (ak rfl (rfl))))),(ak rfl (ak rfl (ak rfl (ak rfl (rfl))))),trivial⟩)) ?_
     refine uBi (.l 4) (.l 2) rfl rfl rfl rfl rfl ?_;refine uAl (s:=⟨[(2,_,_),(4,_,_),(5,_,_)],[(.l 2,_),(.l 4,_),(.l 5,_),(.o 0,_)],[(.b (.l 4) 1,_),(.b (.l 4) 2,_),(.b (.l 4) 3,_),(.b (.l 4) 4,_),(.b (.l 4) 5,_)],[]⟩) (uAj (⟨sx rfl,sx rfl,sx rfl,trivial⟩) (⟨sx rfl,sx rfl,sx rfl,sx rfl,trivial⟩) (⟨rfl,rfl,rfl,rfl,rfl,trivial⟩)) ?_;refine uAo ?_
     repeat (first | refine tR ?_ | refine bR ?_)
     refine uBr rfl ?_ ⟨⟨_,rfl,rfl⟩,trivial⟩ (by simp) rfl rfl rfl rfl rfl rfl;exact congrArg (fun z=>X.tup [.agg (narC n.name (strR n.roles) z (strR n.tags) (Sp.rows n.steps) (Gl.rows n.goals)), .agg (pbx l (chR l uBo (uAw l [] q.go).2).2)]) (Fs.rows_app out [⟨role,(uAw l [] q.go).1,(chR l uBo (uAw l [] q.go).2).1⟩]).symm
    ·try simp only [nn,uAh,T.rows_len,Tk.rows_len] at hc3
     rw [frRA,if_neg (by rw [hc3]; simp)] at hi
     have b4:=uLn hc3
     refine uAp ?_;refine uAb ?_;refine uAa rfl rfl rfl (uAe rfl gU) ?_;refine uAf ?_;refine ⟨((chR l uBo (uAw l [] q.go).2).2,false,out++[⟨role,(uAw l [] q.go).1,(chR l uBo (uAw l [] q.go).2).1⟩]),?_,?_,uAj (⟨⟨_,rfl,?_⟩,⟨sx rfl,sx rfl,sx rfl,sx rfl,sx rfl,trivial⟩⟩) (⟨⟨_,rfl,?_⟩,⟨⟨_,rfl,?_⟩,⟨sx rfl,sx rfl,sx rfl,trivial⟩⟩⟩) (⟨rfl,rfl,rfl,rfl,rfl,trivial⟩)⟩
     ·refine ⟨b3,by dsimp only; simp only [List.length_append,List.length_singleton,Bool.false_eq_true,if_false]; omega,k,by dsimp only; omega,?_⟩
      rw [if_neg (by simp)]; exact hi
     ·dsimp only
      simp only [Bool.false_eq_true,if_false,if_true]
      omega
     all_goals first | rfl | exact congrArg (fun z=>some (narC n.name (strR n.roles) z (strR n.tags) (Sp.rows n.steps) (Gl.rows n.goals))) (Fs.rows_app out [⟨role,(uAw l [] q.go).1,(chR l uBo (uAw l [] q.go).2).1⟩]).symm | exact congrArg (fun z=>narC n.name (strR n.roles) z (strR n.tags) (Sp.rows n.steps) (Gl.rows n.goals)) (Fs.rows_app out [⟨role,(uAw l [] q.go).1,(chR l uBo (uAw l [] q.go).2).1⟩]).symm
   ·exfalso
    simp at hc2
  ·try simp only [nn,uAh,T.rows_len,Tk.rows_len] at hc1
   have hc1:=hc1.2
   rw [if_neg (by rw [hc1]; simp)] at hi
   rw [← hi]
   refine uAO ?_
   repeat (first | refine uAG ?_ | refine uAF ?_ | refine uAC rfl ?_)
   refine uAl (s:=⟨[(2,_,_),(3,_,_),(4,_,_),(5,_,_)],[(.l 2,_),(.l 3,_),(.l 4,_),(.l 5,_),(.o 0,_)],[(.b (.l 2) 1,_),(.b (.l 2) 2,_),(.b (.l 2) 3,_),(.b (.l 2) 4,_),(.b (.l 2) 5,_)],[]⟩) (uAj (⟨sx rfl,sx rfl,sx rfl,sx rfl,trivial⟩) (⟨sx rfl,sx rfl,sx rfl,sx rfl,sx rfl,trivial⟩) (⟨rfl,rfl,rfl,rfl,rfl,trivial⟩)) ?_;refine uBb (.l 2) rfl (fun w1 w2 w3 w4 w5=>?_);refine uAl (s:=⟨[(2,_,_),(3,_,_),(4,_,_),(5,_,_)],[(.l 2,_),(.l 3,_),(.l 4,_),(.l 5,_),(.o 0,_)],[(.b (.l 2) 1,_),(.b (.l 2) 2,_),(.b (.l 2) 3,_),(.b (.l 2) 4,_),(.b (.l 2) 5,_)],[]⟩) (uAj (⟨sx rfl,sx rfl,sx rfl,sx rfl,trivial⟩) (⟨sx rfl,sx rfl,sx rfl,sx rfl,sx rfl,trivial⟩) (⟨rfl,rfl,rfl,rfl,rfl,trivial⟩)) ?_;refine uAd ?_;refine awp_drawn' (by kernel_rfl) ?_;refine uAD rfl rfl rfl rfl rfl rfl rfl gU rfl rfl rfl rfl rfl ?_;refine uAD rfl rfl rfl rfl rfl rfl rfl gU rfl rfl rfl rfl rfl ?_;refine uAS rfl rfl rfl rfl rfl rfl rfl rfl rfl rfl rfl rfl ?_;refine uAS rfl rfl rfl rfl rfl rfl rfl rfl rfl rfl rfl rfl ?_;refine uA1 (by kernel_rfl) ?_;refine uAl (s:=⟨[(2,_,_),(4,_,_),(5,_,_)],[(.l 2,_),(.l 4,_),(.l 5,_),(.o 0,_)],[(.b (.l 2) 1,_),(.b (.l 2) 2,_),(.b (.l 2) 3,_),(.b (.l 2) 4,_),(.b (.l 2) 5,_)],[]⟩) (uAj (⟨sx rfl,sx rfl,sx rfl,trivial⟩) (⟨sx rfl,sx rfl,sx rfl,sx rfl,trivial⟩) (⟨(ak rfl (ak rfl (ak rfl (ak rfl (rfl))))),(ak rfl (ak rfl (ak rfl (ak rfl (rfl))))),(ak rfl (ak rfl (ak rfl (ak rfl (rfl))))),(ak rfl (ak rfl (ak rfl (ak rfl (rfl))))),(ak rfl (ak rfl (ak rfl (ak rfl (rfl))))),trivial⟩)) ?_
   refine uBi (.l 4) (.l 2) rfl rfl rfl rfl rfl ?_;refine uAl (s:=⟨[(2,_,_),(4,_,_),(5,_,_)],[(.l 2,_),(.l 4,_),(.l 5,_),(.o 0,_)],[(.b (.l 4) 1,_),(.b (.l 4) 2,_),(.b (.l 4) 3,_),(.b (.l 4) 4,_),(.b (.l 4) 5,_)],[]⟩) (uAj (⟨sx rfl,sx rfl,sx rfl,trivial⟩) (⟨sx rfl,sx rfl,sx rfl,sx rfl,trivial⟩) (⟨rfl,rfl,rfl,rfl,rfl,trivial⟩)) ?_;refine uAo ?_
   repeat (first | refine tR ?_ | refine bR ?_)
   refine uBr rfl ?_ ⟨⟨_,rfl,rfl⟩,trivial⟩ (by simp) rfl rfl rfl rfl rfl rfl
   rfl
 ·rw [if_pos rfl] at hi
  simp only [if_true] at ho
  have hq2:=hq
  obtain ⟨k,rfl⟩ : ∃ j,k=j + 1:=⟨k - 1,by omega⟩
  refine uAd ?_;refine uAd (uAb ?_);refine uAa rfl rfl rfl (uAc rfl gU) ?_;refine uAa rfl rfl rfl (uAc rfl gU) ?_;refine uAa rfl rfl rfl (uAm rfl gU rfl rfl rfl rfl rfl) ?_;refine uAx rfl rfl rfl rfl rfl rfl gU (fun hh=>gA ((fun hh=>hh) hh) (gA rfl (rfl))) (up (uCf l q _ (by omega) (le3 hl hq))) rfl ?_;refine uAa rfl rfl rfl (uAN rfl rfl gU (fun _ hi=>gP rfl hi)) ?_;refine uAf ?_;refine uAl (s:=⟨[(2,_,_),(3,_,_),(4,_,_),(5,_,_),(6,_,_),(7,_,_),(20,_,_)],[(.l 2,_),(.l 3,_),(.l 4,_),(.l 5,_),(.o 0,_)],[(.b (.l 2) 1,_),(.b (.l 2) 2,_),(.b (.l 2) 3,_),(.b (.l 2) 4,_),(.b (.l 2) 5,_)],[]⟩) (uAj (⟨sx rfl,sx rfl,sx rfl,sx rfl,sx rfl,sx rfl,sx rfl,trivial⟩) (⟨sx rfl,sx rfl,sx rfl,sx rfl,sx rfl,trivial⟩) (⟨rfl,rfl,rfl,rfl,rfl,trivial⟩)) ?_;refine uAn rfl (fun hc1=>?_) (fun hc1=>?_)
  ·refine uAp ?_
   refine uAd ?_;refine uAv ?_;refine uAd ?_;refine uAd (uAb ?_);refine uAa rfl rfl rfl (uAc rfl gU) ?_;refine uAa rfl rfl rfl (uAX rfl gU) ?_;refine uAf ?_;refine uAn rfl (fun hc2=>?_) (fun hc2=>?_)
   ·exfalso
    simp at hc2
   ·refine uAp ?_
    refine uAd (uAb ?_);refine uAa rfl rfl rfl (uAc rfl gU) ?_;refine uAa rfl rfl rfl (uBc rfl Tryz.underlying79 rfl gU) ?_;refine uAt rfl (uAM rfl rfl rfl) ?_;refine uAt rfl (uAz rfl rfl rfl rfl rfl rfl rfl) ?_;refine uAf ?_;refine uAl (s:=⟨[(2,_,_),(3,_,_),(4,_,_),(5,_,_),(6,_,_),(8,_,_)],[(.l 2,_),(.l 3,_),(.l 4,_),(.l 5,_),(.l 8,_),(.o 0,_)],[(.b (.l 2) 1,_),(.b (.l 2) 2,_),(.b (.l 2) 3,_),(.b (.l 2) 4,_),(.b (.l 2) 5,_)],[]⟩) (uAj (⟨sx rfl,sx rfl,sx rfl,sx rfl,sx rfl,sx rfl,trivial⟩) (⟨sx rfl,sx rfl,sx rfl,sx rfl,sx rfl,sx rfl,trivial⟩) (⟨rfl,rfl,rfl,rfl,rfl,trivial⟩)) ?_;refine uAd (uAb ?_)
    have b1:=(uA5 l [] q).1
    have b2:=(uIc l uBo (uAw l [] q).2).1
    have b3 : (chR l uBo (uAw l [] q).2).2.at'≤l.length:=uD3 (uBC hq2)
    refine uAa rfl rfl rfl (uAm rfl gU rfl rfl rfl rfl rfl) ?_;refine uAx rfl rfl rfl rfl rfl rfl gU gU (up (uBz l q (by omega) (le3 hl hq2))) rfl ?_;refine uAa rfl rfl rfl (uAc rfl gU) ?_;refine uAa rfl rfl rfl (uAu rfl gU rfl) ?_;refine uAa rfl rfl rfl (uAu rfl gU rfl) ?_;refine uAa rfl rfl rfl (uAg rfl gU rfl rfl) ?_;refine uAt rfl (uAz rfl rfl rfl rfl rfl rfl rfl) ?_;refine uAt rfl (uAz rfl rfl rfl rfl rfl rfl rfl) ?_;refine uAf ?_;refine uAl (s:=⟨[(2,_,_),(3,_,_),(4,_,_),(5,_,_),(6,_,_),(8,_,_)],[(.l 2,_),(.l 3,_),(.l 4,_),(.l 5,_),(.l 8,_),(.o 0,_)],[(.b (.l 2) 1,_),(.b (.l 2) 2,_),(.b (.l 2) 3,_),(.b (.l 2) 4,_),(.b (.l 2) 5,_)],[]⟩) (uAj (⟨sx rfl,sx rfl,sx rfl,sx rfl,sx rfl,sx rfl,trivial⟩) (⟨sx rfl,sx rfl,sx rfl,sx rfl,sx rfl,sx rfl,trivial⟩) (⟨rfl,rfl,rfl,rfl,rfl,trivial⟩)) ?_;refine uAd ?_;refine awp_drawn' (by kernel_rfl) ?_;refine uAD rfl rfl rfl rfl rfl rfl rfl gU rfl rfl rfl rfl rfl ?_;refine uAR rfl rfl rfl rfl rfl rfl rfl gU gU (up uF2) rfl ?_;refine uAR rfl rfl rfl rfl rfl rfl rfl gU gU (up (uCY l (uAw l [] q).2 uBo (by omega) (le3 hl (uBC hq2)))) rfl ?_;refine uAq rfl rfl rfl rfl (uAc rfl gU) ?_;refine uAq rfl rfl rfl rfl (uAu rfl gU rfl) ?_;refine uAq rfl rfl rfl rfl (uAu rfl gU rfl) ?_
    refine uAq rfl rfl rfl rfl (uAg rfl gU rfl rfl) ?_;refine uAS rfl rfl rfl rfl rfl rfl rfl rfl rfl rfl rfl rfl ?_;refine uAS rfl rfl rfl rfl rfl rfl rfl rfl rfl rfl rfl rfl ?_;refine uA1 (by kernel_rfl) ?_;refine uAl (s:=⟨[(2,_,_),(3,_,_),(4,_,_),(5,_,_),(6,_,_),(8,_,_)],[(.l 2,_),(.l 3,_),(.l 4,_),(.l 5,_),(.l 8,_),(.o 0,_)],[(.b (.l 2) 1,_),(.b (.l 2) 2,_),(.b (.l 2) 3,_),(.b (.l 2) 4,_),(.b (.l 2) 5,_)],[]⟩) (uAj (⟨sx rfl,sx rfl,sx rfl,sx rfl,sx rfl,sx rfl,trivial⟩) (⟨sx rfl,sx rfl,sx rfl,sx rfl,sx rfl,sx rfl,trivial⟩) (⟨(ak rfl (ak rfl (ak rfl (ak rfl (ak rfl (ak rfl (ak rfl (ak rfl (ak rfl (rfl)))))))))),(ak rfl (ak rfl (ak rfl (ak rfl (ak rfl (ak rfl (ak rfl (ak rfl (ak rfl (rfl)))))))))),(ak rfl (ak rfl (ak rfl (ak rfl (ak rfl (ak rfl (ak rfl (ak rfl (ak rfl (rfl)))))))))),(ak rfl (ak rfl (ak rfl (ak rfl (ak rfl (ak rfl (ak rfl (ak rfl (ak rfl (rfl)))))))))),(ak rfl (ak rfl (ak rfl (ak rfl (ak rfl (ak rfl (ak rfl (ak rfl (ak rfl (rfl)))))))))),trivial⟩)) ?_;refine uAd (uAb ?_);refine uAa rfl rfl rfl (uAg rfl gU rfl rfl) ?_;refine uAt rfl (uBv rfl rfl rfl rfl rfl rfl rfl) ?_;refine uAa rfl rfl rfl (uAm rfl gU rfl rfl rfl rfl rfl) ?_;refine uAU (xs:=[_]) rfl rfl rfl rfl rfl rfl rfl rfl rfl gU rfl ?_;refine uAt rfl (uA3 rfl rfl rfl rfl rfl rfl rfl (by first | omega | (simp only [List.length_append,List.length_singleton,Fs.rows_len]; omega)) (by first | omega | (simp only [List.length_append,List.length_singleton,Fs.rows_len]; omega))) ?_
    refine uAa rfl rfl rfl (uAg rfl gU rfl rfl) ?_;refine uAt rfl (uBu rfl rfl rfl rfl rfl rfl rfl) ?_;refine uAf ?_;refine uAl (s:=⟨[(2,_,_),(3,_,_),(4,_,_),(5,_,_),(6,_,_)],[(.l 2,_),(.l 3,_),(.l 4,_),(.l 5,_),(.o 0,_)],[(.b (.l 2) 1,_),(.b (.l 2) 2,_),(.b (.l 2) 3,_),(.b (.l 2) 4,_),(.b (.l 2) 5,_)],[]⟩) (uAj (⟨sx rfl,sx rfl,sx rfl,sx rfl,sx rfl,trivial⟩) (⟨sx rfl,sx rfl,sx rfl,sx rfl,sx rfl,trivial⟩) (⟨rfl,rfl,rfl,rfl,rfl,trivial⟩)) ?_;refine uAd (uAb ?_);refine uAa rfl rfl rfl (uAg rfl gU rfl rfl) ?_;refine uAa rfl rfl rfl (uAi rfl gU rfl rfl rfl rfl) ?_;refine uAf ?_;refine uAn rfl (fun hc3=>?_) (fun hc3=>?_)
    ·try simp only [nn,uAh,T.rows_len,Tk.rows_len] at hc3
     rw [frRA,if_pos hc3] at hi
     rw [← hi]
     refine uAl (s:=⟨[(2,_,_),(3,_,_),(4,_,_),(5,_,_)],[(.l 2,_),(.l 3,_),(.l 4,_),(.l 5,_),(.o 0,_)],[(.b (.l 2) 1,_),(.b (.l 2) 2,_),(.b (.l 2) 3,_),(.b (.l 2) 4,_),(.b (.l 2) 5,_)],[]⟩) (uAj (⟨sx rfl,sx rfl,sx rfl,sx rfl,trivial⟩) (⟨sx rfl,sx rfl,sx rfl,sx rfl,sx rfl,trivial⟩) (⟨rfl,rfl,rfl,rfl,rfl,trivial⟩)) ?_;refine uBb (.l 2) rfl (fun w1 w2 w3 w4 w5=>?_);refine uAl (s:=⟨[(2,_,_),(3,_,_),(4,_,_),(5,_,_)],[(.l 2,_),(.l 3,_),(.l 4,_),(.l 5,_),(.o 0,_)],[(.b (.l 2) 1,_),(.b (.l 2) 2,_),(.b (.l 2) 3,_),(.b (.l 2) 4,_),(.b (.l 2) 5,_)],[]⟩) (uAj (⟨sx rfl,sx rfl,sx rfl,sx rfl,trivial⟩) (⟨sx rfl,sx rfl,sx rfl,sx rfl,sx rfl,trivial⟩) (⟨rfl,rfl,rfl,rfl,rfl,trivial⟩)) ?_;refine uAd ?_;refine awp_drawn' (by kernel_rfl) ?_;refine uAD rfl rfl rfl rfl rfl rfl rfl gU rfl rfl rfl rfl rfl ?_;refine uAD rfl rfl rfl rfl rfl rfl rfl gU rfl rfl rfl rfl rfl ?_;refine uAS rfl rfl rfl rfl rfl rfl rfl rfl rfl rfl rfl rfl ?_;refine uAS rfl rfl rfl rfl rfl rfl rfl rfl rfl rfl rfl rfl ?_;refine uA1 (by kernel_rfl) ?_;refine uAl (s:=⟨[(2,_,_),(4,_,_),(5,_,_)],[(.l 2,_),(.l 4,_),(.l 5,_),(.o 0,_)],[(.b (.l 2) 1,_),(.b (.l 2) 2,_),(.b (.l 2) 3,_),(.b (.l 2) 4,_),(.b (.l 2) 5,_)],[]⟩) (uAj (⟨sx rfl,sx rfl,sx rfl,trivial⟩) (⟨sx rfl,sx rfl,sx rfl,sx rfl,trivial⟩) (⟨(ak rfl (ak rfl (ak rfl (ak rfl (rfl))))),(ak rfl (ak rfl (ak rfl (ak rfl (rfl))))),(ak rfl (ak rfl (ak rfl (ak rfl (rfl))))),(ak rfl (ak rfl (ak rfl (ak rfl (rfl))))),(ak rfl (ak rfl (ak rfl (ak rfl (rfl))))),trivial⟩)) ?_
     refine uBi (.l 4) (.l 2) rfl rfl rfl rfl rfl ?_;refine uAl (s:=⟨[(2,_,_),(4,_,_),(5,_,_)],[(.l 2,_),(.l 4,_),(.l 5,_),(.o 0,_)],[(.b (.l 4) 1,_),(.b (.l 4) 2,_),(.b (.l 4) 3,_),(.b (.l 4) 4,_),(.b (.l 4) 5,_)],[]⟩) (uAj (⟨sx rfl,sx rfl,sx rfl,trivial⟩) (⟨sx rfl,sx rfl,sx rfl,sx rfl,trivial⟩) (⟨rfl,rfl,rfl,rfl,rfl,trivial⟩)) ?_;refine uAo ?_
     repeat (first | refine tR ?_ | refine bR ?_)
     refine uBr rfl ?_ ⟨⟨_,rfl,rfl⟩,trivial⟩ (by simp) rfl rfl rfl rfl rfl rfl;exact congrArg (fun z=>X.tup [.agg (narC n.name (strR n.roles) z (strR n.tags) (Sp.rows n.steps) (Gl.rows n.goals)), .agg (pbx l (chR l uBo (uAw l [] q).2).2)]) (Fs.rows_app out [⟨role,(uAw l [] q).1,(chR l uBo (uAw l [] q).2).1⟩]).symm
    ·try simp only [nn,uAh,T.rows_len,Tk.rows_len] at hc3
     rw [frRA,if_neg (by rw [hc3]; simp)] at hi
     have b4:=uLn hc3
     refine uAp ?_;refine uAb ?_;refine uAa rfl rfl rfl (uAe rfl gU) ?_;refine uAf ?_;refine ⟨((chR l uBo (uAw l [] q).2).2,false,out++[⟨role,(uAw l [] q).1,(chR l uBo (uAw l [] q).2).1⟩]),?_,?_,uAj (⟨⟨_,rfl,?_⟩,⟨sx rfl,sx rfl,sx rfl,sx rfl,sx rfl,trivial⟩⟩) (⟨⟨_,rfl,?_⟩,⟨⟨_,rfl,?_⟩,⟨sx rfl,sx rfl,sx rfl,trivial⟩⟩⟩) (⟨rfl,rfl,rfl,rfl,rfl,trivial⟩)⟩
     ·refine ⟨b3,by dsimp only; simp only [List.length_append,List.length_singleton,Bool.false_eq_true,if_false]; omega,k,by dsimp only; omega,?_⟩
      rw [if_neg (by simp)]; exact hi
     ·dsimp only
      simp only [Bool.false_eq_true,if_false,if_true]
      omega
     all_goals first | rfl | exact congrArg (fun z=>some (narC n.name (strR n.roles) z (strR n.tags) (Sp.rows n.steps) (Gl.rows n.goals))) (Fs.rows_app out [⟨role,(uAw l [] q).1,(chR l uBo (uAw l [] q).2).1⟩]).symm | exact congrArg (fun z=>narC n.name (strR n.roles) z (strR n.tags) (Sp.rows n.steps) (Gl.rows n.goals)) (Fs.rows_app out [⟨role,(uAw l [] q).1,(chR l uBo (uAw l [] q).2).1⟩]).symm
  ·exfalso
   simp at hc1
end Go.Proofs.YteidahabkfgfjaaGreat
namespace Go.Proofs.YteidahabkfgfjaaGreat
open Go Go.Abs
theorem uJO (l : List Tk) (n : Nar) (line : Int) (q : PS) : uB2 l n line 1 q=({ n with roles:=n.roles++(uBt l q).1 },(uBt l q).2):=by rw [uB2,if_pos rfl]
theorem uI4 (l : List Tk) (n : Nar) (line : Int) (q : PS) : uB2 l n line 2 q=({ n with fresh:=(frRd l q n.fresh).1 },(frRd l q n.fresh).2):=by rw [uB2,if_neg (by decide),if_pos rfl]
theorem uIL (l : List Tk) (n : Nar) (line : Int) (q : PS) : uB2 l n line 3 q=({ n with tags:=n.tags++(uBt l q).1 },(uBt l q).2):=by rw [uB2,if_neg (by decide),if_neg (by decide),if_pos rfl]
theorem uIH (l : List Tk) (n : Nar) (line : Int) (q : PS) : uB2 l n line 4 q=({ n with steps:=n.steps++[(uEd l line q).1] },(uEd l line q).2):=by rw [uB2,if_neg (by decide),if_neg (by decide),if_neg (by decide),if_pos rfl]
theorem uIv (l : List Tk) (n : Nar) (line : Int) (q : PS) : uB2 l n line 5 q=({ n with goals:=n.goals++[(uDD l line q).1] },(uDD l line q).2):=by rw [uB2,if_neg (by decide),if_neg (by decide),if_neg (by decide),if_neg (by decide),if_pos rfl]
theorem uJb (l : List Tk) (n : Nar) (line : Int) (q : PS) {k : Int} (h1 : k≠1) (h2 : k≠2) (h3 : k≠3) (h4 : k≠4) (h5 : k≠5) : uB2 l n line k q=(n,q):=by rw [uB2,if_neg h1,if_neg h2,if_neg h3,if_neg h4,if_neg h5]
theorem uB7 {l : List Tk} {n n' : Nar} {p q : PS} {line : Int} {k : Int} (hw : chR l uDu p=(k,q)) (hl : uCk l p=line) {r : PS} (h : uB2 l n line k q=(n',r)) : uDO l n p=(n',uAP l [59] r):=by
 unfold uDO; rw [hl,hw]; dsimp only; rw [h]
theorem uN6 (l : List Tk) (out : List Fs) : Fwd l (fun p=>frRd l p out):=fun p=>by
 have h:=(uJi l out p).1
 have h2:=uHI l out p
 dsimp only at h h2 ⊢
 rw [h]; exact h2
theorem uMI (l : List Tk) (line : Int) : Fwd l (uEd l line):=fun p=>by rw [(uJU l line p).1]; exact uGL l line p
theorem uMZ (l : List Tk) (line : Int) : Fwd l (uDD l line):=fun p=>by rw [(uJH l line p).1]; exact uGu l line p
set_option maxHeartbeats 16000000 in
theorem uKu (l : List Tk) (p : PS) (n : Nar) (u1 u2 u3 u4 u5 : Value) (hl : l.length≤2000000) (hp : p.at'≤l.length) (hn : n.Le 2000000) :
  CtrO sysO 108 [.v (.agg (soC n u1 u2 u3 u4 u5)),xr l p] [soC n u1 u2 u3 u4 u5] osR (xnr l (uDO l n p)) [soC n u1 u2 u3 u4 u5] .res:=by
 have hrl:=Tk.rows_len l
 have hr1:=uAh n.roles
 have hr2:=uAh n.tags
 have hq1:=uD3 (ws:=uDu) hp
 obtain ⟨b1,b2,b3,b4,b5⟩:=hn
 obtain ⟨k,q,hk⟩ : ∃ k q,chR l uDu p=(k,q):=⟨_,_,rfl⟩
 have hns:=uCY l p uDu (by omega) (by omega)
 rw [hk] at hns hq1
 dsimp only at hns hq1
 have hnl : (uBt l q).1.length≤2000001:=by
  have h1:=uEC (uA5 l []) q
  have h2:=(uCB (uA5 l []) q).2 hq1
  unfold uBt; omega
 have hnr:=uAh (uBt l q).1
 have hq2 : (uBt l q).2.at'≤l.length:=(uCB (uA5 l []) q).2 hq1
 have hq3 : (frRd l q n.fresh).2.at'≤l.length:=(uN6 l n.fresh q).2 hq1
 have hq4 : ∀ line,(uEd l line q).2.at'≤l.length:=fun line=>(uMI l line q).2 hq1
 have hq5 : ∀ line,(uDD l line q).2.at'≤l.length:=fun line=>(uMZ l line q).2 hq1
 refine uB0 Tryz.func108 rfl rfl rfl rfl rfl rfl rfl ?_;refine uAd (uAb ?_);refine uAt rfl (uAI rfl rfl rfl rfl) ?_;refine uAt rfl (uAI rfl rfl rfl rfl) ?_;refine uAt rfl (uAM rfl rfl rfl) ?_;refine uAt rfl (uAM rfl rfl rfl) ?_;refine uAf ?_;refine uAl (s:=⟨[(2,_,_),(3,_,_),(4,_,_),(5,_,_)],[(.l 2,_),(.l 3,_),(.l 4,_),(.l 5,_),(.o 0,_)],[(.b (.o 0) 1,_),(.b (.o 0) 2,_),(.b (.o 0) 3,_),(.b (.o 0) 4,_),(.b (.o 0) 5,_)],[]⟩) (uAj (⟨sx rfl,sx rfl,sx rfl,sx rfl,trivial⟩) (⟨sx rfl,sx rfl,sx rfl,sx rfl,sx rfl,trivial⟩) (⟨rfl,rfl,rfl,rfl,rfl,trivial⟩)) ?_;refine uBi (.l 2) (.o 0) rfl rfl rfl rfl rfl ?_;refine uAl (s:=⟨[(2,_,_),(3,_,_),(4,_,_),(5,_,_)],[(.l 2,_),(.l 3,_),(.l 4,_),(.l 5,_),(.o 0,_)],[(.b (.l 2) 1,_),(.b (.l 2) 2,_),(.b (.l 2) 3,_),(.b (.l 2) 4,_),(.b (.l 2) 5,_)],[]⟩) (uAj (⟨sx rfl,sx rfl,sx rfl,sx rfl,trivial⟩) (⟨sx rfl,sx rfl,sx rfl,sx rfl,sx rfl,trivial⟩) (⟨rfl,rfl,rfl,rfl,rfl,trivial⟩)) ?_;refine uAd (uAb ?_);refine uAa rfl rfl rfl (uAe rfl gU) ?_;refine uAf ?_;refine uAd ?_;refine uAd (uAb ?_);refine uAa rfl rfl rfl (uAg rfl gU rfl rfl) ?_;refine uAa rfl rfl rfl (uAi rfl gU rfl rfl rfl rfl) ?_;refine uAa rfl rfl rfl (uAg rfl gU rfl rfl) ?_
 refine uAa rfl rfl rfl (uAi rfl gU rfl rfl rfl rfl) ?_;refine uAJ rfl rfl rfl rfl rfl gU rfl rfl ?_ (fun hh=>by simp at hh); intro hlen;refine uAa rfl rfl rfl (uAk rfl rfl gU gU rfl) ?_;refine uAf ?_;refine uAl (s:=⟨[(2,_,_),(3,_,_),(4,_,_),(5,_,_),(6,_,_),(14,_,_)],[(.l 2,_),(.l 3,_),(.l 4,_),(.l 5,_),(.o 0,_)],[(.b (.l 2) 1,_),(.b (.l 2) 2,_),(.b (.l 2) 3,_),(.b (.l 2) 4,_),(.b (.l 2) 5,_)],[]⟩) (uAj (⟨sx rfl,sx rfl,sx rfl,sx rfl,sx rfl,sx rfl,trivial⟩) (⟨sx rfl,sx rfl,sx rfl,sx rfl,sx rfl,trivial⟩) (⟨rfl,rfl,rfl,rfl,rfl,trivial⟩)) ?_;refine uAn rfl (fun hcx=>?_) (fun hcx=>?_)
 ·try simp only [nn,uAh,T.rows_len,Tk.rows_len] at hcx
  have hline : uCk l p=(l.getD p.at' tk0).line:=by rw [uCk,if_pos (by omega)]
  refine uAb ?_;refine uAa rfl rfl rfl (uAg rfl gU rfl rfl) ?_;refine uAa rfl rfl rfl (uAi rfl gU rfl rfl rfl rfl) ?_;refine uAa rfl rfl rfl (uAg rfl gU rfl rfl) ?_;refine uAa rfl rfl rfl (uAi rfl gU rfl rfl rfl rfl) ?_;refine uAa rfl rfl rfl (uAr (j:=p.at') rfl rfl gU gU rfl rfl (by first | omega | (simp at hh ⊢; omega)) (fun hh=>Tk.rows_at (by first | omega | (simp at hh ⊢; omega)))) ?_;refine uAa rfl rfl rfl (uA0 rfl gU rfl rfl) ?_;refine uAa rfl rfl rfl (uAQ rfl gU rfl rfl rfl) ?_;refine uAa rfl rfl rfl (uAe rfl gU) ?_;refine uAf ?_;refine uAl (s:=⟨[(2,_,_),(3,_,_),(4,_,_),(5,_,_),(6,_,_)],[(.l 2,_),(.l 3,_),(.l 4,_),(.l 5,_),(.o 0,_)],[(.b (.l 2) 1,_),(.b (.l 2) 2,_),(.b (.l 2) 3,_),(.b (.l 2) 4,_),(.b (.l 2) 5,_)],[]⟩) (uAj (⟨sx rfl,sx rfl,sx rfl,sx rfl,sx rfl,trivial⟩) (⟨sx rfl,sx rfl,sx rfl,sx rfl,sx rfl,trivial⟩) (⟨rfl,rfl,rfl,rfl,rfl,trivial⟩)) ?_;refine uAd (uAb ?_);refine uAa rfl rfl rfl (uAm rfl gU rfl rfl rfl rfl rfl) ?_;refine uAU (xs:=[_,_,_,_,_,_]) rfl rfl rfl rfl rfl rfl rfl rfl rfl gU rfl ?_;refine uAx rfl rfl rfl rfl rfl rfl gU gU (up hns) rfl ?_;refine uAa rfl rfl rfl (uAc rfl gU) ?_;refine uAa rfl rfl rfl (uAu rfl gU rfl) ?_;refine uAa rfl rfl rfl (uAu rfl gU rfl) ?_
  refine uAa rfl rfl rfl (uAe rfl gU) ?_;refine uAt rfl (uAz rfl rfl rfl rfl rfl rfl rfl) ?_;refine uAf ?_;refine uAl (s:=⟨[(2,_,_),(3,_,_),(4,_,_),(5,_,_),(6,_,_),(7,_,_)],[(.l 2,_),(.l 3,_),(.l 4,_),(.l 5,_),(.o 0,_)],[(.b (.l 2) 1,_),(.b (.l 2) 2,_),(.b (.l 2) 3,_),(.b (.l 2) 4,_),(.b (.l 2) 5,_)],[]⟩) (uAj (⟨sx rfl,sx rfl,sx rfl,sx rfl,sx rfl,sx rfl,trivial⟩) (⟨sx rfl,sx rfl,sx rfl,sx rfl,sx rfl,trivial⟩) (⟨rfl,rfl,rfl,rfl,rfl,trivial⟩)) ?_;refine uAd (uAb ?_);refine uAt rfl (uBl (.inr rfl) rfl rfl) ?_;refine uAf ?_;refine uAd ?_;refine uAd (uAb ?_);refine uAa rfl rfl rfl (uAc rfl gU) ?_;refine uAf ?_;refine uAv ?_;refine uAd (uAb ?_);refine uAa rfl rfl rfl (uAk rfl rfl gU gU rfl) ?_;refine uAa rfl rfl rfl (uAe rfl gU) ?_;refine uAf ?_;refine uAn rfl (fun hcu1=>?_) (fun hcu1=>?_)
  ·try simp only [nn,uAh,T.rows_len,Tk.rows_len] at hcu1
   subst hcu1
   rw [uB7 hk hline (uJO l n (l.getD p.at' tk0).line q)]
   refine uAd (uAb ?_);refine uAa rfl rfl rfl (uAm rfl gU rfl rfl rfl rfl rfl) ?_;refine uAx rfl rfl rfl rfl rfl rfl gU gU (up (uCR l q (by omega) hq1)) rfl ?_;refine uAa rfl rfl rfl (uAc rfl gU) ?_;refine uAa rfl rfl rfl (uAu rfl gU rfl) ?_;refine uAa rfl rfl rfl (uAu rfl gU rfl) ?_;refine uAa rfl rfl rfl (uAe rfl gU) ?_;refine uAt rfl (uAz rfl rfl rfl rfl rfl rfl rfl) ?_;refine uAf ?_;refine uAl (s:=⟨[(2,_,_),(3,_,_),(4,_,_),(5,_,_),(8,_,_)],[(.l 2,_),(.l 3,_),(.l 4,_),(.l 5,_),(.o 0,_)],[(.b (.l 2) 1,_),(.b (.l 2) 2,_),(.b (.l 2) 3,_),(.b (.l 2) 4,_),(.b (.l 2) 5,_)],[]⟩) (uAj (⟨sx rfl,sx rfl,sx rfl,sx rfl,sx rfl,trivial⟩) (⟨sx rfl,sx rfl,sx rfl,sx rfl,sx rfl,trivial⟩) (⟨rfl,rfl,rfl,rfl,rfl,trivial⟩)) ?_;refine uAb ?_;refine uAa rfl rfl rfl (uAg rfl gU rfl rfl) ?_;refine uAt rfl (uBv rfl rfl rfl rfl rfl rfl rfl) ?_;refine uAa rfl rfl rfl (uAc rfl gU) ?_;refine uAt rfl (uA3 rfl rfl rfl rfl rfl rfl rfl (by first | omega | (simp only [List.length_append,List.length_singleton,uAh]; omega)) (by first | omega | (simp only [List.length_append,List.length_singleton,uAh]; omega))) ?_;refine uAa rfl rfl rfl (uAg rfl gU rfl rfl) ?_;refine uAt rfl (uBu rfl rfl rfl rfl rfl rfl rfl) ?_
   refine uAf ?_;refine uAl (s:=⟨[(2,_,_),(3,_,_),(4,_,_),(5,_,_)],[(.l 2,_),(.l 3,_),(.l 4,_),(.l 5,_),(.o 0,_)],[(.b (.l 2) 1,_),(.b (.l 2) 2,_),(.b (.l 2) 3,_),(.b (.l 2) 4,_),(.b (.l 2) 5,_)],[]⟩) (uAj (⟨sx rfl,sx rfl,sx rfl,sx rfl,trivial⟩) (⟨sx rfl,sx rfl,sx rfl,sx rfl,sx rfl,trivial⟩) (⟨rfl,rfl,rfl,rfl,rfl,trivial⟩)) ?_;refine uAl (s:=⟨[(2,_,_),(3,_,_),(4,_,_),(5,_,_)],[(.l 2,_),(.l 3,_),(.l 4,_),(.l 5,_),(.o 0,_)],[(.b (.l 2) 1,_),(.b (.l 2) 2,_),(.b (.l 2) 3,_),(.b (.l 2) 4,_),(.b (.l 2) 5,_)],[]⟩) (uAj (⟨sx rfl,sx rfl,sx rfl,sx rfl,trivial⟩) (⟨sx rfl,sx rfl,sx rfl,sx rfl,sx rfl,trivial⟩) (⟨rfl,rfl,rfl,rfl,rfl,trivial⟩)) ?_;refine uBb (.l 2) rfl (fun w1 w2 w3 w4 w5=>?_);refine uAl (s:=⟨[(2,_,_),(3,_,_),(4,_,_),(5,_,_)],[(.l 2,_),(.l 3,_),(.l 4,_),(.l 5,_),(.o 0,_)],[(.b (.l 2) 1,_),(.b (.l 2) 2,_),(.b (.l 2) 3,_),(.b (.l 2) 4,_),(.b (.l 2) 5,_)],[]⟩) (uAj (⟨sx rfl,sx rfl,sx rfl,sx rfl,trivial⟩) (⟨sx rfl,sx rfl,sx rfl,sx rfl,sx rfl,trivial⟩) (⟨rfl,rfl,rfl,rfl,rfl,trivial⟩)) ?_;refine uAd ?_;refine awp_drawn' (by kernel_rfl) ?_;refine uAD rfl rfl rfl rfl rfl rfl rfl gU rfl rfl rfl rfl rfl ?_;refine uAD rfl rfl rfl rfl rfl rfl rfl gU rfl rfl rfl rfl rfl ?_
   refine uAR rfl rfl rfl rfl rfl rfl rfl gU gU (up (uAV l _ _ (by omega) (le3 hl (by first | assumption | (dsimp only; first | assumption | exact hq4 _ | exact hq5 _))))) rfl ?_;refine uAS rfl rfl rfl rfl rfl rfl rfl rfl rfl rfl rfl rfl ?_;refine uAS rfl rfl rfl rfl rfl rfl rfl rfl rfl rfl rfl rfl ?_;refine uA1 (by kernel_rfl) ?_;refine uAl (s:=⟨[(2,_,_),(4,_,_),(5,_,_)],[(.l 2,_),(.l 4,_),(.l 5,_),(.o 0,_)],[(.b (.l 2) 1,_),(.b (.l 2) 2,_),(.b (.l 2) 3,_),(.b (.l 2) 4,_),(.b (.l 2) 5,_)],[]⟩) (uAj (⟨sx rfl,sx rfl,sx rfl,trivial⟩) (⟨sx rfl,sx rfl,sx rfl,sx rfl,trivial⟩) (⟨(ak rfl (ak rfl (ak rfl (ak rfl (ak rfl (rfl)))))),(ak rfl (ak rfl (ak rfl (ak rfl (ak rfl (rfl)))))),(ak rfl (ak rfl (ak rfl (ak rfl (ak rfl (rfl)))))),(ak rfl (ak rfl (ak rfl (ak rfl (ak rfl (rfl)))))),(ak rfl (ak rfl (ak rfl (ak rfl (ak rfl (rfl)))))),trivial⟩)) ?_;refine uBi (.l 4) (.l 2) rfl rfl rfl rfl rfl ?_;refine uAl (s:=⟨[(2,_,_),(4,_,_),(5,_,_)],[(.l 2,_),(.l 4,_),(.l 5,_),(.o 0,_)],[(.b (.l 4) 1,_),(.b (.l 4) 2,_),(.b (.l 4) 3,_),(.b (.l 4) 4,_),(.b (.l 4) 5,_)],[]⟩) (uAj (⟨sx rfl,sx rfl,sx rfl,trivial⟩) (⟨sx rfl,sx rfl,sx rfl,sx rfl,trivial⟩) (⟨rfl,rfl,rfl,rfl,rfl,trivial⟩)) ?_;refine uAo ?_
   repeat (first | refine tR ?_ | refine bR ?_)
   refine uBr rfl ?_ ⟨⟨_,rfl,rfl⟩,trivial⟩ (by simp) rfl rfl rfl rfl rfl rfl;exact congrArg (fun z=>X.tup [.agg (narC n.name z (Fs.rows n.fresh) (strR n.tags) (Sp.rows n.steps) (Gl.rows n.goals)), .agg (pbx l (uAP l [59] (uBt l q).2))]) (uEb _ _).symm
  ·try simp only [nn,uAh,T.rows_len,Tk.rows_len] at hcu1
   refine uAd (uAb ?_);refine uAa rfl rfl rfl (uAk rfl rfl gU gU rfl) ?_;refine uAa rfl rfl rfl (uAe rfl gU) ?_;refine uAf ?_;refine uAl (s:=⟨[(2,_,_),(3,_,_),(4,_,_),(5,_,_),(6,_,_),(28,_,_),(41,_,_)],[(.l 2,_),(.l 3,_),(.l 4,_),(.l 5,_),(.o 0,_)],[(.b (.l 2) 1,_),(.b (.l 2) 2,_),(.b (.l 2) 3,_),(.b (.l 2) 4,_),(.b (.l 2) 5,_)],[]⟩) (uAj (⟨sx rfl,sx rfl,sx rfl,sx rfl,sx rfl,sx rfl,sx rfl,trivial⟩) (⟨sx rfl,sx rfl,sx rfl,sx rfl,sx rfl,trivial⟩) (⟨rfl,rfl,rfl,rfl,rfl,trivial⟩)) ?_;refine uAn rfl (fun hcu2=>?_) (fun hcu2=>?_)
   ·try simp only [nn,uAh,T.rows_len,Tk.rows_len] at hcu2
    subst hcu2
    rw [uB7 hk hline (uI4 l n (l.getD p.at' tk0).line q)]
    refine uAl (s:=⟨[(2,_,_),(3,_,_),(4,_,_),(5,_,_)],[(.l 2,_),(.l 3,_),(.l 4,_),(.l 5,_),(.o 0,_)],[(.b (.l 2) 1,_),(.b (.l 2) 2,_),(.b (.l 2) 3,_),(.b (.l 2) 4,_),(.b (.l 2) 5,_)],[]⟩) (uAj (⟨sx rfl,sx rfl,sx rfl,sx rfl,trivial⟩) (⟨sx rfl,sx rfl,sx rfl,sx rfl,sx rfl,trivial⟩) (⟨rfl,rfl,rfl,rfl,rfl,trivial⟩)) ?_;refine uBb (.l 2) rfl (fun w1 w2 w3 w4 w5=>?_);refine uAl (s:=⟨[(2,_,_),(3,_,_),(4,_,_),(5,_,_)],[(.l 2,_),(.l 3,_),(.l 4,_),(.l 5,_),(.o 0,_)],[(.b (.l 2) 1,_),(.b (.l 2) 2,_),(.b (.l 2) 3,_),(.b (.l 2) 4,_),(.b (.l 2) 5,_)],[]⟩) (uAj (⟨sx rfl,sx rfl,sx rfl,sx rfl,trivial⟩) (⟨sx rfl,sx rfl,sx rfl,sx rfl,sx rfl,trivial⟩) (⟨rfl,rfl,rfl,rfl,rfl,trivial⟩)) ?_;refine uAb ?_;refine uAa rfl rfl rfl (uAm rfl gU rfl rfl rfl rfl rfl) ?_;refine uAa rfl rfl rfl (uAm rfl gU rfl rfl rfl rfl rfl) ?_;refine uDt (.l 2) (.l 3) osR rfl rfl rfl rfl rfl rfl ⟨rfl,rfl,rfl,rfl,rfl,rfl⟩ ⟨rfl,rfl,rfl,rfl,rfl,rfl⟩ rfl rfl rfl rfl rfl rfl rfl rfl rfl ⟨rfl,rfl⟩ rfl (uEj l q n w1 w2 w3 w4 w5 hl hq1 (by omega)) rfl rfl rfl rfl rfl rfl rfl rfl ?_;refine uAf ?_;refine uAl (s:=⟨[(2,_,_),(3,_,_),(4,_,_),(5,_,_)],[(.l 2,_),(.l 3,_),(.l 4,_),(.l 5,_),(.o 0,_)],[(.b (.l 2) 1,_),(.b (.l 2) 2,_),(.b (.l 2) 3,_),(.b (.l 2) 4,_),(.b (.l 2) 5,_)],[]⟩) (uAj (⟨sx rfl,sx rfl,sx rfl,sx rfl,trivial⟩) (⟨sx rfl,sx rfl,sx rfl,sx rfl,sx rfl,trivial⟩) (⟨rfl,rfl,rfl,rfl,rfl,trivial⟩)) ?_
    refine uAl (s:=⟨[(2,_,_),(3,_,_),(4,_,_),(5,_,_)],[(.l 2,_),(.l 3,_),(.l 4,_),(.l 5,_),(.o 0,_)],[(.b (.l 2) 1,_),(.b (.l 2) 2,_),(.b (.l 2) 3,_),(.b (.l 2) 4,_),(.b (.l 2) 5,_)],[]⟩) (uAj (⟨sx rfl,sx rfl,sx rfl,sx rfl,trivial⟩) (⟨sx rfl,sx rfl,sx rfl,sx rfl,sx rfl,trivial⟩) (⟨rfl,rfl,rfl,rfl,rfl,trivial⟩)) ?_;refine uBb (.l 2) rfl (fun w1 w2 w3 w4 w5=>?_);refine uAl (s:=⟨[(2,_,_),(3,_,_),(4,_,_),(5,_,_)],[(.l 2,_),(.l 3,_),(.l 4,_),(.l 5,_),(.o 0,_)],[(.b (.l 2) 1,_),(.b (.l 2) 2,_),(.b (.l 2) 3,_),(.b (.l 2) 4,_),(.b (.l 2) 5,_)],[]⟩) (uAj (⟨sx rfl,sx rfl,sx rfl,sx rfl,trivial⟩) (⟨sx rfl,sx rfl,sx rfl,sx rfl,sx rfl,trivial⟩) (⟨rfl,rfl,rfl,rfl,rfl,trivial⟩)) ?_;refine uAd ?_;refine awp_drawn' (by kernel_rfl) ?_;refine uAD rfl rfl rfl rfl rfl rfl rfl gU rfl rfl rfl rfl rfl ?_;refine uAD rfl rfl rfl rfl rfl rfl rfl gU rfl rfl rfl rfl rfl ?_;refine uAR rfl rfl rfl rfl rfl rfl rfl gU gU (up (uAV l _ _ (by omega) (le3 hl (by first | assumption | (dsimp only; first | assumption | exact hq4 _ | exact hq5 _))))) rfl ?_;refine uAS rfl rfl rfl rfl rfl rfl rfl rfl rfl rfl rfl rfl ?_;refine uAS rfl rfl rfl rfl rfl rfl rfl rfl rfl rfl rfl rfl ?_;refine uA1 (by kernel_rfl) ?_;refine uAl (s:=⟨[(2,_,_),(4,_,_),(5,_,_)],[(.l 2,_),(.l 4,_),(.l 5,_),(.o 0,_)],[(.b (.l 2) 1,_),(.b (.l 2) 2,_),(.b (.l 2) 3,_),(.b (.l 2) 4,_),(.b (.l 2) 5,_)],[]⟩) (uAj (⟨sx rfl,sx rfl,sx rfl,trivial⟩) (⟨sx rfl,sx rfl,sx rfl,sx rfl,trivial⟩) (⟨(ak rfl (ak rfl (ak rfl (ak rfl (ak rfl (rfl)))))),(ak rfl (ak rfl (ak rfl (ak rfl (ak rfl (rfl)))))),(ak rfl (ak rfl (ak rfl (ak rfl (ak rfl (rfl)))))),(ak rfl (ak rfl (ak rfl (ak rfl (ak rfl (rfl)))))),(ak rfl (ak rfl (ak rfl (ak rfl (ak rfl (rfl)))))),trivial⟩)) ?_
    refine uBi (.l 4) (.l 2) rfl rfl rfl rfl rfl ?_;refine uAl (s:=⟨[(2,_,_),(4,_,_),(5,_,_)],[(.l 2,_),(.l 4,_),(.l 5,_),(.o 0,_)],[(.b (.l 4) 1,_),(.b (.l 4) 2,_),(.b (.l 4) 3,_),(.b (.l 4) 4,_),(.b (.l 4) 5,_)],[]⟩) (uAj (⟨sx rfl,sx rfl,sx rfl,trivial⟩) (⟨sx rfl,sx rfl,sx rfl,sx rfl,trivial⟩) (⟨rfl,rfl,rfl,rfl,rfl,trivial⟩)) ?_;refine uAo ?_
    repeat (first | refine tR ?_ | refine bR ?_)
    refine uBr rfl ?_ ⟨⟨_,rfl,rfl⟩,trivial⟩ (by simp) rfl rfl rfl rfl rfl rfl
    rfl
   ·try simp only [nn,uAh,T.rows_len,Tk.rows_len] at hcu2
    refine uAd (uAb ?_);refine uAa rfl rfl rfl (uAk rfl rfl gU gU rfl) ?_;refine uAa rfl rfl rfl (uAe rfl gU) ?_;refine uAf ?_;refine uAn rfl (fun hcu3=>?_) (fun hcu3=>?_)
    ·try simp only [nn,uAh,T.rows_len,Tk.rows_len] at hcu3
     subst hcu3
     rw [uB7 hk hline (uIL l n (l.getD p.at' tk0).line q)]
     refine uAd (uAb ?_);refine uAa rfl rfl rfl (uAm rfl gU rfl rfl rfl rfl rfl) ?_;refine uAx rfl rfl rfl rfl rfl rfl gU gU (up (uCR l q (by omega) hq1)) rfl ?_;refine uAa rfl rfl rfl (uAc rfl gU) ?_;refine uAa rfl rfl rfl (uAu rfl gU rfl) ?_;refine uAa rfl rfl rfl (uAu rfl gU rfl) ?_;refine uAa rfl rfl rfl (uAe rfl gU) ?_;refine uAt rfl (uAz rfl rfl rfl rfl rfl rfl rfl) ?_;refine uAf ?_;refine uAl (s:=⟨[(2,_,_),(3,_,_),(4,_,_),(5,_,_),(8,_,_)],[(.l 2,_),(.l 3,_),(.l 4,_),(.l 5,_),(.o 0,_)],[(.b (.l 2) 1,_),(.b (.l 2) 2,_),(.b (.l 2) 3,_),(.b (.l 2) 4,_),(.b (.l 2) 5,_)],[]⟩) (uAj (⟨sx rfl,sx rfl,sx rfl,sx rfl,sx rfl,trivial⟩) (⟨sx rfl,sx rfl,sx rfl,sx rfl,sx rfl,trivial⟩) (⟨rfl,rfl,rfl,rfl,rfl,trivial⟩)) ?_;refine uAb ?_;refine uAa rfl rfl rfl (uAg rfl gU rfl rfl) ?_;refine uAt rfl (uBv rfl rfl rfl rfl rfl rfl rfl) ?_;refine uAa rfl rfl rfl (uAc rfl gU) ?_;refine uAt rfl (uA3 rfl rfl rfl rfl rfl rfl rfl (by first | omega | (simp only [List.length_append,List.length_singleton,uAh]; omega)) (by first | omega | (simp only [List.length_append,List.length_singleton,uAh]; omega))) ?_;refine uAa rfl rfl rfl (uAg rfl gU rfl rfl) ?_;refine uAt rfl (uBu rfl rfl rfl rfl rfl rfl rfl) ?_
     refine uAf ?_;refine uAl (s:=⟨[(2,_,_),(3,_,_),(4,_,_),(5,_,_)],[(.l 2,_),(.l 3,_),(.l 4,_),(.l 5,_),(.o 0,_)],[(.b (.l 2) 1,_),(.b (.l 2) 2,_),(.b (.l 2) 3,_),(.b (.l 2) 4,_),(.b (.l 2) 5,_)],[]⟩) (uAj (⟨sx rfl,sx rfl,sx rfl,sx rfl,trivial⟩) (⟨sx rfl,sx rfl,sx rfl,sx rfl,sx rfl,trivial⟩) (⟨rfl,rfl,rfl,rfl,rfl,trivial⟩)) ?_;refine uAl (s:=⟨[(2,_,_),(3,_,_),(4,_,_),(5,_,_)],[(.l 2,_),(.l 3,_),(.l 4,_),(.l 5,_),(.o 0,_)],[(.b (.l 2) 1,_),(.b (.l 2) 2,_),(.b (.l 2) 3,_),(.b (.l 2) 4,_),(.b (.l 2) 5,_)],[]⟩) (uAj (⟨sx rfl,sx rfl,sx rfl,sx rfl,trivial⟩) (⟨sx rfl,sx rfl,sx rfl,sx rfl,sx rfl,trivial⟩) (⟨rfl,rfl,rfl,rfl,rfl,trivial⟩)) ?_;refine uBb (.l 2) rfl (fun w1 w2 w3 w4 w5=>?_);refine uAl (s:=⟨[(2,_,_),(3,_,_),(4,_,_),(5,_,_)],[(.l 2,_),(.l 3,_),(.l 4,_),(.l 5,_),(.o 0,_)],[(.b (.l 2) 1,_),(.b (.l 2) 2,_),(.b (.l 2) 3,_),(.b (.l 2) 4,_),(.b (.l 2) 5,_)],[]⟩) (uAj (⟨sx rfl,sx rfl,sx rfl,sx rfl,trivial⟩) (⟨sx rfl,sx rfl,sx rfl,sx rfl,sx rfl,trivial⟩) (⟨rfl,rfl,rfl,rfl,rfl,trivial⟩)) ?_;refine uAd ?_;refine awp_drawn' (by kernel_rfl) ?_;refine uAD rfl rfl rfl rfl rfl rfl rfl gU rfl rfl rfl rfl rfl ?_;refine uAD rfl rfl rfl rfl rfl rfl rfl gU rfl rfl rfl rfl rfl ?_
     refine uAR rfl rfl rfl rfl rfl rfl rfl gU gU (up (uAV l _ _ (by omega) (le3 hl (by first | assumption | (dsimp only; first | assumption | exact hq4 _ | exact hq5 _))))) rfl ?_;refine uAS rfl rfl rfl rfl rfl rfl rfl rfl rfl rfl rfl rfl ?_;refine uAS rfl rfl rfl rfl rfl rfl rfl rfl rfl rfl rfl rfl ?_;refine uA1 (by kernel_rfl) ?_;refine uAl (s:=⟨[(2,_,_),(4,_,_),(5,_,_)],[(.l 2,_),(.l 4,_),(.l 5,_),(.o 0,_)],[(.b (.l 2) 1,_),(.b (.l 2) 2,_),(.b (.l 2) 3,_),(.b (.l 2) 4,_),(.b (.l 2) 5,_)],[]⟩) (uAj (⟨sx rfl,sx rfl,sx rfl,trivial⟩) (⟨sx rfl,sx rfl,sx rfl,sx rfl,trivial⟩) (⟨(ak rfl (ak rfl (ak rfl (ak rfl (ak rfl (rfl)))))),(ak rfl (ak rfl (ak rfl (ak rfl (ak rfl (rfl)))))),(ak rfl (ak rfl (ak rfl (ak rfl (ak rfl (rfl)))))),(ak rfl (ak rfl (ak rfl (ak rfl (ak rfl (rfl)))))),(ak rfl (ak rfl (ak rfl (ak rfl (ak rfl (rfl)))))),trivial⟩)) ?_;refine uBi (.l 4) (.l 2) rfl rfl rfl rfl rfl ?_;refine uAl (s:=⟨[(2,_,_),(4,_,_),(5,_,_)],[(.l 2,_),(.l 4,_),(.l 5,_),(.o 0,_)],[(.b (.l 4) 1,_),(.b (.l 4) 2,_),(.b (.l 4) 3,_),(.b (.l 4) 4,_),(.b (.l 4) 5,_)],[]⟩) (uAj (⟨sx rfl,sx rfl,sx rfl,trivial⟩) (⟨sx rfl,sx rfl,sx rfl,sx rfl,trivial⟩) (⟨rfl,rfl,rfl,rfl,rfl,trivial⟩)) ?_;refine uAo ?_
     repeat (first | refine tR ?_ | refine bR ?_)
     refine uBr rfl ?_ ⟨⟨_,rfl,rfl⟩,trivial⟩ (by simp) rfl rfl rfl rfl rfl rfl;exact congrArg (fun z=>X.tup [.agg (narC n.name (strR n.roles) (Fs.rows n.fresh) z (Sp.rows n.steps) (Gl.rows n.goals)), .agg (pbx l (uAP l [59] (uBt l q).2))]) (uEb _ _).symm
    ·try simp only [nn,uAh,T.rows_len,Tk.rows_len] at hcu3
     refine uAd (uAb ?_);refine uAa rfl rfl rfl (uAk rfl rfl gU gU rfl) ?_;refine uAa rfl rfl rfl (uAe rfl gU) ?_;refine uAf ?_;refine uAn rfl (fun hcu4=>?_) (fun hcu4=>?_)
     ·try simp only [nn,uAh,T.rows_len,Tk.rows_len] at hcu4
      subst hcu4
      rw [uB7 hk hline (uIH l n (l.getD p.at' tk0).line q)]
      refine uAl (s:=⟨[(2,_,_),(3,_,_),(4,_,_),(5,_,_),(6,_,_)],[(.l 2,_),(.l 3,_),(.l 4,_),(.l 5,_),(.o 0,_)],[(.b (.l 2) 1,_),(.b (.l 2) 2,_),(.b (.l 2) 3,_),(.b (.l 2) 4,_),(.b (.l 2) 5,_)],[]⟩) (uAj (⟨sx rfl,sx rfl,sx rfl,sx rfl,sx rfl,trivial⟩) (⟨sx rfl,sx rfl,sx rfl,sx rfl,sx rfl,trivial⟩) (⟨rfl,rfl,rfl,rfl,rfl,trivial⟩)) ?_;refine uBb (.l 2) rfl (fun w1 w2 w3 w4 w5=>?_);refine uAl (s:=⟨[(2,_,_),(3,_,_),(4,_,_),(5,_,_),(6,_,_)],[(.l 2,_),(.l 3,_),(.l 4,_),(.l 5,_),(.o 0,_)],[(.b (.l 2) 1,_),(.b (.l 2) 2,_),(.b (.l 2) 3,_),(.b (.l 2) 4,_),(.b (.l 2) 5,_)],[]⟩) (uAj (⟨sx rfl,sx rfl,sx rfl,sx rfl,sx rfl,trivial⟩) (⟨sx rfl,sx rfl,sx rfl,sx rfl,sx rfl,trivial⟩) (⟨rfl,rfl,rfl,rfl,rfl,trivial⟩)) ?_;refine uAb ?_;refine uAa rfl rfl rfl (uAm rfl gU rfl rfl rfl rfl rfl) ?_;refine uAa rfl rfl rfl (uAm rfl gU rfl rfl rfl rfl rfl) ?_;refine uAa rfl rfl rfl (uAc rfl gU) ?_;refine uDt (.l 2) (.l 3) osR rfl rfl rfl rfl rfl rfl ⟨rfl,rfl,rfl,rfl,rfl,rfl⟩ ⟨rfl,rfl,rfl,rfl,rfl,rfl⟩ rfl rfl rfl rfl rfl rfl rfl rfl rfl ⟨rfl,rfl⟩ rfl (uEL l q n ((l.getD p.at' tk0).line) w1 w2 w3 w4 w5 hl hq1 (by omega)) rfl rfl rfl rfl rfl rfl rfl rfl ?_;refine uAf ?_;refine uAl (s:=⟨[(2,_,_),(3,_,_),(4,_,_),(5,_,_)],[(.l 2,_),(.l 3,_),(.l 4,_),(.l 5,_),(.o 0,_)],[(.b (.l 2) 1,_),(.b (.l 2) 2,_),(.b (.l 2) 3,_),(.b (.l 2) 4,_),(.b (.l 2) 5,_)],[]⟩) (uAj (⟨sx rfl,sx rfl,sx rfl,sx rfl,trivial⟩) (⟨sx rfl,sx rfl,sx rfl,sx rfl,sx rfl,trivial⟩) (⟨rfl,rfl,rfl,rfl,rfl,trivial⟩)) ?_
      refine uAl (s:=⟨[(2,_,_),(3,_,_),(4,_,_),(5,_,_)],[(.l 2,_),(.l 3,_),(.l 4,_),(.l 5,_),(.o 0,_)],[(.b (.l 2) 1,_),(.b (.l 2) 2,_),(.b (.l 2) 3,_),(.b (.l 2) 4,_),(.b (.l 2) 5,_)],[]⟩) (uAj (⟨sx rfl,sx rfl,sx rfl,sx rfl,trivial⟩) (⟨sx rfl,sx rfl,sx rfl,sx rfl,sx rfl,trivial⟩) (⟨rfl,rfl,rfl,rfl,rfl,trivial⟩)) ?_;refine uBb (.l 2) rfl (fun w1 w2 w3 w4 w5=>?_);refine uAl (s:=⟨[(2,_,_),(3,_,_),(4,_,_),(5,_,_)],[(.l 2,_),(.l 3,_),(.l 4,_),(.l 5,_),(.o 0,_)],[(.b (.l 2) 1,_),(.b (.l 2) 2,_),(.b (.l 2) 3,_),(.b (.l 2) 4,_),(.b (.l 2) 5,_)],[]⟩) (uAj (⟨sx rfl,sx rfl,sx rfl,sx rfl,trivial⟩) (⟨sx rfl,sx rfl,sx rfl,sx rfl,sx rfl,trivial⟩) (⟨rfl,rfl,rfl,rfl,rfl,trivial⟩)) ?_;refine uAd ?_;refine awp_drawn' (by kernel_rfl) ?_;refine uAD rfl rfl rfl rfl rfl rfl rfl gU rfl rfl rfl rfl rfl ?_;refine uAD rfl rfl rfl rfl rfl rfl rfl gU rfl rfl rfl rfl rfl ?_;refine uAR rfl rfl rfl rfl rfl rfl rfl gU gU (up (uAV l _ _ (by omega) (le3 hl (by first | assumption | (dsimp only; first | assumption | exact hq4 _ | exact hq5 _))))) rfl ?_;refine uAS rfl rfl rfl rfl rfl rfl rfl rfl rfl rfl rfl rfl ?_;refine uAS rfl rfl rfl rfl rfl rfl rfl rfl rfl rfl rfl rfl ?_;refine uA1 (by kernel_rfl) ?_;refine uAl (s:=⟨[(2,_,_),(4,_,_),(5,_,_)],[(.l 2,_),(.l 4,_),(.l 5,_),(.o 0,_)],[(.b (.l 2) 1,_),(.b (.l 2) 2,_),(.b (.l 2) 3,_),(.b (.l 2) 4,_),(.b (.l 2) 5,_)],[]⟩) (uAj (⟨sx rfl,sx rfl,sx rfl,trivial⟩) (⟨sx rfl,sx rfl,sx rfl,sx rfl,trivial⟩) (⟨(ak rfl (ak rfl (ak rfl (ak rfl (ak rfl (rfl)))))),(ak rfl (ak rfl (ak rfl (ak rfl (ak rfl (rfl)))))),(ak rfl (ak rfl (ak rfl (ak rfl (ak rfl (rfl)))))),(ak rfl (ak rfl (ak rfl (ak rfl (ak rfl (rfl)))))),(ak rfl (ak rfl (ak rfl (ak rfl (ak rfl (rfl)))))),trivial⟩)) ?_
      refine uBi (.l 4) (.l 2) rfl rfl rfl rfl rfl ?_;refine uAl (s:=⟨[(2,_,_),(4,_,_),(5,_,_)],[(.l 2,_),(.l 4,_),(.l 5,_),(.o 0,_)],[(.b (.l 4) 1,_),(.b (.l 4) 2,_),(.b (.l 4) 3,_),(.b (.l 4) 4,_),(.b (.l 4) 5,_)],[]⟩) (uAj (⟨sx rfl,sx rfl,sx rfl,trivial⟩) (⟨sx rfl,sx rfl,sx rfl,sx rfl,trivial⟩) (⟨rfl,rfl,rfl,rfl,rfl,trivial⟩)) ?_;refine uAo ?_
      repeat (first | refine tR ?_ | refine bR ?_)
      refine uBr rfl ?_ ⟨⟨_,rfl,rfl⟩,trivial⟩ (by simp) rfl rfl rfl rfl rfl rfl
      rfl
     ·try simp only [nn,uAh,T.rows_len,Tk.rows_len] at hcu4
      refine uAd (uAb ?_);refine uAa rfl rfl rfl (uAk rfl rfl gU gU rfl) ?_;refine uAa rfl rfl rfl (uAe rfl gU) ?_;refine uAf ?_;refine uAl (s:=⟨[(2,_,_),(3,_,_),(4,_,_),(5,_,_),(6,_,_),(70,_,_)],[(.l 2,_),(.l 3,_),(.l 4,_),(.l 5,_),(.o 0,_)],[(.b (.l 2) 1,_),(.b (.l 2) 2,_),(.b (.l 2) 3,_),(.b (.l 2) 4,_),(.b (.l 2) 5,_)],[]⟩) (uAj (⟨sx rfl,sx rfl,sx rfl,sx rfl,sx rfl,sx rfl,trivial⟩) (⟨sx rfl,sx rfl,sx rfl,sx rfl,sx rfl,trivial⟩) (⟨rfl,rfl,rfl,rfl,rfl,trivial⟩)) ?_;refine uAn rfl (fun hcu5=>?_) (fun hcu5=>?_)
      ·try simp only [nn,uAh,T.rows_len,Tk.rows_len] at hcu5
       subst hcu5
       rw [uB7 hk hline (uIv l n (l.getD p.at' tk0).line q)]
       refine uAl (s:=⟨[(2,_,_),(3,_,_),(4,_,_),(5,_,_),(6,_,_)],[(.l 2,_),(.l 3,_),(.l 4,_),(.l 5,_),(.o 0,_)],[(.b (.l 2) 1,_),(.b (.l 2) 2,_),(.b (.l 2) 3,_),(.b (.l 2) 4,_),(.b (.l 2) 5,_)],[]⟩) (uAj (⟨sx rfl,sx rfl,sx rfl,sx rfl,sx rfl,trivial⟩) (⟨sx rfl,sx rfl,sx rfl,sx rfl,sx rfl,trivial⟩) (⟨rfl,rfl,rfl,rfl,rfl,trivial⟩)) ?_;refine uBb (.l 2) rfl (fun w1 w2 w3 w4 w5=>?_);refine uAl (s:=⟨[(2,_,_),(3,_,_),(4,_,_),(5,_,_),(6,_,_)],[(.l 2,_),(.l 3,_),(.l 4,_),(.l 5,_),(.o 0,_)],[(.b (.l 2) 1,_),(.b (.l 2) 2,_),(.b (.l 2) 3,_),(.b (.l 2) 4,_),(.b (.l 2) 5,_)],[]⟩) (uAj (⟨sx rfl,sx rfl,sx rfl,sx rfl,sx rfl,trivial⟩) (⟨sx rfl,sx rfl,sx rfl,sx rfl,sx rfl,trivial⟩) (⟨rfl,rfl,rfl,rfl,rfl,trivial⟩)) ?_;refine uAb ?_;refine uAa rfl rfl rfl (uAm rfl gU rfl rfl rfl rfl rfl) ?_;refine uAa rfl rfl rfl (uAm rfl gU rfl rfl rfl rfl rfl) ?_;refine uAa rfl rfl rfl (uAc rfl gU) ?_;refine uDt (.l 2) (.l 3) osR rfl rfl rfl rfl rfl rfl ⟨rfl,rfl,rfl,rfl,rfl,rfl⟩ ⟨rfl,rfl,rfl,rfl,rfl,rfl⟩ rfl rfl rfl rfl rfl rfl rfl rfl rfl ⟨rfl,rfl⟩ rfl (uEI l q n ((l.getD p.at' tk0).line) w1 w2 w3 w4 w5 hl hq1 (by omega)) rfl rfl rfl rfl rfl rfl rfl rfl ?_;refine uAf ?_;refine uAl (s:=⟨[(2,_,_),(3,_,_),(4,_,_),(5,_,_)],[(.l 2,_),(.l 3,_),(.l 4,_),(.l 5,_),(.o 0,_)],[(.b (.l 2) 1,_),(.b (.l 2) 2,_),(.b (.l 2) 3,_),(.b (.l 2) 4,_),(.b (.l 2) 5,_)],[]⟩) (uAj (⟨sx rfl,sx rfl,sx rfl,sx rfl,trivial⟩) (⟨sx rfl,sx rfl,sx rfl,sx rfl,sx rfl,trivial⟩) (⟨rfl,rfl,rfl,rfl,rfl,trivial⟩)) ?_
       refine uAl (s:=⟨[(2,_,_),(3,_,_),(4,_,_),(5,_,_)],[(.l 2,_),(.l 3,_),(.l 4,_),(.l 5,_),(.o 0,_)],[(.b (.l 2) 1,_),(.b (.l 2) 2,_),(.b (.l 2) 3,_),(.b (.l 2) 4,_),(.b (.l 2) 5,_)],[]⟩) (uAj (⟨sx rfl,sx rfl,sx rfl,sx rfl,trivial⟩) (⟨sx rfl,sx rfl,sx rfl,sx rfl,sx rfl,trivial⟩) (⟨rfl,rfl,rfl,rfl,rfl,trivial⟩)) ?_;refine uBb (.l 2) rfl (fun w1 w2 w3 w4 w5=>?_);refine uAl (s:=⟨[(2,_,_),(3,_,_),(4,_,_),(5,_,_)],[(.l 2,_),(.l 3,_),(.l 4,_),(.l 5,_),(.o 0,_)],[(.b (.l 2) 1,_),(.b (.l 2) 2,_),(.b (.l 2) 3,_),(.b (.l 2) 4,_),(.b (.l 2) 5,_)],[]⟩) (uAj (⟨sx rfl,sx rfl,sx rfl,sx rfl,trivial⟩) (⟨sx rfl,sx rfl,sx rfl,sx rfl,sx rfl,trivial⟩) (⟨rfl,rfl,rfl,rfl,rfl,trivial⟩)) ?_;refine uAd ?_;refine awp_drawn' (by kernel_rfl) ?_;refine uAD rfl rfl rfl rfl rfl rfl rfl gU rfl rfl rfl rfl rfl ?_;refine uAD rfl rfl rfl rfl rfl rfl rfl gU rfl rfl rfl rfl rfl ?_;refine uAR rfl rfl rfl rfl rfl rfl rfl gU gU (up (uAV l _ _ (by omega) (le3 hl (by first | assumption | (dsimp only; first | assumption | exact hq4 _ | exact hq5 _))))) rfl ?_;refine uAS rfl rfl rfl rfl rfl rfl rfl rfl rfl rfl rfl rfl ?_;refine uAS rfl rfl rfl rfl rfl rfl rfl rfl rfl rfl rfl rfl ?_;refine uA1 (by kernel_rfl) ?_;refine uAl (s:=⟨[(2,_,_),(4,_,_),(5,_,_)],[(.l 2,_),(.l 4,_),(.l 5,_),(.o 0,_)],[(.b (.l 2) 1,_),(.b (.l 2) 2,_),(.b (.l 2) 3,_),(.b (.l 2) 4,_),(.b (.l 2) 5,_)],[]⟩) (uAj (⟨sx rfl,sx rfl,sx rfl,trivial⟩) (⟨sx rfl,sx rfl,sx rfl,sx rfl,trivial⟩) (⟨(ak rfl (ak rfl (ak rfl (ak rfl (ak rfl (rfl)))))),(ak rfl (ak rfl (ak rfl (ak rfl (ak rfl (rfl)))))),(ak rfl (ak rfl (ak rfl (ak rfl (ak rfl (rfl)))))),(ak rfl (ak rfl (ak rfl (ak rfl (ak rfl (rfl)))))),(ak rfl (ak rfl (ak rfl (ak rfl (ak rfl (rfl)))))),trivial⟩)) ?_
       refine uBi (.l 4) (.l 2) rfl rfl rfl rfl rfl ?_;refine uAl (s:=⟨[(2,_,_),(4,_,_),(5,_,_)],[(.l 2,_),(.l 4,_),(.l 5,_),(.o 0,_)],[(.b (.l 4) 1,_),(.b (.l 4) 2,_),(.b (.l 4) 3,_),(.b (.l 4) 4,_),(.b (.l 4) 5,_)],[]⟩) (uAj (⟨sx rfl,sx rfl,sx rfl,trivial⟩) (⟨sx rfl,sx rfl,sx rfl,sx rfl,trivial⟩) (⟨rfl,rfl,rfl,rfl,rfl,trivial⟩)) ?_;refine uAo ?_
       repeat (first | refine tR ?_ | refine bR ?_)
       refine uBr rfl ?_ ⟨⟨_,rfl,rfl⟩,trivial⟩ (by simp) rfl rfl rfl rfl rfl rfl
       rfl
      ·try simp only [nn,uAh,T.rows_len,Tk.rows_len] at hcu5
       rw [uB7 hk hline (uJb l n (l.getD p.at' tk0).line q hcu1 hcu2 hcu3 hcu4 hcu5)]
       refine uAp ?_;refine uAl (s:=⟨[(2,_,_),(3,_,_),(4,_,_),(5,_,_)],[(.l 2,_),(.l 3,_),(.l 4,_),(.l 5,_),(.o 0,_)],[(.b (.l 2) 1,_),(.b (.l 2) 2,_),(.b (.l 2) 3,_),(.b (.l 2) 4,_),(.b (.l 2) 5,_)],[]⟩) (uAj (⟨sx rfl,sx rfl,sx rfl,sx rfl,trivial⟩) (⟨sx rfl,sx rfl,sx rfl,sx rfl,sx rfl,trivial⟩) (⟨rfl,rfl,rfl,rfl,rfl,trivial⟩)) ?_;refine uBb (.l 2) rfl (fun w1 w2 w3 w4 w5=>?_);refine uAl (s:=⟨[(2,_,_),(3,_,_),(4,_,_),(5,_,_)],[(.l 2,_),(.l 3,_),(.l 4,_),(.l 5,_),(.o 0,_)],[(.b (.l 2) 1,_),(.b (.l 2) 2,_),(.b (.l 2) 3,_),(.b (.l 2) 4,_),(.b (.l 2) 5,_)],[]⟩) (uAj (⟨sx rfl,sx rfl,sx rfl,sx rfl,trivial⟩) (⟨sx rfl,sx rfl,sx rfl,sx rfl,sx rfl,trivial⟩) (⟨rfl,rfl,rfl,rfl,rfl,trivial⟩)) ?_;refine uAd ?_;refine awp_drawn' (by kernel_rfl) ?_;refine uAD rfl rfl rfl rfl rfl rfl rfl gU rfl rfl rfl rfl rfl ?_;refine uAD rfl rfl rfl rfl rfl rfl rfl gU rfl rfl rfl rfl rfl ?_;refine uAR rfl rfl rfl rfl rfl rfl rfl gU gU (up (uAV l _ _ (by omega) (le3 hl (by first | assumption | (dsimp only; first | assumption | exact hq4 _ | exact hq5 _))))) rfl ?_;refine uAS rfl rfl rfl rfl rfl rfl rfl rfl rfl rfl rfl rfl ?_;refine uAS rfl rfl rfl rfl rfl rfl rfl rfl rfl rfl rfl rfl ?_;refine uA1 (by kernel_rfl) ?_;refine uAl (s:=⟨[(2,_,_),(4,_,_),(5,_,_)],[(.l 2,_),(.l 4,_),(.l 5,_),(.o 0,_)],[(.b (.l 2) 1,_),(.b (.l 2) 2,_),(.b (.l 2) 3,_),(.b (.l 2) 4,_),(.b (.l 2) 5,_)],[]⟩) (uAj (⟨sx rfl,sx rfl,sx rfl,trivial⟩) (⟨sx rfl,sx rfl,sx rfl,sx rfl,trivial⟩) (⟨(ak rfl (ak rfl (ak rfl (ak rfl (ak rfl (rfl)))))),(ak rfl (ak rfl (ak rfl (ak rfl (ak rfl (rfl)))))),(ak rfl (ak rfl (ak rfl (ak rfl (ak rfl (rfl)))))),(ak rfl (ak rfl (ak rfl (ak rfl (ak rfl (rfl)))))),(ak rfl (ak rfl (ak rfl (ak rfl (ak rfl (rfl)))))),trivial⟩)) ?_
       refine uBi (.l 4) (.l 2) rfl rfl rfl rfl rfl ?_;refine uAl (s:=⟨[(2,_,_),(4,_,_),(5,_,_)],[(.l 2,_),(.l 4,_),(.l 5,_),(.o 0,_)],[(.b (.l 4) 1,_),(.b (.l 4) 2,_),(.b (.l 4) 3,_),(.b (.l 4) 4,_),(.b (.l 4) 5,_)],[]⟩) (uAj (⟨sx rfl,sx rfl,sx rfl,trivial⟩) (⟨sx rfl,sx rfl,sx rfl,sx rfl,trivial⟩) (⟨rfl,rfl,rfl,rfl,rfl,trivial⟩)) ?_;refine uAo ?_
       repeat (first | refine tR ?_ | refine bR ?_)
       refine uBr rfl ?_ ⟨⟨_,rfl,rfl⟩,trivial⟩ (by simp) rfl rfl rfl rfl rfl rfl
       rfl
 ·try simp only [nn,uAh,T.rows_len,Tk.rows_len] at hcx
  have hline : uCk l p=0:=by rw [uCk,if_neg (by omega)]
  refine uAp ?_;refine uAd (uAb ?_);refine uAa rfl rfl rfl (uAm rfl gU rfl rfl rfl rfl rfl) ?_;refine uAU (xs:=[_,_,_,_,_,_]) rfl rfl rfl rfl rfl rfl rfl rfl rfl gU rfl ?_;refine uAx rfl rfl rfl rfl rfl rfl gU gU (up hns) rfl ?_;refine uAa rfl rfl rfl (uAc rfl gU) ?_;refine uAa rfl rfl rfl (uAu rfl gU rfl) ?_;refine uAa rfl rfl rfl (uAu rfl gU rfl) ?_;refine uAa rfl rfl rfl (uAe rfl gU) ?_;refine uAt rfl (uAz rfl rfl rfl rfl rfl rfl rfl) ?_;refine uAf ?_;refine uAl (s:=⟨[(2,_,_),(3,_,_),(4,_,_),(5,_,_),(6,_,_),(7,_,_)],[(.l 2,_),(.l 3,_),(.l 4,_),(.l 5,_),(.o 0,_)],[(.b (.l 2) 1,_),(.b (.l 2) 2,_),(.b (.l 2) 3,_),(.b (.l 2) 4,_),(.b (.l 2) 5,_)],[]⟩) (uAj (⟨sx rfl,sx rfl,sx rfl,sx rfl,sx rfl,sx rfl,trivial⟩) (⟨sx rfl,sx rfl,sx rfl,sx rfl,sx rfl,trivial⟩) (⟨rfl,rfl,rfl,rfl,rfl,trivial⟩)) ?_;refine uAd (uAb ?_);refine uAt rfl (uBl (.inr rfl) rfl rfl) ?_;refine uAf ?_;refine uAd ?_;refine uAd (uAb ?_);refine uAa rfl rfl rfl (uAc rfl gU) ?_;refine uAf ?_;refine uAv ?_;refine uAd (uAb ?_);refine uAa rfl rfl rfl (uAk rfl rfl gU gU rfl) ?_;refine uAa rfl rfl rfl (uAe rfl gU) ?_;refine uAf ?_;refine uAn rfl (fun hcv1=>?_) (fun hcv1=>?_)
  ·try simp only [nn,uAh,T.rows_len,Tk.rows_len] at hcv1
   subst hcv1
   rw [uB7 hk hline (uJO l n 0 q)]
   refine uAd (uAb ?_);refine uAa rfl rfl rfl (uAm rfl gU rfl rfl rfl rfl rfl) ?_;refine uAx rfl rfl rfl rfl rfl rfl gU gU (up (uCR l q (by omega) hq1)) rfl ?_;refine uAa rfl rfl rfl (uAc rfl gU) ?_;refine uAa rfl rfl rfl (uAu rfl gU rfl) ?_;refine uAa rfl rfl rfl (uAu rfl gU rfl) ?_;refine uAa rfl rfl rfl (uAe rfl gU) ?_;refine uAt rfl (uAz rfl rfl rfl rfl rfl rfl rfl) ?_;refine uAf ?_;refine uAl (s:=⟨[(2,_,_),(3,_,_),(4,_,_),(5,_,_),(8,_,_)],[(.l 2,_),(.l 3,_),(.l 4,_),(.l 5,_),(.o 0,_)],[(.b (.l 2) 1,_),(.b (.l 2) 2,_),(.b (.l 2) 3,_),(.b (.l 2) 4,_),(.b (.l 2) 5,_)],[]⟩) (uAj (⟨sx rfl,sx rfl,sx rfl,sx rfl,sx rfl,trivial⟩) (⟨sx rfl,sx rfl,sx rfl,sx rfl,sx rfl,trivial⟩) (⟨rfl,rfl,rfl,rfl,rfl,trivial⟩)) ?_;refine uAb ?_;refine uAa rfl rfl rfl (uAg rfl gU rfl rfl) ?_;refine uAt rfl (uBv rfl rfl rfl rfl rfl rfl rfl) ?_;refine uAa rfl rfl rfl (uAc rfl gU) ?_;refine uAt rfl (uA3 rfl rfl rfl rfl rfl rfl rfl (by first | omega | (simp only [List.length_append,List.length_singleton,uAh]; omega)) (by first | omega | (simp only [List.length_append,List.length_singleton,uAh]; omega))) ?_;refine uAa rfl rfl rfl (uAg rfl gU rfl rfl) ?_;refine uAt rfl (uBu rfl rfl rfl rfl rfl rfl rfl) ?_
   refine uAf ?_;refine uAl (s:=⟨[(2,_,_),(3,_,_),(4,_,_),(5,_,_)],[(.l 2,_),(.l 3,_),(.l 4,_),(.l 5,_),(.o 0,_)],[(.b (.l 2) 1,_),(.b (.l 2) 2,_),(.b (.l 2) 3,_),(.b (.l 2) 4,_),(.b (.l 2) 5,_)],[]⟩) (uAj (⟨sx rfl,sx rfl,sx rfl,sx rfl,trivial⟩) (⟨sx rfl,sx rfl,sx rfl,sx rfl,sx rfl,trivial⟩) (⟨rfl,rfl,rfl,rfl,rfl,trivial⟩)) ?_;refine uAl (s:=⟨[(2,_,_),(3,_,_),(4,_,_),(5,_,_)],[(.l 2,_),(.l 3,_),(.l 4,_),(.l 5,_),(.o 0,_)],[(.b (.l 2) 1,_),(.b (.l 2) 2,_),(.b (.l 2) 3,_),(.b (.l 2) 4,_),(.b (.l 2) 5,_)],[]⟩) (uAj (⟨sx rfl,sx rfl,sx rfl,sx rfl,trivial⟩) (⟨sx rfl,sx rfl,sx rfl,sx rfl,sx rfl,trivial⟩) (⟨rfl,rfl,rfl,rfl,rfl,trivial⟩)) ?_;refine uBb (.l 2) rfl (fun w1 w2 w3 w4 w5=>?_);refine uAl (s:=⟨[(2,_,_),(3,_,_),(4,_,_),(5,_,_)],[(.l 2,_),(.l 3,_),(.l 4,_),(.l 5,_),(.o 0,_)],[(.b (.l 2) 1,_),(.b (.l 2) 2,_),(.b (.l 2) 3,_),(.b (.l 2) 4,_),(.b (.l 2) 5,_)],[]⟩) (uAj (⟨sx rfl,sx rfl,sx rfl,sx rfl,trivial⟩) (⟨sx rfl,sx rfl,sx rfl,sx rfl,sx rfl,trivial⟩) (⟨rfl,rfl,rfl,rfl,rfl,trivial⟩)) ?_;refine uAd ?_;refine awp_drawn' (by kernel_rfl) ?_;refine uAD rfl rfl rfl rfl rfl rfl rfl gU rfl rfl rfl rfl rfl ?_;refine uAD rfl rfl rfl rfl rfl rfl rfl gU rfl rfl rfl rfl rfl ?_
   refine uAR rfl rfl rfl rfl rfl rfl rfl gU gU (up (uAV l _ _ (by omega) (le3 hl (by first | assumption | (dsimp only; first | assumption | exact hq4 _ | exact hq5 _))))) rfl ?_;refine uAS rfl rfl rfl rfl rfl rfl rfl rfl rfl rfl rfl rfl ?_;refine uAS rfl rfl rfl rfl rfl rfl rfl rfl rfl rfl rfl rfl ?_;refine uA1 (by kernel_rfl) ?_;refine uAl (s:=⟨[(2,_,_),(4,_,_),(5,_,_)],[(.l 2,_),(.l 4,_),(.l 5,_),(.o 0,_)],[(.b (.l 2) 1,_),(.b (.l 2) 2,_),(.b (.l 2) 3,_),(.b (.l 2) 4,_),(.b (.l 2) 5,_)],[]⟩) (uAj (⟨sx rfl,sx rfl,sx rfl,trivial⟩) (⟨sx rfl,sx rfl,sx rfl,sx rfl,trivial⟩) (⟨(ak rfl (ak rfl (ak rfl (ak rfl (ak rfl (rfl)))))),(ak rfl (ak rfl (ak rfl (ak rfl (ak rfl (rfl)))))),(ak rfl (ak rfl (ak rfl (ak rfl (ak rfl (rfl)))))),(ak rfl (ak rfl (ak rfl (ak rfl (ak rfl (rfl)))))),(ak rfl (ak rfl (ak rfl (ak rfl (ak rfl (rfl)))))),trivial⟩)) ?_;refine uBi (.l 4) (.l 2) rfl rfl rfl rfl rfl ?_;refine uAl (s:=⟨[(2,_,_),(4,_,_),(5,_,_)],[(.l 2,_),(.l 4,_),(.l 5,_),(.o 0,_)],[(.b (.l 4) 1,_),(.b (.l 4) 2,_),(.b (.l 4) 3,_),(.b (.l 4) 4,_),(.b (.l 4) 5,_)],[]⟩) (uAj (⟨sx rfl,sx rfl,sx rfl,trivial⟩) (⟨sx rfl,sx rfl,sx rfl,sx rfl,trivial⟩) (⟨rfl,rfl,rfl,rfl,rfl,trivial⟩)) ?_;refine uAo ?_
   repeat (first | refine tR ?_ | refine bR ?_)
   refine uBr rfl ?_ ⟨⟨_,rfl,rfl⟩,trivial⟩ (by simp) rfl rfl rfl rfl rfl rfl;exact congrArg (fun z=>X.tup [.agg (narC n.name z (Fs.rows n.fresh) (strR n.tags) (Sp.rows n.steps) (Gl.rows n.goals)), .agg (pbx l (uAP l [59] (uBt l q).2))]) (uEb _ _).symm
  ·try simp only [nn,uAh,T.rows_len,Tk.rows_len] at hcv1
   refine uAd (uAb ?_);refine uAa rfl rfl rfl (uAk rfl rfl gU gU rfl) ?_;refine uAa rfl rfl rfl (uAe rfl gU) ?_;refine uAf ?_;refine uAl (s:=⟨[(2,_,_),(3,_,_),(4,_,_),(5,_,_),(6,_,_),(28,_,_),(41,_,_)],[(.l 2,_),(.l 3,_),(.l 4,_),(.l 5,_),(.o 0,_)],[(.b (.l 2) 1,_),(.b (.l 2) 2,_),(.b (.l 2) 3,_),(.b (.l 2) 4,_),(.b (.l 2) 5,_)],[]⟩) (uAj (⟨sx rfl,sx rfl,sx rfl,sx rfl,sx rfl,sx rfl,sx rfl,trivial⟩) (⟨sx rfl,sx rfl,sx rfl,sx rfl,sx rfl,trivial⟩) (⟨rfl,rfl,rfl,rfl,rfl,trivial⟩)) ?_;refine uAn rfl (fun hcv2=>?_) (fun hcv2=>?_)
   ·try simp only [nn,uAh,T.rows_len,Tk.rows_len] at hcv2
    subst hcv2
    rw [uB7 hk hline (uI4 l n 0 q)]
    refine uAl (s:=⟨[(2,_,_),(3,_,_),(4,_,_),(5,_,_)],[(.l 2,_),(.l 3,_),(.l 4,_),(.l 5,_),(.o 0,_)],[(.b (.l 2) 1,_),(.b (.l 2) 2,_),(.b (.l 2) 3,_),(.b (.l 2) 4,_),(.b (.l 2) 5,_)],[]⟩) (uAj (⟨sx rfl,sx rfl,sx rfl,sx rfl,trivial⟩) (⟨sx rfl,sx rfl,sx rfl,sx rfl,sx rfl,trivial⟩) (⟨rfl,rfl,rfl,rfl,rfl,trivial⟩)) ?_;refine uBb (.l 2) rfl (fun w1 w2 w3 w4 w5=>?_);refine uAl (s:=⟨[(2,_,_),(3,_,_),(4,_,_),(5,_,_)],[(.l 2,_),(.l 3,_),(.l 4,_),(.l 5,_),(.o 0,_)],[(.b (.l 2) 1,_),(.b (.l 2) 2,_),(.b (.l 2) 3,_),(.b (.l 2) 4,_),(.b (.l 2) 5,_)],[]⟩) (uAj (⟨sx rfl,sx rfl,sx rfl,sx rfl,trivial⟩) (⟨sx rfl,sx rfl,sx rfl,sx rfl,sx rfl,trivial⟩) (⟨rfl,rfl,rfl,rfl,rfl,trivial⟩)) ?_;refine uAb ?_;refine uAa rfl rfl rfl (uAm rfl gU rfl rfl rfl rfl rfl) ?_;refine uAa rfl rfl rfl (uAm rfl gU rfl rfl rfl rfl rfl) ?_;refine uDt (.l 2) (.l 3) osR rfl rfl rfl rfl rfl rfl ⟨rfl,rfl,rfl,rfl,rfl,rfl⟩ ⟨rfl,rfl,rfl,rfl,rfl,rfl⟩ rfl rfl rfl rfl rfl rfl rfl rfl rfl ⟨rfl,rfl⟩ rfl (uEj l q n w1 w2 w3 w4 w5 hl hq1 (by omega)) rfl rfl rfl rfl rfl rfl rfl rfl ?_;refine uAf ?_;refine uAl (s:=⟨[(2,_,_),(3,_,_),(4,_,_),(5,_,_)],[(.l 2,_),(.l 3,_),(.l 4,_),(.l 5,_),(.o 0,_)],[(.b (.l 2) 1,_),(.b (.l 2) 2,_),(.b (.l 2) 3,_),(.b (.l 2) 4,_),(.b (.l 2) 5,_)],[]⟩) (uAj (⟨sx rfl,sx rfl,sx rfl,sx rfl,trivial⟩) (⟨sx rfl,sx rfl,sx rfl,sx rfl,sx rfl,trivial⟩) (⟨rfl,rfl,rfl,rfl,rfl,trivial⟩)) ?_
    refine uAl (s:=⟨[(2,_,_),(3,_,_),(4,_,_),(5,_,_)],[(.l 2,_),(.l 3,_),(.l 4,_),(.l 5,_),(.o 0,_)],[(.b (.l 2) 1,_),(.b (.l 2) 2,_),(.b (.l 2) 3,_),(.b (.l 2) 4,_),(.b (.l 2) 5,_)],[]⟩) (uAj (⟨sx rfl,sx rfl,sx rfl,sx rfl,trivial⟩) (⟨sx rfl,sx rfl,sx rfl,sx rfl,sx rfl,trivial⟩) (⟨rfl,rfl,rfl,rfl,rfl,trivial⟩)) ?_;refine uBb (.l 2) rfl (fun w1 w2 w3 w4 w5=>?_);refine uAl (s:=⟨[(2,_,_),(3,_,_),(4,_,_),(5,_,_)],[(.l 2,_),(.l 3,_),(.l 4,_),(.l 5,_),(.o 0,_)],[(.b (.l 2) 1,_),(.b (.l 2) 2,_),(.b (.l 2) 3,_),(.b (.l 2) 4,_),(.b (.l 2) 5,_)],[]⟩) (uAj (⟨sx rfl,sx rfl,sx rfl,sx rfl,trivial⟩) (⟨sx rfl,sx rfl,sx rfl,sx rfl,sx rfl,trivial⟩) (⟨rfl,rfl,rfl,rfl,rfl,trivial⟩)) ?_;refine uAd ?_;refine awp_drawn' (by kernel_rfl) ?_;refine uAD rfl rfl rfl rfl rfl rfl rfl gU rfl rfl rfl rfl rfl ?_;refine uAD rfl rfl rfl rfl rfl rfl rfl gU rfl rfl rfl rfl rfl ?_;refine uAR rfl rfl rfl rfl rfl rfl rfl gU gU (up (uAV l _ _ (by omega) (le3 hl (by first | assumption | (dsimp only; first | assumption | exact hq4 _ | exact hq5 _))))) rfl ?_;refine uAS rfl rfl rfl rfl rfl rfl rfl rfl rfl rfl rfl rfl ?_;refine uAS rfl rfl rfl rfl rfl rfl rfl rfl rfl rfl rfl rfl ?_;refine uA1 (by kernel_rfl) ?_;refine uAl (s:=⟨[(2,_,_),(4,_,_),(5,_,_)],[(.l 2,_),(.l 4,_),(.l 5,_),(.o 0,_)],[(.b (.l 2) 1,_),(.b (.l 2) 2,_),(.b (.l 2) 3,_),(.b (.l 2) 4,_),(.b (.l 2) 5,_)],[]⟩) (uAj (⟨sx rfl,sx rfl,sx rfl,trivial⟩) (⟨sx rfl,sx rfl,sx rfl,sx rfl,trivial⟩) (⟨(ak rfl (ak rfl (ak rfl (ak rfl (ak rfl (rfl)))))),(ak rfl (ak rfl (ak rfl (ak rfl (ak rfl (rfl)))))),(ak rfl (ak rfl (ak rfl (ak rfl (ak rfl (rfl)))))),(ak rfl (ak rfl (ak rfl (ak rfl (ak rfl (rfl)))))),(ak rfl (ak rfl (ak rfl (ak rfl (ak rfl (rfl)))))),trivial⟩)) ?_
    refine uBi (.l 4) (.l 2) rfl rfl rfl rfl rfl ?_;refine uAl (s:=⟨[(2,_,_),(4,_,_),(5,_,_)],[(.l 2,_),(.l 4,_),(.l 5,_),(.o 0,_)],[(.b (.l 4) 1,_),(.b (.l 4) 2,_),(.b (.l 4) 3,_),(.b (.l 4) 4,_),(.b (.l 4) 5,_)],[]⟩) (uAj (⟨sx rfl,sx rfl,sx rfl,trivial⟩) (⟨sx rfl,sx rfl,sx rfl,sx rfl,trivial⟩) (⟨rfl,rfl,rfl,rfl,rfl,trivial⟩)) ?_;refine uAo ?_
    repeat (first | refine tR ?_ | refine bR ?_)
    refine uBr rfl ?_ ⟨⟨_,rfl,rfl⟩,trivial⟩ (by simp) rfl rfl rfl rfl rfl rfl
    rfl
   ·try simp only [nn,uAh,T.rows_len,Tk.rows_len] at hcv2
    refine uAd (uAb ?_);refine uAa rfl rfl rfl (uAk rfl rfl gU gU rfl) ?_;refine uAa rfl rfl rfl (uAe rfl gU) ?_;refine uAf ?_;refine uAn rfl (fun hcv3=>?_) (fun hcv3=>?_)
    ·try simp only [nn,uAh,T.rows_len,Tk.rows_len] at hcv3
     subst hcv3
     rw [uB7 hk hline (uIL l n 0 q)]
     refine uAd (uAb ?_);refine uAa rfl rfl rfl (uAm rfl gU rfl rfl rfl rfl rfl) ?_;refine uAx rfl rfl rfl rfl rfl rfl gU gU (up (uCR l q (by omega) hq1)) rfl ?_;refine uAa rfl rfl rfl (uAc rfl gU) ?_;refine uAa rfl rfl rfl (uAu rfl gU rfl) ?_;refine uAa rfl rfl rfl (uAu rfl gU rfl) ?_;refine uAa rfl rfl rfl (uAe rfl gU) ?_;refine uAt rfl (uAz rfl rfl rfl rfl rfl rfl rfl) ?_;refine uAf ?_;refine uAl (s:=⟨[(2,_,_),(3,_,_),(4,_,_),(5,_,_),(8,_,_)],[(.l 2,_),(.l 3,_),(.l 4,_),(.l 5,_),(.o 0,_)],[(.b (.l 2) 1,_),(.b (.l 2) 2,_),(.b (.l 2) 3,_),(.b (.l 2) 4,_),(.b (.l 2) 5,_)],[]⟩) (uAj (⟨sx rfl,sx rfl,sx rfl,sx rfl,sx rfl,trivial⟩) (⟨sx rfl,sx rfl,sx rfl,sx rfl,sx rfl,trivial⟩) (⟨rfl,rfl,rfl,rfl,rfl,trivial⟩)) ?_;refine uAb ?_;refine uAa rfl rfl rfl (uAg rfl gU rfl rfl) ?_;refine uAt rfl (uBv rfl rfl rfl rfl rfl rfl rfl) ?_;refine uAa rfl rfl rfl (uAc rfl gU) ?_;refine uAt rfl (uA3 rfl rfl rfl rfl rfl rfl rfl (by first | omega | (simp only [List.length_append,List.length_singleton,uAh]; omega)) (by first | omega | (simp only [List.length_append,List.length_singleton,uAh]; omega))) ?_;refine uAa rfl rfl rfl (uAg rfl gU rfl rfl) ?_;refine uAt rfl (uBu rfl rfl rfl rfl rfl rfl rfl) ?_
     refine uAf ?_;refine uAl (s:=⟨[(2,_,_),(3,_,_),(4,_,_),(5,_,_)],[(.l 2,_),(.l 3,_),(.l 4,_),(.l 5,_),(.o 0,_)],[(.b (.l 2) 1,_),(.b (.l 2) 2,_),(.b (.l 2) 3,_),(.b (.l 2) 4,_),(.b (.l 2) 5,_)],[]⟩) (uAj (⟨sx rfl,sx rfl,sx rfl,sx rfl,trivial⟩) (⟨sx rfl,sx rfl,sx rfl,sx rfl,sx rfl,trivial⟩) (⟨rfl,rfl,rfl,rfl,rfl,trivial⟩)) ?_;refine uAl (s:=⟨[(2,_,_),(3,_,_),(4,_,_),(5,_,_)],[(.l 2,_),(.l 3,_),(.l 4,_),(.l 5,_),(.o 0,_)],[(.b (.l 2) 1,_),(.b (.l 2) 2,_),(.b (.l 2) 3,_),(.b (.l 2) 4,_),(.b (.l 2) 5,_)],[]⟩) (uAj (⟨sx rfl,sx rfl,sx rfl,sx rfl,trivial⟩) (⟨sx rfl,sx rfl,sx rfl,sx rfl,sx rfl,trivial⟩) (⟨rfl,rfl,rfl,rfl,rfl,trivial⟩)) ?_;refine uBb (.l 2) rfl (fun w1 w2 w3 w4 w5=>?_);refine uAl (s:=⟨[(2,_,_),(3,_,_),(4,_,_),(5,_,_)],[(.l 2,_),(.l 3,_),(.l 4,_),(.l 5,_),(.o 0,_)],[(.b (.l 2) 1,_),(.b (.l 2) 2,_),(.b (.l 2) 3,_),(.b (.l 2) 4,_),(.b (.l 2) 5,_)],[]⟩) (uAj (⟨sx rfl,sx rfl,sx rfl,sx rfl,trivial⟩) (⟨sx rfl,sx rfl,sx rfl,sx rfl,sx rfl,trivial⟩) (⟨rfl,rfl,rfl,rfl,rfl,trivial⟩)) ?_;refine uAd ?_;refine awp_drawn' (by kernel_rfl) ?_;refine uAD rfl rfl rfl rfl rfl rfl rfl gU rfl rfl rfl rfl rfl ?_;refine uAD rfl rfl rfl rfl rfl rfl rfl gU rfl rfl rfl rfl rfl ?_
     refine uAR rfl rfl rfl rfl rfl rfl rfl gU gU (up (uAV l _ _ (by omega) (le3 hl (by first | assumption | (dsimp only; first | assumption | exact hq4 _ | exact hq5 _))))) rfl ?_;refine uAS rfl rfl rfl rfl rfl rfl rfl rfl rfl rfl rfl rfl ?_;refine uAS rfl rfl rfl rfl rfl rfl rfl rfl rfl rfl rfl rfl ?_;refine uA1 (by kernel_rfl) ?_;refine uAl (s:=⟨[(2,_,_),(4,_,_),(5,_,_)],[(.l 2,_),(.l 4,_),(.l 5,_),(.o 0,_)],[(.b (.l 2) 1,_),(.b (.l 2) 2,_),(.b (.l 2) 3,_),(.b (.l 2) 4,_),(.b (.l 2) 5,_)],[]⟩) (uAj (⟨sx rfl,sx rfl,sx rfl,trivial⟩) (⟨sx rfl,sx rfl,sx rfl,sx rfl,trivial⟩) (⟨(ak rfl (ak rfl (ak rfl (ak rfl (ak rfl (rfl)))))),(ak rfl (ak rfl (ak rfl (ak rfl (ak rfl (rfl)))))),(ak rfl (ak rfl (ak rfl (ak rfl (ak rfl (rfl)))))),(ak rfl (ak rfl (ak rfl (ak rfl (ak rfl (rfl)))))),(ak rfl (ak rfl (ak rfl (ak rfl (ak rfl (rfl)))))),trivial⟩)) ?_;refine uBi (.l 4) (.l 2) rfl rfl rfl rfl rfl ?_;refine uAl (s:=⟨[(2,_,_),(4,_,_),(5,_,_)],[(.l 2,_),(.l 4,_),(.l 5,_),(.o 0,_)],[(.b (.l 4) 1,_),(.b (.l 4) 2,_),(.b (.l 4) 3,_),(.b (.l 4) 4,_),(.b (.l 4) 5,_)],[]⟩) (uAj (⟨sx rfl,sx rfl,sx rfl,trivial⟩) (⟨sx rfl,sx rfl,sx rfl,sx rfl,trivial⟩) (⟨rfl,rfl,rfl,rfl,rfl,trivial⟩)) ?_;refine uAo ?_
     repeat (first | refine tR ?_ | refine bR ?_)
     refine uBr rfl ?_ ⟨⟨_,rfl,rfl⟩,trivial⟩ (by simp) rfl rfl rfl rfl rfl rfl;exact congrArg (fun z=>X.tup [.agg (narC n.name (strR n.roles) (Fs.rows n.fresh) z (Sp.rows n.steps) (Gl.rows n.goals)), .agg (pbx l (uAP l [59] (uBt l q).2))]) (uEb _ _).symm
    ·try simp only [nn,uAh,T.rows_len,Tk.rows_len] at hcv3
     refine uAd (uAb ?_);refine uAa rfl rfl rfl (uAk rfl rfl gU gU rfl) ?_;refine uAa rfl rfl rfl (uAe rfl gU) ?_;refine uAf ?_;refine uAn rfl (fun hcv4=>?_) (fun hcv4=>?_)
     ·try simp only [nn,uAh,T.rows_len,Tk.rows_len] at hcv4
      subst hcv4
      rw [uB7 hk hline (uIH l n 0 q)]
      refine uAl (s:=⟨[(2,_,_),(3,_,_),(4,_,_),(5,_,_),(6,_,_)],[(.l 2,_),(.l 3,_),(.l 4,_),(.l 5,_),(.o 0,_)],[(.b (.l 2) 1,_),(.b (.l 2) 2,_),(.b (.l 2) 3,_),(.b (.l 2) 4,_),(.b (.l 2) 5,_)],[]⟩) (uAj (⟨sx rfl,sx rfl,sx rfl,sx rfl,sx rfl,trivial⟩) (⟨sx rfl,sx rfl,sx rfl,sx rfl,sx rfl,trivial⟩) (⟨rfl,rfl,rfl,rfl,rfl,trivial⟩)) ?_;refine uBb (.l 2) rfl (fun w1 w2 w3 w4 w5=>?_);refine uAl (s:=⟨[(2,_,_),(3,_,_),(4,_,_),(5,_,_),(6,_,_)],[(.l 2,_),(.l 3,_),(.l 4,_),(.l 5,_),(.o 0,_)],[(.b (.l 2) 1,_),(.b (.l 2) 2,_),(.b (.l 2) 3,_),(.b (.l 2) 4,_),(.b (.l 2) 5,_)],[]⟩) (uAj (⟨sx rfl,sx rfl,sx rfl,sx rfl,sx rfl,trivial⟩) (⟨sx rfl,sx rfl,sx rfl,sx rfl,sx rfl,trivial⟩) (⟨rfl,rfl,rfl,rfl,rfl,trivial⟩)) ?_;refine uAb ?_;refine uAa rfl rfl rfl (uAm rfl gU rfl rfl rfl rfl rfl) ?_;refine uAa rfl rfl rfl (uAm rfl gU rfl rfl rfl rfl rfl) ?_;refine uAa rfl rfl rfl (uAc rfl gU) ?_;refine uDt (.l 2) (.l 3) osR rfl rfl rfl rfl rfl rfl ⟨rfl,rfl,rfl,rfl,rfl,rfl⟩ ⟨rfl,rfl,rfl,rfl,rfl,rfl⟩ rfl rfl rfl rfl rfl rfl rfl rfl rfl ⟨rfl,rfl⟩ rfl (uEL l q n (0) w1 w2 w3 w4 w5 hl hq1 (by omega)) rfl rfl rfl rfl rfl rfl rfl rfl ?_;refine uAf ?_;refine uAl (s:=⟨[(2,_,_),(3,_,_),(4,_,_),(5,_,_)],[(.l 2,_),(.l 3,_),(.l 4,_),(.l 5,_),(.o 0,_)],[(.b (.l 2) 1,_),(.b (.l 2) 2,_),(.b (.l 2) 3,_),(.b (.l 2) 4,_),(.b (.l 2) 5,_)],[]⟩) (uAj (⟨sx rfl,sx rfl,sx rfl,sx rfl,trivial⟩) (⟨sx rfl,sx rfl,sx rfl,sx rfl,sx rfl,trivial⟩) (⟨rfl,rfl,rfl,rfl,rfl,trivial⟩)) ?_
      refine uAl (s:=⟨[(2,_,_),(3,_,_),(4,_,_),(5,_,_)],[(.l 2,_),(.l 3,_),(.l 4,_),(.l 5,_),(.o 0,_)],[(.b (.l 2) 1,_),(.b (.l 2) 2,_),(.b (.l 2) 3,_),(.b (.l 2) 4,_),(.b (.l 2) 5,_)],[]⟩) (uAj (⟨sx rfl,sx rfl,sx rfl,sx rfl,trivial⟩) (⟨sx rfl,sx rfl,sx rfl,sx rfl,sx rfl,trivial⟩) (⟨rfl,rfl,rfl,rfl,rfl,trivial⟩)) ?_;refine uBb (.l 2) rfl (fun w1 w2 w3 w4 w5=>?_);refine uAl (s:=⟨[(2,_,_),(3,_,_),(4,_,_),(5,_,_)],[(.l 2,_),(.l 3,_),(.l 4,_),(.l 5,_),(.o 0,_)],[(.b (.l 2) 1,_),(.b (.l 2) 2,_),(.b (.l 2) 3,_),(.b (.l 2) 4,_),(.b (.l 2) 5,_)],[]⟩) (uAj (⟨sx rfl,sx rfl,sx rfl,sx rfl,trivial⟩) (⟨sx rfl,sx rfl,sx rfl,sx rfl,sx rfl,trivial⟩) (⟨rfl,rfl,rfl,rfl,rfl,trivial⟩)) ?_;refine uAd ?_;refine awp_drawn' (by kernel_rfl) ?_;refine uAD rfl rfl rfl rfl rfl rfl rfl gU rfl rfl rfl rfl rfl ?_;refine uAD rfl rfl rfl rfl rfl rfl rfl gU rfl rfl rfl rfl rfl ?_;refine uAR rfl rfl rfl rfl rfl rfl rfl gU gU (up (uAV l _ _ (by omega) (le3 hl (by first | assumption | (dsimp only; first | assumption | exact hq4 _ | exact hq5 _))))) rfl ?_;refine uAS rfl rfl rfl rfl rfl rfl rfl rfl rfl rfl rfl rfl ?_;refine uAS rfl rfl rfl rfl rfl rfl rfl rfl rfl rfl rfl rfl ?_;refine uA1 (by kernel_rfl) ?_;refine uAl (s:=⟨[(2,_,_),(4,_,_),(5,_,_)],[(.l 2,_),(.l 4,_),(.l 5,_),(.o 0,_)],[(.b (.l 2) 1,_),(.b (.l 2) 2,_),(.b (.l 2) 3,_),(.b (.l 2) 4,_),(.b (.l 2) 5,_)],[]⟩) (uAj (⟨sx rfl,sx rfl,sx rfl,trivial⟩) (⟨sx rfl,sx rfl,sx rfl,sx rfl,trivial⟩) (⟨(ak rfl (ak rfl (ak rfl (ak rfl (ak rfl (rfl)))))),(ak rfl (ak rfl (ak rfl (ak rfl (ak rfl (rfl)))))),(ak rfl (ak rfl (ak rfl (ak rfl (ak rfl (rfl)))))),(ak rfl (ak rfl (ak rfl (ak rfl (ak rfl (rfl)))))),(ak rfl (ak rfl (ak rfl (ak rfl (ak rfl (rfl)))))),trivial⟩)) ?_
      refine uBi (.l 4) (.l 2) rfl rfl rfl rfl rfl ?_;refine uAl (s:=⟨[(2,_,_),(4,_,_),(5,_,_)],[(.l 2,_),(.l 4,_),(.l 5,_),(.o 0,_)],[(.b (.l 4) 1,_),(.b (.l 4) 2,_),(.b (.l 4) 3,_),(.b (.l 4) 4,_),(.b (.l 4) 5,_)],[]⟩) (uAj (⟨sx rfl,sx rfl,sx rfl,trivial⟩) (⟨sx rfl,sx rfl,sx rfl,sx rfl,trivial⟩) (⟨rfl,rfl,rfl,rfl,rfl,trivial⟩)) ?_;refine uAo ?_
      repeat (first | refine tR ?_ | refine bR ?_)
      refine uBr rfl ?_ ⟨⟨_,rfl,rfl⟩,trivial⟩ (by simp) rfl rfl rfl rfl rfl rfl
      rfl
     ·try simp only [nn,uAh,T.rows_len,Tk.rows_len] at hcv4
      refine uAd (uAb ?_);refine uAa rfl rfl rfl (uAk rfl rfl gU gU rfl) ?_;refine uAa rfl rfl rfl (uAe rfl gU) ?_;refine uAf ?_;refine uAl (s:=⟨[(2,_,_),(3,_,_),(4,_,_),(5,_,_),(6,_,_),(70,_,_)],[(.l 2,_),(.l 3,_),(.l 4,_),(.l 5,_),(.o 0,_)],[(.b (.l 2) 1,_),(.b (.l 2) 2,_),(.b (.l 2) 3,_),(.b (.l 2) 4,_),(.b (.l 2) 5,_)],[]⟩) (uAj (⟨sx rfl,sx rfl,sx rfl,sx rfl,sx rfl,sx rfl,trivial⟩) (⟨sx rfl,sx rfl,sx rfl,sx rfl,sx rfl,trivial⟩) (⟨rfl,rfl,rfl,rfl,rfl,trivial⟩)) ?_;refine uAn rfl (fun hcv5=>?_) (fun hcv5=>?_)
      ·try simp only [nn,uAh,T.rows_len,Tk.rows_len] at hcv5
       subst hcv5
       rw [uB7 hk hline (uIv l n 0 q)]
       refine uAl (s:=⟨[(2,_,_),(3,_,_),(4,_,_),(5,_,_),(6,_,_)],[(.l 2,_),(.l 3,_),(.l 4,_),(.l 5,_),(.o 0,_)],[(.b (.l 2) 1,_),(.b (.l 2) 2,_),(.b (.l 2) 3,_),(.b (.l 2) 4,_),(.b (.l 2) 5,_)],[]⟩) (uAj (⟨sx rfl,sx rfl,sx rfl,sx rfl,sx rfl,trivial⟩) (⟨sx rfl,sx rfl,sx rfl,sx rfl,sx rfl,trivial⟩) (⟨rfl,rfl,rfl,rfl,rfl,trivial⟩)) ?_;refine uBb (.l 2) rfl (fun w1 w2 w3 w4 w5=>?_);refine uAl (s:=⟨[(2,_,_),(3,_,_),(4,_,_),(5,_,_),(6,_,_)],[(.l 2,_),(.l 3,_),(.l 4,_),(.l 5,_),(.o 0,_)],[(.b (.l 2) 1,_),(.b (.l 2) 2,_),(.b (.l 2) 3,_),(.b (.l 2) 4,_),(.b (.l 2) 5,_)],[]⟩) (uAj (⟨sx rfl,sx rfl,sx rfl,sx rfl,sx rfl,trivial⟩) (⟨sx rfl,sx rfl,sx rfl,sx rfl,sx rfl,trivial⟩) (⟨rfl,rfl,rfl,rfl,rfl,trivial⟩)) ?_;refine uAb ?_;refine uAa rfl rfl rfl (uAm rfl gU rfl rfl rfl rfl rfl) ?_;refine uAa rfl rfl rfl (uAm rfl gU rfl rfl rfl rfl rfl) ?_;refine uAa rfl rfl rfl (uAc rfl gU) ?_;refine uDt (.l 2) (.l 3) osR rfl rfl rfl rfl rfl rfl ⟨rfl,rfl,rfl,rfl,rfl,rfl⟩ ⟨rfl,rfl,rfl,rfl,rfl,rfl⟩ rfl rfl rfl rfl rfl rfl rfl rfl rfl ⟨rfl,rfl⟩ rfl (uEI l q n (0) w1 w2 w3 w4 w5 hl hq1 (by omega)) rfl rfl rfl rfl rfl rfl rfl rfl ?_;refine uAf ?_;refine uAl (s:=⟨[(2,_,_),(3,_,_),(4,_,_),(5,_,_)],[(.l 2,_),(.l 3,_),(.l 4,_),(.l 5,_),(.o 0,_)],[(.b (.l 2) 1,_),(.b (.l 2) 2,_),(.b (.l 2) 3,_),(.b (.l 2) 4,_),(.b (.l 2) 5,_)],[]⟩) (uAj (⟨sx rfl,sx rfl,sx rfl,sx rfl,trivial⟩) (⟨sx rfl,sx rfl,sx rfl,sx rfl,sx rfl,trivial⟩) (⟨rfl,rfl,rfl,rfl,rfl,trivial⟩)) ?_
       refine uAl (s:=⟨[(2,_,_),(3,_,_),(4,_,_),(5,_,_)],[(.l 2,_),(.l 3,_),(.l 4,_),(.l 5,_),(.o 0,_)],[(.b (.l 2) 1,_),(.b (.l 2) 2,_),(.b (.l 2) 3,_),(.b (.l 2) 4,_),(.b (.l 2) 5,_)],[]⟩) (uAj (⟨sx rfl,sx rfl,sx rfl,sx rfl,trivial⟩) (⟨sx rfl,sx rfl,sx rfl,sx rfl,sx rfl,trivial⟩) (⟨rfl,rfl,rfl,rfl,rfl,trivial⟩)) ?_;refine uBb (.l 2) rfl (fun w1 w2 w3 w4 w5=>?_);refine uAl (s:=⟨[(2,_,_),(3,_,_),(4,_,_),(5,_,_)],[(.l 2,_),(.l 3,_),(.l 4,_),(.l 5,_),(.o 0,_)],[(.b (.l 2) 1,_),(.b (.l 2) 2,_),(.b (.l 2) 3,_),(.b (.l 2) 4,_),(.b (.l 2) 5,_)],[]⟩) (uAj (⟨sx rfl,sx rfl,sx rfl,sx rfl,trivial⟩) (⟨sx rfl,sx rfl,sx rfl,sx rfl,sx rfl,trivial⟩) (⟨rfl,rfl,rfl,rfl,rfl,trivial⟩)) ?_;refine uAd ?_;refine awp_drawn' (by kernel_rfl) ?_;refine uAD rfl rfl rfl rfl rfl rfl rfl gU rfl rfl rfl rfl rfl ?_;refine uAD rfl rfl rfl rfl rfl rfl rfl gU rfl rfl rfl rfl rfl ?_;refine uAR rfl rfl rfl rfl rfl rfl rfl gU gU (up (uAV l _ _ (by omega) (le3 hl (by first | assumption | (dsimp only; first | assumption | exact hq4 _ | exact hq5 _))))) rfl ?_;refine uAS rfl rfl rfl rfl rfl rfl rfl rfl rfl rfl rfl rfl ?_;refine uAS rfl rfl rfl rfl rfl rfl rfl rfl rfl rfl rfl rfl ?_;refine uA1 (by kernel_rfl) ?_;refine uAl (s:=⟨[(2,_,_),(4,_,_),(5,_,_)],[(.l 2,_),(.l 4,_),(.l 5,_),(.o 0,_)],[(.b (.l 2) 1,_),(.b (.l 2) 2,_),(.b (.l 2) 3,_),(.b (.l 2) 4,_),(.b (.l 2) 5,_)],[]⟩) (uAj (⟨sx rfl,sx rfl,sx rfl,trivial⟩) (⟨sx rfl,sx rfl,sx rfl,sx rfl,trivial⟩) (⟨(ak rfl (ak rfl (ak rfl (ak rfl (ak rfl (rfl)))))),(ak rfl (ak rfl (ak rfl (ak rfl (ak rfl (rfl)))))),(ak rfl (ak rfl (ak rfl (ak rfl (ak rfl (rfl)))))),(ak rfl (ak rfl (ak rfl (ak rfl (ak rfl (rfl)))))),(ak rfl (ak rfl (ak rfl (ak rfl (ak rfl (rfl)))))),trivial⟩)) ?_
       refine uBi (.l 4) (.l 2) rfl rfl rfl rfl rfl ?_;refine uAl (s:=⟨[(2,_,_),(4,_,_),(5,_,_)],[(.l 2,_),(.l 4,_),(.l 5,_),(.o 0,_)],[(.b (.l 4) 1,_),(.b (.l 4) 2,_),(.b (.l 4) 3,_),(.b (.l 4) 4,_),(.b (.l 4) 5,_)],[]⟩) (uAj (⟨sx rfl,sx rfl,sx rfl,trivial⟩) (⟨sx rfl,sx rfl,sx rfl,sx rfl,trivial⟩) (⟨rfl,rfl,rfl,rfl,rfl,trivial⟩)) ?_;refine uAo ?_
       repeat (first | refine tR ?_ | refine bR ?_)
       refine uBr rfl ?_ ⟨⟨_,rfl,rfl⟩,trivial⟩ (by simp) rfl rfl rfl rfl rfl rfl
       rfl
      ·try simp only [nn,uAh,T.rows_len,Tk.rows_len] at hcv5
       rw [uB7 hk hline (uJb l n 0 q hcv1 hcv2 hcv3 hcv4 hcv5)]
       refine uAp ?_;refine uAl (s:=⟨[(2,_,_),(3,_,_),(4,_,_),(5,_,_)],[(.l 2,_),(.l 3,_),(.l 4,_),(.l 5,_),(.o 0,_)],[(.b (.l 2) 1,_),(.b (.l 2) 2,_),(.b (.l 2) 3,_),(.b (.l 2) 4,_),(.b (.l 2) 5,_)],[]⟩) (uAj (⟨sx rfl,sx rfl,sx rfl,sx rfl,trivial⟩) (⟨sx rfl,sx rfl,sx rfl,sx rfl,sx rfl,trivial⟩) (⟨rfl,rfl,rfl,rfl,rfl,trivial⟩)) ?_;refine uBb (.l 2) rfl (fun w1 w2 w3 w4 w5=>?_);refine uAl (s:=⟨[(2,_,_),(3,_,_),(4,_,_),(5,_,_)],[(.l 2,_),(.l 3,_),(.l 4,_),(.l 5,_),(.o 0,_)],[(.b (.l 2) 1,_),(.b (.l 2) 2,_),(.b (.l 2) 3,_),(.b (.l 2) 4,_),(.b (.l 2) 5,_)],[]⟩) (uAj (⟨sx rfl,sx rfl,sx rfl,sx rfl,trivial⟩) (⟨sx rfl,sx rfl,sx rfl,sx rfl,sx rfl,trivial⟩) (⟨rfl,rfl,rfl,rfl,rfl,trivial⟩)) ?_;refine uAd ?_;refine awp_drawn' (by kernel_rfl) ?_;refine uAD rfl rfl rfl rfl rfl rfl rfl gU rfl rfl rfl rfl rfl ?_;refine uAD rfl rfl rfl rfl rfl rfl rfl gU rfl rfl rfl rfl rfl ?_;refine uAR rfl rfl rfl rfl rfl rfl rfl gU gU (up (uAV l _ _ (by omega) (le3 hl (by first | assumption | (dsimp only; first | assumption | exact hq4 _ | exact hq5 _))))) rfl ?_;refine uAS rfl rfl rfl rfl rfl rfl rfl rfl rfl rfl rfl rfl ?_;refine uAS rfl rfl rfl rfl rfl rfl rfl rfl rfl rfl rfl rfl ?_;refine uA1 (by kernel_rfl) ?_;refine uAl (s:=⟨[(2,_,_),(4,_,_),(5,_,_)],[(.l 2,_),(.l 4,_),(.l 5,_),(.o 0,_)],[(.b (.l 2) 1,_),(.b (.l 2) 2,_),(.b (.l 2) 3,_),(.b (.l 2) 4,_),(.b (.l 2) 5,_)],[]⟩) (uAj (⟨sx rfl,sx rfl,sx rfl,trivial⟩) (⟨sx rfl,sx rfl,sx rfl,sx rfl,trivial⟩) (⟨(ak rfl (ak rfl (ak rfl (ak rfl (ak rfl (rfl)))))),(ak rfl (ak rfl (ak rfl (ak rfl (ak rfl (rfl)))))),(ak rfl (ak rfl (ak rfl (ak rfl (ak rfl (rfl)))))),(ak rfl (ak rfl (ak rfl (ak rfl (ak rfl (rfl)))))),(ak rfl (ak rfl (ak rfl (ak rfl (ak rfl (rfl)))))),trivial⟩)) ?_
       refine uBi (.l 4) (.l 2) rfl rfl rfl rfl rfl ?_;refine uAl (s:=⟨[(2,_,_),(4,_,_),(5,_,_)],[(.l 2,_),(.l 4,_),(.l 5,_),(.o 0,_)],[(.b (.l 4) 1,_),(.b (.l 4) 2,_),(.b (.l 4) 3,_),(.b (.l 4) 4,_),(.b (.l 4) 5,_)],[]⟩) (uAj (⟨sx rfl,sx rfl,sx rfl,trivial⟩) (⟨sx rfl,sx rfl,sx rfl,sx rfl,trivial⟩) (⟨rfl,rfl,rfl,rfl,rfl,trivial⟩)) ?_;refine uAo ?_
       repeat (first | refine tR ?_ | refine bR ?_)
       refine uBr rfl ?_ ⟨⟨_,rfl,rfl⟩,trivial⟩ (by simp) rfl rfl rfl rfl rfl rfl
       rfl
end Go.Proofs.YteidahabkfgfjaaGreat
namespace Go.Proofs.YteidahabkfgfjaaGreat
open Go Go.Abs
abbrev xnie (r : Nar × Int × Int) : X:=.tup [.agg r.1.cells, .c (.i .i64 r.2.1), .c (.i .i64 r.2.2)]
def uIo (l : List Tk) : Nar × Int × Int :=
 if (endE l (uDQ l).2).2≠0 then (nar0,(endE l (uDQ l).2).1,(endE l (uDQ l).2).2)
 else if narE uAK (uDQ l).1≠0 then (nar0,0,narE uAK (uDQ l).1)
 else ((uDQ l).1,0,0)
def uDG (s : List UInt8) : Nar × Int × Int:=if (tokP s).2.2≠0 then (nar0,(tokP s).2.1,(tokP s).2.2) else uIo (tokP s).1
theorem uLO (l : List Tk) (n : Nar) (p : PS) : p.at'≤(uDL l n p).2.at':=Nat.le_trans (uA5 l uBy p).1 (Nat.le_trans (uGE l n (uCk l p) (uAw l uBy p).1 (uAw l uBy p).2).1 (uBs l [59] _).1)
end Go.Proofs.YteidahabkfgfjaaGreat
namespace Go.Proofs.YteidahabkfgfjaaGreat
open Go Go.Abs
theorem uLS (s : List UInt8) (hs : s.length≤9223372036854775807) : Ctr sys 103 [xs s] [] (uOf (tokP s)) none []:=by rw [← uM6 s]; exact uFn s hs
theorem uJT {l : List Tk} {m : Nat} {n : Nar} {p : PS} (h : p.bad=true∨symQ l p [125]=true) : uCt l m n p=(n,p):=by
 cases m with
 | zero=>rfl
 | succ m =>
  rw [uCt]
  split
  ·rfl
  ·rename_i hb
   rw [if_pos (h.resolve_left hb)]
theorem uL1 {l : List Tk} {m : Nat} {n : Nar} {p : PS} (h : p.bad=false) (hq : symQ l p [125]=false) : uCt l (m + 1) n p=uCt l m (uDO l n p).1 (uDO l n p).2:=by
 rw [uCt,if_neg (by rw [h]; simp),if_neg (by rw [hq]; simp)]
theorem uNc {l : List Tk} {n : Nar} {p : PS} (h : (n,p)=uCt l (l.length + 2) { nar0 with name:=(uAw l [] (chR l uCs ⟨0,false⟩).2).1 } (uAP l [123] (uAw l [] (chR l uCs ⟨0,false⟩).2).2)) : uJd l=(n,uAP l [125] p):=by
 unfold uJd; dsimp only; rw [← h]
set_option maxHeartbeats 8000000 in
theorem uHX (s : List UInt8) (hs : s.length≤100000) : Ctr sysO 69 [xs s] [] (xnie (uDG s)) none []:=by
 have hcnt:=uKc s
 have htl:=Tk.rows_len (tokP s).1
 obtain ⟨l,hl⟩ : ∃ l,(tokP s).1=l:=⟨_,rfl⟩
 have hll : l.length≤100000:=by rw [← hl]; omega
 have a1:=(uIc l uCs ⟨0,false⟩).2 (Nat.zero_le _)
 have a2:=(uA5 l [] (chR l uCs ⟨0,false⟩).2).2 a1
 have a3:=(uBs l [123] (uAw l [] (chR l uCs ⟨0,false⟩).2).2).2 a2
 have hn1:=uCY l ⟨0,false⟩ uCs (by omega) (by dsimp only; omega)
 have hn2:=uBz l (chR l uCs ⟨0,false⟩).2 (by omega) (by omega)
 have hn3:=uAV l (uAw l [] (chR l uCs ⟨0,false⟩).2).2 [123] (by omega) (by omega)
 obtain ⟨h1,h2⟩:=uMm l
 refine uAA Tryz.func69 rfl rfl rfl rfl rfl rfl ?_;refine uAd (uAb ?_);refine uAt rfl (uAM rfl rfl rfl) ?_;refine uAa rfl rfl rfl (uAe rfl gU) ?_;refine uAa rfl rfl rfl (uAe rfl gU) ?_;refine uAf ?_;refine uAd (uAb ?_);refine uAa rfl rfl rfl (uAc rfl gU) ?_;refine uAx rfl rfl rfl rfl rfl rfl gU gU (up (uLS _ (by omega))) rfl ?_;refine uAa rfl rfl rfl (uAc rfl gU) ?_;refine uAa rfl rfl rfl (uAu rfl gU rfl) ?_;refine uAa rfl rfl rfl (uAu rfl gU rfl) ?_;refine uAa rfl rfl rfl (uAu rfl gU rfl) ?_;refine uAa rfl rfl rfl (uAe rfl gU) ?_;refine uAa rfl rfl rfl (uAe rfl gU) ?_;refine uAa rfl rfl rfl (uAe rfl gU) ?_;refine uAf ?_;refine uAl (s:=⟨[(2,_,_),(5,_,_),(6,_,_),(7,_,_)],[(.l 2,_)],[],[]⟩) (uAj (⟨sx rfl,sx rfl,sx rfl,sx rfl,trivial⟩) (⟨sx rfl,trivial⟩) trivial) ?_;refine uAd ?_;refine uAd (uAb ?_);refine uAa rfl rfl rfl (uAc rfl gU) ?_;refine uAa rfl rfl rfl (uAk rfl rfl gU gU rfl) ?_;refine uAf ?_;refine uAn rfl (fun hc=>?_) (fun hc=>?_)
 ·try simp only [nn,uAh,T.rows_len,Tk.rows_len] at hc
  refine uAd (uAb ?_);refine uAa rfl rfl rfl (uBc rfl Tryz.underlying27 rfl gU) ?_;refine uAa rfl rfl rfl (uAc rfl gU) ?_;refine uAa rfl rfl rfl (uAc rfl gU) ?_;refine uAt rfl (uAz rfl rfl rfl rfl rfl rfl rfl) ?_;refine uAa rfl rfl rfl (uAe rfl gU) ?_;refine uAa rfl rfl rfl (uAe rfl gU) ?_;refine uAf ?_;refine uAo ?_
  repeat (first | refine tR ?_ | refine bR ?_)
  refine uAs rfl ?_ trivial
  (rw [uDG,if_pos hc]; rfl)
 ·try simp only [nn,uAh,T.rows_len,Tk.rows_len] at hc
  have hpe : uDG s=uIo l:=by rw [uDG,if_neg (by simpa using hc),hl]
  rw [hpe]
  rw [hl]
  refine uAp ?_;refine uAd (uAb ?_);refine uAt rfl (uF6 rfl rfl rfl rfl) ?_;refine uAf ?_;refine uAd (uAb ?_);refine uAa rfl rfl rfl (uAc rfl gU) ?_;refine uAa rfl rfl rfl (uBc rfl Tryz.underlying119 rfl gU) ?_;refine uAU (xs:=[_,_]) rfl rfl rfl rfl rfl rfl rfl rfl rfl gU rfl ?_;refine uAx rfl rfl rfl rfl rfl rfl gU gU (up hn1) rfl ?_;refine uAa rfl rfl rfl (uAc rfl gU) ?_;refine uAa rfl rfl rfl (uAu rfl gU rfl) ?_;refine uAa rfl rfl rfl (uAu rfl gU rfl) ?_;refine uAt rfl (uAM rfl rfl rfl) ?_;refine uAa rfl rfl rfl (uAe rfl gU) ?_;refine uA8 (s:=⟨[(2,_,_),(5,_,_),(8,_,_),(10,_,_),(29,_,_)],[(.l 10,_),(.l 2,_),(.l 8,_)],[],[]⟩) (uAj (⟨sx rfl,sx rfl,sx rfl,sx rfl,sx rfl,trivial⟩) (⟨sx rfl,sx rfl,sx rfl,trivial⟩) trivial) ?_;refine uAt rfl (uAz rfl rfl rfl rfl rfl rfl rfl) ?_;refine uAf ?_;refine uAd (uAb ?_);refine uAa rfl rfl rfl (uAm rfl gU rfl rfl rfl rfl rfl) ?_;refine uAx rfl rfl rfl rfl rfl rfl gU gU (up hn2) rfl ?_;refine uAa rfl rfl rfl (uAc rfl gU) ?_;refine uAa rfl rfl rfl (uAu rfl gU rfl) ?_;refine uAa rfl rfl rfl (uAu rfl gU rfl) ?_;refine uAa rfl rfl rfl (uAg rfl gU rfl rfl) ?_;refine uAt rfl (uAz rfl rfl rfl rfl rfl rfl rfl) ?_;refine uAt rfl (uAz rfl rfl rfl rfl rfl rfl rfl) ?_
  refine uAf ?_;refine uAl (s:=⟨[(2,_,_),(5,_,_),(8,_,_),(10,_,_)],[(.l 10,_),(.l 2,_),(.l 8,_)],[],[]⟩) (uAj (⟨sx rfl,sx rfl,sx rfl,sx rfl,trivial⟩) (⟨sx rfl,sx rfl,sx rfl,trivial⟩) trivial) ?_;refine uAd (uAb ?_);refine uAa rfl rfl rfl (uAm rfl gU rfl rfl rfl rfl rfl) ?_;refine uAx rfl rfl rfl rfl rfl rfl gU gU (up hn3) rfl ?_;refine uAt rfl (uAz rfl rfl rfl rfl rfl rfl rfl) ?_;refine uAf ?_;refine uAd ?_;refine uAv ?_;refine uEu (.l 8) 1 1 rfl rfl rfl ?_;refine uEu (.l 8) 2 3 rfl rfl rfl ?_;refine uEu (.l 8) 3 1 rfl rfl rfl ?_;refine uEu (.l 8) 4 7 rfl rfl rfl ?_;refine uEu (.l 8) 5 5 rfl rfl rfl ?_;refine uAW (ι:=PS × Nar) { t:=[(2,_,_),(5,_,_),(8,_,_),(10,_,_)],bx:=[(.l 2,_)],ow:=[(.b (.l 8) 1,_),(.b (.l 8) 2,_),(.b (.l 8) 3,_),(.b (.l 8) 4,_),(.b (.l 8) 5,_)] } (fun q=>[]) (fun q=>[((.l 10),pbx l q.1),((.l 8),q.2.cells)]) (fun q=>q.1.at'≤l.length∧(q.1.bad=false→q.2.Le q.1.at'∧q.2.Sm (2 * l.length + 2)) ∧ ∃ m,(q.1.bad=true∨l.length < m + q.1.at')∧uCt l m q.2 q.1=uCt l (l.length + 2) { nar0 with name:=(uAw l [] (chR l uCs ⟨0,false⟩).2).1 } (uAP l [123] (uAw l [] (chR l uCs ⟨0,false⟩).2).2)) (fun q=>(l.length - q.1.at') + (if q.1.bad=true then 0 else 1)) ((uAP l [123] (uAw l [] (chR l uCs ⟨0,false⟩).2).2,{ nar0 with name:=(uAw l [] (chR l uCs ⟨0,false⟩).2).1 })) (⟨a3,fun _=>⟨⟨Nat.zero_le _,Nat.zero_le _,Nat.zero_le _,Nat.zero_le _,Nat.zero_le _⟩,⟨fun s hs=>by simp [nar0] at hs,fun s hs=>by simp [nar0] at hs⟩⟩,l.length + 2, .inr (by omega),rfl⟩) (uAj (⟨sx rfl,sx rfl,sx rfl,sx rfl,trivial⟩) (⟨sx rfl,sx rfl,sx rfl,trivial⟩) (⟨rfl,rfl,rfl,rfl,rfl,trivial⟩)) ?_
  intro q hok
  dsimp only [List.cons_append,List.nil_append] at *
  obtain ⟨q,n⟩:=q
  dsimp only at hok ⊢
  obtain ⟨hq,hln,m,hm,hi⟩:=hok
  refine uAd ?_;refine uAd (uAb ?_);refine uAa rfl rfl rfl (uAg rfl gU rfl rfl) ?_;refine uAa rfl rfl rfl (uAi rfl gU rfl rfl rfl rfl) ?_;refine uAa rfl rfl rfl (uAX rfl gU) ?_;refine uAa rfl rfl rfl (uAc rfl gU) ?_;refine uAa rfl rfl rfl (uAm rfl gU rfl rfl rfl rfl rfl) ?_;refine uAx rfl rfl rfl rfl rfl rfl gU (fun hh=>gA ((fun hh=>hh) hh) (gA rfl (rfl))) (up (uCf l q _ (by omega) (by omega))) rfl ?_;refine uAa rfl rfl rfl (uAX rfl (fun hh=>hh)) ?_;refine uAa rfl rfl rfl (uAH rfl rfl gU (fun _ hi=>gP rfl hi)) ?_;refine uAf ?_;refine uAl (s:=⟨[(2,_,_),(5,_,_),(8,_,_),(10,_,_),(45,_,_)],[(.l 10,_),(.l 2,_),(.l 8,_)],[(.b (.l 8) 1,_),(.b (.l 8) 2,_),(.b (.l 8) 3,_),(.b (.l 8) 4,_),(.b (.l 8) 5,_)],[]⟩) (uAj (⟨sx rfl,sx rfl,sx rfl,sx rfl,sx rfl,trivial⟩) (⟨sx rfl,sx rfl,sx rfl,trivial⟩) (⟨rfl,rfl,rfl,rfl,rfl,trivial⟩)) ?_;refine uAn rfl (fun hc2=>?_) (fun hc2=>?_)
  ·try simp only [nn,uAh,T.rows_len,Tk.rows_len] at hc2
   obtain ⟨hb,hz⟩:=hc2
   obtain ⟨hle,hsm⟩:=hln hb
   have hm : l.length < m + q.at':=hm.resolve_left (by rw [hb]; simp)
   obtain ⟨m,rfl⟩ : ∃ j,m=j + 1:=⟨m - 1,by omega⟩
   rw [uL1 hb hz] at hi
   obtain ⟨i1,i2⟩:=uII l n q hq
   have i5:=uLO l n q
   have i3:=uMP (l:=l) (p:=q) hle
   have i4:=uNo (l:=l) (p:=q) hsm hq
   obtain ⟨e1,e2⟩:=uIA l n q
   rw [← e1] at i1 i2 i5 i3
   refine uAp ?_;refine uAv ?_;refine uAl (s:=⟨[(2,_,_),(5,_,_),(8,_,_),(10,_,_)],[(.l 10,_),(.l 2,_),(.l 8,_)],[(.b (.l 8) 1,_),(.b (.l 8) 2,_),(.b (.l 8) 3,_),(.b (.l 8) 4,_),(.b (.l 8) 5,_)],[]⟩) (uAj (⟨sx rfl,sx rfl,sx rfl,sx rfl,trivial⟩) (⟨sx rfl,sx rfl,sx rfl,trivial⟩) (⟨rfl,rfl,rfl,rfl,rfl,trivial⟩)) ?_;refine uBb (.l 8) rfl (fun w1 w2 w3 w4 w5=>?_);refine uAl (s:=⟨[(2,_,_),(5,_,_),(8,_,_),(10,_,_)],[(.l 10,_),(.l 2,_),(.l 8,_)],[(.b (.l 8) 1,_),(.b (.l 8) 2,_),(.b (.l 8) 3,_),(.b (.l 8) 4,_),(.b (.l 8) 5,_)],[]⟩) (uAj (⟨sx rfl,sx rfl,sx rfl,sx rfl,trivial⟩) (⟨sx rfl,sx rfl,sx rfl,trivial⟩) (⟨rfl,rfl,rfl,rfl,rfl,trivial⟩)) ?_;refine uAb ?_;refine uAa rfl rfl rfl (uAm rfl gU rfl rfl rfl rfl rfl) ?_;refine uAa rfl rfl rfl (uAm rfl gU rfl rfl rfl rfl rfl) ?_;refine uDt (.l 8) (.l 10) osR rfl rfl rfl rfl rfl rfl ⟨rfl,rfl,rfl,rfl,rfl,rfl⟩ ⟨rfl,rfl,rfl,rfl,rfl,rfl⟩ rfl rfl rfl rfl rfl rfl rfl rfl rfl ⟨rfl,rfl⟩ rfl (uKu l q n w1 w2 w3 w4 w5 (by omega) hq (hle.mono (by omega))) rfl rfl rfl rfl rfl rfl rfl rfl ?_;refine uAf ?_;refine ⟨((uDO l n q).2,(uDO l n q).1),?_,?_,uAj (⟨sx rfl,sx rfl,sx rfl,sx rfl,trivial⟩) (⟨⟨_,rfl,?_⟩,⟨⟨_,rfl,?_⟩,⟨sx rfl,trivial⟩⟩⟩) (⟨rfl,rfl,rfl,rfl,rfl,trivial⟩)⟩
   ·refine ⟨i1,fun hb2=>?_,m,?_,hi⟩
    ·dsimp only at hb2 ⊢
     have he:=e2 hb2
     rw [he]; exact ⟨i3,i4⟩
    ·cases hz2 : (uDO l n q).2.bad with
     | true=>exact .inl rfl
     | false=>exact .inr (by have := i2 hz2; dsimp only; omega)
   ·dsimp only
    rw [hb]
    cases hz2 : (uDO l n q).2.bad with
    | true=>simp; omega
    | false=>have := i2 hz2; simp; omega
   all_goals rfl
  ·try simp only [nn,uAh,T.rows_len,Tk.rows_len] at hc2
   have hst : q.bad=true∨symQ l q [125]=true:=by
    rcases hc2 with x | x
    ·exact .inl (by simpa using x)
    ·exact .inr (by simpa using x)
   rw [uJT hst] at hi
   have hR:=uNc hi
   rw [hR] at h1 h2
   dsimp only at h1 h2
   have hpl : uIo l=(if (endE l (uAP l [125] q)).2≠0 then (nar0,(endE l (uAP l [125] q)).1,(endE l (uAP l [125] q)).2) else if narE uAK (uDQ l).1≠0 then (nar0,0,narE uAK (uDQ l).1) else ((uDQ l).1,0,0)):=by
    rw [uIo,← h1]
   rw [← h1] at h2
   refine uAO ?_
   repeat (first | refine uAG ?_ | refine uAF ?_ | refine uAC rfl ?_)
   refine uAd (uAb ?_);refine uAa rfl rfl rfl (uAm rfl gU rfl rfl rfl rfl rfl) ?_;refine uAx rfl rfl rfl rfl rfl rfl gU gU (up (uAV l q [125] (by omega) (by omega))) rfl ?_;refine uAt rfl (uAz rfl rfl rfl rfl rfl rfl rfl) ?_;refine uAf ?_;refine uAd ?_;refine uAd (uAb ?_);refine uAa rfl rfl rfl (uAg rfl gU rfl rfl) ?_;refine uAa rfl rfl rfl (uAi rfl gU rfl rfl rfl rfl) ?_;refine uAa rfl rfl rfl (uAc rfl gU) ?_;refine uAa rfl rfl rfl (uAg rfl gU rfl rfl) ?_;refine uAa rfl rfl rfl (uAi rfl (fun hh=>hh) rfl rfl rfl rfl) ?_;refine uAa rfl rfl rfl (uAc rfl gU) ?_;refine uAa rfl rfl rfl (uA4 rfl (fun hh=>hh) rfl rfl) ?_;refine uAa rfl rfl rfl (uAk rfl rfl (fun hh=>hh) (fun hh=>hh) rfl) ?_;refine uAa rfl rfl rfl (uAN rfl rfl gU (fun _ hi=>gP rfl hi)) ?_;refine uAf ?_;refine uAl (s:=⟨[(2,_,_),(8,_,_),(10,_,_),(62,_,_)],[(.l 10,_),(.l 2,_),(.l 8,_)],[(.b (.l 8) 1,_),(.b (.l 8) 2,_),(.b (.l 8) 3,_),(.b (.l 8) 4,_),(.b (.l 8) 5,_)],[]⟩) (uAj (⟨sx rfl,sx rfl,sx rfl,sx rfl,trivial⟩) (⟨sx rfl,sx rfl,sx rfl,trivial⟩) (⟨rfl,rfl,rfl,rfl,rfl,trivial⟩)) ?_;refine uAn rfl (fun hc3=>?_) (fun hc3=>?_)
   ·try simp only [nn,uAh,T.rows_len,Tk.rows_len] at hc3
    have he : endE l (uAP l [125] q)=(uJD l (uAP l [125] q),2):=by rw [endE,if_pos (by rcases hc3 with x | x; exact .inl x; exact .inr (by omega))]
    rw [he,if_pos (by simp)] at hpl
    refine uAd (uAb ?_);refine uAa rfl rfl rfl (uBc rfl Tryz.underlying27 rfl gU) ?_;refine uAa rfl rfl rfl (uAm rfl gU rfl rfl rfl rfl rfl) ?_;refine uAx rfl rfl rfl rfl rfl rfl gU gU (up (uKq _ _ (by omega))) rfl ?_;refine uAt rfl (uAz rfl rfl rfl rfl rfl rfl rfl) ?_;refine uAa rfl rfl rfl (uAe rfl gU) ?_;refine uAa rfl rfl rfl (uAe rfl gU) ?_;refine uAf ?_;refine uAo ?_
    repeat (first | refine tR ?_ | refine bR ?_)
    refine uAs rfl ?_ trivial
    (rw [hpl]; rfl)
   ·try simp only [nn,uAh,T.rows_len,Tk.rows_len] at hc3
    have he : endE l (uAP l [125] q)=(0,0) := by rw [endE,if_neg (by rintro (x | x); { rw [hc3.1] at x; cases x }; { have := hc3.2; omega })]
    rw [he,if_neg (by simp),← h2 hc3.1] at hpl
    have hb:=uCI hc3.1
    obtain ⟨hle,hsm⟩:=hln hb
    refine uAp ?_;refine uAd ?_;refine uAd (uAb ?_);refine uAa rfl rfl rfl (uAm rfl gU rfl rfl rfl rfl rfl) ?_;refine uAx rfl rfl rfl rfl rfl rfl gU gU (up (uF4 n (fun s hs=>Nat.le_trans (hsm.steps s hs) (by omega)) (fun g hg=>Nat.le_trans (hsm.goals g hg) (by omega)))) rfl ?_;refine uAa rfl rfl rfl (uAe rfl gU) ?_;refine uAf ?_;refine uAd (uAb ?_);refine uAa rfl rfl rfl (uAc rfl gU) ?_;refine uAa rfl rfl rfl (uAk rfl rfl gU gU rfl) ?_;refine uAf ?_;refine uAl (s:=⟨[(2,_,_),(8,_,_),(11,_,_),(69,_,_)],[(.l 2,_),(.l 8,_)],[(.b (.l 8) 1,_),(.b (.l 8) 2,_),(.b (.l 8) 3,_),(.b (.l 8) 4,_),(.b (.l 8) 5,_)],[]⟩) (uAj (⟨sx rfl,sx rfl,sx rfl,sx rfl,trivial⟩) (⟨sx rfl,sx rfl,trivial⟩) (⟨rfl,rfl,rfl,rfl,rfl,trivial⟩)) ?_;refine uAn rfl (fun hc4=>?_) (fun hc4=>?_)
    ·try simp only [nn,uAh,T.rows_len,Tk.rows_len] at hc4
     rw [if_pos hc4] at hpl
     refine uAd (uAb ?_);refine uAa rfl rfl rfl (uBc rfl Tryz.underlying27 rfl gU) ?_;refine uAa rfl rfl rfl (uAc rfl gU) ?_;refine uAt rfl (uAz rfl rfl rfl rfl rfl rfl rfl) ?_;refine uAa rfl rfl rfl (uAe rfl gU) ?_;refine uAa rfl rfl rfl (uAe rfl gU) ?_;refine uAf ?_;refine uAo ?_
     repeat (first | refine tR ?_ | refine bR ?_)
     refine uAs rfl ?_ trivial
     (rw [hpl]; rfl)
    ·try simp only [nn,uAh,T.rows_len,Tk.rows_len] at hc4
     rw [if_neg (by simpa using hc4)] at hpl
     refine uAp ?_;refine uAd (uAb ?_);refine uAa rfl rfl rfl (uAm rfl gU rfl rfl rfl rfl rfl) ?_;refine uAt rfl (uAz rfl rfl rfl rfl rfl rfl rfl) ?_;refine uAa rfl rfl rfl (uAe rfl gU) ?_;refine uAa rfl rfl rfl (uAe rfl gU) ?_;refine uAf ?_;refine uAo ?_
     repeat (first | refine tR ?_ | refine bR ?_)
     refine uAs rfl ?_ trivial
     (rw [hpl]; rfl)
theorem uJW (s : List UInt8) (hs : s.length≤100000) : Ctr sys 69 [xs s] [] (xnie (uDG s)) none []:=(uHX s hs).wk rfl fun _ h=>h
end Go.Proofs.YteidahabkfgfjaaGreat
namespace Go.Proofs.YteidahabkfgfjaaGreat
open Go Go.Abs
namespace T
def cmp0 (a b : T) : Int :=
 if uBQ a.size b.size≠0 then uBQ a.size b.size else if uBQ a.kind b.kind≠0 then uBQ a.kind b.kind
 else if Op.bytesLess a.name b.name=true then -1 else if (!(Op.bytesLess a.name b.name || a.name == b.name))=true then 1
 else if uBQ a.sort b.sort≠0 then uBQ a.sort b.sort else uBQ a.kids.length b.kids.length
mutual
def cmp : T→T→Int
 | mk k n s ks,b=>if cmp0 (mk k n s ks) b≠0 then cmp0 (mk k n s ks) b else cmps ks b.kids
def cmps : List T→List T→Int
 | [],_=>0
 | _ :: _,[]=>0
 | x :: xs,y :: ys=>if cmp x y≠0 then cmp x y else cmps xs ys
end
theorem cmp_eq (a b : T) : a.cmp b=if cmp0 a b≠0 then cmp0 a b else cmps a.kids b.kids:=by cases a; rw [cmp]; rfl
theorem cmps_hit : ∀ (a b : List T) (k : Nat) (x y : T),a[k]? = some x→b[k]? = some y→cmps (a.take k) (b.take k)=0→x.cmp y≠0→cmps a b=x.cmp y
 | [],b,k,x,y,h,_,_,_=>by simp at h
 | _ :: _,[],k,x,y,_,h,_,_=>by simp at h
 | a :: ar,b :: br,0,x,y,h,h',_,hx=>by simp at h h'; subst h; subst h'; rw [cmps,if_pos hx]
 | a :: ar,b :: br,k + 1,x,y,h,h',h0,hx=>by
  rw [List.take_succ_cons,List.take_succ_cons,cmps] at h0
  rw [cmps]
  by_cases ht : a.cmp b=0
  ·rw [if_neg (by simpa using ht)] at h0
   rw [if_neg (by simpa using ht)]
   exact cmps_hit ar br k x y (by simpa using h) (by simpa using h') h0 hx
  ·rw [if_pos ht] at h0; exact absurd h0 ht
theorem cmps_step : ∀ (a b : List T) (k : Nat) (x y : T),a[k]? = some x→b[k]? = some y→cmps (a.take k) (b.take k)=0→x.cmp y=0→cmps (a.take (k + 1)) (b.take (k + 1))=0
 | [],b,k,x,y,h,_,_,_=>by simp at h
 | _ :: _,[],k,x,y,_,h,_,_=>by simp at h
 | a :: ar,b :: br,0,x,y,h,h',_,hx=>by simp at h h'; subst h; subst h'; simp [cmps,hx]
 | a :: ar,b :: br,k + 1,x,y,h,h',h0,hx=>by
  rw [List.take_succ_cons,List.take_succ_cons,cmps] at h0
  rw [List.take_succ_cons,List.take_succ_cons,cmps]
  by_cases ht : a.cmp b=0
  ·rw [if_neg (by simpa using ht)] at h0
   rw [if_neg (by simpa using ht)]
   exact cmps_step ar br k x y (by simpa using h) (by simpa using h') h0 hx
  ·rw [if_pos ht] at h0; exact absurd h0 ht
end T
theorem uIG {a b : Int} (h : uBQ a b=0) : a=b:=by
 unfold uBQ at h; split at h
 ·omega
 ·split at h <;> omega
def uOI (a b : T) (k : Nat) : St:={ t:=[(2,true, .v (.ptr (.l 2) 0)),(3,true, .v (.ptr (.l 3) 0)),(9,true,xi k)],bx:=[(.l 2,a.cells),(.l 3,b.cells)],ow:=[] }
theorem uH1 : ∀ (n : Nat) (a b : T),a.size≤n→n≤2000000→b.size≤2000000→Ctr sys 89 [xm a,xm b] [] (xi (a.cmp b)) none []:=by
 intro n
 induction n with
 | zero=>intro t _ h; have := t.size_pos; omega
 | succ n ih =>
  intro a b ha hn hb
  have hls:=T.len_sizes a.kids
  have hse:=a.size_eq
  refine uAA Tryz.func89 rfl rfl rfl rfl rfl rfl ?_;refine uAd (uAb ?_);refine uAt rfl (uAI rfl rfl rfl rfl) ?_;refine uAt rfl (uAI rfl rfl rfl rfl) ?_;refine uAa rfl rfl rfl (uAe rfl gU) ?_;refine uAf ?_;refine uAd ?_;refine uAd ?_;refine awp_drawn' (by kernel_rfl) ?_;refine uAD rfl rfl rfl rfl rfl rfl rfl gU rfl rfl rfl rfl rfl ?_;refine uAR rfl rfl rfl rfl rfl rfl rfl gU gU (uEB _ a (Nat.le_refl _) (by omega)) rfl ?_;refine uAD rfl rfl rfl rfl rfl rfl rfl gU rfl rfl rfl rfl rfl ?_;refine uAR rfl rfl rfl rfl rfl rfl rfl gU gU (uEB _ b (Nat.le_refl _) hb) rfl ?_;refine uAR rfl rfl rfl rfl rfl rfl rfl gU gU (uEw _ _) rfl ?_;refine uAq rfl rfl rfl rfl (uAe rfl gU) ?_;refine uA1 (by kernel_rfl) ?_;refine uAl (s:=⟨[(2,_,_),(3,_,_),(5,_,_)],[(.l 2,_),(.l 3,_)],[],[]⟩) (uAj (⟨sx rfl,sx rfl,sx rfl,trivial⟩) (⟨sx rfl,sx rfl,trivial⟩) trivial) ?_;refine uAd (uAb ?_);refine uAa rfl rfl rfl (uAc rfl gU) ?_;refine uAa rfl rfl rfl (uAk rfl rfl gU gU rfl) ?_;refine uAf ?_;refine uAn rfl (fun hc=>?_) (fun hc=>?_)
  ·refine uAd (uAb ?_)
   refine uAa rfl rfl rfl (uAc rfl gU) ?_;refine uAa rfl rfl rfl (uAe rfl gU) ?_;refine uAf ?_;refine uAo ?_
   repeat (first | refine tR ?_ | refine bR ?_)
   refine uAs rfl ?_ trivial;refine uA7 ?_
   rw [T.cmp_eq]
   have h0 : T.cmp0 a b=uBQ a.size b.size:=by rw [T.cmp0,if_pos (by simpa using hc)]
   rw [h0,if_pos (by simpa using hc)]
  ·have e1 : ¬ uBQ (a.size : Int) (b.size : Int)≠0:=by simpa using hc
   refine uAp ?_;refine uAd ?_;refine uAd (uAb ?_);refine uAa rfl rfl rfl (uAg rfl gU rfl rfl) ?_;refine uAa rfl rfl rfl (uAi rfl gU rfl rfl rfl rfl) ?_;refine uAa rfl rfl rfl (uAg rfl gU rfl rfl) ?_;refine uAa rfl rfl rfl (uAi rfl gU rfl rfl rfl rfl) ?_;refine uAx rfl rfl rfl rfl rfl rfl gU gU (uEw _ _) rfl ?_;refine uAa rfl rfl rfl (uAe rfl gU) ?_;refine uAf ?_;refine uAl (s:=⟨[(2,_,_),(3,_,_),(6,_,_)],[(.l 2,_),(.l 3,_)],[],[]⟩) (uAj (⟨sx rfl,sx rfl,sx rfl,trivial⟩) (⟨sx rfl,sx rfl,trivial⟩) trivial) ?_;refine uAd (uAb ?_);refine uAa rfl rfl rfl (uAc rfl gU) ?_;refine uAa rfl rfl rfl (uAk rfl rfl gU gU rfl) ?_;refine uAf ?_;refine uAn rfl (fun hc2=>?_) (fun hc2=>?_)
   ·refine uAd (uAb ?_)
    refine uAa rfl rfl rfl (uAc rfl gU) ?_;refine uAa rfl rfl rfl (uAe rfl gU) ?_;refine uAf ?_;refine uAo ?_
    repeat (first | refine tR ?_ | refine bR ?_)
    refine uAs rfl ?_ trivial;refine uA7 ?_
    have h0 : T.cmp0 a b=uBQ a.kind b.kind:=by rw [T.cmp0,if_neg e1,if_pos (by simpa using hc2)]
    rw [T.cmp_eq,h0,if_pos (by simpa using hc2)]
   ·have e2 : ¬ uBQ a.kind b.kind≠0:=by simpa using hc2
    refine uAp ?_;refine uAd ?_;refine uAd (uAb ?_);refine uAa rfl rfl rfl (uAg rfl gU rfl rfl) ?_;refine uAa rfl rfl rfl (uAi rfl gU rfl rfl rfl rfl) ?_;refine uAa rfl rfl rfl (uAg rfl gU rfl rfl) ?_;refine uAa rfl rfl rfl (uAi rfl gU rfl rfl rfl rfl) ?_;refine uAa rfl rfl rfl (uA2 rfl rfl gU gU rfl) ?_;refine uAf ?_;refine uAl (s:=⟨[(2,_,_),(3,_,_),(31,_,_)],[(.l 2,_),(.l 3,_)],[],[]⟩) (uAj (⟨sx rfl,sx rfl,sx rfl,trivial⟩) (⟨sx rfl,sx rfl,trivial⟩) trivial) ?_;refine uAn rfl (fun hc3=>?_) (fun hc3=>?_)
    ·refine uAd (uAb ?_)
     refine uAa rfl rfl rfl (uAe rfl gU) ?_;refine uAf ?_;refine uAo ?_
     repeat (first | refine tR ?_ | refine bR ?_)
     refine uAs rfl ?_ trivial;refine uA7 ?_
     have h0 : T.cmp0 a b = -1:=by rw [T.cmp0,if_neg e1,if_neg e2,if_pos hc3]
     rw [T.cmp_eq,h0]; rfl
    ·refine uAp ?_
     refine uAd ?_;refine uAd (uAb ?_);refine uAa rfl rfl rfl (uAg rfl gU rfl rfl) ?_;refine uAa rfl rfl rfl (uAi rfl gU rfl rfl rfl rfl) ?_;refine uAa rfl rfl rfl (uAg rfl gU rfl rfl) ?_;refine uAa rfl rfl rfl (uAi rfl gU rfl rfl rfl rfl) ?_;refine uAa rfl rfl rfl (uA2 rfl rfl gU gU rfl) ?_;refine uAf ?_;refine uAl (s:=⟨[(2,_,_),(3,_,_),(36,_,_)],[(.l 2,_),(.l 3,_)],[],[]⟩) (uAj (⟨sx rfl,sx rfl,sx rfl,trivial⟩) (⟨sx rfl,sx rfl,trivial⟩) trivial) ?_;refine uAn rfl (fun hc4=>?_) (fun hc4=>?_)
     ·refine uAd (uAb ?_)
      refine uAa rfl rfl rfl (uAe rfl gU) ?_;refine uAf ?_;refine uAo ?_
      repeat (first | refine tR ?_ | refine bR ?_)
      refine uAs rfl ?_ trivial;refine uA7 ?_
      have h0 : T.cmp0 a b=1:=by rw [T.cmp0,if_neg e1,if_neg e2,if_neg (by rw [hc3]; simp),if_pos hc4]
      rw [T.cmp_eq,h0]; rfl
     ·refine uAp ?_
      refine uAd ?_;refine uAd (uAb ?_);refine uAa rfl rfl rfl (uAg rfl gU rfl rfl) ?_;refine uAa rfl rfl rfl (uAi rfl gU rfl rfl rfl rfl) ?_;refine uAa rfl rfl rfl (uAg rfl gU rfl rfl) ?_;refine uAa rfl rfl rfl (uAi rfl gU rfl rfl rfl rfl) ?_;refine uAx rfl rfl rfl rfl rfl rfl gU gU (uEw _ _) rfl ?_;refine uAa rfl rfl rfl (uAe rfl gU) ?_;refine uAf ?_;refine uAl (s:=⟨[(2,_,_),(3,_,_),(7,_,_)],[(.l 2,_),(.l 3,_)],[],[]⟩) (uAj (⟨sx rfl,sx rfl,sx rfl,trivial⟩) (⟨sx rfl,sx rfl,trivial⟩) trivial) ?_;refine uAd (uAb ?_);refine uAa rfl rfl rfl (uAc rfl gU) ?_;refine uAa rfl rfl rfl (uAk rfl rfl gU gU rfl) ?_;refine uAf ?_;refine uAn rfl (fun hc5=>?_) (fun hc5=>?_)
      ·refine uAd (uAb ?_)
       refine uAa rfl rfl rfl (uAc rfl gU) ?_;refine uAa rfl rfl rfl (uAe rfl gU) ?_;refine uAf ?_;refine uAo ?_
       repeat (first | refine tR ?_ | refine bR ?_)
       refine uAs rfl ?_ trivial;refine uA7 ?_
       have h0 : T.cmp0 a b=uBQ a.sort b.sort:=by rw [T.cmp0,if_neg e1,if_neg e2,if_neg (by rw [hc3]; simp),if_neg (by rw [hc4]; simp),if_pos (by simpa using hc5)]
       rw [T.cmp_eq,h0,if_pos (by simpa using hc5)]
      ·have e5 : ¬ uBQ a.sort b.sort≠0:=by simpa using hc5
       have h0 : T.cmp0 a b=uBQ a.kids.length b.kids.length:=by rw [T.cmp0,if_neg e1,if_neg e2,if_neg (by rw [hc3]; simp),if_neg (by rw [hc4]; simp),if_neg e5]
       refine uAp ?_;refine uAd ?_;refine uAd (uAb ?_);refine uAa rfl rfl rfl (uAg rfl gU rfl rfl) ?_;refine uAa rfl rfl rfl (uAi rfl gU rfl rfl rfl rfl) ?_;refine uAJ rfl rfl rfl rfl rfl gU rfl rfl ?_ (fun hh=>by simp at hh); intro hlen;refine uAa rfl rfl rfl (uAg rfl gU rfl rfl) ?_;refine uAa rfl rfl rfl (uAi rfl gU rfl rfl rfl rfl) ?_;refine uAJ rfl rfl rfl rfl rfl gU rfl rfl ?_ (fun hh=>by simp at hh); intro hlen;refine uAx rfl rfl rfl rfl rfl rfl gU gU (uEw _ _) rfl ?_;refine uAa rfl rfl rfl (uAe rfl gU) ?_;refine uAf ?_;refine uAl (s:=⟨[(2,_,_),(3,_,_),(8,_,_)],[(.l 2,_),(.l 3,_)],[],[]⟩) (uAj (⟨sx rfl,sx rfl,sx rfl,trivial⟩) (⟨sx rfl,sx rfl,trivial⟩) trivial) ?_;refine uAd (uAb ?_);refine uAa rfl rfl rfl (uAc rfl gU) ?_;refine uAa rfl rfl rfl (uAk rfl rfl gU gU rfl) ?_;refine uAf ?_;refine uAn rfl (fun hc6=>?_) (fun hc6=>?_)
       ·refine uAd (uAb ?_)
        refine uAa rfl rfl rfl (uAc rfl gU) ?_;refine uAa rfl rfl rfl (uAe rfl gU) ?_;refine uAf ?_;refine uAo ?_
        repeat (first | refine tR ?_ | refine bR ?_)
        refine uAs rfl ?_ trivial;refine uA7 ?_
        simp only [T.rows_len] at hc6 ⊢
        rw [T.cmp_eq,h0,if_pos (by simpa using hc6)]
       ·simp only [T.rows_len] at hc6
        have e6 : uBQ (a.kids.length : Int) (b.kids.length : Int)=0:=by simpa using hc6
        have hll:=uIG e6
        have hll' : a.kids.length=b.kids.length:=by omega
        have hC : a.cmp b=T.cmps a.kids b.kids:=by rw [T.cmp_eq,h0,if_neg (by simpa using e6)]
        refine uAp ?_;refine uAd ?_;refine uAd (uAb ?_);refine uAa rfl rfl rfl (uAe rfl gU) ?_;refine uAf ?_;refine uAv ?_;refine uCh (uOI a b) (fun k=>k≤a.kids.length∧T.cmps (a.kids.take k) (b.kids.take k)=0) (fun k=>a.kids.length - k) 0 ⟨Nat.zero_le _,by simp [T.cmps]⟩ ?_ ?_
        ·refine uAj ⟨⟨_,rfl,rfl⟩,⟨_,rfl,rfl⟩,⟨_,rfl,rfl⟩,trivial⟩ ⟨⟨_,rfl,rfl⟩,⟨_,rfl,rfl⟩,trivial⟩ trivial
        ·rintro k ⟨hk,hz⟩
         refine uAd ?_;refine uAd (uAb ?_);refine uAa rfl rfl rfl (uAc rfl gU) ?_;refine uAa rfl rfl rfl (uAg rfl gU rfl rfl) ?_;refine uAa rfl rfl rfl (uAi rfl gU rfl rfl rfl rfl) ?_;refine uAJ rfl rfl rfl rfl rfl gU rfl rfl ?_ (fun hh=>by simp at hh); intro hlen;refine uAa rfl rfl rfl (uAk rfl rfl gU gU rfl) ?_;refine uAf ?_;refine uAl (s:=⟨[(2,_,_),(3,_,_),(9,_,_),(59,_,_)],[(.l 2,_),(.l 3,_)],[],[]⟩) (uAj (⟨sx rfl,sx rfl,sx rfl,sx rfl,trivial⟩) (⟨sx rfl,sx rfl,trivial⟩) trivial) ?_;refine uAn rfl (fun hc7=>?_) (fun hc7=>?_)
         ·rw [T.rows_len] at hc7
          have hlt : k < a.kids.length:=by simpa using hc7
          obtain ⟨x,hx⟩ : ∃ x,a.kids[k]? = some x:=⟨_,List.getElem?_eq_getElem hlt⟩
          obtain ⟨y,hy⟩ : ∃ y,b.kids[k]? = some y:=⟨_,List.getElem?_eq_getElem (by omega)⟩
          have q1:=T.size_kid hx
          have q2:=T.size_kid hy
          refine uAp ?_;refine uAd ?_;refine uAv ?_;refine uAd ?_;refine awp_drawn' (by kernel_rfl) ?_;refine uAq rfl rfl rfl rfl (uAg rfl gU rfl rfl) ?_;refine uBa rfl rfl rfl rfl rfl rfl rfl gU rfl rfl rfl rfl ?_;refine uAq rfl rfl rfl rfl (uAc rfl gU) ?_;refine uAq rfl rfl rfl rfl (uAr rfl rfl gU gU rfl rfl rfl (fun _=>T.rows_get hx)) ?_;refine uAq rfl rfl rfl rfl (uAE rfl gU rfl rfl rfl rfl) ?_;refine uAq rfl rfl rfl rfl (uAg rfl gU rfl rfl) ?_;refine uBa rfl rfl rfl rfl rfl rfl rfl gU rfl rfl rfl rfl ?_;refine uAq rfl rfl rfl rfl (uAc rfl gU) ?_;refine uAq rfl rfl rfl rfl (uAr rfl rfl gU gU rfl rfl rfl (fun _=>T.rows_get hy)) ?_;refine uAq rfl rfl rfl rfl (uAE rfl gU rfl rfl rfl rfl) ?_;refine uAR rfl rfl rfl rfl rfl rfl rfl gU gU (ih x y (by omega) (by omega) (by omega)) rfl ?_;refine uAq rfl rfl rfl rfl (uAe rfl gU) ?_;refine uA1 (by kernel_rfl) ?_;refine uAl (s:=⟨[(2,_,_),(3,_,_),(9,_,_),(10,_,_)],[(.l 2,_),(.l 3,_)],[],[]⟩) (uAj (⟨sx rfl,sx rfl,sx rfl,sx rfl,trivial⟩) (⟨sx rfl,sx rfl,trivial⟩) trivial) ?_;refine uAd (uAb ?_);refine uAa rfl rfl rfl (uAc rfl gU) ?_;refine uAa rfl rfl rfl (uAk rfl rfl gU gU rfl) ?_;refine uAf ?_;refine uAn rfl (fun hc8=>?_) (fun hc8=>?_)
          ·refine uAd (uAb ?_)
           refine uAa rfl rfl rfl (uAc rfl gU) ?_;refine uAa rfl rfl rfl (uAe rfl gU) ?_;refine uAf ?_;refine uAo ?_
           repeat (first | refine tR ?_ | refine bR ?_)
           refine uAs rfl ?_ trivial;exact uA7 (by rw [hC,T.cmps_hit _ _ _ _ _ hx hy hz (by simpa using hc8)])
          ·refine uAp ?_
           refine uAb ?_;refine uAa rfl rfl rfl (uAc rfl gU) ?_;refine uAa rfl rfl rfl (uAy rfl rfl gU gU rfl (IntWalk.i64_in _ (by omega))) ?_;refine uAa rfl rfl rfl (uAe rfl gU) ?_;refine uAf ?_;refine ⟨k + 1,⟨by omega,T.cmps_step _ _ _ _ _ hx hy hz (by simpa using hc8)⟩,by omega,?_⟩;refine uAj ⟨⟨_,rfl,rfl⟩,⟨_,rfl,rfl⟩,⟨_,rfl,rfl⟩,trivial⟩ ⟨⟨_,rfl,rfl⟩,⟨_,rfl,rfl⟩,trivial⟩ trivial
         ·refine uAO ?_
          repeat (first | refine uAG ?_ | refine uAF ?_ | refine uAC rfl ?_)
          refine uAd (uAb ?_);refine uAa rfl rfl rfl (uAe rfl gU) ?_;refine uAf ?_;refine uAo ?_
          repeat (first | refine tR ?_ | refine bR ?_)
          refine uAs rfl ?_ trivial
          rw [T.rows_len] at hc7
          have hke : k=a.kids.length:=by simp at hc7; omega
          subst hke
          rw [List.take_length,hll',List.take_length] at hz
          exact uA7 (by rw [hC,hz])
theorem uL0 (a b : T) (ha : a.size≤2000000) (hb : b.size≤2000000) : Ctr sys 54 [xm a,xm b] [] (xb (a.cmp b == 0)) none []:=by
 refine uAA Tryz.func54 rfl rfl rfl rfl rfl rfl ?_;refine uAd (uAb ?_);refine uAt rfl (uAI rfl rfl rfl rfl) ?_;refine uAt rfl (uAI rfl rfl rfl rfl) ?_;refine uAa rfl rfl rfl (uAe rfl gU) ?_;refine uAf ?_;refine uAd (uAb ?_);refine uAa rfl rfl rfl (uAm rfl gU rfl rfl rfl rfl rfl) ?_;refine uAa rfl rfl rfl (uAm rfl gU rfl rfl rfl rfl rfl) ?_;refine uAx rfl rfl rfl rfl rfl rfl gU gU (uH1 _ a b (Nat.le_refl _) ha hb) rfl ?_;refine uAa rfl rfl rfl (uAk rfl rfl gU gU rfl) ?_;refine uAa rfl rfl rfl (uAe rfl gU) ?_;refine uAf ?_;refine uAo ?_
 repeat (first | refine tR ?_ | refine bR ?_)
 refine uAs rfl ?_ trivial
 rfl
end Go.Proofs.YteidahabkfgfjaaGreat
namespace Go.Proofs.YteidahabkfgfjaaGreat
open Go Go.Abs
def uFO (a b : List T) : Bool:=decide (a.length=b.length) && (T.cmps a b == 0)
def uOz (a b : List T) (k : Nat) : St:={ t:=[(0,true,xl a),(1,true,xl b),(5,true,xi k)],bx:=[],ow:=[] }
theorem uJ2 (a b : List T) (ha : T.sizes a≤2000000) (hb : T.sizes b≤2000000) : Ctr sys 22 [xl a,xl b] [] (xb (uFO a b)) none []:=by
 have hls:=T.len_sizes a
 refine uAA Tryz.func22 rfl rfl rfl rfl rfl rfl ?_;refine uAd (uAb ?_);refine uAa rfl rfl rfl (uAe rfl gU) ?_;refine uAf ?_;refine uAd ?_;refine uAd (uAb ?_);refine uAa rfl rfl rfl (uAc rfl gU) ?_;refine uAJ rfl rfl rfl rfl rfl gU rfl rfl ?_ (fun hh=>by simp at hh); intro hlen;refine uAa rfl rfl rfl (uAc rfl gU) ?_;refine uAJ rfl rfl rfl rfl rfl gU rfl rfl ?_ (fun hh=>by simp at hh); intro hlen;refine uAa rfl rfl rfl (uAk rfl rfl gU gU rfl) ?_;refine uAf ?_;refine uAl (s:=⟨[(0,_,_),(1,_,_),(10,_,_)],[],[],[]⟩) (uAj (⟨sx rfl,sx rfl,sx rfl,trivial⟩) trivial trivial) ?_;refine uAn rfl (fun hc=>?_) (fun hc=>?_)
 ·refine uAd (uAb ?_)
  refine uAa rfl rfl rfl (uAe rfl gU) ?_;refine uAf ?_;refine uAo ?_
  repeat (first | refine tR ?_ | refine bR ?_)
  refine uAs rfl ?_ trivial;refine uBV ?_
  simp only [T.rows_len,bne_iff_ne,ne_eq] at hc
  have : ¬ a.length=b.length:=by omega
  simp [uFO,this]
 ·simp only [T.rows_len,bne_eq_false_iff_eq] at hc
  have hll : a.length=b.length:=by omega
  refine uAp ?_;refine uAd ?_;refine uAd (uAb ?_);refine uAa rfl rfl rfl (uAe rfl gU) ?_;refine uAf ?_;refine uAv ?_;refine uCh (uOz a b) (fun k=>k≤a.length∧T.cmps (a.take k) (b.take k)=0) (fun k=>a.length - k) 0 ⟨Nat.zero_le _,by simp [T.cmps]⟩ ?_ ?_
  ·refine uAj ⟨⟨_,rfl,rfl⟩,⟨_,rfl,rfl⟩,⟨_,rfl,rfl⟩,trivial⟩ trivial trivial
  ·rintro k ⟨hk,hz⟩
   refine uAd ?_;refine uAd (uAb ?_);refine uAa rfl rfl rfl (uAc rfl gU) ?_;refine uAa rfl rfl rfl (uAc rfl gU) ?_;refine uAJ rfl rfl rfl rfl rfl gU rfl rfl ?_ (fun hh=>by simp at hh); intro hlen;refine uAa rfl rfl rfl (uAk rfl rfl gU gU rfl) ?_;refine uAf ?_;refine uAn rfl (fun hc7=>?_) (fun hc7=>?_)
   ·rw [T.rows_len] at hc7
    have hlt : k < a.length:=by simpa using hc7
    obtain ⟨x,hx⟩ : ∃ x,a[k]? = some x:=⟨_,List.getElem?_eq_getElem hlt⟩
    obtain ⟨y,hy⟩ : ∃ y,b[k]? = some y:=⟨_,List.getElem?_eq_getElem (by omega)⟩
    have q1:=uI3 _ _ _ hx
    have q2:=uI3 _ _ _ hy
    refine uAp ?_;refine uAd ?_;refine uAv ?_;refine uAd ?_;refine awp_drawn' (by kernel_rfl) ?_;refine uAq rfl rfl rfl rfl (uAc rfl gU) ?_;refine uAq rfl rfl rfl rfl (uAc rfl gU) ?_;refine uAq rfl rfl rfl rfl (uAr rfl rfl gU gU rfl rfl rfl (fun _=>T.rows_get hx)) ?_;refine uAq rfl rfl rfl rfl (uAE rfl gU rfl rfl rfl rfl) ?_;refine uAq rfl rfl rfl rfl (uAc rfl gU) ?_;refine uAq rfl rfl rfl rfl (uAc rfl gU) ?_;refine uAq rfl rfl rfl rfl (uAr rfl rfl gU gU rfl rfl rfl (fun _=>T.rows_get hy)) ?_;refine uAq rfl rfl rfl rfl (uAE rfl gU rfl rfl rfl rfl) ?_;refine uAR rfl rfl rfl rfl rfl rfl rfl gU gU (uL0 x y (by omega) (by omega)) rfl ?_;refine uAq rfl rfl rfl rfl (uAX rfl gU) ?_;refine uA1 (by kernel_rfl) ?_;refine uAl (s:=⟨[(0,_,_),(1,_,_),(5,_,_),(26,_,_)],[],[],[]⟩) (uAj (⟨sx rfl,sx rfl,sx rfl,sx rfl,trivial⟩) trivial trivial) ?_;refine uAn rfl (fun hc8=>?_) (fun hc8=>?_)
    ·refine uAd (uAb ?_)
     refine uAa rfl rfl rfl (uAe rfl gU) ?_;refine uAf ?_;refine uAo ?_
     repeat (first | refine tR ?_ | refine bR ?_)
     refine uAs rfl ?_ trivial
     have hne : x.cmp y≠0:=by simpa using hc8
     refine uBV ?_
     rw [uFO,T.cmps_hit _ _ _ _ _ hx hy hz hne]
     simp [hne]
    ·refine uAp ?_
     refine uAb ?_;refine uAa rfl rfl rfl (uAc rfl gU) ?_;refine uAa rfl rfl rfl (uAy rfl rfl gU gU rfl (IntWalk.i64_in _ (by omega))) ?_;refine uAa rfl rfl rfl (uAe rfl gU) ?_;refine uAf ?_;refine ⟨k + 1,⟨by omega,T.cmps_step _ _ _ _ _ hx hy hz (by simpa using hc8)⟩,by omega,?_⟩;refine uAj ⟨⟨_,rfl,rfl⟩,⟨_,rfl,rfl⟩,⟨_,rfl,rfl⟩,trivial⟩ trivial trivial
   ·refine uAO ?_
    repeat (first | refine uAG ?_ | refine uAF ?_ | refine uAC rfl ?_)
    refine uAd (uAb ?_);refine uAa rfl rfl rfl (uAe rfl gU) ?_;refine uAf ?_;refine uAo ?_
    repeat (first | refine tR ?_ | refine bR ?_)
    refine uAs rfl ?_ trivial
    rw [T.rows_len] at hc7
    have hke : k=a.length:=by simp at hc7; omega
    subst hke
    rw [List.take_length,hll,List.take_length] at hz
    refine uBV ?_
    simp [uFO,hll,hz]
end Go.Proofs.YteidahabkfgfjaaGreat
namespace Go.Proofs.YteidahabkfgfjaaGreat
open Go Go.Abs
theorem map_none {α β : Type} (f : Itm→List β) (g : α→Itm) (hf : ∀ x,f (g x)=[]) (l : List α) : (l.map g).flatMap f=[]:=by
 rw [List.flatMap_eq_nil_iff]
 intro i hi
 obtain ⟨x,_,rfl⟩:=List.mem_map.1 hi
 exact hf x
end Go.Proofs.YteidahabkfgfjaaGreat
namespace Go.Proofs.YteidahabkfgfjaaGreat
open Go Go.Abs
theorem uFZ : ∀ (l : List UInt8),Op.bytesLess l l=false
 | []=>rfl
 | x :: xs=>by
  have := uFZ xs
  simp [Op.bytesLess,this]
theorem uI2 (a : Int) : uBQ a a=0:=by simp [uBQ]
mutual
theorem T.cmp_self : ∀ a : T,a.cmp a=0
 | .mk k n s ks=>by
  have h0 : T.cmp0 (.mk k n s ks) (.mk k n s ks)=0:=by simp [T.cmp0,uI2,uFZ]
  rw [T.cmp,if_neg (by simp [h0])]
  exact T.cmps_self ks
theorem T.cmps_self : ∀ l : List T,T.cmps l l=0
 | []=>rfl
 | x :: xs=>by
  rw [T.cmps,if_neg (by simp [T.cmp_self x])]
  exact T.cmps_self xs
end
theorem uIt (a b : List Int) (h : a=b) : Ctr sys 15 [xis a,xis b] [] (xb true) none []:=by
 have la:=uAB a
 have lb:=uAB b
 have hl : a.length=b.length:=by rw [h]
 refine uAA Tryz.func15 rfl rfl rfl rfl rfl rfl ?_;refine uAd (uAb ?_);refine uAa rfl rfl rfl (uAe rfl gU) ?_;refine uAf ?_;refine uAd ?_;refine uAd (uAb ?_);refine uAa rfl rfl rfl (uAc rfl gU) ?_;refine uAJ rfl rfl rfl rfl rfl gU rfl rfl ?_ (fun hh=>by simp at hh); intro hlen;refine uAa rfl rfl rfl (uAc rfl gU) ?_;refine uAJ rfl rfl rfl rfl rfl gU rfl rfl ?_ (fun hh=>by simp at hh); intro hlen;refine uAa rfl rfl rfl (uAk rfl rfl gU gU rfl) ?_;refine uAf ?_;refine uAl (s:=⟨[(0,_,_),(1,_,_),(10,_,_)],[],[],[]⟩) (uAj (⟨sx rfl,sx rfl,sx rfl,trivial⟩) trivial trivial) ?_;refine uAn rfl (fun hc=>?_) (fun hc=>?_)
 ·try simp only [nn,uAB] at hc
  exact absurd (by omega) hc
 ·try simp only [nn,uAB] at hc
  refine uAp ?_;refine uAd ?_;refine uAd (uAb ?_);refine uAa rfl rfl rfl (uAc rfl gU) ?_;refine uAJ rfl rfl rfl rfl rfl gU rfl rfl ?_ (fun hh=>by simp at hh); intro hlen;refine uAa rfl rfl rfl (uAc rfl gU) ?_;refine uAf ?_;refine uAv ?_;refine uAW (ι:=Nat) { t:=[(0,_,_),(1,_,_),(12,_,_)],bx:=[],ow:=[] } (fun k=>[(13,true,xi (k : Int))]) (fun k=>[]) (fun k=>k≤a.length) (fun k=>a.length - k) (0) (by simp) (uAj (⟨sx rfl,sx rfl,sx rfl,sx rfl,trivial⟩) trivial trivial) ?_
  intro k hok
  dsimp only [List.cons_append,List.nil_append]
  refine uAd (uAb ?_);refine uAa rfl rfl rfl (uAk rfl rfl gU gU rfl) ?_;refine uAf ?_;refine uAd ?_;refine uAn rfl (fun hc2=>?_) (fun hc2=>?_)
  ·try simp only [nn,uAB] at hc2
   refine uAp ?_;refine uAd ?_;refine uAv ?_;refine uAd (uAb ?_);refine uAa rfl rfl rfl (uAc rfl gU) ?_;refine uAa rfl rfl rfl (uAe rfl gU) ?_;refine uAf ?_;refine uAd ?_;refine awp_drawn' (by kernel_rfl) ?_;refine uAq rfl rfl rfl rfl (uAc rfl gU) ?_;refine uAq rfl rfl rfl rfl (uAc rfl gU) ?_;refine uAq rfl rfl rfl rfl (uAr rfl rfl gU gU rfl rfl rfl (fun hh=>uLf (by first | omega | (simp at hh ⊢; omega)))) ?_;refine uAq rfl rfl rfl rfl (uAQ rfl gU rfl rfl rfl) ?_;refine uAq rfl rfl rfl rfl (uAc rfl gU) ?_;refine uAq rfl rfl rfl rfl (uAc rfl gU) ?_;refine uAq rfl rfl rfl rfl (uAr rfl rfl gU gU rfl rfl rfl (fun hh=>uLf (by first | omega | (simp at hh ⊢; omega)))) ?_;refine uAq rfl rfl rfl rfl (uAQ rfl gU rfl rfl rfl) ?_;refine uAq rfl rfl rfl rfl (uAk rfl rfl gU gU rfl) ?_;refine uA1 (by kernel_rfl) ?_;refine uAl (s:=⟨[(0,_,_),(1,_,_),(12,_,_),(13,_,_),(24,_,_)],[],[],[]⟩) (uAj (⟨sx rfl,sx rfl,sx rfl,sx rfl,sx rfl,trivial⟩) trivial trivial) ?_;refine uAn rfl (fun hc3=>?_) (fun hc3=>?_)
   ·try simp only [nn,uAB] at hc3
    exact absurd (by rw [h]) hc3
   ·try simp only [nn,uAB] at hc3
    refine uAp ?_;refine uAb ?_;refine uAa rfl rfl rfl (uAy rfl rfl gU gU rfl (IntWalk.i64_in _ (by omega))) ?_;refine uAa rfl rfl rfl (uAc rfl gU) ?_;refine uAf ?_;refine ⟨k + 1,?_,?_,uAj (⟨⟨_,rfl,?_⟩,⟨sx rfl,sx rfl,sx rfl,trivial⟩⟩) trivial trivial⟩
    all_goals (first | rfl | omega)
  ·try simp only [nn,uAB] at hc2
   refine uAO ?_
   repeat (first | refine uAG ?_ | refine uAF ?_ | refine uAC rfl ?_)
   refine uAd (uAb ?_);refine uAa rfl rfl rfl (uAe rfl gU) ?_;refine uAf ?_;refine uAo ?_
   repeat (first | refine tR ?_ | refine bR ?_)
   refine uAs rfl ?_ trivial
   rfl
theorem uKf (a : List T) : uFO a a=true:=by simp [uFO,T.cmps_self]
end Go.Proofs.YteidahabkfgfjaaGreat
namespace Go.Proofs.YteidahabkfgfjaaGreat
open Go Go.Abs
def exP : List UInt8:=[112,114,111,116,111,99,111,108,32,112,32,123,32,114,111,108,101,32,65,44,32,66,59,32,102,114,101,115,104,32,65,58,32,110,32,110,111,110,99,101,59,32,109,101,115,115,97,103,101,32,65,32,45,62,32,66,58,32]
def exQ : List UInt8:=[59,32,125]
def exW0 : List UInt8:=[97,101,110,99,40,60,110,44,32,65,62,44,32,112,107,40,115,107,40,66,41,41,41]
def exN0 : Nar:=⟨[112],[[65],[66]],[⟨[65],[110],2⟩],[],[⟨[65],[66],⟨3,[97,101,110,99],0,[⟨3,[112,97,105,114],0,[⟨2,[110],0,[]⟩,⟨2,[65],0,[]⟩]⟩,⟨3,[112,107],0,[⟨3,[115,107],0,[⟨2,[66],0,[]⟩]⟩]⟩]⟩,1⟩],[]⟩
set_option maxRecDepth 100000 in
theorem exR0 : uDG (exP++exW0++exQ)=(exN0,0,0):=by kernel_rfl
def exW1 : List UInt8:=[101,110,99,40,110,44,32,107,41]
def exN1 : Nar:=⟨[112],[[65],[66]],[⟨[65],[110],2⟩],[],[⟨[65],[66],⟨3,[101,110,99],0,[⟨2,[110],0,[]⟩,⟨2,[107],0,[]⟩]⟩,1⟩],[]⟩
set_option maxRecDepth 100000 in
theorem exR1 : uDG (exP++exW1++exQ)=(exN1,0,0):=by kernel_rfl
def exW2 : List UInt8:=[115,105,103,110,40,110,44,32,110,41]
def exN2 : Nar:=⟨[112],[[65],[66]],[⟨[65],[110],2⟩],[],[⟨[65],[66],⟨3,[115,105,103,110],0,[⟨2,[110],0,[]⟩,⟨2,[110],0,[]⟩]⟩,1⟩],[]⟩
set_option maxRecDepth 100000 in
theorem exR2 : uDG (exP++exW2++exQ)=(exN2,0,0):=by kernel_rfl
def exW3 : List UInt8:=[115,107,40,66,41]
def exN3 : Nar:=⟨[112],[[65],[66]],[⟨[65],[110],2⟩],[],[⟨[65],[66],⟨3,[115,107],0,[⟨2,[66],0,[]⟩]⟩,1⟩],[]⟩
set_option maxRecDepth 100000 in
theorem exR3 : uDG (exP++exW3++exQ)=(exN3,0,0):=by kernel_rfl
set_option maxRecDepth 100000 in
theorem exC0 : chkE uAK exN0=(0,0):=by decide +kernel
set_option maxRecDepth 100000 in
theorem exC1 : chkE uAK exN1=(1,13):=by decide +kernel
set_option maxRecDepth 100000 in
theorem exC2 : chkE uAK exN2=(1,10):=by decide +kernel
set_option maxRecDepth 100000 in
theorem exC3 : chkE uAK exN3=(1,10):=by decide +kernel
set_option maxRecDepth 100000 in
theorem exS1 : uIS exN0 [110]=(2,0):=by decide +kernel
set_option maxRecDepth 100000 in
theorem exS2 : uIS exN0 [65]=(1,0):=by decide +kernel
set_option maxRecDepth 100000 in
theorem exU : uLd exN0 [110]=[0]:=by decide +kernel
theorem uDd (s : List UInt8) (h : s.length≤1000) : Ctr sys 35 [xs s] [] (xn (uDG (exP++s++exQ)).1) none []:=by
 refine uAA Tryz.func35 rfl rfl rfl rfl rfl rfl ?_;refine uAd (uAb ?_);refine uAt rfl (uAM rfl rfl rfl) ?_;refine uAf ?_;refine uAd (uAb ?_);refine uAa rfl rfl rfl (uAc rfl gU) ?_;refine uAa rfl rfl rfl (uD9 rfl rfl gU gU (by simp; omega)) ?_;refine uAa rfl rfl rfl (uD9 rfl rfl gU gU (by simp; omega)) ?_;refine uAx rfl rfl rfl rfl rfl rfl gU gU (uJW (exP++s++exQ) (by have e1 : exP.length=58:=rfl; have e2 : exQ.length=3:=rfl; rw [List.length_append,List.length_append]; omega)) rfl ?_;refine uAa rfl rfl rfl (uAc rfl gU) ?_;refine uAa rfl rfl rfl (uAu rfl gU rfl) ?_;refine uAa rfl rfl rfl (uAu rfl gU rfl) ?_;refine uAa rfl rfl rfl (uAu rfl gU rfl) ?_;refine uAt rfl (uAM rfl rfl rfl) ?_;refine uAt rfl (uAz rfl rfl rfl rfl rfl rfl rfl) ?_;refine uAa rfl rfl rfl (uAe rfl gU) ?_;refine uAa rfl rfl rfl (uAe rfl gU) ?_;refine uAf ?_;refine uAl (s:=⟨[(2,_,_),(3,_,_)],[(.l 2,_),(.l 3,_)],[],[]⟩) (uAj (⟨sx rfl,sx rfl,trivial⟩) (⟨sx rfl,sx rfl,trivial⟩) trivial) ?_;refine uAd (uAb ?_);refine uAa rfl rfl rfl (uAm rfl gU rfl rfl rfl rfl rfl) ?_;refine uAt rfl (uAz rfl rfl rfl rfl rfl rfl rfl) ?_;refine uAf ?_;refine uAo ?_
 repeat (first | refine tR ?_ | refine bR ?_)
 refine uAs rfl ?_ trivial
 rfl
theorem uGy : Ctr sys 11 [] [] (xb true) none []:=by
 have a0:=uDd exW0 (by decide)
 rw [exR0] at a0
 have c0:=uCg exN0 (by decide) (by decide)
 rw [exC0] at c0
 have a1:=uDd exW1 (by decide)
 rw [exR1] at a1
 have c1:=uCg exN1 (by decide) (by decide)
 rw [exC1] at c1
 have a2:=uDd exW2 (by decide)
 rw [exR2] at a2
 have c2:=uCg exN2 (by decide) (by decide)
 rw [exC2] at c2
 have a3:=uDd exW3 (by decide)
 rw [exR3] at a3
 have c3:=uCg exN3 (by decide) (by decide)
 rw [exC3] at c3
 have s1:=uGS exN0 [110] (by decide) (by decide)
 rw [exS1] at s1
 have s2:=uGS exN0 [65] (by decide) (by decide)
 rw [exS2] at s2
 have u1:=uKs exN0 [110] (by decide) (by decide)
 rw [exU] at u1
 refine uAA Tryz.func11 rfl rfl rfl rfl rfl rfl ?_;refine uAd (uAb ?_);refine uAa rfl rfl rfl (uAe rfl gU) ?_;refine uAf ?_;refine uAd (uAb ?_);refine uAx rfl rfl rfl rfl rfl rfl gU gU (a0) rfl ?_;refine uAt rfl (uAM rfl rfl rfl) ?_;refine uAt rfl (uAz rfl rfl rfl rfl rfl rfl rfl) ?_;refine uAf ?_;refine uAd (uAb ?_);refine uAa rfl rfl rfl (uAm rfl gU rfl rfl rfl rfl rfl) ?_;refine uAx rfl rfl rfl rfl rfl rfl gU gU (c0) rfl ?_;refine uAa rfl rfl rfl (uAc rfl gU) ?_;refine uAa rfl rfl rfl (uAu rfl gU rfl) ?_;refine uAa rfl rfl rfl (uAu rfl gU rfl) ?_;refine uAa rfl rfl rfl (uAe rfl gU) ?_;refine uAa rfl rfl rfl (uAe rfl gU) ?_;refine uAf ?_;refine uAl (s:=⟨[(1,_,_),(2,_,_),(3,_,_)],[(.l 1,_)],[],[]⟩) (uAj (⟨sx rfl,sx rfl,sx rfl,trivial⟩) (⟨sx rfl,trivial⟩) trivial) ?_;refine uAd (uAb ?_);refine uAa rfl rfl rfl (uAm rfl gU rfl rfl rfl rfl rfl) ?_;refine uAx rfl rfl rfl rfl rfl rfl gU gU (s1) rfl ?_;refine uAa rfl rfl rfl (uAc rfl gU) ?_;refine uAa rfl rfl rfl (uAu rfl gU rfl) ?_;refine uAa rfl rfl rfl (uAu rfl gU rfl) ?_;refine uAa rfl rfl rfl (uAe rfl gU) ?_;refine uAa rfl rfl rfl (uAe rfl gU) ?_;refine uAf ?_;refine uAl (s:=⟨[(1,_,_),(2,_,_),(3,_,_),(4,_,_),(5,_,_)],[(.l 1,_)],[],[]⟩) (uAj (⟨sx rfl,sx rfl,sx rfl,sx rfl,sx rfl,trivial⟩) (⟨sx rfl,trivial⟩) trivial) ?_
 refine uAd (uAb ?_);refine uAa rfl rfl rfl (uAm rfl gU rfl rfl rfl rfl rfl) ?_;refine uAx rfl rfl rfl rfl rfl rfl gU gU (s2) rfl ?_;refine uAa rfl rfl rfl (uAc rfl gU) ?_;refine uAa rfl rfl rfl (uAu rfl gU rfl) ?_;refine uAa rfl rfl rfl (uAu rfl gU rfl) ?_;refine uAa rfl rfl rfl (uAe rfl gU) ?_;refine uAa rfl rfl rfl (uAe rfl gU) ?_;refine uAf ?_;refine uAl (s:=⟨[(1,_,_),(2,_,_),(3,_,_),(4,_,_),(5,_,_),(6,_,_),(7,_,_)],[(.l 1,_)],[],[]⟩) (uAj (⟨sx rfl,sx rfl,sx rfl,sx rfl,sx rfl,sx rfl,sx rfl,trivial⟩) (⟨sx rfl,trivial⟩) trivial) ?_;refine uAd (uAb ?_);refine uAx rfl rfl rfl rfl rfl rfl gU gU (a1) rfl ?_;refine uAx rfl rfl rfl rfl rfl rfl gU gU (c1) rfl ?_;refine uAa rfl rfl rfl (uAc rfl gU) ?_;refine uAa rfl rfl rfl (uAu rfl gU rfl) ?_;refine uAa rfl rfl rfl (uAu rfl gU rfl) ?_;refine uAa rfl rfl rfl (uAe rfl gU) ?_;refine uAa rfl rfl rfl (uAe rfl gU) ?_;refine uAf ?_;refine uAl (s:=⟨[(1,_,_),(2,_,_),(3,_,_),(4,_,_),(5,_,_),(6,_,_),(7,_,_),(8,_,_),(9,_,_)],[(.l 1,_)],[],[]⟩) (uAj (⟨sx rfl,sx rfl,sx rfl,sx rfl,sx rfl,sx rfl,sx rfl,sx rfl,sx rfl,trivial⟩) (⟨sx rfl,trivial⟩) trivial) ?_;refine uAd (uAb ?_);refine uAx rfl rfl rfl rfl rfl rfl gU gU (a2) rfl ?_
 refine uAx rfl rfl rfl rfl rfl rfl gU gU (c2) rfl ?_;refine uAa rfl rfl rfl (uAc rfl gU) ?_;refine uAa rfl rfl rfl (uAu rfl gU rfl) ?_;refine uAa rfl rfl rfl (uAu rfl gU rfl) ?_;refine uAa rfl rfl rfl (uAe rfl gU) ?_;refine uAa rfl rfl rfl (uAe rfl gU) ?_;refine uAf ?_;refine uAl (s:=⟨[(1,_,_),(2,_,_),(3,_,_),(4,_,_),(5,_,_),(6,_,_),(7,_,_),(8,_,_),(9,_,_),(11,_,_)],[(.l 1,_)],[],[]⟩) (uAj (⟨sx rfl,sx rfl,sx rfl,sx rfl,sx rfl,sx rfl,sx rfl,sx rfl,sx rfl,sx rfl,trivial⟩) (⟨sx rfl,trivial⟩) trivial) ?_;refine uAd (uAb ?_);refine uAx rfl rfl rfl rfl rfl rfl gU gU (a3) rfl ?_;refine uAx rfl rfl rfl rfl rfl rfl gU gU (c3) rfl ?_;refine uAa rfl rfl rfl (uAc rfl gU) ?_;refine uAa rfl rfl rfl (uAu rfl gU rfl) ?_;refine uAa rfl rfl rfl (uAu rfl gU rfl) ?_;refine uAa rfl rfl rfl (uAe rfl gU) ?_;refine uAa rfl rfl rfl (uAe rfl gU) ?_;refine uAf ?_;refine uAl (s:=⟨[(1,_,_),(2,_,_),(3,_,_),(4,_,_),(5,_,_),(6,_,_),(7,_,_),(8,_,_),(9,_,_),(11,_,_),(13,_,_)],[(.l 1,_)],[],[]⟩) (uAj (⟨sx rfl,sx rfl,sx rfl,sx rfl,sx rfl,sx rfl,sx rfl,sx rfl,sx rfl,sx rfl,sx rfl,trivial⟩) (⟨sx rfl,trivial⟩) trivial) ?_;refine uAd (uAb ?_);refine uAa rfl rfl rfl (uAc rfl gU) ?_
 refine uAa rfl rfl rfl (uAk rfl rfl gU gU rfl) ?_;refine uAa rfl rfl rfl (uAc rfl gU) ?_;refine uAa rfl rfl rfl (uAc rfl gU) ?_;refine uAa rfl rfl rfl (uAk rfl rfl (fun hh=>hh) gU rfl) ?_;refine uAa rfl rfl rfl (uAH rfl rfl gU (fun _ hi=>gP rfl hi)) ?_;refine uAa rfl rfl rfl (uAc rfl gU) ?_;refine uAa rfl rfl rfl (uAc rfl gU) ?_;refine uAa rfl rfl rfl (uAk rfl rfl (fun hh=>hh) gU rfl) ?_;refine uAa rfl rfl rfl (uAH rfl rfl gU (fun _ hi=>gP rfl hi)) ?_;refine uAa rfl rfl rfl (uAc rfl gU) ?_;refine uAa rfl rfl rfl (uAc rfl gU) ?_;refine uA8 (s:=⟨[(1,_,_),(6,_,_),(7,_,_),(8,_,_),(9,_,_),(11,_,_),(13,_,_),(55,_,_),(56,_,_)],[(.l 1,_)],[],[]⟩) (uAj (⟨sx rfl,sx rfl,sx rfl,sx rfl,sx rfl,sx rfl,sx rfl,sx rfl,sx rfl,trivial⟩) (⟨sx rfl,trivial⟩) trivial) ?_;refine uAa rfl rfl rfl (uAk rfl rfl (fun hh=>hh) gU rfl) ?_;refine uAa rfl rfl rfl (uAH rfl rfl gU (fun _ hi=>gP rfl hi)) ?_;refine uAa rfl rfl rfl (uAc rfl gU) ?_;refine uAa rfl rfl rfl (uAc rfl gU) ?_;refine uAa rfl rfl rfl (uAk rfl rfl (fun hh=>hh) gU rfl) ?_;refine uAa rfl rfl rfl (uAH rfl rfl gU (fun _ hi=>gP rfl hi)) ?_;refine uAa rfl rfl rfl (uAc rfl gU) ?_;refine uAa rfl rfl rfl (uAc rfl gU) ?_;refine uAa rfl rfl rfl (uAk rfl rfl (fun hh=>hh) gU rfl) ?_
 refine uAa rfl rfl rfl (uAH rfl rfl gU (fun _ hi=>gP rfl hi)) ?_;refine uAa rfl rfl rfl (uAc rfl gU) ?_;refine uAa rfl rfl rfl (uAm rfl gU rfl rfl rfl rfl rfl) ?_;refine uA8 (s:=⟨[(8,_,_),(9,_,_),(11,_,_),(13,_,_),(67,_,_),(68,_,_)],[],[],[]⟩) (uAj (⟨sx rfl,sx rfl,sx rfl,sx rfl,sx rfl,sx rfl,trivial⟩) trivial trivial) ?_;refine uAx rfl rfl rfl rfl rfl rfl gU (fun hh=>gA ((fun hh=>hh) hh) (gA rfl (rfl))) (u1) rfl ?_;refine uGT (xs:=[_]) rfl rfl rfl rfl rfl rfl rfl rfl rfl (by first | exact fun hh=>hh | exact fun _=>rfl | exact fun hh=>gL hh | exact fun hh=>gL (gL hh) | (intro hh; simp_all)) rfl ?_;refine uAx rfl rfl rfl rfl rfl rfl gU (fun hh=>gA ((fun hh=>hh) hh) (gA ((fun hh=>hh) hh) (rfl))) (uIt [0] [0] rfl) rfl ?_;refine uAa rfl rfl rfl (uAH rfl rfl gU (fun _ hi=>gP rfl hi)) ?_;refine uAa rfl rfl rfl (uAc rfl gU) ?_;refine uAa rfl rfl rfl (uAc rfl gU) ?_;refine uAa rfl rfl rfl (uAk rfl rfl (fun hh=>hh) gU rfl) ?_;refine uAa rfl rfl rfl (uAH rfl rfl gU (fun _ hi=>gP rfl hi)) ?_;refine uAa rfl rfl rfl (uAc rfl gU) ?_;refine uAa rfl rfl rfl (uAc rfl gU) ?_;refine uAa rfl rfl rfl (uAk rfl rfl (fun hh=>hh) gU rfl) ?_;refine uAa rfl rfl rfl (uAH rfl rfl gU (fun _ hi=>gP rfl hi)) ?_;refine uA8 (s:=⟨[(11,_,_),(13,_,_),(80,_,_)],[],[],[]⟩) (uAj (⟨sx rfl,sx rfl,sx rfl,trivial⟩) trivial trivial) ?_
 refine uAa rfl rfl rfl (uAc rfl gU) ?_;refine uAa rfl rfl rfl (uAc rfl gU) ?_;refine uAa rfl rfl rfl (uAk rfl rfl (fun hh=>hh) gU rfl) ?_;refine uAa rfl rfl rfl (uAH rfl rfl gU (fun _ hi=>gP rfl hi)) ?_;refine uAa rfl rfl rfl (uAc rfl gU) ?_;refine uAa rfl rfl rfl (uAc rfl gU) ?_;refine uAa rfl rfl rfl (uAk rfl rfl (fun hh=>hh) gU rfl) ?_;refine uAa rfl rfl rfl (uAH rfl rfl gU (fun _ hi=>gP rfl hi)) ?_;refine uAa rfl rfl rfl (uAe rfl gU) ?_;refine uAf ?_;refine uAo ?_
 repeat (first | refine tR ?_ | refine bR ?_)
 refine uAs rfl ?_ trivial
 rfl
end Go.Proofs.YteidahabkfgfjaaGreat
namespace Go.Proofs.YteidahabkfgfjaaGreat
open Go Go.Abs
def ixS (l : List (List UInt8)) (s : List UInt8) : Int:=idxF (fun x=>decide (s=x)) l
theorem uDb (l : List (List UInt8)) (s : List UInt8) : ixS l s < 0 ↔ l.contains s=false:=by
 have h:=(uDJ (fun x=>decide (s=x)) l).trans (uCD s l)
 rw [← h,ixS]; simp
theorem uFv (l : List (List UInt8)) (s : List UInt8) : 0≤ixS l s ↔ l.contains s=true:=by
 have h:=(uDJ (fun x=>decide (s=x)) l).trans (uCD s l)
 rw [← h,ixS]; simp
theorem uC1 (l : List (List UInt8)) (s : List UInt8) : Ctr sys 52 [xss l,xs s] [] (xi (ixS l s)) none []:=by
 have hrl:=uAh l
 refine uAA Tryz.func52 rfl rfl rfl rfl rfl rfl ?_;refine uAd (uAb ?_);refine uAa rfl rfl rfl (uAe rfl gU) ?_;refine uAf ?_;refine uAd ?_;refine uAd (uAb ?_);refine uAa rfl rfl rfl (uAe rfl gU) ?_;refine uAf ?_;refine uAv ?_;refine uAW (ι:=Nat) { t:=[(0,_,_),(1,_,_)],bx:=[],ow:=[] } (fun k=>[(5,true,xi (k : Int))]) (fun k=>[]) (fun k=>k≤l.length∧(if idxF (fun x=>decide (s=x)) (l.drop k) < 0 then -1 else idxF (fun x=>decide (s=x)) (l.drop k) + k)=idxF (fun x=>decide (s=x)) l) (fun k=>l.length - k) (0) (⟨by simp,(uEN _ _).trans (uFQ _ _)⟩) (uAj (⟨sx rfl,sx rfl,sx rfl,trivial⟩) trivial trivial) ?_
 intro k hok
 dsimp only [List.cons_append,List.nil_append]
 obtain ⟨hk,hi⟩:=hok
 refine uAd ?_;refine uAd (uAb ?_);refine uAa rfl rfl rfl (uAc rfl gU) ?_;refine uAa rfl rfl rfl (uAc rfl gU) ?_;refine uAJ rfl rfl rfl rfl rfl gU rfl rfl ?_ (fun hh=>by simp at hh); intro hlen;refine uAa rfl rfl rfl (uAk rfl rfl gU gU rfl) ?_;refine uAf ?_;refine uAn rfl (fun hc=>?_) (fun hc=>?_)
 ·try simp only [nn,uAh,uAB,T.rows_len,Gl.rows_len,Fs.rows_len,Sp.rows_len] at hc
  have hd:=uFE (k:=k) (l:=l) (by omega) hi
  refine uAp ?_;refine uAd ?_;refine uAv ?_;refine uAd (uAb ?_);refine uAa rfl rfl rfl (uAc rfl gU) ?_;refine uAa rfl rfl rfl (uAc rfl gU) ?_;refine uAa rfl rfl rfl (uAr rfl rfl gU gU rfl rfl rfl (fun hh=>uBI (by first | omega | (simp at hh ⊢; omega) | (simp [isT] at hh ⊢; omega)))) ?_;refine uAa rfl rfl rfl (uAQ rfl gU rfl rfl rfl) ?_;refine uAa rfl rfl rfl (uAc rfl gU) ?_;refine uAa rfl rfl rfl (uA2 rfl rfl gU gU rfl) ?_;refine uAf ?_;refine uAl (s:=⟨[(0,_,_),(1,_,_),(5,_,_),(17,_,_)],[],[],[]⟩) (uAj (⟨sx rfl,sx rfl,sx rfl,sx rfl,trivial⟩) trivial trivial) ?_;refine uAn rfl (fun hc2=>?_) (fun hc2=>?_)
  ·try simp only [nn,uAh,uAB,T.rows_len,Gl.rows_len,Fs.rows_len,Sp.rows_len] at hc2
   refine uAd (uAb ?_);refine uAa rfl rfl rfl (uAc rfl gU) ?_;refine uAa rfl rfl rfl (uAe rfl gU) ?_;refine uAf ?_;refine uAo ?_
   repeat (first | refine tR ?_ | refine bR ?_)
   refine uAs rfl ?_ trivial;exact uA7 (hd.1 (decide_eq_true hc2.symm)).symm
  ·try simp only [nn,uAh,uAB,T.rows_len,Gl.rows_len,Fs.rows_len,Sp.rows_len] at hc2
   refine uAp ?_;refine uAb ?_;refine uAa rfl rfl rfl (uAc rfl gU) ?_;refine uAa rfl rfl rfl (uAy rfl rfl gU gU rfl (IntWalk.i64_in _ (by omega))) ?_;refine uAa rfl rfl rfl (uAe rfl gU) ?_;refine uAf ?_;refine ⟨k + 1,?_,?_,uAj (⟨⟨_,rfl,?_⟩,⟨sx rfl,sx rfl,trivial⟩⟩) trivial trivial⟩
   all_goals (first | rfl | omega | exact ⟨by omega,hd.2 (decide_eq_false fun q=>hc2 q.symm)⟩)
 ·try simp only [nn,uAh,uAB,T.rows_len,Gl.rows_len,Fs.rows_len,Sp.rows_len] at hc
  refine uAO ?_
  repeat (first | refine uAG ?_ | refine uAF ?_ | refine uAC rfl ?_)
  refine uAd (uAb ?_);refine uAa rfl rfl rfl (uAe rfl gU) ?_;refine uAf ?_;refine uAo ?_
  repeat (first | refine tR ?_ | refine bR ?_)
  refine uAs rfl ?_ trivial;exact uA7 (uG0 (by omega) hi).symm
def srtL (n : Nar) : List Int:=(nmsL n).map (·.2)
abbrev x2l (a : List (List UInt8)) (b : List Int) : X:=.tup [.c (.sl 1 (strR a)), .c (.sl 1 (intR b))]
theorem uG6 (n : Nar) : uBh n=n.roles++(n.fresh.map Fs.name++n.tags):=by
 rw [uBh,nmsL]
 simp [List.map_append,List.map_map,Function.comp_def]
theorem uNV (n : Nar) : srtL n=n.roles.map (fun _=>(1 : Int))++(n.fresh.map Fs.sort++n.tags.map fun _=>(5 : Int)):=by
 rw [srtL,nmsL]
 simp [List.map_append,List.map_map,Function.comp_def]
theorem uF7 (n : Nar) (h1 : n.roles.length≤900000) (h2 : n.fresh.length≤900000) (h3 : n.tags.length≤900000) : Ctr sys 51 [xn n] [] (x2l (uBh n) (srtL n)) none []:=by
 have l1:=uAh n.roles
 have l2:=Fs.rows_len n.fresh
 have l3:=uAh n.tags
 rw [uG6,uNV]
 refine uAA Tryz.func51 rfl rfl rfl rfl rfl rfl ?_;refine uAd (uAb ?_);refine uAt rfl (uAI rfl rfl rfl rfl) ?_;refine uAt rfl (uBl (.inr rfl) rfl rfl) ?_;refine uAt rfl (uBl (.inr rfl) rfl rfl) ?_;refine uAf ?_;refine uAd (uAb ?_);refine uAt rfl (uBl (.inr rfl) rfl rfl) ?_;refine uAf ?_;refine uAd (uAb ?_);refine uAt rfl (uBl (.inr rfl) rfl rfl) ?_;refine uAf ?_;refine uAl (s:=⟨[(1,_,_),(4,_,_),(5,_,_)],[(.l 1,_)],[(.t 4,_),(.t 5,_)],[]⟩) (uAj (⟨sx rfl,sx rfl,sx rfl,trivial⟩) (⟨sx rfl,trivial⟩) (⟨rfl,rfl,trivial⟩)) ?_;refine uAd ?_;refine uAd (uAb ?_);refine uAa rfl rfl rfl (uAe rfl gU) ?_;refine uAf ?_;refine uAv ?_;refine uAW (ι:=Nat) { t:=[(1,_,_)],bx:=[(.l 1,_)],ow:=[(.t 4,_),(.t 5,_)] } (fun k=>[(6,true,xi (k : Int)),(4,true,xss (n.roles.take k)),(5,true,xis ((n.roles.take k).map fun _=>(1 : Int)))]) (fun k=>[]) (fun k=>k≤n.roles.length) (fun k=>n.roles.length - k) (0) (by simp) (uAj (⟨sx rfl,sx rfl,sx rfl,sx rfl,trivial⟩) (⟨sx rfl,trivial⟩) (⟨rfl,rfl,trivial⟩)) ?_
 intro k hoka
 dsimp only [List.cons_append,List.nil_append]
 refine uAd ?_;refine uAd (uAb ?_);refine uAa rfl rfl rfl (uAc rfl gU) ?_;refine uAa rfl rfl rfl (uAg rfl gU rfl rfl) ?_;refine uAa rfl rfl rfl (uAi rfl gU rfl rfl rfl rfl) ?_;refine uAJ rfl rfl rfl rfl rfl gU rfl rfl ?_ (fun hh=>by simp at hh); intro hlen;refine uAa rfl rfl rfl (uAk rfl rfl gU gU rfl) ?_;refine uAf ?_;refine uAl (s:=⟨[(1,_,_),(4,_,_),(5,_,_),(6,_,_),(13,_,_)],[(.l 1,_)],[(.t 4,_),(.t 5,_)],[]⟩) (uAj (⟨sx rfl,sx rfl,sx rfl,sx rfl,sx rfl,trivial⟩) (⟨sx rfl,trivial⟩) (⟨rfl,rfl,trivial⟩)) ?_;refine uAn rfl (fun hc=>?_) (fun hc=>?_)
 ·try simp only [nn,uAh,uAB,T.rows_len,Gl.rows_len,Fs.rows_len,Sp.rows_len] at hc
  have hT:=uBx (l:=n.roles) (d:=[]) (k:=k) (by omega)
  refine uAp ?_;refine uAd ?_;refine uAv ?_;refine uAb ?_;refine uAt rfl (uAT (.inl rfl) rfl rfl rfl) ?_;refine uAa rfl rfl rfl (uAg rfl gU rfl rfl) ?_;refine uAa rfl rfl rfl (uAi rfl gU rfl rfl rfl rfl) ?_;refine uAa rfl rfl rfl (uAc rfl gU) ?_;refine uAa rfl rfl rfl (uAr rfl rfl gU gU rfl rfl rfl (fun hh=>uBI (by first | omega | (simp at hh ⊢; omega) | (simp [isT] at hh ⊢; omega)))) ?_;refine uAa rfl rfl rfl (uAQ rfl gU rfl rfl rfl) ?_;refine uAU (xs:=[_]) rfl rfl rfl rfl rfl rfl rfl rfl rfl gU rfl ?_;refine uAt rfl (uA3 rfl rfl rfl rfl rfl rfl rfl (by first | omega | (simp only [List.length_append,List.length_singleton,uAh,uAB,List.length_map,List.length_take]; omega)) (by first | omega | (simp only [List.length_append,List.length_singleton,uAh,uAB,List.length_map,List.length_take]; omega))) ?_;refine uAt rfl (uAT (.inl rfl) rfl rfl rfl) ?_;refine uAU (xs:=[_]) rfl rfl rfl rfl rfl rfl rfl rfl rfl gU rfl ?_;refine uAt rfl (uA3 rfl rfl rfl rfl rfl rfl rfl (by first | omega | (simp only [List.length_append,List.length_singleton,uAh,uAB,List.length_map,List.length_take]; omega)) (by first | omega | (simp only [List.length_append,List.length_singleton,uAh,uAB,List.length_map,List.length_take]; omega))) ?_;refine uAt rfl (uAT (.inr rfl) rfl rfl rfl) ?_;refine uA8 (s:=⟨[(1,_,_),(4,_,_),(6,_,_),(26,_,_)],[(.l 1,_)],[(.t 26,_),(.t 4,_)],[]⟩) (uAj (⟨sx rfl,sx rfl,sx rfl,sx rfl,trivial⟩) (⟨sx rfl,trivial⟩) (⟨rfl,rfl,trivial⟩)) ?_
  refine uAt rfl (uAT (.inr rfl) rfl rfl rfl) ?_;refine uAf ?_;refine uAb ?_;refine uAa rfl rfl rfl (uAc rfl gU) ?_;refine uAa rfl rfl rfl (uAy rfl rfl gU gU rfl (IntWalk.i64_in _ (by omega))) ?_;refine uAa rfl rfl rfl (uAe rfl gU) ?_;refine uAf ?_;refine ⟨k + 1,?_,?_,uAj (⟨⟨_,rfl,?_⟩,⟨⟨_,rfl,?_⟩,⟨⟨_,rfl,?_⟩,⟨sx rfl,trivial⟩⟩⟩⟩) (⟨sx rfl,trivial⟩) (⟨rfl,rfl,trivial⟩)⟩
  all_goals (first | rfl | omega | exact tx ((uDK _ _).trans (by rw [hT])) | exact tx ((uFs _ _).trans (by rw [hT,List.map_append]; rfl)))
 ·try simp only [nn,uAh,uAB,T.rows_len,Gl.rows_len,Fs.rows_len,Sp.rows_len] at hc
  have hk : k=n.roles.length:=by omega
  subst hk
  rw [List.take_length]
  refine uAO ?_
  repeat (first | refine uAG ?_ | refine uAF ?_ | refine uAC rfl ?_)
  refine uAd ?_;refine uAd (uAb ?_);refine uAa rfl rfl rfl (uAe rfl gU) ?_;refine uAf ?_;refine uAv ?_;refine uAW (ι:=Nat) { t:=[(1,_,_)],bx:=[(.l 1,_)],ow:=[(.t 4,_),(.t 5,_)] } (fun j=>[(7,true,xi (j : Int)),(4,true,xss (n.roles++(n.fresh.take j).map Fs.name)),(5,true,xis (n.roles.map (fun _=>(1 : Int))++(n.fresh.take j).map Fs.sort))]) (fun j=>[]) (fun j=>j≤n.fresh.length) (fun j=>n.fresh.length - j) (0) (by simp) (uAj (⟨sx rfl,⟨⟨_,rfl,by simp⟩,⟨⟨_,rfl,by simp⟩,⟨sx rfl,trivial⟩⟩⟩⟩) (⟨sx rfl,trivial⟩) (⟨rfl,rfl,trivial⟩)) ?_
  intro j hokb
  dsimp only [List.cons_append,List.nil_append]
  refine uAd ?_;refine uAd (uAb ?_);refine uAa rfl rfl rfl (uAc rfl gU) ?_;refine uAa rfl rfl rfl (uAg rfl gU rfl rfl) ?_;refine uAa rfl rfl rfl (uAi rfl gU rfl rfl rfl rfl) ?_;refine uAJ rfl rfl rfl rfl rfl gU rfl rfl ?_ (fun hh=>by simp at hh); intro hlen;refine uAa rfl rfl rfl (uAk rfl rfl gU gU rfl) ?_;refine uAf ?_;refine uAl (s:=⟨[(1,_,_),(4,_,_),(5,_,_),(7,_,_),(31,_,_)],[(.l 1,_)],[(.t 4,_),(.t 5,_)],[]⟩) (uAj (⟨sx rfl,sx rfl,sx rfl,sx rfl,sx rfl,trivial⟩) (⟨sx rfl,trivial⟩) (⟨rfl,rfl,trivial⟩)) ?_;refine uAn rfl (fun hc2=>?_) (fun hc2=>?_)
  ·try simp only [nn,uAh,uAB,T.rows_len,Gl.rows_len,Fs.rows_len,Sp.rows_len] at hc2
   have hT:=uBx (l:=n.fresh) (d:=default) (k:=j) (by omega)
   refine uAp ?_;refine uAd ?_;refine uAv ?_;refine awp_drawn' (by kernel_rfl) ?_;refine uCN rfl (.inl rfl) rfl rfl rfl rfl rfl ?_;refine uAq rfl rfl rfl rfl (uAg rfl gU rfl rfl) ?_;refine uBa rfl rfl rfl rfl rfl rfl rfl gU rfl rfl rfl rfl ?_;refine uAq rfl rfl rfl rfl (uAc rfl gU) ?_;refine uAq rfl rfl rfl rfl (uAr rfl rfl gU gU rfl rfl rfl (fun hh=>Fs.rows_at (by first | omega | (simp at hh ⊢; omega) | (simp [isT] at hh ⊢; omega)))) ?_;refine uAq rfl rfl rfl rfl (uA0 rfl gU rfl rfl) ?_;refine uAq rfl rfl rfl rfl (uAQ rfl gU rfl rfl rfl) ?_;refine uDM (xs:=[_]) rfl rfl rfl rfl rfl rfl rfl rfl rfl rfl gU rfl ?_;refine uEq rfl rfl rfl rfl rfl (rko (ak2 rfl (ak rfl (ak rfl (ak rfl (ak rfl (ak rfl (ak rfl (rfl))))))))) rfl rfl rfl rfl rfl (by first | omega | (simp only [List.length_append,List.length_singleton,uAh,uAB,List.length_map,List.length_take]; omega)) (by first | omega | (simp only [List.length_append,List.length_singleton,uAh,uAB,List.length_map,List.length_take]; omega)) ?_;refine uCN rfl (.inl rfl) rfl rfl rfl rfl rfl ?_;refine uAq rfl rfl rfl rfl (uAg rfl gU rfl rfl) ?_;refine uBa rfl rfl rfl rfl rfl rfl rfl gU rfl rfl rfl rfl ?_;refine uAq rfl rfl rfl rfl (uAc rfl gU) ?_;refine uAq rfl rfl rfl rfl (uAr rfl rfl gU gU rfl rfl rfl (fun hh=>Fs.rows_at (by first | omega | (simp at hh ⊢; omega) | (simp [isT] at hh ⊢; omega)))) ?_
   refine uAq rfl rfl rfl rfl (uA0 rfl gU rfl rfl) ?_;refine uAq rfl rfl rfl rfl (uAQ rfl gU rfl rfl rfl) ?_;refine uDM (xs:=[_]) rfl rfl rfl rfl rfl rfl rfl rfl rfl rfl gU rfl ?_;refine uEq rfl rfl rfl rfl rfl (rko (ak2 rfl (ak rfl (ak rfl (ak rfl (ak rfl (ak rfl (ak rfl (rfl))))))))) rfl rfl rfl rfl rfl (by first | omega | (simp only [List.length_append,List.length_singleton,uAh,uAB,List.length_map,List.length_take]; omega)) (by first | omega | (simp only [List.length_append,List.length_singleton,uAh,uAB,List.length_map,List.length_take]; omega)) ?_;refine uCN rfl (.inr rfl) rfl rfl rfl rfl rfl ?_;refine uCN rfl (.inr rfl) rfl rfl rfl rfl rfl ?_;refine uA1 (by kernel_rfl) ?_;refine uAl (s:=⟨[(1,_,_),(4,_,_),(5,_,_),(7,_,_)],[(.l 1,_)],[(.t 4,_),(.t 5,_)],[]⟩) (uAj (⟨sx rfl,sx rfl,sx rfl,sx rfl,trivial⟩) (⟨sx rfl,trivial⟩) (⟨rfl,rfl,trivial⟩)) ?_;refine uAb ?_;refine uAa rfl rfl rfl (uAc rfl gU) ?_;refine uAa rfl rfl rfl (uAy rfl rfl gU gU rfl (IntWalk.i64_in _ (by omega))) ?_;refine uAa rfl rfl rfl (uAe rfl gU) ?_;refine uAf ?_;refine ⟨j + 1,?_,?_,uAj (⟨⟨_,rfl,?_⟩,⟨⟨_,rfl,?_⟩,⟨⟨_,rfl,?_⟩,⟨sx rfl,trivial⟩⟩⟩⟩) (⟨sx rfl,trivial⟩) (⟨rfl,rfl,trivial⟩)⟩
   all_goals (first | rfl | omega | exact tx ((uDK _ _).trans (by rw [hT,List.map_append,List.append_assoc]; rfl)) | exact tx ((uFs _ _).trans (by rw [hT,List.map_append,List.append_assoc]; rfl)))
  ·try simp only [nn,uAh,uAB,T.rows_len,Gl.rows_len,Fs.rows_len,Sp.rows_len] at hc2
   have hj : j=n.fresh.length:=by omega
   subst hj
   rw [List.take_length]
   refine uAO ?_
   repeat (first | refine uAG ?_ | refine uAF ?_ | refine uAC rfl ?_)
   refine uAd ?_;refine uAd (uAb ?_);refine uAa rfl rfl rfl (uAe rfl gU) ?_;refine uAf ?_;refine uAv ?_;refine uAW (ι:=Nat) { t:=[(1,_,_)],bx:=[(.l 1,_)],ow:=[(.t 4,_),(.t 5,_)] } (fun i=>[(8,true,xi (i : Int)),(4,true,xss (n.roles++(n.fresh.map Fs.name++n.tags.take i))),(5,true,xis (n.roles.map (fun _=>(1 : Int))++(n.fresh.map Fs.sort++(n.tags.take i).map fun _=>(5 : Int))))]) (fun i=>[]) (fun i=>i≤n.tags.length) (fun i=>n.tags.length - i) (0) (by simp) (uAj (⟨sx rfl,⟨⟨_,rfl,by simp⟩,⟨⟨_,rfl,by simp⟩,⟨sx rfl,trivial⟩⟩⟩⟩) (⟨sx rfl,trivial⟩) (⟨rfl,rfl,trivial⟩)) ?_
   intro i hokc
   dsimp only [List.cons_append,List.nil_append]
   refine uAd ?_;refine uAd (uAb ?_);refine uAa rfl rfl rfl (uAc rfl gU) ?_;refine uAa rfl rfl rfl (uAg rfl gU rfl rfl) ?_;refine uAa rfl rfl rfl (uAi rfl gU rfl rfl rfl rfl) ?_;refine uAJ rfl rfl rfl rfl rfl gU rfl rfl ?_ (fun hh=>by simp at hh); intro hlen;refine uAa rfl rfl rfl (uAk rfl rfl gU gU rfl) ?_;refine uAf ?_;refine uAl (s:=⟨[(1,_,_),(4,_,_),(5,_,_),(8,_,_),(56,_,_)],[(.l 1,_)],[(.t 4,_),(.t 5,_)],[]⟩) (uAj (⟨sx rfl,sx rfl,sx rfl,sx rfl,sx rfl,trivial⟩) (⟨sx rfl,trivial⟩) (⟨rfl,rfl,trivial⟩)) ?_;refine uAn rfl (fun hc3=>?_) (fun hc3=>?_)
   ·try simp only [nn,uAh,uAB,T.rows_len,Gl.rows_len,Fs.rows_len,Sp.rows_len] at hc3
    have hT:=uBx (l:=n.tags) (d:=[]) (k:=i) (by omega)
    refine uAp ?_;refine uAd ?_;refine uAv ?_;refine uAb ?_;refine uAt rfl (uAT (.inl rfl) rfl rfl rfl) ?_;refine uAa rfl rfl rfl (uAg rfl gU rfl rfl) ?_;refine uAa rfl rfl rfl (uAi rfl gU rfl rfl rfl rfl) ?_;refine uAa rfl rfl rfl (uAc rfl gU) ?_;refine uAa rfl rfl rfl (uAr rfl rfl gU gU rfl rfl rfl (fun hh=>uBI (by first | omega | (simp at hh ⊢; omega) | (simp [isT] at hh ⊢; omega)))) ?_;refine uAa rfl rfl rfl (uAQ rfl gU rfl rfl rfl) ?_;refine uAU (xs:=[_]) rfl rfl rfl rfl rfl rfl rfl rfl rfl gU rfl ?_;refine uAt rfl (uA3 rfl rfl rfl rfl rfl rfl rfl (by first | omega | (simp only [List.length_append,List.length_singleton,uAh,uAB,List.length_map,List.length_take]; omega)) (by first | omega | (simp only [List.length_append,List.length_singleton,uAh,uAB,List.length_map,List.length_take]; omega))) ?_;refine uAt rfl (uAT (.inl rfl) rfl rfl rfl) ?_;refine uAU (xs:=[_]) rfl rfl rfl rfl rfl rfl rfl rfl rfl gU rfl ?_;refine uAt rfl (uA3 rfl rfl rfl rfl rfl rfl rfl (by first | omega | (simp only [List.length_append,List.length_singleton,uAh,uAB,List.length_map,List.length_take]; omega)) (by first | omega | (simp only [List.length_append,List.length_singleton,uAh,uAB,List.length_map,List.length_take]; omega))) ?_;refine uAt rfl (uAT (.inr rfl) rfl rfl rfl) ?_;refine uA8 (s:=⟨[(1,_,_),(4,_,_),(8,_,_),(69,_,_)],[(.l 1,_)],[(.t 4,_),(.t 69,_)],[]⟩) (uAj (⟨sx rfl,sx rfl,sx rfl,sx rfl,trivial⟩) (⟨sx rfl,trivial⟩) (⟨rfl,rfl,trivial⟩)) ?_
    refine uAt rfl (uAT (.inr rfl) rfl rfl rfl) ?_;refine uAf ?_;refine uAb ?_;refine uAa rfl rfl rfl (uAc rfl gU) ?_;refine uAa rfl rfl rfl (uAy rfl rfl gU gU rfl (IntWalk.i64_in _ (by omega))) ?_;refine uAa rfl rfl rfl (uAe rfl gU) ?_;refine uAf ?_;refine ⟨i + 1,?_,?_,uAj (⟨⟨_,rfl,?_⟩,⟨⟨_,rfl,?_⟩,⟨⟨_,rfl,?_⟩,⟨sx rfl,trivial⟩⟩⟩⟩) (⟨sx rfl,trivial⟩) (⟨rfl,rfl,trivial⟩)⟩
    all_goals (first | rfl | omega | exact tx ((uDK _ _).trans (by rw [hT,List.append_assoc,List.append_assoc])) | exact tx ((uFs _ _).trans (by rw [hT,List.map_append,List.append_assoc,List.append_assoc]; rfl)))
   ·try simp only [nn,uAh,uAB,T.rows_len,Gl.rows_len,Fs.rows_len,Sp.rows_len] at hc3
    have hi : i=n.tags.length:=by omega
    subst hi
    rw [List.take_length]
    refine uAO ?_
    repeat (first | refine uAG ?_ | refine uAF ?_ | refine uAC rfl ?_)
    refine uAd (uAb ?_);refine uAt rfl (uAT (.inl rfl) rfl rfl rfl) ?_;refine uAt rfl (uAT (.inl rfl) rfl rfl rfl) ?_;refine uAt rfl (uAT (.inr rfl) rfl rfl rfl) ?_;refine uAt rfl (uAT (.inr rfl) rfl rfl rfl) ?_;refine uAf ?_;refine uAo ?_
    repeat (first | refine tR ?_ | refine bR ?_)
    refine uAs rfl ?_ trivial
    rfl
theorem uE3 (n : Nar) (t : T) : Ctr sys 147 [xn n,xm t] [] (xb (uFg n.roles t)) none []:=by
 refine uAA Tryz.func147 rfl rfl rfl rfl rfl rfl ?_;refine uAd (uAb ?_);refine uAt rfl (uAI rfl rfl rfl rfl) ?_;refine uAt rfl (uAI rfl rfl rfl rfl) ?_;refine uAa rfl rfl rfl (uAe rfl gU) ?_;refine uAf ?_;refine uAd (uAb ?_);refine uAa rfl rfl rfl (uAg rfl gU rfl rfl) ?_;refine uAa rfl rfl rfl (uAi rfl gU rfl rfl rfl rfl) ?_;refine uAa rfl rfl rfl (uAk rfl rfl gU gU rfl) ?_;refine uAa rfl rfl rfl (uAc rfl gU) ?_;refine uAa rfl rfl rfl (uAg rfl gU rfl rfl) ?_;refine uAa rfl rfl rfl (uAi rfl (fun hh=>hh) rfl rfl rfl rfl) ?_;refine uAa rfl rfl rfl (uAg rfl gU rfl rfl) ?_;refine uAa rfl rfl rfl (uAi rfl (fun hh=>hh) rfl rfl rfl rfl) ?_;refine uAx rfl rfl rfl rfl rfl rfl gU (fun hh=>gA ((fun hh=>hh) hh) (gA ((fun hh=>hh) hh) (rfl))) (uC1 _ _) rfl ?_;refine uA8 (s:=⟨[(8,_,_),(13,_,_)],[],[],[]⟩) (uAj (⟨sx rfl,sx rfl,trivial⟩) trivial trivial) ?_;refine uAa rfl rfl rfl (uAk rfl rfl (fun hh=>hh) gU rfl) ?_;refine uAa rfl rfl rfl (uAH rfl rfl gU (fun _ hi=>gP rfl hi)) ?_;refine uAa rfl rfl rfl (uAe rfl gU) ?_;refine uAf ?_;refine uAo ?_
 repeat (first | refine tR ?_ | refine bR ?_)
 refine uAs rfl ?_ trivial;refine uBV ?_
 rw [uFg,← (uDJ _ n.roles).trans (uCD t.name n.roles)]
 rw [Bool.eq_iff_iff]
 simp [ixS]
 intro _; exact decide_eq_true_iff
theorem uGv (n : Nar) (t : T) : Ctr sys 146 [xn n,xm t] [] (xb (uEm n.roles t)) none []:=by
 have hr:=T.rows_len t.kids
 refine uAA Tryz.func146 rfl rfl rfl rfl rfl rfl ?_;refine uAd (uAb ?_);refine uAt rfl (uAI rfl rfl rfl rfl) ?_;refine uAt rfl (uAI rfl rfl rfl rfl) ?_;refine uAa rfl rfl rfl (uAe rfl gU) ?_;refine uAf ?_;refine uAd ?_;refine awp_drawn' (by kernel_rfl) ?_;refine uAD rfl rfl rfl rfl rfl rfl rfl gU rfl rfl rfl rfl rfl ?_;refine uAR rfl rfl rfl rfl rfl rfl rfl gU gU (uIK _ _) rfl ?_;refine uAq rfl rfl rfl rfl (uAc rfl gU) ?_;refine uAq rfl rfl rfl rfl (uAg rfl gU rfl rfl) ?_;refine uBa rfl rfl rfl rfl rfl rfl rfl (fun hh=>hh) rfl rfl rfl rfl ?_;refine uAq rfl rfl rfl rfl (uA4 rfl (fun hh=>hh) rfl rfl) ?_;refine uAq rfl rfl rfl rfl (uAk rfl rfl (fun hh=>hh) gU rfl) ?_;refine uAq rfl rfl rfl rfl (uAH rfl rfl gU (fun _ hi=>gP rfl hi)) ?_;refine uAq rfl rfl rfl rfl (uAc rfl gU) ?_;refine uAD rfl rfl rfl rfl rfl rfl rfl gU rfl rfl rfl rfl rfl ?_;refine uAq rfl rfl rfl rfl (uAg rfl gU rfl rfl) ?_;refine uBa rfl rfl rfl rfl rfl rfl rfl (fun hh=>hh) rfl rfl rfl rfl ?_;refine uAq rfl rfl rfl rfl (uAr (j:=0) rfl rfl (fun hh=>hh) gU rfl rfl (by first | omega | (simp at hh ⊢; omega) | (simp [isT] at hh ⊢; omega)) (fun hh=>T.rows_at (by first | omega | (simp at hh ⊢; omega) | (simp [isT] at hh ⊢; omega)))) ?_;refine uAq rfl rfl rfl rfl (uAE rfl (fun hh=>hh) rfl rfl rfl rfl) ?_;refine uAR rfl rfl rfl rfl rfl rfl rfl gU (fun hh=>gA ((fun hh=>hh) hh) (gA ((fun hh=>hh) hh) (rfl))) (uE3 _ _) rfl ?_
 refine uAq rfl rfl rfl rfl (uAH rfl rfl gU (fun _ hi=>gP rfl hi)) ?_;refine uAq rfl rfl rfl rfl (uAe rfl gU) ?_;refine uA1 (by kernel_rfl) ?_;refine uAo ?_
 repeat (first | refine tR ?_ | refine bR ?_)
 refine uAs rfl ?_ trivial;refine uBV ?_
 rw [uEm,isT,kid,Bool.eq_iff_iff]
 simp [and_assoc]
 intro _; rw [hr]; exact Iff.rfl
theorem uHw (n : Nar) (t : T) : Ctr sys 145 [xn n,xm t] [] (xb (pubT n.roles t)) none []:=by
 have hr:=T.rows_len t.kids
 refine uAA Tryz.func145 rfl rfl rfl rfl rfl rfl ?_;refine uAd (uAb ?_);refine uAt rfl (uAI rfl rfl rfl rfl) ?_;refine uAt rfl (uAI rfl rfl rfl rfl) ?_;refine uAa rfl rfl rfl (uAe rfl gU) ?_;refine uAf ?_;refine uAd ?_;refine awp_drawn' (by kernel_rfl) ?_;refine uAD rfl rfl rfl rfl rfl rfl rfl gU rfl rfl rfl rfl rfl ?_;refine uAR rfl rfl rfl rfl rfl rfl rfl gU gU (uIK _ _) rfl ?_;refine uAq rfl rfl rfl rfl (uAc rfl gU) ?_;refine uAq rfl rfl rfl rfl (uAg rfl gU rfl rfl) ?_;refine uBa rfl rfl rfl rfl rfl rfl rfl (fun hh=>hh) rfl rfl rfl rfl ?_;refine uAq rfl rfl rfl rfl (uA4 rfl (fun hh=>hh) rfl rfl) ?_;refine uAq rfl rfl rfl rfl (uAk rfl rfl (fun hh=>hh) gU rfl) ?_;refine uAq rfl rfl rfl rfl (uAH rfl rfl gU (fun _ hi=>gP rfl hi)) ?_;refine uAq rfl rfl rfl rfl (uAc rfl gU) ?_;refine uAD rfl rfl rfl rfl rfl rfl rfl gU rfl rfl rfl rfl rfl ?_;refine uAq rfl rfl rfl rfl (uAg rfl gU rfl rfl) ?_;refine uBa rfl rfl rfl rfl rfl rfl rfl (fun hh=>hh) rfl rfl rfl rfl ?_;refine uAq rfl rfl rfl rfl (uAr (j:=0) rfl rfl (fun hh=>hh) gU rfl rfl (by first | omega | (simp at hh ⊢; omega) | (simp [isT] at hh ⊢; omega)) (fun hh=>T.rows_at (by first | omega | (simp at hh ⊢; omega) | (simp [isT] at hh ⊢; omega)))) ?_;refine uAq rfl rfl rfl rfl (uAE rfl (fun hh=>hh) rfl rfl rfl rfl) ?_;refine uAR rfl rfl rfl rfl rfl rfl rfl gU (fun hh=>gA ((fun hh=>hh) hh) (gA ((fun hh=>hh) hh) (rfl))) (uGv _ _) rfl ?_
 refine uAq rfl rfl rfl rfl (uAH rfl rfl gU (fun _ hi=>gP rfl hi)) ?_;refine uAq rfl rfl rfl rfl (uAe rfl gU) ?_;refine uA1 (by kernel_rfl) ?_;refine uAo ?_
 repeat (first | refine tR ?_ | refine bR ?_)
 refine uAs rfl ?_ trivial;refine uBV ?_
 rw [pubT,isT,kid,Bool.eq_iff_iff]
 simp [and_assoc]
 intro _; rw [hr]; exact Iff.rfl
end Go.Proofs.YteidahabkfgfjaaGreat
