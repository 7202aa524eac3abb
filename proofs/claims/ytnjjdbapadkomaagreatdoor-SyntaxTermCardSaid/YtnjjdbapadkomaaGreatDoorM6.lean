/- Our abstract program logic and contracts of this seat's functions, part 6: no statement of its own (long names of ours are shortened by a program). -/
import Derived.Test.YtnjjdbapadkomaaGreatDoorM5
import Derived.KernelRfl
import Derived.SizedLaws
import Derived.Test.YtnjjdbapadkomaaGreatDoorChecked
import Derived.Handed
import Derived.LaidSub
import Derived.MakeChecks
set_option linter.unusedVariables false
set_option linter.unusedSimpArgs false
namespace Go.Proofs.YtnjjdbapadkomaaGreatDoor
open Go Go.Abs
abbrev xr (l : List Tk) (p : PS) : X:=.v (.agg (pbx l p))
theorem uHG (s : List UInt8) (k : Int) : Ctr sys 38 [xs s,xi k] [] (xm ⟨2,s,k,[]⟩) none []:=by
 refine uAA Tryz.func38 rfl rfl rfl rfl rfl rfl ?_;refine uAe (uAb ?_);refine uAs rfl (uAI rfl rfl rfl) ?_;refine uAf ?_;refine uAe (uAb ?_);refine uAa rfl rfl rfl (uAc rfl gU) ?_;refine uAa rfl rfl rfl (uAc rfl gU) ?_;refine uAa rfl rfl rfl (uAS rfl Tryz.underlying39 rfl gU) ?_;refine uAs rfl (uAt rfl rfl rfl rfl rfl rfl rfl) ?_;refine uAf ?_;refine uAo ?_
 repeat (first | refine tR ?_ | refine bR ?_)
 refine uAr rfl ?_ trivial
 rfl
theorem uML (s : List UInt8) (ks : List T) (hk : ks.length≤3000000) : Ctr sys 39 [xs s,xl ks] [] (xm ⟨3,s,0,ks⟩) none []:=by
 have hrl:=T.rows_len ks
 refine uAA Tryz.func39 rfl rfl rfl rfl rfl rfl ?_;refine uAe (uAb ?_);refine uAs rfl (uAI rfl rfl rfl) ?_;refine uAf ?_;refine uAe (uAb ?_);refine uAa rfl rfl rfl (uAc rfl gU) ?_;refine uAM (xs:=[]) rfl rfl rfl rfl rfl rfl rfl rfl rfl gU rfl ?_;refine uAa rfl rfl rfl (uAc rfl gU) ?_;refine uAs rfl (uA5 rfl rfl rfl rfl rfl rfl rfl (by first | omega | (simp only [List.length_nil]; omega)) (by first | omega | (simp only [List.length_nil]; omega))) ?_;refine uAa rfl rfl rfl (uAS rfl Tryz.underlying39 rfl gU) ?_;refine uAs rfl (uAt rfl rfl rfl rfl rfl rfl rfl) ?_;refine uAf ?_;refine uAo ?_
 repeat (first | refine tR ?_ | refine bR ?_)
 refine uAr rfl ?_ trivial
 rfl
theorem uC5 (s : List UInt8) (rs : List (List C)) (ks : List T) (h : rs=T.rows ks) (hk : ks.length≤3000000) : Ctr sys 39 [xs s, .v (.c (.sl 4 rs))] [] (xm ⟨3,s,0,ks⟩) none []:=by
 subst h; exact uML s ks hk
theorem uBU (l : List Tk) (p : PS) (c : List UInt8) (hl : l.length≤2000000) (hp : p.at'≤3000000) : Ctr sys 80 [xr l p,xs c] [] (xr l (uAN l c p)) none []:=by
 have hrl:=Tk.rows_len l
 refine uAA Tryz.func80 rfl rfl rfl rfl rfl rfl ?_;refine uAe (uAb ?_);refine uAs rfl (uAY rfl rfl rfl rfl) ?_;refine uAs rfl (uAI rfl rfl rfl) ?_;refine uAf ?_;refine uAe ?_;refine uAe (uAb ?_);refine uAa rfl rfl rfl (uAg rfl gU rfl rfl) ?_;refine uAa rfl rfl rfl (uAl rfl gU rfl rfl rfl rfl) ?_;refine uAa rfl rfl rfl (uAc rfl gU) ?_;refine uAa rfl rfl rfl (uAg rfl gU rfl rfl) ?_;refine uAa rfl rfl rfl (uAl rfl (fun hh=>hh) rfl rfl rfl rfl) ?_;refine uAa rfl rfl rfl (uAg rfl gU rfl rfl) ?_;refine uAa rfl rfl rfl (uAl rfl (fun hh=>hh) rfl rfl rfl rfl) ?_;refine uAa rfl rfl rfl (uBb rfl (fun hh=>hh) rfl rfl) ?_;refine uAa rfl rfl rfl (uAk rfl rfl (fun hh=>hh) (fun hh=>hh) rfl) ?_;refine uAa rfl rfl rfl (uAJ rfl rfl gU (fun _ hi=>gP rfl hi)) ?_;refine uBo (s:=⟨[(1,_,_),(2,_,_),(4,_,_),(14,_,_)],[(.l 2,_),(.l 4,_)],[],[]⟩) (uAj (⟨sx rfl,sx rfl,sx rfl,sx rfl,trivial⟩) (⟨sx rfl,sx rfl,trivial⟩) trivial) ?_;refine uAa rfl rfl rfl (uAc rfl gU) ?_;refine uAa rfl rfl rfl (uAg rfl gU rfl rfl) ?_;refine uAa rfl rfl rfl (uAl rfl (fun hh=>hh) rfl rfl rfl rfl) ?_;refine uAa rfl rfl rfl (uAg rfl gU rfl rfl) ?_;refine uAa rfl rfl rfl (uAl rfl (fun hh=>hh) rfl rfl rfl rfl) ?_;refine uAa rfl rfl rfl (uAB (j:=p.at') rfl rfl (fun hh=>hh) (fun hh=>hh) rfl rfl (by first | omega | (simp at hh ⊢; omega)) (fun hh=>Tk.rows_at (by first | omega | (simp at hh ⊢; omega)))) ?_
 refine uAa rfl rfl rfl (uBc rfl (fun hh=>hh) rfl rfl) ?_;refine uAa rfl rfl rfl (uA1 rfl (fun hh=>hh) rfl rfl rfl) ?_;refine uAa rfl rfl rfl (uAk rfl rfl (fun hh=>hh) gU rfl) ?_;refine uAa rfl rfl rfl (uAJ rfl rfl gU (fun _ hi=>gP rfl hi)) ?_;refine uAa rfl rfl rfl (uAc rfl gU) ?_;refine uAa rfl rfl rfl (uAg rfl gU rfl rfl) ?_;refine uBo (s:=⟨[(1,_,_),(2,_,_),(4,_,_),(25,_,_),(26,_,_)],[(.l 2,_),(.l 4,_)],[],[]⟩) (uAj (⟨sx rfl,sx rfl,sx rfl,sx rfl,sx rfl,trivial⟩) (⟨sx rfl,sx rfl,trivial⟩) trivial) ?_;refine uAa rfl rfl rfl (uAl rfl (fun hh=>hh) rfl rfl rfl rfl) ?_;refine uAa rfl rfl rfl (uAg rfl gU rfl rfl) ?_;refine uAa rfl rfl rfl (uAl rfl (fun hh=>hh) rfl rfl rfl rfl) ?_;refine uAa rfl rfl rfl (uAB (j:=p.at') rfl rfl (fun hh=>hh) (fun hh=>hh) rfl rfl (by first | omega | (simp at hh ⊢; omega)) (fun hh=>Tk.rows_at (by first | omega | (simp at hh ⊢; omega)))) ?_;refine uAa rfl rfl rfl (uBc rfl (fun hh=>hh) rfl rfl) ?_;refine uAa rfl rfl rfl (uA1 rfl (fun hh=>hh) rfl rfl rfl) ?_;refine uAa rfl rfl rfl (uAc rfl gU) ?_;refine uAa rfl rfl rfl (uA4 rfl rfl (fun hh=>hh) (fun hh=>hh) rfl) ?_;refine uAa rfl rfl rfl (uAJ rfl rfl gU (fun _ hi=>gP rfl hi)) ?_;refine uAf ?_;refine uAn (s:=⟨[(2,_,_),(4,_,_),(35,_,_)],[(.l 2,_),(.l 4,_)],[],[]⟩) (uAj (⟨sx rfl,sx rfl,sx rfl,trivial⟩) (⟨sx rfl,sx rfl,trivial⟩) trivial) ?_
 refine uAm rfl (fun hc=>?_) (fun hc=>?_)
 ·try simp only [nn,uAh,T.rows_len,Tk.rows_len] at hc
  have h : symQ l p c=false:=by simp only [symQ]; grind
  have h2 : uAN l c p=p.off:=by rw [uAN,h]; rfl
  rw [h2]
  refine uAe (uAb ?_);refine uAa rfl rfl rfl (uAg rfl gU rfl rfl) ?_;refine uAs rfl (uAt rfl rfl rfl rfl rfl rfl rfl) ?_;refine uAf ?_;refine uAe (uAb ?_);refine uAa rfl rfl rfl (uAp rfl gU rfl rfl rfl rfl rfl) ?_;refine uAs rfl (uAt rfl rfl rfl rfl rfl rfl rfl) ?_;refine uAf ?_;refine uAo ?_
  repeat (first | refine tR ?_ | refine bR ?_)
  refine uAr rfl ?_ trivial
  rfl
 ·try simp only [nn,uAh,T.rows_len,Tk.rows_len] at hc
  have h : symQ l p c=true:=by simp only [symQ]; grind
  have h2 : uAN l c p=p.go:=by rw [uAN,if_pos h]
  rw [h2]
  refine uAq ?_;refine uAe (uAb ?_);refine uAa rfl rfl rfl (uAg rfl gU rfl rfl) ?_;refine uAa rfl rfl rfl (uAl rfl gU rfl rfl rfl rfl) ?_;refine uAa rfl rfl rfl (uAu rfl rfl gU gU rfl (IntWalk.i64_in _ (by omega))) ?_;refine uAa rfl rfl rfl (uAg rfl gU rfl rfl) ?_;refine uAs rfl (uAt rfl rfl rfl rfl rfl rfl rfl) ?_;refine uAf ?_;refine uAe (uAb ?_);refine uAa rfl rfl rfl (uAp rfl gU rfl rfl rfl rfl rfl) ?_;refine uAs rfl (uAt rfl rfl rfl rfl rfl rfl rfl) ?_;refine uAf ?_;refine uAo ?_
  repeat (first | refine tR ?_ | refine bR ?_)
  refine uAr rfl ?_ trivial
  (first | rfl | exact congrArg (fun z=>X.v (.agg z)) (uIq (by simp [PS.go]) rfl))
theorem uMn (l : List Tk) (c : List UInt8) (p : PS) : (uAN l c p).bad = !symQ l p c:=by
 unfold uAN
 split
 ·rename_i h
  rw [h]; exact (uBE h).2
 ·rename_i h
  have : symQ l p c=false:=by simpa using h
  rw [this]; rfl
theorem uDL (l : List Tk) (p : PS) (c : List UInt8) (hl : l.length≤2000000) (hp : p.at'≤3000000) : Ctr sys 81 [xr l p,xs c] [] (xb (symQ l p c)) none []:=by
 refine uAA Tryz.func81 rfl rfl rfl rfl rfl rfl ?_;refine uAe (uAb ?_);refine uAs rfl (uAY rfl rfl rfl rfl) ?_;refine uAa rfl rfl rfl (uAd rfl gU) ?_;refine uAf ?_;refine uAe (uAb ?_);refine uAa rfl rfl rfl (uAp rfl gU rfl rfl rfl rfl rfl) ?_;refine uAa rfl rfl rfl (uAc rfl gU) ?_;refine uAw rfl rfl rfl rfl rfl rfl gU gU (uBU _ _ _ (by omega) (by omega)) rfl ?_;refine uAa rfl rfl rfl (uJR rfl gU (Tryz.underlying96) rfl rfl rfl rfl rfl rfl) ?_;refine uAa rfl rfl rfl (uA0 rfl gU) ?_;refine uAa rfl rfl rfl (uAd rfl gU) ?_;refine uAf ?_;refine uAo ?_
 repeat (first | refine tR ?_ | refine bR ?_)
 refine uAr rfl ?_ trivial;exact uCY (by rw [uMn]; simp)
theorem uIM (l : List Tk) (p : PS) (hl : l.length≤2000000) (hp : p.at'≤3000000) : Ctr sys 79 [xr l p] [] (.tup [.c (.s (uAv l [] p).1), .agg (pbx l (uAv l [] p).2)]) none []:=by
 have hrl:=Tk.rows_len l
 refine uAA Tryz.func79 rfl rfl rfl rfl rfl rfl ?_;refine uAe (uAb ?_);refine uAs rfl (uAY rfl rfl rfl rfl) ?_;refine uAa rfl rfl rfl (uAd rfl gU) ?_;refine uAs rfl (uAI rfl rfl rfl) ?_;refine uAf ?_;refine uAe ?_;refine uAe (uAb ?_);refine uAa rfl rfl rfl (uAg rfl gU rfl rfl) ?_;refine uAa rfl rfl rfl (uAl rfl gU rfl rfl rfl rfl) ?_;refine uAa rfl rfl rfl (uAc rfl gU) ?_;refine uAa rfl rfl rfl (uAg rfl gU rfl rfl) ?_;refine uAa rfl rfl rfl (uAl rfl (fun hh=>hh) rfl rfl rfl rfl) ?_;refine uAa rfl rfl rfl (uAg rfl gU rfl rfl) ?_;refine uAa rfl rfl rfl (uAl rfl (fun hh=>hh) rfl rfl rfl rfl) ?_;refine uAa rfl rfl rfl (uBb rfl (fun hh=>hh) rfl rfl) ?_;refine uAa rfl rfl rfl (uAk rfl rfl (fun hh=>hh) (fun hh=>hh) rfl) ?_;refine uBo (s:=⟨[(1,_,_),(3,_,_),(6,_,_),(12,_,_)],[(.l 1,_),(.l 3,_)],[],[]⟩) (uAj (⟨sx rfl,sx rfl,sx rfl,sx rfl,trivial⟩) (⟨sx rfl,sx rfl,trivial⟩) trivial) ?_;refine uAa rfl rfl rfl (uAJ rfl rfl gU (fun _ hi=>gP rfl hi)) ?_;refine uAa rfl rfl rfl (uAc rfl gU) ?_;refine uAa rfl rfl rfl (uAg rfl gU rfl rfl) ?_;refine uAa rfl rfl rfl (uAl rfl (fun hh=>hh) rfl rfl rfl rfl) ?_;refine uAa rfl rfl rfl (uAg rfl gU rfl rfl) ?_;refine uAa rfl rfl rfl (uAl rfl (fun hh=>hh) rfl rfl rfl rfl) ?_
 refine uAa rfl rfl rfl (uAB (j:=p.at') rfl rfl (fun hh=>hh) (fun hh=>hh) rfl rfl (by first | omega | (simp at hh ⊢; omega)) (fun hh=>Tk.rows_at (by first | omega | (simp at hh ⊢; omega)))) ?_;refine uAa rfl rfl rfl (uBc rfl (fun hh=>hh) rfl rfl) ?_;refine uAa rfl rfl rfl (uA1 rfl (fun hh=>hh) rfl rfl rfl) ?_;refine uAa rfl rfl rfl (uAk rfl rfl (fun hh=>hh) gU rfl) ?_;refine uAa rfl rfl rfl (uAJ rfl rfl gU (fun _ hi=>gP rfl hi)) ?_;refine uAf ?_;refine uAn (s:=⟨[(1,_,_),(3,_,_),(23,_,_)],[(.l 1,_),(.l 3,_)],[],[]⟩) (uAj (⟨sx rfl,sx rfl,sx rfl,trivial⟩) (⟨sx rfl,sx rfl,trivial⟩) trivial) ?_;refine uAm rfl (fun hc=>?_) (fun hc=>?_)
 ·try simp only [nn,uAh,T.rows_len,Tk.rows_len] at hc
  have h : namQ l p []=false:=by simp only [namQ]; grind
  have h2 : uAv l [] p=([],p.off):=by rw [uAv,h]; rfl
  rw [h2]
  refine uAe (uAb ?_);refine uAa rfl rfl rfl (uAg rfl gU rfl rfl) ?_;refine uAs rfl (uAt rfl rfl rfl rfl rfl rfl rfl) ?_;refine uAf ?_;refine uAe ?_;refine awp_drawn' (by kernel_rfl) ?_;refine uBi rfl rfl rfl rfl rfl rfl rfl gU rfl rfl rfl rfl rfl ?_;refine uAi rfl rfl rfl rfl (uAd rfl gU) ?_;refine uBQ rfl rfl rfl rfl rfl rfl rfl rfl rfl rfl rfl rfl ?_;refine uBe (by kernel_rfl) ?_;refine uAo ?_
  repeat (first | refine tR ?_ | refine bR ?_)
  refine uAr rfl ?_ trivial
  rfl
 ·try simp only [nn,uAh,T.rows_len,Tk.rows_len] at hc
  have h : namQ l p []=true:=by simp only [namQ]; grind
  have h2 : uAv l [] p=((l.getD p.at' tk0).text,p.go):=by rw [uAv,if_pos h]
  rw [h2]
  refine uAq ?_;refine uAe (uAb ?_);refine uAa rfl rfl rfl (uAg rfl gU rfl rfl) ?_;refine uAa rfl rfl rfl (uAl rfl gU rfl rfl rfl rfl) ?_;refine uAa rfl rfl rfl (uAu rfl rfl gU gU rfl (IntWalk.i64_in _ (by omega))) ?_;refine uAa rfl rfl rfl (uAg rfl gU rfl rfl) ?_;refine uAs rfl (uAt rfl rfl rfl rfl rfl rfl rfl) ?_;refine uAf ?_;refine uAe ?_;refine awp_drawn' (by kernel_rfl) ?_;refine uAi rfl rfl rfl rfl (uAg rfl gU rfl rfl) ?_;refine uAW rfl rfl rfl rfl rfl rfl rfl gU rfl rfl rfl rfl ?_;refine uAi rfl rfl rfl rfl (uAg rfl gU rfl rfl) ?_;refine uAW rfl rfl rfl rfl rfl rfl rfl gU rfl rfl rfl rfl ?_;refine uAi rfl rfl rfl rfl (uAu rfl rfl gU gU rfl (IntWalk.i64_in _ (by omega))) ?_;refine uAi rfl rfl rfl rfl (uAB (j:=p.at') rfl rfl gU gU rfl rfl (by first | omega | (simp at hh ⊢; omega)) (fun hh=>Tk.rows_at (by first | omega | (simp at hh ⊢; omega)))) ?_;refine uAi rfl rfl rfl rfl (uBc rfl gU rfl rfl) ?_;refine uAi rfl rfl rfl rfl (uA1 rfl gU rfl rfl rfl) ?_;refine uBi rfl rfl rfl rfl rfl rfl rfl gU rfl rfl rfl rfl rfl ?_;refine uAi rfl rfl rfl rfl (uAd rfl gU) ?_;refine uBQ rfl rfl rfl rfl rfl rfl rfl rfl rfl rfl rfl rfl ?_;refine uBe (by kernel_rfl) ?_;refine uAo ?_
  repeat (first | refine tR ?_ | refine bR ?_)
  refine uAr rfl ?_ trivial
  (first | rfl | exact congrArg (fun z=>X.tup [.c (.s (l.getD p.at' tk0).text), .agg z]) (uIq (by simp [PS.go]) rfl))
theorem uJ2 (l : List Tk) (p : PS) (hl : l.length≤2000000) : Ctr sys 69 [xr l p] [] (xi (uEV l p)) none []:=by
 have hrl:=Tk.rows_len l
 refine uAA Tryz.func69 rfl rfl rfl rfl rfl rfl ?_;refine uAe (uAb ?_);refine uAs rfl (uAY rfl rfl rfl rfl) ?_;refine uAa rfl rfl rfl (uAd rfl gU) ?_;refine uAf ?_;refine uAe ?_;refine uAe (uAb ?_);refine uAa rfl rfl rfl (uAg rfl gU rfl rfl) ?_;refine uAa rfl rfl rfl (uAl rfl gU rfl rfl rfl rfl) ?_;refine uAU rfl rfl rfl rfl rfl gU rfl rfl ?_ (fun hh=>by simp at hh); intro hlen;refine uAa rfl rfl rfl (uAk rfl rfl gU gU rfl) ?_;refine uAf ?_;refine uAn (s:=⟨[(1,_,_),(6,_,_)],[(.l 1,_)],[],[]⟩) (uAj (⟨sx rfl,sx rfl,trivial⟩) (⟨sx rfl,trivial⟩) trivial) ?_;refine uAm rfl (fun hc=>?_) (fun hc=>?_)
 ·try simp only [nn,uAh,T.rows_len,Tk.rows_len] at hc
  refine uAe (uAb ?_);refine uAa rfl rfl rfl (uAd rfl gU) ?_;refine uAf ?_;refine uAo ?_
  repeat (first | refine tR ?_ | refine bR ?_)
  refine uAr rfl ?_ trivial
  (rw [uEV,if_pos (by omega)]; rfl)
 ·try simp only [nn,uAh,T.rows_len,Tk.rows_len] at hc
  refine uAq ?_;refine uAe (uAb ?_);refine uAa rfl rfl rfl (uAg rfl gU rfl rfl) ?_;refine uAa rfl rfl rfl (uAl rfl gU rfl rfl rfl rfl) ?_;refine uAa rfl rfl rfl (uAg rfl gU rfl rfl) ?_;refine uAa rfl rfl rfl (uAl rfl gU rfl rfl rfl rfl) ?_;refine uAa rfl rfl rfl (uAg rfl gU rfl rfl) ?_;refine uAa rfl rfl rfl (uAl rfl gU rfl rfl rfl rfl) ?_;refine uAU rfl rfl rfl rfl rfl gU rfl rfl ?_ (fun hh=>by simp at hh); intro hlen;refine uAa rfl rfl rfl (uAu rfl rfl gU gU rfl (IntWalk.i64_in _ (by omega))) ?_;refine uAa rfl rfl rfl (uMe rfl rfl gU gU) ?_;refine uAa rfl rfl rfl (uAB (j:=(min p.at' (l.length - 1))) rfl rfl gU gU rfl rfl (by first | omega | (simp at hh ⊢; omega)) (fun hh=>Tk.rows_at (by first | omega | (simp at hh ⊢; omega)))) ?_;refine uAa rfl rfl rfl (uBc rfl gU rfl rfl) ?_;refine uAa rfl rfl rfl (uA1 rfl gU rfl rfl rfl) ?_;refine uBo (s:=⟨[(18,_,_)],[],[],[]⟩) (uAj (⟨sx rfl,trivial⟩) trivial trivial) ?_;refine uAa rfl rfl rfl (uAd rfl gU) ?_;refine uAf ?_;refine uAo ?_
  repeat (first | refine tR ?_ | refine bR ?_)
  refine uAr rfl ?_ trivial
  rw [uEV,if_neg (by omega)]
  split
  ·rename_i h
   exact uBg (by rw [show min p.at' (l.length - 1)=l.length - 1 by omega])
  ·rename_i h
   exact uBg (by rw [show min p.at' (l.length - 1)=p.at' by omega])
theorem uLP : ∀ (n : Nat) (ts : List T),ts.length≤n→n≤3000000→0 < ts.length→Ctr sys 120 [xl ts] [] (xm (tupT ts)) none []:=by
 intro n
 induction n with
 | zero=>intro ts h _ h0; omega
 | succ n ih =>
  intro ts hts hn h0
  have hrl:=T.rows_len ts
  refine uAA Tryz.func120 rfl rfl rfl rfl rfl rfl ?_;refine uAe (uAb ?_);refine uAs rfl (uAI rfl rfl rfl) ?_;refine uAf ?_;refine uAe ?_;refine uAe (uAb ?_);refine uAa rfl rfl rfl (uAc rfl gU) ?_;refine uAU rfl rfl rfl rfl rfl gU rfl rfl ?_ (fun hh=>by simp at hh); intro hlen;refine uAa rfl rfl rfl (uAk rfl rfl gU gU rfl) ?_;refine uAf ?_;refine uAm rfl (fun hc=>?_) (fun hc=>?_)
  ·try simp only [nn,uAh,T.rows_len,Tk.rows_len] at hc
   obtain ⟨t,rfl⟩ : ∃ t,ts=[t]:=by
    match ts,hc with
    | [t],_=>exact ⟨t,rfl⟩
    | [],h=>simp at h
    | _ :: _ :: _,h=>simp at h; omega
   refine uAe (uAb ?_);refine uAa rfl rfl rfl (uAc rfl gU) ?_;refine uAa rfl rfl rfl (uAB (j:=0) rfl rfl gU gU rfl rfl (by first | omega | (simp at hh ⊢; omega)) (fun hh=>T.rows_at (by first | omega | (simp at hh ⊢; omega)))) ?_;refine uAa rfl rfl rfl (uAR rfl gU rfl rfl rfl rfl) ?_;refine uAs rfl (uAt rfl rfl rfl rfl rfl rfl rfl) ?_;refine uAf ?_;refine uAo ?_
   repeat (first | refine tR ?_ | refine bR ?_)
   refine uAr rfl ?_ trivial
   rfl
  ·try simp only [nn,uAh,T.rows_len,Tk.rows_len] at hc
   obtain ⟨t,u,r,rfl⟩ : ∃ t u r,ts=t :: u :: r:=by
    match ts,hc,h0 with
    | [t],h,_=>exact absurd rfl h
    | [],_,h=>simp at h
    | t :: u :: r,_,_=>exact ⟨t,u,r,rfl⟩
   simp only [List.length_cons] at hts hrl
   have htu:=ih (u :: r) (by simp only [List.length_cons]; omega) (by omega) (by simp)
   have htu2 : ∀ rs : List (List C),rs=T.rows (u :: r)→Ctr sys 120 [.v (.c (.sl 4 rs))] [] (xm (tupT (u :: r))) none []:=by
    intro rs h; subst h; exact htu
   refine uAq ?_;refine uAe ?_;refine awp_drawn' (by kernel_rfl) ?_;refine uAi rfl rfl rfl rfl (uAc rfl gU) ?_;refine uAi rfl rfl rfl rfl (uAB (j:=0) rfl rfl gU gU rfl rfl (by first | omega | (simp at hh ⊢; omega)) (fun hh=>T.rows_at (by first | omega | (simp at hh ⊢; omega)))) ?_;refine uAi rfl rfl rfl rfl (uAR rfl gU rfl rfl rfl rfl) ?_;refine uAi rfl rfl rfl rfl (uAc rfl gU) ?_;refine uAi rfl rfl rfl rfl (uGw (l:=1) rfl gU rfl rfl (fun _=>⟨_,_,_,rfl,gU,by first | omega | (simp at hh ⊢; omega)⟩) (fun _=>rfl) (fun hh=>by first | omega | (simp at hh ⊢; omega)) (fun hh=>by first | omega | (simp at hh ⊢; omega))) ?_;refine uBa rfl rfl rfl rfl rfl rfl rfl gU gU (htu2 _ (by simp [T.rows_eq,List.take_of_length_le])) rfl ?_;refine uCh (xs:=[_,_]) rfl rfl rfl rfl rfl rfl rfl rfl rfl rfl gU rfl ?_;refine uBa rfl rfl rfl rfl rfl rfl rfl gU gU (uC5 _ _ [t,tupT (u :: r)] (by simp [T.rows_eq,T.cells]) (by simp)) rfl ?_;refine uBQ rfl rfl rfl rfl rfl rfl rfl rfl rfl rfl rfl rfl ?_;refine uBe (by kernel_rfl) ?_;refine uAo ?_
   repeat (first | refine tR ?_ | refine bR ?_)
   refine uAr rfl ?_ trivial
   rfl
theorem uIC (ts : List T) (rs : List (List C)) (h : rs=T.rows ts) (hts : ts.length≤3000000) (h0 : 0 < ts.length) : Ctr sys 120 [.v (.c (.sl 4 rs))] [] (xm (tupT ts)) none []:=by
 subst h; exact uLP _ ts hts (Nat.le_refl _) h0
theorem uHR (l : List Tk) (n : Nat) (hl : l.length≤2000000) (ih : ∀ p : PS,p.at'≤l.length→l.length - p.at' < n→Ctr sys 68 [xr l p] [] (.tup [.agg (uAV l n p).1.cells, .agg (pbx l (uAV l n p).2)]) none []) (hf : Fwd l (uAV l n)) (p : PS) (hp : p.at'≤l.length) (hn : l.length - p.at' < n) :
  Ctr sys 119 [xr l p] [] (.tup [.c (.sl 4 (T.rows (uAX l (uAV l n) p).1)), .agg (pbx l (uAX l (uAV l n) p).2)]) none []:=by
 have hrl:=Tk.rows_len l
 have h0:=hf p
 refine uAA Tryz.func119 rfl rfl rfl rfl rfl rfl ?_;refine uAe (uAb ?_);refine uAs rfl (uAY rfl rfl rfl rfl) ?_;refine uAs rfl (uBz (.inr rfl) rfl rfl) ?_;refine uAs rfl (uAI rfl rfl rfl) ?_;refine uAf ?_;refine uAe (uAb ?_);refine uAa rfl rfl rfl (uAp rfl gU rfl rfl rfl rfl rfl) ?_;refine uAw rfl rfl rfl rfl rfl rfl gU gU (ih p hp hn) rfl ?_;refine uAa rfl rfl rfl (uAc rfl gU) ?_;refine uAa rfl rfl rfl (uAy rfl gU rfl) ?_;refine uAa rfl rfl rfl (uAy rfl gU rfl) ?_;refine uAs rfl (uAI rfl rfl rfl) ?_;refine uAs rfl (uAt rfl rfl rfl rfl rfl rfl rfl) ?_;refine uAs rfl (uAt rfl rfl rfl rfl rfl rfl rfl) ?_;refine uAf ?_;refine uAn (s:=⟨[(1,_,_),(3,_,_),(4,_,_)],[(.l 1,_),(.l 3,_),(.l 4,_)],[],[]⟩) (uAj (⟨sx rfl,sx rfl,sx rfl,trivial⟩) (⟨sx rfl,sx rfl,sx rfl,trivial⟩) trivial) ?_;refine uAe (uAb ?_);refine uAa rfl rfl rfl (uAp rfl gU rfl rfl rfl rfl rfl) ?_;refine uAM (xs:=[_]) rfl rfl rfl rfl rfl rfl rfl rfl rfl gU rfl ?_;refine uAs rfl (uAK (.inr rfl) rfl rfl rfl) ?_;refine uAf ?_;refine uAe ?_;refine uAx ?_;refine uA6 (ι:=PS × List T × T) { t:=[(1,_,_),(3,_,_),(4,_,_)],bx:=[(.l 3,_)],ow:=[(.t 5,_)] } (fun q=>[(5,true,xl q.2.1)]) (fun q=>[((.l 4),q.2.2.cells),((.l 1),pbx l q.1)]) (fun q=>p.at'≤q.1.at'∧q.1.at'≤l.length∧q.2.1.length≤q.1.at' + 1 ∧ ∃ k,l.length + 1≤k + q.1.at'∧uBr l (uAV l n) k q.1 q.2.1=uAX l (uAV l n) p) (fun q=>l.length - q.1.at') (((uAV l n p).2,[(uAV l n p).1],(uAV l n p).1)) (⟨h0.1,h0.2 hp,by simp,_,by dsimp only; omega,rfl⟩) (uAj (⟨⟨_,rfl,by exact tx (uEq [] (uAV l n p).1)⟩,⟨sx rfl,sx rfl,sx rfl,trivial⟩⟩) (⟨sx rfl,sx rfl,sx rfl,trivial⟩) (⟨rfl,trivial⟩)) ?_
 intro q hok
 dsimp only [List.cons_append,List.nil_append] at *
 obtain ⟨q,out,x⟩:=q
 dsimp only at hok ⊢
 obtain ⟨hq0,hq,ho,k,hk,hi⟩:=hok
 have hro:=T.rows_len out
 refine uAe ?_;refine uAe (uAb ?_);refine uAa rfl rfl rfl (uAp rfl gU rfl rfl rfl rfl rfl) ?_;refine uAw rfl rfl rfl rfl rfl rfl gU gU (uDL _ _ _ (by omega) (by omega)) rfl ?_;refine uAf ?_;refine uAm rfl (fun hc=>?_) (fun hc=>?_)
 ·try simp only [nn,uAh,T.rows_len,Tk.rows_len] at hc
  have hlt:=(uBE hc).1
  have hs : uAN l [44] q=q.go:=by rw [uAN,if_pos hc]
  have hg : q.go.at'=q.at' + 1:=rfl
  have h1:=hf q.go
  obtain ⟨k,rfl⟩ : ∃ j,k=j + 1:=⟨k - 1,by omega⟩
  rw [uDT hc] at hi
  have hsy:=uBU l q [44] (by omega) (by omega)
  rw [hs] at hsy
  refine uAq ?_;refine uAx ?_;refine uAe (uAb ?_);refine uAa rfl rfl rfl (uAp rfl gU rfl rfl rfl rfl rfl) ?_;refine uAw rfl rfl rfl rfl rfl rfl gU gU (hsy) rfl ?_;refine uAw rfl rfl rfl rfl rfl rfl gU gU (ih q.go (by omega) (by omega)) rfl ?_;refine uAa rfl rfl rfl (uAc rfl gU) ?_;refine uAa rfl rfl rfl (uAy rfl gU rfl) ?_;refine uAa rfl rfl rfl (uAy rfl gU rfl) ?_;refine uAs rfl (uAt rfl rfl rfl rfl rfl rfl rfl) ?_;refine uAs rfl (uAt rfl rfl rfl rfl rfl rfl rfl) ?_;refine uAf ?_;refine uAn (s:=⟨[(1,_,_),(3,_,_),(4,_,_),(5,_,_)],[(.l 1,_),(.l 3,_),(.l 4,_)],[(.t 5,_)],[]⟩) (uAj (⟨sx rfl,sx rfl,sx rfl,sx rfl,trivial⟩) (⟨sx rfl,sx rfl,sx rfl,trivial⟩) (⟨rfl,trivial⟩)) ?_;refine uAb ?_;refine uAs rfl (uAK (.inl rfl) rfl rfl rfl) ?_;refine uAa rfl rfl rfl (uAp rfl gU rfl rfl rfl rfl rfl) ?_;refine uAM (xs:=[_]) rfl rfl rfl rfl rfl rfl rfl rfl rfl gU rfl ?_;refine uAs rfl (uA5 rfl rfl rfl rfl rfl rfl rfl (by first | omega | (simp only [List.length_append,List.length_singleton,T.rows_len]; omega)) (by first | omega | (simp only [List.length_append,List.length_singleton,T.rows_len]; omega))) ?_;refine uAs rfl (uAK (.inr rfl) rfl rfl rfl) ?_;refine uAf ?_;refine ⟨((uAV l n q.go).2,out++[(uAV l n q.go).1],(uAV l n q.go).1),?_,?_,uAj (⟨⟨_,rfl,?_⟩,⟨sx rfl,sx rfl,sx rfl,trivial⟩⟩) (⟨⟨_,rfl,?_⟩,⟨⟨_,rfl,?_⟩,⟨sx rfl,trivial⟩⟩⟩) (⟨rfl,trivial⟩)⟩
  ·exact ⟨by dsimp only; omega,h1.2 (by omega),by simp only [List.length_append,List.length_singleton]; omega,k,by dsimp only; omega,hi⟩
  ·dsimp only; omega
  all_goals first
   | rfl
   | exact tx (uEq out (uAV l n q.go).1)
 ·try simp only [nn,uAh,T.rows_len,Tk.rows_len] at hc
  rw [uCz hc] at hi
  refine uAP ?_
  repeat (first | refine uAH ?_ | refine uAF ?_ | refine uAD rfl ?_)
  refine uAe ?_;refine awp_drawn' (by kernel_rfl) ?_;refine uDy rfl (.inl rfl) rfl rfl rfl rfl rfl ?_;refine uBi rfl rfl rfl rfl rfl rfl rfl gU rfl rfl rfl rfl rfl ?_;refine uDy rfl (.inr rfl) rfl rfl rfl rfl rfl ?_;refine uBQ rfl rfl rfl rfl rfl rfl rfl rfl rfl rfl rfl rfl ?_;refine uBe (by kernel_rfl) ?_;refine uAo ?_
  repeat (first | refine tR ?_ | refine bR ?_)
  refine uAr rfl ?_ trivial
  (rw [← hi]; rfl)
theorem uDp (l : List Tk) (n : Nat) : Fwd l (uAV l n):=fun p=>by rw [(uGt l n p).1]; exact uB0 l n p
theorem uHy (l : List Tk) (n : Nat) (p : PS) : (uAX l (uAV l n) p).1.length + p.at'≤1 + (uAX l (uAV l n) p).2.at':=uEa (uDp l n) p
theorem uMK {l : List Tk} {n : Nat} {p : PS} (h : symQ l p [60]=true) (hb : (uAN l [62] (uAX l (uAV l n) (uAN l [44] (uAV l n p.go).2)).2).bad=true) : uAV l (n + 1) p=(T0,uAN l [62] (uAX l (uAV l n) (uAN l [44] (uAV l n p.go).2)).2):=by
 rw [uAV,if_pos h,if_pos hb]
theorem uMN {l : List Tk} {n : Nat} {p : PS} (h : symQ l p [60]=true) (hb : (uAN l [62] (uAX l (uAV l n) (uAN l [44] (uAV l n p.go).2)).2).bad=false) :
  uAV l (n + 1) p=(tupT ((uAV l n p.go).1 :: (uAX l (uAV l n) (uAN l [44] (uAV l n p.go).2)).1),uAN l [62] (uAX l (uAV l n) (uAN l [44] (uAV l n p.go).2)).2):=by
 rw [uAV,if_pos h,if_neg (by rw [hb]; simp)]
theorem uM1 {l : List Tk} {n : Nat} {p : PS} (h : symQ l p [60]=false) (h2 : symQ l (uAv l [] p).2 [40]=false) : uAV l (n + 1) p=(⟨2,(uAv l [] p).1,0,[]⟩,(uAv l [] p).2):=by
 rw [uAV,if_neg (by rw [h]; simp),if_neg (by rw [h2]; simp)]
theorem uM6 {l : List Tk} {n : Nat} {p : PS} (h : symQ l p [60]=false) (h2 : symQ l (uAv l [] p).2 [40]=true) (h3 : symQ l (uAv l [] p).2.go [41]=true) : uAV l (n + 1) p=(⟨3,(uAv l [] p).1,0,[]⟩,(uAv l [] p).2.go.go):=by
 rw [uAV,if_neg (by rw [h]; simp),if_pos h2,if_pos h3]
theorem uM3 {l : List Tk} {n : Nat} {p : PS} (h : symQ l p [60]=false) (h2 : symQ l (uAv l [] p).2 [40]=true) (h3 : symQ l (uAv l [] p).2.go [41]=false) :
  uAV l (n + 1) p=(⟨3,(uAv l [] p).1,0,(uAX l (uAV l n) (uAv l [] p).2.go).1⟩,uAN l [41] (uAX l (uAV l n) (uAv l [] p).2.go).2):=by
 rw [uAV,if_neg (by rw [h]; simp),if_pos h2,if_neg (by rw [h3]; simp)]
set_option maxHeartbeats 4000000 in
theorem uHk (l : List Tk) (hl : l.length≤2000000) : ∀ (n : Nat) (p : PS),p.at'≤l.length→l.length - p.at' < n→Ctr sys 68 [xr l p] [] (.tup [.agg (uAV l n p).1.cells, .agg (pbx l (uAV l n p).2)]) none []:=by
 intro n
 induction n with
 | zero=>intro p _ h; omega
 | succ n ih =>
  intro p hp hn
  have hrl:=Tk.rows_len l
  have hg : ∀ q : PS,q.go.at'=q.at' + 1:=fun _=>rfl
  have hml : ∀ q : PS,(T.rows (uAX l (uAV l n) q).1).length=(uAX l (uAV l n) q).1.length:=fun q=>T.rows_len _
  refine uAA Tryz.func68 rfl rfl rfl rfl rfl rfl ?_;refine uAe (uAb ?_);refine uAs rfl (uAY rfl rfl rfl rfl) ?_;refine uAs rfl (uAI rfl rfl rfl) ?_;refine uAs rfl (uAI rfl rfl rfl) ?_;refine uAf ?_;refine uAe ?_;refine uAe (uAb ?_);refine uAa rfl rfl rfl (uAp rfl gU rfl rfl rfl rfl rfl) ?_;refine uAw rfl rfl rfl rfl rfl rfl gU gU (uDL _ _ _ (by omega) (by omega)) rfl ?_;refine uAf ?_;refine uAn (s:=⟨[(1,_,_),(2,_,_),(3,_,_),(10,_,_)],[(.l 1,_),(.l 2,_),(.l 3,_)],[],[]⟩) (uAj (⟨sx rfl,sx rfl,sx rfl,sx rfl,trivial⟩) (⟨sx rfl,sx rfl,sx rfl,trivial⟩) trivial) ?_;refine uAm rfl (fun hc=>?_) (fun hc=>?_)
  ·try simp only [nn,uAh,T.rows_len,Tk.rows_len] at hc
   have hlt:=(uBE hc).1
   have hs : uAN l [60] p=p.go:=by rw [uAN,if_pos hc]
   have hgp:=hg p
   have a1:=uDp l n p.go
   have a2:=uBm l [44] (uAV l n p.go).2
   have a3:=uCw (uDp l n) (uAN l [44] (uAV l n p.go).2)
   have a4:=uBm l [62] (uAX l (uAV l n) (uAN l [44] (uAV l n p.go).2)).2
   have a5:=uHy l n (uAN l [44] (uAV l n p.go).2)
   have a6:=hml (uAN l [44] (uAV l n p.go).2)
   have hsy:=uBU l p [60] (by omega) (by omega)
   rw [hs] at hsy
   refine uAe (uAb ?_);refine uAa rfl rfl rfl (uAp rfl gU rfl rfl rfl rfl rfl) ?_;refine uAw rfl rfl rfl rfl rfl rfl gU gU (hsy) rfl ?_;refine uAw rfl rfl rfl rfl rfl rfl gU gU (ih p.go (by omega) (by omega)) rfl ?_;refine uAa rfl rfl rfl (uAc rfl gU) ?_;refine uAa rfl rfl rfl (uAy rfl gU rfl) ?_;refine uAa rfl rfl rfl (uAy rfl gU rfl) ?_;refine uAs rfl (uAI rfl rfl rfl) ?_;refine uAs rfl (uAI rfl rfl rfl) ?_;refine uAs rfl (uAt rfl rfl rfl rfl rfl rfl rfl) ?_;refine uAs rfl (uAt rfl rfl rfl rfl rfl rfl rfl) ?_;refine uAf ?_;refine uAn (s:=⟨[(2,_,_),(3,_,_),(4,_,_),(5,_,_)],[(.l 2,_),(.l 3,_),(.l 4,_),(.l 5,_)],[],[]⟩) (uAj (⟨sx rfl,sx rfl,sx rfl,sx rfl,trivial⟩) (⟨sx rfl,sx rfl,sx rfl,sx rfl,trivial⟩) trivial) ?_;refine uAe (uAb ?_);refine uAa rfl rfl rfl (uAp rfl gU rfl rfl rfl rfl rfl) ?_;refine uAw rfl rfl rfl rfl rfl rfl gU gU (uBU l (uAV l n p.go).2 [44] (by omega) (by omega)) rfl ?_;refine uAw rfl rfl rfl rfl rfl rfl gU gU (uHR l n hl ih (uDp l n) (uAN l [44] (uAV l n p.go).2) (by omega) (by omega)) rfl ?_;refine uAa rfl rfl rfl (uAc rfl gU) ?_;refine uAa rfl rfl rfl (uAy rfl gU rfl) ?_;refine uAa rfl rfl rfl (uAy rfl gU rfl) ?_;refine uAa rfl rfl rfl (uAd rfl gU) ?_;refine uAs rfl (uAt rfl rfl rfl rfl rfl rfl rfl) ?_
   refine uAf ?_;refine uAn (s:=⟨[(2,_,_),(3,_,_),(4,_,_),(5,_,_),(6,_,_)],[(.l 2,_),(.l 3,_),(.l 4,_),(.l 5,_)],[],[]⟩) (uAj (⟨sx rfl,sx rfl,sx rfl,sx rfl,sx rfl,trivial⟩) (⟨sx rfl,sx rfl,sx rfl,sx rfl,trivial⟩) trivial) ?_;refine uAe (uAb ?_);refine uAa rfl rfl rfl (uAp rfl gU rfl rfl rfl rfl rfl) ?_;refine uAw rfl rfl rfl rfl rfl rfl gU gU (uBU l (uAX l (uAV l n) (uAN l [44] (uAV l n p.go).2)).2 [62] (by omega) (by omega)) rfl ?_;refine uAs rfl (uAt rfl rfl rfl rfl rfl rfl rfl) ?_;refine uAf ?_;refine uAe ?_;refine uAe (uAb ?_);refine uAa rfl rfl rfl (uAg rfl gU rfl rfl) ?_;refine uAa rfl rfl rfl (uAl rfl gU rfl rfl rfl rfl) ?_;refine uAf ?_;refine uAm rfl (fun hc2=>?_) (fun hc2=>?_)
   ·try simp only [nn,uAh,T.rows_len,Tk.rows_len] at hc2
    rw [uMK hc hc2]
    refine uAe ?_;refine awp_drawn' (by kernel_rfl) ?_;refine uAi rfl rfl rfl rfl (uAS rfl Tryz.underlying39 rfl gU) ?_;refine uBi rfl rfl rfl rfl rfl rfl rfl gU rfl rfl rfl rfl rfl ?_;refine uBQ rfl rfl rfl rfl rfl rfl rfl rfl rfl rfl rfl rfl ?_;refine uBQ rfl rfl rfl rfl rfl rfl rfl rfl rfl rfl rfl rfl ?_;refine uBe (by kernel_rfl) ?_;refine uAo ?_
    repeat (first | refine tR ?_ | refine bR ?_)
    refine uAr rfl ?_ trivial
    rfl
   ·try simp only [nn,uAh,T.rows_len,Tk.rows_len] at hc2
    rw [uMN hc hc2]
    refine uAq ?_;refine uAe ?_;refine awp_drawn' (by kernel_rfl) ?_;refine uBi rfl rfl rfl rfl rfl rfl rfl gU rfl rfl rfl rfl rfl ?_;refine uCh (xs:=[_]) rfl rfl rfl rfl rfl rfl rfl rfl rfl rfl gU rfl ?_;refine uAi rfl rfl rfl rfl (uAc rfl gU) ?_;refine uBZ rfl rfl rfl rfl rfl rfl rfl rfl rfl rfl rfl (by first | omega | (simp only [List.length_append,List.length_singleton,T.rows_len]; omega)) (by first | omega | (simp only [List.length_append,List.length_singleton,T.rows_len]; omega)) ?_;refine uBa rfl rfl rfl rfl rfl rfl rfl gU gU (uIC ((uAV l n p.go).1 :: (uAX l (uAV l n) (uAN l [44] (uAV l n p.go).2)).1) _ (by rw [T.rows_eq,T.rows_eq]; rfl) (by simp only [List.length_cons]; omega) (by simp)) rfl ?_;refine uBi rfl rfl rfl rfl rfl rfl rfl gU rfl rfl rfl rfl rfl ?_;refine uBQ rfl rfl rfl rfl rfl rfl rfl rfl rfl rfl rfl rfl ?_;refine uBQ rfl rfl rfl rfl rfl rfl rfl rfl rfl rfl rfl rfl ?_;refine uBe (by kernel_rfl) ?_;refine uAo ?_
    repeat (first | refine tR ?_ | refine bR ?_)
    refine uAr rfl ?_ trivial
    rfl
  ·try simp only [nn,uAh,T.rows_len,Tk.rows_len] at hc
   have a1:=uA3 l [] p
   refine uAq ?_;refine uAe (uAb ?_);refine uAa rfl rfl rfl (uAp rfl gU rfl rfl rfl rfl rfl) ?_;refine uAw rfl rfl rfl rfl rfl rfl gU gU (uIM l p (by omega) (by omega)) rfl ?_;refine uAa rfl rfl rfl (uAc rfl gU) ?_;refine uAa rfl rfl rfl (uAy rfl gU rfl) ?_;refine uAa rfl rfl rfl (uAy rfl gU rfl) ?_;refine uAa rfl rfl rfl (uAd rfl gU) ?_;refine uAs rfl (uAt rfl rfl rfl rfl rfl rfl rfl) ?_;refine uAf ?_;refine uAn (s:=⟨[(1,_,_),(2,_,_),(3,_,_),(7,_,_)],[(.l 1,_),(.l 2,_),(.l 3,_)],[],[]⟩) (uAj (⟨sx rfl,sx rfl,sx rfl,sx rfl,trivial⟩) (⟨sx rfl,sx rfl,sx rfl,trivial⟩) trivial) ?_;refine uAe ?_;refine uAe (uAb ?_);refine uAa rfl rfl rfl (uAg rfl gU rfl rfl) ?_;refine uAa rfl rfl rfl (uAl rfl gU rfl rfl rfl rfl) ?_;refine uAa rfl rfl rfl (uAc rfl gU) ?_;refine uAa rfl rfl rfl (uAp rfl gU rfl rfl rfl rfl rfl) ?_;refine uAw rfl rfl rfl rfl rfl rfl gU (fun hh=>gA ((fun hh=>hh) hh) (gA rfl (rfl))) (uDL _ _ _ (by omega) (by omega)) rfl ?_;refine uAa rfl rfl rfl (uA0 rfl (fun hh=>hh)) ?_;refine uAa rfl rfl rfl (uAJ rfl rfl gU (fun _ hi=>gP rfl hi)) ?_;refine uAf ?_;refine uAn (s:=⟨[(1,_,_),(2,_,_),(3,_,_),(7,_,_),(46,_,_)],[(.l 1,_),(.l 2,_),(.l 3,_)],[],[]⟩) (uAj (⟨sx rfl,sx rfl,sx rfl,sx rfl,sx rfl,trivial⟩) (⟨sx rfl,sx rfl,sx rfl,trivial⟩) trivial) ?_
   refine uAm rfl (fun hc2=>?_) (fun hc2=>?_)
   ·try simp only [nn,uAh,T.rows_len,Tk.rows_len] at hc2
    have h2 : symQ l (uAv l [] p).2 [40]=false:=by
     rcases hc2 with q | q
     ·exact uCO q
     ·exact q
    rw [uM1 hc h2]
    refine uAe ?_;refine awp_drawn' (by kernel_rfl) ?_;refine uAi rfl rfl rfl rfl (uAc rfl gU) ?_;refine uBa rfl rfl rfl rfl rfl rfl rfl gU gU (uHG _ _) rfl ?_;refine uBi rfl rfl rfl rfl rfl rfl rfl gU rfl rfl rfl rfl rfl ?_;refine uBQ rfl rfl rfl rfl rfl rfl rfl rfl rfl rfl rfl rfl ?_;refine uBQ rfl rfl rfl rfl rfl rfl rfl rfl rfl rfl rfl rfl ?_;refine uBe (by kernel_rfl) ?_;refine uAo ?_
    repeat (first | refine tR ?_ | refine bR ?_)
    refine uAr rfl ?_ trivial
    rfl
   ·try simp only [nn,uAh,T.rows_len,Tk.rows_len] at hc2
    have h2:=hc2.2
    have hlt:=(uBE h2).1
    have hg2:=hg (uAv l [] p).2
    have hs2 : uAN l [40] (uAv l [] p).2=(uAv l [] p).2.go:=by rw [uAN,if_pos h2]
    have hsy:=uBU l (uAv l [] p).2 [40] (by omega) (by omega)
    rw [hs2] at hsy
    refine uAq ?_;refine uAe (uAb ?_);refine uAa rfl rfl rfl (uAp rfl gU rfl rfl rfl rfl rfl) ?_;refine uAw rfl rfl rfl rfl rfl rfl gU gU (hsy) rfl ?_;refine uAs rfl (uAt rfl rfl rfl rfl rfl rfl rfl) ?_;refine uAf ?_;refine uAe ?_;refine uAe (uAb ?_);refine uAa rfl rfl rfl (uAp rfl gU rfl rfl rfl rfl rfl) ?_;refine uAw rfl rfl rfl rfl rfl rfl gU gU (uDL _ _ _ (by omega) (by omega)) rfl ?_;refine uAf ?_;refine uAm rfl (fun hc3=>?_) (fun hc3=>?_)
    ·try simp only [nn,uAh,T.rows_len,Tk.rows_len] at hc3
     have hlt3:=(uBE hc3).1
     rw [uM6 hc h2 hc3]
     have hs3 : uAN l [41] (uAv l [] p).2.go=(uAv l [] p).2.go.go:=by rw [uAN,if_pos hc3]
     have hsy3:=uBU l (uAv l [] p).2.go [41] (by omega) (by omega)
     rw [hs3] at hsy3
     refine uAe ?_;refine awp_drawn' (by kernel_rfl) ?_;refine uAi rfl rfl rfl rfl (uAc rfl gU) ?_;refine uBa rfl rfl rfl rfl rfl rfl rfl gU gU (uC5 _ _ [] rfl (by simp)) rfl ?_;refine uBi rfl rfl rfl rfl rfl rfl rfl gU rfl rfl rfl rfl rfl ?_;refine uBa rfl rfl rfl rfl rfl rfl rfl gU gU (hsy3) rfl ?_;refine uBQ rfl rfl rfl rfl rfl rfl rfl rfl rfl rfl rfl rfl ?_;refine uBQ rfl rfl rfl rfl rfl rfl rfl rfl rfl rfl rfl rfl ?_;refine uBe (by kernel_rfl) ?_;refine uAo ?_
     repeat (first | refine tR ?_ | refine bR ?_)
     refine uAr rfl ?_ trivial
     rfl
    ·try simp only [nn,uAh,T.rows_len,Tk.rows_len] at hc3
     rw [uM3 hc h2 hc3]
     have a3:=uCw (uDp l n) (uAv l [] p).2.go
     have a5:=uHy l n (uAv l [] p).2.go
     refine uAq ?_;refine uAe (uAb ?_);refine uAa rfl rfl rfl (uAp rfl gU rfl rfl rfl rfl rfl) ?_;refine uAw rfl rfl rfl rfl rfl rfl gU gU (uHR l n hl ih (uDp l n) (uAv l [] p).2.go (by omega) (by omega)) rfl ?_;refine uAa rfl rfl rfl (uAc rfl gU) ?_;refine uAa rfl rfl rfl (uAy rfl gU rfl) ?_;refine uAa rfl rfl rfl (uAy rfl gU rfl) ?_;refine uAa rfl rfl rfl (uAd rfl gU) ?_;refine uAs rfl (uAt rfl rfl rfl rfl rfl rfl rfl) ?_;refine uAf ?_;refine uAn (s:=⟨[(1,_,_),(2,_,_),(3,_,_),(7,_,_),(8,_,_)],[(.l 1,_),(.l 2,_),(.l 3,_)],[],[]⟩) (uAj (⟨sx rfl,sx rfl,sx rfl,sx rfl,sx rfl,trivial⟩) (⟨sx rfl,sx rfl,sx rfl,trivial⟩) trivial) ?_;refine uAe ?_;refine awp_drawn' (by kernel_rfl) ?_;refine uAi rfl rfl rfl rfl (uAc rfl gU) ?_;refine uAi rfl rfl rfl rfl (uAc rfl gU) ?_;refine uBa rfl rfl rfl rfl rfl rfl rfl gU gU (uC5 _ _ (uAX l (uAV l n) (uAv l [] p).2.go).1 rfl (by omega)) rfl ?_;refine uBi rfl rfl rfl rfl rfl rfl rfl gU rfl rfl rfl rfl rfl ?_;refine uBa rfl rfl rfl rfl rfl rfl rfl gU gU (uBU l (uAX l (uAV l n) (uAv l [] p).2.go).2 [41] (by omega) (by omega)) rfl ?_;refine uBQ rfl rfl rfl rfl rfl rfl rfl rfl rfl rfl rfl rfl ?_;refine uBQ rfl rfl rfl rfl rfl rfl rfl rfl rfl rfl rfl rfl ?_;refine uBe (by kernel_rfl) ?_;refine uAo ?_
     repeat (first | refine tR ?_ | refine bR ?_)
     refine uAr rfl ?_ trivial
     rfl
end Go.Proofs.YtnjjdbapadkomaaGreatDoor
namespace Go.Proofs.YtnjjdbapadkomaaGreatDoor
open Go Go.Abs
theorem uEi (s : List UInt8) : Ctr sys 37 [xs s] [] (xm ⟨2,s,0,[]⟩) none []:=by
 refine uAA Tryz.func37 rfl rfl rfl rfl rfl rfl ?_;refine uAe (uAb ?_);refine uAs rfl (uAI rfl rfl rfl) ?_;refine uAf ?_;refine uAe (uAb ?_);refine uAa rfl rfl rfl (uAc rfl gU) ?_;refine uAw rfl rfl rfl rfl rfl rfl gU gU (uHG _ _) rfl ?_;refine uAs rfl (uAt rfl rfl rfl rfl rfl rfl rfl) ?_;refine uAf ?_;refine uAo ?_
 repeat (first | refine tR ?_ | refine bR ?_)
 refine uAr rfl ?_ trivial
 rfl
def exS : List UInt8:=[112,114,111,116,111,99,111,108,32,80,32,123,32,114,111,108,101,32,65,44,32,66,59,32,102,114,101,115,104,32,65,58,32,110,97,32,110,111,110,99,101,59,32,109,101,115,115,97,103,101,32,65,32,45,62,32,66,58,32,101,110,99,40,60,110,97,44,32,65,62,44,32,115,104,107,40,65,44,32,66,41,41,59,32,103,111,97,108,32,115,101,99,114,101,116,32,66,58,32,110,97,59,32,125]
def exM : T:=⟨3,[101,110,99],0,[⟨3,wPair,0,[⟨2,[110,97],0,[]⟩,⟨2,[65],0,[]⟩]⟩,⟨3,[115,104,107],0,[⟨2,[65],0,[]⟩,⟨2,[66],0,[]⟩]⟩]⟩
def exN : Nar:=⟨[80],[[65],[66]],[⟨[65],[110,97],2⟩],[],[⟨[65],[66],exM,1⟩],[⟨1,[66],[],[⟨2,[110,97],0,[]⟩],1⟩]⟩
def exV : List UInt8:=[60,97,44,32,60,98,44,32,99,62,62]
def exT : T:=⟨3,wPair,0,[⟨2,[97],0,[]⟩,⟨3,wPair,0,[⟨2,[98],0,[]⟩,⟨2,[99],0,[]⟩]⟩]⟩
set_option maxRecDepth 100000 in
theorem ex1 : uFp exS=(exN,0,0):=by kernel_rfl
set_option maxRecDepth 100000 in
theorem ex2 : narE uAL exN=0:=by decide +kernel
set_option maxRecDepth 100000 in
theorem ex3 : (lnsP exN.text).length=6∧exN.text.length≤1000:=by decide +kernel
set_option maxRecDepth 100000 in
theorem ex4 : uCf exV=(exT,0,0):=by kernel_rfl
set_option maxRecDepth 100000 in
theorem ex5 : ftE exT=([60,97,44,32,98,44,32,99,62],0):=by decide +kernel
theorem uG4 : Ctr sys 10 [] [] (xb true) none []:=by
 have h1:=uJZ exS (by decide)
 rw [ex1] at h1
 have h2:=uIF exN (by decide) (by decide)
 rw [uE5,if_neg (by rw [ex2]; simp)] at h2
 have h3:=uFo exV (by decide)
 rw [ex4] at h3
 have h4:=uDQ exT (by decide)
 rw [ex5] at h4
 obtain ⟨x1,x2⟩:=ex3
 have h5:=uIY exN.text (by omega)
 have l5:=uAh (lnsP exN.text)
 have h6 : Ctr sys 20 [xm exM,xm exM] [] (xb true) none []:=by
  have := uEh exM exM (by decide) (by decide)
  rwa [T.cmp_self] at this
 refine uAA Tryz.func10 rfl rfl rfl rfl rfl rfl ?_;refine uAe (uAb ?_);refine uAa rfl rfl rfl (uAd rfl gU) ?_;refine uAf ?_;refine uAe (uAb ?_);refine uAw rfl rfl rfl rfl rfl rfl gU gU (h1) rfl ?_;refine uAa rfl rfl rfl (uAc rfl gU) ?_;refine uAa rfl rfl rfl (uAy rfl gU rfl) ?_;refine uAa rfl rfl rfl (uAy rfl gU rfl) ?_;refine uAa rfl rfl rfl (uAy rfl gU rfl) ?_;refine uAs rfl (uAI rfl rfl rfl) ?_;refine uAs rfl (uAt rfl rfl rfl rfl rfl rfl rfl) ?_;refine uAa rfl rfl rfl (uAd rfl gU) ?_;refine uAa rfl rfl rfl (uAd rfl gU) ?_;refine uAf ?_;refine uAn (s:=⟨[(1,_,_),(3,_,_)],[(.l 1,_)],[],[]⟩) (uAj (⟨sx rfl,sx rfl,trivial⟩) (⟨sx rfl,trivial⟩) trivial) ?_;refine uAe (uAb ?_);refine uAa rfl rfl rfl (uAp rfl gU rfl rfl rfl rfl rfl) ?_;refine uAw rfl rfl rfl rfl rfl rfl gU gU (h2) rfl ?_;refine uAa rfl rfl rfl (uAc rfl gU) ?_;refine uAa rfl rfl rfl (uAy rfl gU rfl) ?_;refine uAa rfl rfl rfl (uAy rfl gU rfl) ?_;refine uAa rfl rfl rfl (uAd rfl gU) ?_;refine uAa rfl rfl rfl (uAd rfl gU) ?_;refine uAf ?_;refine uAn (s:=⟨[(1,_,_),(3,_,_),(4,_,_),(5,_,_)],[(.l 1,_)],[],[]⟩) (uAj (⟨sx rfl,sx rfl,sx rfl,sx rfl,trivial⟩) (⟨sx rfl,trivial⟩) trivial) ?_;refine uAe (uAb ?_)
 refine uAw rfl rfl rfl rfl rfl rfl gU gU (h3) rfl ?_;refine uAa rfl rfl rfl (uAc rfl gU) ?_;refine uAa rfl rfl rfl (uAy rfl gU rfl) ?_;refine uAa rfl rfl rfl (uAy rfl gU rfl) ?_;refine uAa rfl rfl rfl (uAy rfl gU rfl) ?_;refine uAs rfl (uAI rfl rfl rfl) ?_;refine uAs rfl (uAt rfl rfl rfl rfl rfl rfl rfl) ?_;refine uAa rfl rfl rfl (uAd rfl gU) ?_;refine uAa rfl rfl rfl (uAd rfl gU) ?_;refine uAf ?_;refine uAn (s:=⟨[(1,_,_),(3,_,_),(4,_,_),(5,_,_),(6,_,_),(8,_,_)],[(.l 1,_),(.l 6,_)],[],[]⟩) (uAj (⟨sx rfl,sx rfl,sx rfl,sx rfl,sx rfl,sx rfl,trivial⟩) (⟨sx rfl,sx rfl,trivial⟩) trivial) ?_;refine uAe (uAb ?_);refine uAa rfl rfl rfl (uAp rfl gU rfl rfl rfl rfl rfl) ?_;refine uAw rfl rfl rfl rfl rfl rfl gU gU (h4) rfl ?_;refine uAa rfl rfl rfl (uAc rfl gU) ?_;refine uAa rfl rfl rfl (uAy rfl gU rfl) ?_;refine uAa rfl rfl rfl (uAy rfl gU rfl) ?_;refine uAa rfl rfl rfl (uAd rfl gU) ?_;refine uAa rfl rfl rfl (uAd rfl gU) ?_;refine uAf ?_;refine uAn (s:=⟨[(1,_,_),(3,_,_),(4,_,_),(5,_,_),(8,_,_),(9,_,_),(10,_,_)],[(.l 1,_)],[],[]⟩) (uAj (⟨sx rfl,sx rfl,sx rfl,sx rfl,sx rfl,sx rfl,sx rfl,trivial⟩) (⟨sx rfl,trivial⟩) trivial) ?_;refine uAe ?_;refine uAe (uAb ?_)
 refine uAa rfl rfl rfl (uAc rfl gU) ?_;refine uAa rfl rfl rfl (uAk rfl rfl gU gU rfl) ?_;refine uAa rfl rfl rfl (uAc rfl gU) ?_;refine uAa rfl rfl rfl (uAc rfl gU) ?_;refine uAa rfl rfl rfl (uAk rfl rfl (fun hh=>hh) gU rfl) ?_;refine uAa rfl rfl rfl (uAJ rfl rfl gU (fun _ hi=>gP rfl hi)) ?_;refine uAa rfl rfl rfl (uAc rfl gU) ?_;refine uAa rfl rfl rfl (uAc rfl gU) ?_;refine uAa rfl rfl rfl (uAk rfl rfl (fun hh=>hh) gU rfl) ?_;refine uAa rfl rfl rfl (uAJ rfl rfl gU (fun _ hi=>gP rfl hi)) ?_;refine uAa rfl rfl rfl (uAc rfl gU) ?_;refine uAa rfl rfl rfl (uAc rfl gU) ?_;refine uBo (s:=⟨[(1,_,_),(4,_,_),(9,_,_),(42,_,_),(43,_,_)],[(.l 1,_)],[],[]⟩) (uAj (⟨sx rfl,sx rfl,sx rfl,sx rfl,sx rfl,trivial⟩) (⟨sx rfl,trivial⟩) trivial) ?_;refine uAa rfl rfl rfl (uAk rfl rfl (fun hh=>hh) gU rfl) ?_;refine uAa rfl rfl rfl (uAJ rfl rfl gU (fun _ hi=>gP rfl hi)) ?_;refine uAa rfl rfl rfl (uAc rfl gU) ?_;refine uAa rfl rfl rfl (uAc rfl gU) ?_;refine uAa rfl rfl rfl (uA4 rfl rfl (fun hh=>hh) gU rfl) ?_;refine uAa rfl rfl rfl (uAJ rfl rfl gU (fun _ hi=>gP rfl hi)) ?_;refine uAa rfl rfl rfl (uAc rfl gU) ?_;refine uAa rfl rfl rfl (uAg rfl gU rfl rfl) ?_;refine uAa rfl rfl rfl (uAl rfl (fun hh=>hh) rfl rfl rfl rfl) ?_;refine uAa rfl rfl rfl (uBb rfl (fun hh=>hh) rfl rfl) ?_
 refine uAa rfl rfl rfl (uAk rfl rfl (fun hh=>hh) gU rfl) ?_;refine uAa rfl rfl rfl (uAJ rfl rfl gU (fun _ hi=>gP rfl hi)) ?_;refine uBo (s:=⟨[(1,_,_),(4,_,_),(55,_,_)],[(.l 1,_)],[],[]⟩) (uAj (⟨sx rfl,sx rfl,sx rfl,trivial⟩) (⟨sx rfl,trivial⟩) trivial) ?_;refine uAa rfl rfl rfl (uAc rfl gU) ?_;refine uAa rfl rfl rfl (uAc rfl gU) ?_;refine uAw rfl rfl rfl rfl rfl rfl gU (fun hh=>gA ((fun hh=>hh) hh) (rfl)) (h5) rfl ?_;refine uAa rfl rfl rfl (uBb rfl (fun hh=>hh) rfl rfl) ?_;refine uAa rfl rfl rfl (uAk rfl rfl (fun hh=>hh) gU rfl) ?_;refine uAa rfl rfl rfl (uAJ rfl rfl gU (fun _ hi=>gP rfl hi)) ?_;refine uAf ?_;refine uAn (s:=⟨[(1,_,_),(61,_,_)],[(.l 1,_)],[],[]⟩) (uAj (⟨sx rfl,sx rfl,trivial⟩) (⟨sx rfl,trivial⟩) trivial) ?_;refine uAm rfl (fun hc=>?_) (fun hc=>?_)
 ·exfalso
  rw [l5,x1] at hc
  simp [exN,Sp.rows] at hc
 ·refine uAq ?_
  refine uAe (uAb ?_);refine uAa rfl rfl rfl (uAd rfl gU) ?_;refine uAf ?_;refine uAe ?_;refine awp_drawn' (by kernel_rfl) ?_;refine uAi rfl rfl rfl rfl (uAg rfl gU rfl rfl) ?_;refine uAW rfl rfl rfl rfl rfl rfl rfl gU rfl rfl rfl rfl ?_;refine uAi rfl rfl rfl rfl (uAB (j:=0) rfl rfl gU gU rfl rfl (by first | omega | (simp at hh ⊢; omega) | decide) (fun hh=>Sp.rows_at (by first | omega | (simp at hh ⊢; omega) | decide))) ?_;refine uAi rfl rfl rfl rfl (uBc rfl gU rfl rfl) ?_;refine uAi rfl rfl rfl rfl (uAR rfl gU rfl rfl rfl rfl) ?_;refine uAi rfl rfl rfl rfl (uAc rfl gU) ?_;refine uBa rfl rfl rfl rfl rfl rfl rfl gU gU (uEi [110,97]) rfl ?_;refine uAi rfl rfl rfl rfl (uAc rfl gU) ?_;refine uBa rfl rfl rfl rfl rfl rfl rfl gU gU (uEi [65]) rfl ?_;refine uCh (xs:=[_,_]) rfl rfl rfl rfl rfl rfl rfl rfl rfl rfl gU rfl ?_;refine uBa rfl rfl rfl rfl rfl rfl rfl gU gU (uC5 _ _ [⟨2,[110,97],0,[]⟩,⟨2,[65],0,[]⟩] (by simp [T.rows_eq,T.cells]) (by simp)) rfl ?_;refine uAi rfl rfl rfl rfl (uAc rfl gU) ?_;refine uBa rfl rfl rfl rfl rfl rfl rfl gU gU (uEi [65]) rfl ?_;refine uAi rfl rfl rfl rfl (uAc rfl gU) ?_;refine uBa rfl rfl rfl rfl rfl rfl rfl gU gU (uEi [66]) rfl ?_;refine uCh (xs:=[_,_]) rfl rfl rfl rfl rfl rfl rfl rfl rfl rfl gU rfl ?_;refine uBa rfl rfl rfl rfl rfl rfl rfl gU gU (uC5 _ _ [⟨2,[65],0,[]⟩,⟨2,[66],0,[]⟩] (by simp [T.rows_eq,T.cells]) (by simp)) rfl ?_
  refine uCh (xs:=[_,_]) rfl rfl rfl rfl rfl rfl rfl rfl rfl rfl gU rfl ?_;refine uBa rfl rfl rfl rfl rfl rfl rfl gU gU (uC5 _ _ exM.kids (by rfl) (by decide)) rfl ?_;refine uBa rfl rfl rfl rfl rfl rfl rfl gU gU (h6) rfl ?_;refine uAi rfl rfl rfl rfl (uAd rfl gU) ?_;refine uBe (by kernel_rfl) ?_;refine uAo ?_
  repeat (first | refine tR ?_ | refine bR ?_)
  refine uAr rfl ?_ trivial
  rfl
end Go.Proofs.YtnjjdbapadkomaaGreatDoor
namespace Go.Proofs.YtnjjdbapadkomaaGreatDoor
open Go Go.Abs
namespace T
end T
end Go.Proofs.YtnjjdbapadkomaaGreatDoor
namespace Go.Proofs.YtnjjdbapadkomaaGreatDoor
open Go Go.Abs
namespace T
mutual
def all : T→List T
 | mk k n s ks=>mk k n s ks :: alls ks
def alls : List T→List T
 | []=>[]
 | t :: ts=>all t++alls ts
end
end T
end Go.Proofs.YtnjjdbapadkomaaGreatDoor
namespace Go.Abs
end Go.Abs
namespace Go.Proofs.YtnjjdbapadkomaaGreatDoor
open Go Go.Abs
end Go.Proofs.YtnjjdbapadkomaaGreatDoor
namespace Go.Proofs.YtnjjdbapadkomaaGreatDoor
open Go Go.Abs
end Go.Proofs.YtnjjdbapadkomaaGreatDoor
namespace Go.Proofs.YtnjjdbapadkomaaGreatDoor
open Go Go.Abs
end Go.Proofs.YtnjjdbapadkomaaGreatDoor
namespace Go.Proofs.YtnjjdbapadkomaaGreatDoor
open Go Go.Abs
end Go.Proofs.YtnjjdbapadkomaaGreatDoor
namespace Go.Proofs.YtnjjdbapadkomaaGreatDoor
open Go Go.Abs
theorem uK0 (s : List UInt8) (hs : s.length≤9223372036854775807) : Ctr sys 22 [xs s] [] (uL6 (tokP s)) none []:=by rw [← uMa s]; exact uE1 s hs
theorem uKd (s : List UInt8) (hs : s.length≤100000) : Ctr sys 19 [xs s] [] (xtie (uCf s)) none []:=by
 have hcnt:=uDu s
 have htl:=Tk.rows_len (tokP s).1
 have hsz:=uCL (tokP s).1 ((tokP s).1.length + 1) ⟨0,false⟩
 have hat:=(uB0 (tokP s).1 ((tokP s).1.length + 1) ⟨0,false⟩).2 (Nat.zero_le _)
 obtain ⟨g1,g2⟩:=uGt (tokP s).1 ((tokP s).1.length + 1) ⟨0,false⟩
 have hrt:=uHk (tokP s).1 (by omega) ((tokP s).1.length + 1) ⟨0,false⟩ (Nat.zero_le _) (by dsimp only; omega)
 rw [g1] at hrt g2
 dsimp only at hsz
 obtain ⟨R,hTE⟩ : ∃ R,uCf s=R:=⟨_,rfl⟩
 rw [hTE]
 unfold uCf at hTE
 generalize hr : uAO (tokP s).1 ((tokP s).1.length + 1) ⟨0,false⟩=r at *
 generalize hr2 : (uAV (tokP s).1 ((tokP s).1.length + 1) ⟨0,false⟩).1=t at *
 obtain ⟨tp,pe⟩:=r
 dsimp only at *
 refine uAA Tryz.func19 rfl rfl rfl rfl rfl rfl ?_;refine uAe (uAb ?_);refine uAs rfl (uAI rfl rfl rfl) ?_;refine uAa rfl rfl rfl (uAd rfl gU) ?_;refine uAa rfl rfl rfl (uAd rfl gU) ?_;refine uAf ?_;refine uAe (uAb ?_);refine uAa rfl rfl rfl (uAc rfl gU) ?_;refine uAw rfl rfl rfl rfl rfl rfl gU gU (uK0 _ (by omega)) rfl ?_;refine uAa rfl rfl rfl (uAc rfl gU) ?_;refine uAa rfl rfl rfl (uAy rfl gU rfl) ?_;refine uAa rfl rfl rfl (uAy rfl gU rfl) ?_;refine uAa rfl rfl rfl (uAy rfl gU rfl) ?_;refine uAa rfl rfl rfl (uAd rfl gU) ?_;refine uAa rfl rfl rfl (uAd rfl gU) ?_;refine uAa rfl rfl rfl (uAd rfl gU) ?_;refine uAf ?_;refine uAn (s:=⟨[(2,_,_),(5,_,_),(6,_,_),(7,_,_)],[(.l 2,_)],[],[]⟩) (uAj (⟨sx rfl,sx rfl,sx rfl,sx rfl,trivial⟩) (⟨sx rfl,trivial⟩) trivial) ?_;refine uAe ?_;refine uAe (uAb ?_);refine uAa rfl rfl rfl (uAc rfl gU) ?_;refine uAa rfl rfl rfl (uAk rfl rfl gU gU rfl) ?_;refine uAf ?_;refine uAm rfl (fun hc=>?_) (fun hc=>?_)
 ·try simp only [nn,uAh,T.rows_len,Tk.rows_len] at hc
  rw [if_pos hc] at hTE
  refine uAe (uAb ?_);refine uAa rfl rfl rfl (uAS rfl Tryz.underlying39 rfl gU) ?_;refine uAa rfl rfl rfl (uAc rfl gU) ?_;refine uAa rfl rfl rfl (uAc rfl gU) ?_;refine uAs rfl (uAt rfl rfl rfl rfl rfl rfl rfl) ?_;refine uAa rfl rfl rfl (uAd rfl gU) ?_;refine uAa rfl rfl rfl (uAd rfl gU) ?_;refine uAf ?_;refine uAo ?_
  repeat (first | refine tR ?_ | refine bR ?_)
  refine uAr rfl ?_ trivial
  (rw [← hTE]; rfl)
 ·try simp only [nn,uAh,T.rows_len,Tk.rows_len] at hc
  rw [if_neg (by simpa using hc)] at hTE
  refine uAq ?_;refine uAe (uAb ?_);refine uAa rfl rfl rfl (uAc rfl gU) ?_;refine uAa rfl rfl rfl (uAS rfl Tryz.underlying96 rfl gU) ?_;refine uAw rfl rfl rfl rfl rfl rfl gU gU (hrt) rfl ?_;refine uAa rfl rfl rfl (uAc rfl gU) ?_;refine uAa rfl rfl rfl (uAy rfl gU rfl) ?_;refine uAa rfl rfl rfl (uAy rfl gU rfl) ?_;refine uAs rfl (uAI rfl rfl rfl) ?_;refine uAs rfl (uAI rfl rfl rfl) ?_;refine uAs rfl (uAt rfl rfl rfl rfl rfl rfl rfl) ?_;refine uAs rfl (uAt rfl rfl rfl rfl rfl rfl rfl) ?_;refine uAf ?_;refine uAn (s:=⟨[(2,_,_),(5,_,_),(8,_,_),(9,_,_)],[(.l 2,_),(.l 8,_),(.l 9,_)],[],[]⟩) (uAj (⟨sx rfl,sx rfl,sx rfl,sx rfl,trivial⟩) (⟨sx rfl,sx rfl,sx rfl,trivial⟩) trivial) ?_;refine uAe ?_;refine uAe (uAb ?_);refine uAa rfl rfl rfl (uAg rfl gU rfl rfl) ?_;refine uAa rfl rfl rfl (uAl rfl gU rfl rfl rfl rfl) ?_;refine uAa rfl rfl rfl (uAc rfl gU) ?_;refine uAa rfl rfl rfl (uAg rfl gU rfl rfl) ?_;refine uAa rfl rfl rfl (uAl rfl (fun hh=>hh) rfl rfl rfl rfl) ?_;refine uAa rfl rfl rfl (uAc rfl gU) ?_;refine uAa rfl rfl rfl (uBb rfl (fun hh=>hh) rfl rfl) ?_;refine uAa rfl rfl rfl (uAk rfl rfl (fun hh=>hh) (fun hh=>hh) rfl) ?_;refine uAa rfl rfl rfl (uAJ rfl rfl gU (fun _ hi=>gP rfl hi)) ?_
  refine uAf ?_;refine uAn (s:=⟨[(2,_,_),(8,_,_),(9,_,_),(36,_,_)],[(.l 2,_),(.l 8,_),(.l 9,_)],[],[]⟩) (uAj (⟨sx rfl,sx rfl,sx rfl,sx rfl,trivial⟩) (⟨sx rfl,sx rfl,sx rfl,trivial⟩) trivial) ?_;refine uAm rfl (fun hc2=>?_) (fun hc2=>?_)
  ·try simp only [nn,uAh,T.rows_len,Tk.rows_len] at hc2
   have he : endE (tokP s).1 pe=(uEV (tokP s).1 pe,2):=by rw [endE,if_pos (by rcases hc2 with q | q; exact .inl q; exact .inr (by omega))]
   rw [he,if_pos (by simp)] at hTE
   refine uAe (uAb ?_);refine uAa rfl rfl rfl (uAS rfl Tryz.underlying39 rfl gU) ?_;refine uAa rfl rfl rfl (uAp rfl gU rfl rfl rfl rfl rfl) ?_;refine uAw rfl rfl rfl rfl rfl rfl gU gU (uJ2 _ _ (by omega)) rfl ?_;refine uAs rfl (uAt rfl rfl rfl rfl rfl rfl rfl) ?_;refine uAa rfl rfl rfl (uAd rfl gU) ?_;refine uAa rfl rfl rfl (uAd rfl gU) ?_;refine uAf ?_;refine uAo ?_
   repeat (first | refine tR ?_ | refine bR ?_)
   refine uAr rfl ?_ trivial
   (rw [← hTE]; rfl)
  ·try simp only [nn,uAh,T.rows_len,Tk.rows_len] at hc2
   have he : endE (tokP s).1 pe=(0,0) := by rw [endE,if_neg (by rintro (q | q); { rw [hc2.1] at q; cases q }; { have := hc2.2; omega })]
   rw [he,if_neg (by simp)] at hTE
   have hv:=g2 hc2.1
   subst hv
   refine uAq ?_;refine uAe ?_;refine uAe (uAb ?_);refine uAa rfl rfl rfl (uAp rfl gU rfl rfl rfl rfl rfl) ?_;refine uAw rfl rfl rfl rfl rfl rfl gU gU (uLR t (by omega)) rfl ?_;refine uAa rfl rfl rfl (uAd rfl gU) ?_;refine uAf ?_;refine uAe (uAb ?_);refine uAa rfl rfl rfl (uAc rfl gU) ?_;refine uAa rfl rfl rfl (uAk rfl rfl gU gU rfl) ?_;refine uAf ?_;refine uAn (s:=⟨[(2,_,_),(8,_,_),(10,_,_),(43,_,_)],[(.l 2,_),(.l 8,_)],[],[]⟩) (uAj (⟨sx rfl,sx rfl,sx rfl,sx rfl,trivial⟩) (⟨sx rfl,sx rfl,trivial⟩) trivial) ?_;refine uAm rfl (fun hc3=>?_) (fun hc3=>?_)
   ·try simp only [nn,uAh,T.rows_len,Tk.rows_len] at hc3
    rw [if_pos hc3] at hTE
    refine uAe (uAb ?_);refine uAa rfl rfl rfl (uAS rfl Tryz.underlying39 rfl gU) ?_;refine uAa rfl rfl rfl (uAc rfl gU) ?_;refine uAs rfl (uAt rfl rfl rfl rfl rfl rfl rfl) ?_;refine uAa rfl rfl rfl (uAd rfl gU) ?_;refine uAa rfl rfl rfl (uAd rfl gU) ?_;refine uAf ?_;refine uAo ?_
    repeat (first | refine tR ?_ | refine bR ?_)
    refine uAr rfl ?_ trivial
    (rw [← hTE]; rfl)
   ·try simp only [nn,uAh,T.rows_len,Tk.rows_len] at hc3
    rw [if_neg (by simpa using hc3)] at hTE
    refine uAq ?_;refine uAe (uAb ?_);refine uAa rfl rfl rfl (uAp rfl gU rfl rfl rfl rfl rfl) ?_;refine uAs rfl (uAt rfl rfl rfl rfl rfl rfl rfl) ?_;refine uAa rfl rfl rfl (uAd rfl gU) ?_;refine uAa rfl rfl rfl (uAd rfl gU) ?_;refine uAf ?_;refine uAo ?_
    repeat (first | refine tR ?_ | refine bR ?_)
    refine uAr rfl ?_ trivial
    (rw [← hTE]; rfl)
end Go.Proofs.YtnjjdbapadkomaaGreatDoor
namespace Go.Proofs.YtnjjdbapadkomaaGreatDoor
open Go Go.Abs
def Itm.fst (b : Bool) : Itm→Bool
 | .goal _=>true
 | .roles _=>b
 | _=>false
def turned (b : Bool) (L : List Itm) : List Itm:=L.filter (Itm.fst b)++L.filter (fun i=>!Itm.fst b i)
def N10 (s : List UInt8) : Prop:=∀ b ∈ s,b.toNat≠10
theorem N10.app {a b : List UInt8} (h : N10 a) (h' : N10 b) : N10 (a++b):=fun x hx=>(List.mem_append.1 hx).elim (h x) (h' x)
theorem N10.nm {w : List UInt8} (h : uAL w=true) : N10 w:=uKu h
theorem N10.join {L : List (List UInt8)} (h : ∀ x ∈ L,N10 x) : N10 (Lib.join L [44,32]):=by
 have hs : N10 [44,32]:=by unfold N10; decide
 have tail : ∀ {L : List (List UInt8)},(∀ x ∈ L,N10 x)→N10 (Lib.joinTail [44,32] L):=by
  intro L
  induction L with
  | nil=>intro _ b hb; simp [Lib.joinTail] at hb
  | cons x L ih =>
   intro h
   have e : Lib.joinTail [44,32] (x :: L)=[44,32]++(x++Lib.joinTail [44,32] L):=by simp [Lib.joinTail]
   rw [e]
   exact hs.app ((h x (by simp)).app (ih fun y hy=>h y (by simp [hy])))
 cases L with
 | nil=>intro b hb; rw [Lib.join_nil] at hb; simp at hb
 | cons x L =>
  rw [Lib.join_cons]
  exact (h x (by simp)).app (tail fun y hy=>h y (by simp [hy]))
end Go.Proofs.YtnjjdbapadkomaaGreatDoor
namespace Go.Proofs.YtnjjdbapadkomaaGreatDoor
open Go Go.Abs
theorem uKf (s : List UInt8) (hs : s.length≤100000) : (uCf s).1.size≤900000:=by
 have hcnt:=uDu s
 have hsz:=uCL (tokP s).1 ((tokP s).1.length + 1) ⟨0,false⟩
 have hat:=(uB0 (tokP s).1 ((tokP s).1.length + 1) ⟨0,false⟩).2 (Nat.zero_le _)
 dsimp only at hsz
 unfold uCf
 split
 ·show t0T.size≤900000
  decide
 split
 ·show t0T.size≤900000
  decide
 split
 ·show t0T.size≤900000
  decide
 ·show (uAO (tokP s).1 ((tokP s).1.length + 1) ⟨0,false⟩).1.size≤900000
  omega
theorem uJU {s : List UInt8} (h : (uCf s).2.2=0) : ftE (uCf s).1=(uBs (uCf s).1,0)∧uCf (uBs (uCf s).1)=((uCf s).1,0,0)∧(uBs (uCf s).1).length≤100000:=by
 have hr : uCI uAL (uCf s).1=0:=by
  unfold uCf at h ⊢
  split at h
  ·rename_i q; exact absurd h q
  rename_i q1
  rw [if_neg q1]
  split at h
  ·rename_i q; exact absurd h q
  rename_i q2
  rw [if_neg q2]
  split at h
  ·rename_i q; exact absurd h q
  rename_i q3
  rw [if_neg q3]
  exact Decidable.not_not.1 q3
 obtain ⟨ho,hz⟩:=uIk hr
 have hl:=uFf ho
 obtain ⟨b1,b2,b3⟩:=uK4 hr
 refine ⟨by rw [ftE,if_neg (by simp [hr])],?_,by omega⟩
 rw [uCf,if_neg (by rw [b1]; simp),if_neg (by rw [b3]; simp),b2,if_neg (by rw [hr]; simp)]
theorem uF2 (s : List UInt8) : Ctr sys 4 [xs s] [] (xb true) none []:=by
 refine uAA Tryz.func4 rfl rfl rfl rfl rfl rfl ?_;refine uAe (uAb ?_);refine uAa rfl rfl rfl (uAd rfl gU) ?_;refine uAf ?_;refine uAe ?_;refine uAe (uAb ?_);refine uAw rfl rfl rfl rfl rfl rfl gU gU (uG4) rfl ?_;refine uAa rfl rfl rfl (uA0 rfl gU) ?_;refine uAa rfl rfl rfl (uAc rfl gU) ?_;refine uAa rfl rfl rfl (uAc rfl gU) ?_;refine uAa rfl rfl rfl (uBY rfl (fun hh=>hh) (Tryz.underlying9)) ?_;refine uAa rfl rfl rfl (uAk rfl rfl (fun hh=>hh) gU rfl) ?_;refine uAa rfl rfl rfl (uAJ rfl rfl gU (fun _ hi=>gP rfl hi)) ?_;refine uAf ?_;refine uAn (s:=⟨[(0,_,_),(20,_,_)],[],[],[]⟩) (uAj (⟨sx rfl,sx rfl,trivial⟩) trivial trivial) ?_;refine uAm rfl (fun hc=>?_) (fun hc=>?_)
 ·refine uAe (uAb ?_)
  refine uAw rfl rfl rfl rfl rfl rfl gU gU (uG4) rfl ?_;refine uAa rfl rfl rfl (uAd rfl gU) ?_;refine uAf ?_;refine uAo ?_
  repeat (first | refine tR ?_ | refine bR ?_)
  refine uAr rfl ?_ trivial
  rfl
 ·try simp only [nn,uAh,T.rows_len,Gl.rows_len,Fs.rows_len,Sp.rows_len] at hc
  have hz:=uKf s (by omega)
  refine uAq ?_;refine uAe (uAb ?_);refine uAa rfl rfl rfl (uAc rfl gU) ?_;refine uAw rfl rfl rfl rfl rfl rfl gU gU (uFo s (by omega)) rfl ?_;refine uAa rfl rfl rfl (uAc rfl gU) ?_;refine uAa rfl rfl rfl (uAy rfl gU rfl) ?_;refine uAa rfl rfl rfl (uAy rfl gU rfl) ?_;refine uAa rfl rfl rfl (uAy rfl gU rfl) ?_;refine uAs rfl (uAI rfl rfl rfl) ?_;refine uAs rfl (uAt rfl rfl rfl rfl rfl rfl rfl) ?_;refine uAa rfl rfl rfl (uAd rfl gU) ?_;refine uAa rfl rfl rfl (uAd rfl gU) ?_;refine uAf ?_;refine uAn (s:=⟨[(0,_,_),(3,_,_),(4,_,_),(5,_,_)],[(.l 3,_)],[],[]⟩) (uAj (⟨sx rfl,sx rfl,sx rfl,sx rfl,trivial⟩) (⟨sx rfl,trivial⟩) trivial) ?_;refine uAe (uAb ?_);refine uAa rfl rfl rfl (uAc rfl gU) ?_;refine uAw rfl rfl rfl rfl rfl rfl gU gU (uKd s (by omega)) rfl ?_;refine uAa rfl rfl rfl (uAc rfl gU) ?_;refine uAa rfl rfl rfl (uAy rfl gU rfl) ?_;refine uAa rfl rfl rfl (uAy rfl gU rfl) ?_;refine uAa rfl rfl rfl (uAy rfl gU rfl) ?_;refine uAs rfl (uAI rfl rfl rfl) ?_;refine uAs rfl (uAt rfl rfl rfl rfl rfl rfl rfl) ?_;refine uAa rfl rfl rfl (uAd rfl gU) ?_;refine uAa rfl rfl rfl (uAd rfl gU) ?_;refine uAf ?_;refine uAn (s:=⟨[(3,_,_),(4,_,_),(5,_,_),(6,_,_),(7,_,_),(8,_,_)],[(.l 3,_),(.l 6,_)],[],[]⟩) (uAj (⟨sx rfl,sx rfl,sx rfl,sx rfl,sx rfl,sx rfl,trivial⟩) (⟨sx rfl,sx rfl,trivial⟩) trivial) ?_
  refine uAe ?_;refine uAe (uAb ?_);refine uAa rfl rfl rfl (uAc rfl gU) ?_;refine uAa rfl rfl rfl (uAc rfl gU) ?_;refine uAa rfl rfl rfl (uAk rfl rfl gU gU rfl) ?_;refine uAa rfl rfl rfl (uAc rfl gU) ?_;refine uAa rfl rfl rfl (uAc rfl gU) ?_;refine uAa rfl rfl rfl (uAc rfl gU) ?_;refine uAa rfl rfl rfl (uAk rfl rfl (fun hh=>hh) (fun hh=>hh) rfl) ?_;refine uAa rfl rfl rfl (uAJ rfl rfl gU (fun _ hi=>gP rfl hi)) ?_;refine uAa rfl rfl rfl (uAc rfl gU) ?_;refine uAa rfl rfl rfl (uAp rfl gU rfl rfl rfl rfl rfl) ?_;refine uAa rfl rfl rfl (uAp rfl gU rfl rfl rfl rfl rfl) ?_;refine uAw rfl rfl rfl rfl rfl rfl gU (fun hh=>gA ((fun hh=>hh) hh) (gA ((fun hh=>hh) hh) (rfl))) (uEh _ _ (by first | omega | (dsimp only; omega)) (by first | omega | (dsimp only; omega))) rfl ?_;refine uBo (s:=⟨[(3,_,_),(4,_,_),(5,_,_),(6,_,_),(7,_,_),(8,_,_),(42,_,_),(45,_,_)],[(.l 3,_),(.l 6,_)],[],[]⟩) (uAj (⟨sx rfl,sx rfl,sx rfl,sx rfl,sx rfl,sx rfl,sx rfl,sx rfl,trivial⟩) (⟨sx rfl,sx rfl,trivial⟩) trivial) ?_;refine uAa rfl rfl rfl (uA0 rfl (fun hh=>hh)) ?_;refine uAa rfl rfl rfl (uAJ rfl rfl gU (fun _ hi=>gP rfl hi)) ?_;refine uAa rfl rfl rfl (uAc rfl gU) ?_;refine uAa rfl rfl rfl (uAc rfl gU) ?_;refine uAa rfl rfl rfl (uAk rfl rfl (fun hh=>hh) gU rfl) ?_
  refine uAa rfl rfl rfl (uAJ rfl rfl gU (fun _ hi=>gP rfl hi)) ?_;refine uAf ?_;refine uAn (s:=⟨[(3,_,_),(4,_,_),(5,_,_),(6,_,_),(7,_,_),(8,_,_),(51,_,_)],[(.l 3,_),(.l 6,_)],[],[]⟩) (uAj (⟨sx rfl,sx rfl,sx rfl,sx rfl,sx rfl,sx rfl,sx rfl,trivial⟩) (⟨sx rfl,sx rfl,trivial⟩) trivial) ?_;refine uAm rfl (fun hc2=>?_) (fun hc2=>?_)
  ·refine uAe (uAb ?_)
   refine uAa rfl rfl rfl (uAc rfl gU) ?_;refine uAa rfl rfl rfl (uAc rfl gU) ?_;refine uAa rfl rfl rfl (uAk rfl rfl gU gU rfl) ?_;refine uAa rfl rfl rfl (uAc rfl gU) ?_;refine uAa rfl rfl rfl (uAc rfl gU) ?_;refine uAa rfl rfl rfl (uAc rfl gU) ?_;refine uAa rfl rfl rfl (uAk rfl rfl (fun hh=>hh) (fun hh=>hh) rfl) ?_;refine uAa rfl rfl rfl (uAQ rfl rfl gU (fun _ hi=>gP rfl hi)) ?_;refine uAa rfl rfl rfl (uAc rfl gU) ?_;refine uAa rfl rfl rfl (uAp rfl gU rfl rfl rfl rfl rfl) ?_;refine uAa rfl rfl rfl (uAp rfl gU rfl rfl rfl rfl rfl) ?_;refine uAw rfl rfl rfl rfl rfl rfl gU (fun hh=>gA ((fun hh=>hh) hh) (gA ((fun hh=>hh) hh) (rfl))) (uEh _ _ (by first | omega | (dsimp only; omega)) (by first | omega | (dsimp only; omega))) rfl ?_;refine uBo (s:=⟨[(60,_,_),(63,_,_)],[],[],[]⟩) (uAj (⟨sx rfl,sx rfl,trivial⟩) trivial trivial) ?_;refine uAa rfl rfl rfl (uAQ rfl rfl gU (fun _ hi=>gP rfl hi)) ?_;refine uAa rfl rfl rfl (uAd rfl gU) ?_;refine uAf ?_;refine uAo ?_
   repeat (first | refine tR ?_ | refine bR ?_)
   refine uAr rfl ?_ trivial
   (refine uCY ?_; simp [T.cmp_self])
  ·try simp only [nn,uAh,T.rows_len,Gl.rows_len,Fs.rows_len,Sp.rows_len] at hc2
   have h2 : (uCf s).2.2=0:=by simp [T.cmp_self] at hc2; omega
   obtain ⟨a1,a2,a3⟩:=uJU h2
   have hf:=uDQ (uCf s).1 (by omega)
   rw [a1] at hf
   have ht:=uFo (uBs (uCf s).1) (by omega)
   rw [a2] at ht
   refine uAq ?_;refine uAe (uAb ?_);refine uAa rfl rfl rfl (uAp rfl gU rfl rfl rfl rfl rfl) ?_;refine uAw rfl rfl rfl rfl rfl rfl gU gU (hf) rfl ?_;refine uAa rfl rfl rfl (uAc rfl gU) ?_;refine uAa rfl rfl rfl (uAy rfl gU rfl) ?_;refine uAa rfl rfl rfl (uAy rfl gU rfl) ?_;refine uAa rfl rfl rfl (uAd rfl gU) ?_;refine uAa rfl rfl rfl (uAd rfl gU) ?_;refine uAf ?_;refine uAn (s:=⟨[(3,_,_),(9,_,_),(10,_,_)],[(.l 3,_)],[],[]⟩) (uAj (⟨sx rfl,sx rfl,sx rfl,trivial⟩) (⟨sx rfl,trivial⟩) trivial) ?_;refine uAe (uAb ?_);refine uAa rfl rfl rfl (uAc rfl gU) ?_;refine uAw rfl rfl rfl rfl rfl rfl gU gU (ht) rfl ?_;refine uAa rfl rfl rfl (uAc rfl gU) ?_;refine uAa rfl rfl rfl (uAy rfl gU rfl) ?_;refine uAa rfl rfl rfl (uAy rfl gU rfl) ?_;refine uAa rfl rfl rfl (uAy rfl gU rfl) ?_;refine uAs rfl (uAI rfl rfl rfl) ?_;refine uAs rfl (uAt rfl rfl rfl rfl rfl rfl rfl) ?_;refine uAa rfl rfl rfl (uAd rfl gU) ?_;refine uAa rfl rfl rfl (uAd rfl gU) ?_;refine uAf ?_;refine uAn (s:=⟨[(3,_,_),(10,_,_),(11,_,_),(13,_,_)],[(.l 11,_),(.l 3,_)],[],[]⟩) (uAj (⟨sx rfl,sx rfl,sx rfl,sx rfl,trivial⟩) (⟨sx rfl,sx rfl,trivial⟩) trivial) ?_;refine uAe (uAb ?_);refine uAa rfl rfl rfl (uAc rfl gU) ?_
   refine uAa rfl rfl rfl (uAk rfl rfl gU gU rfl) ?_;refine uAa rfl rfl rfl (uAc rfl gU) ?_;refine uAa rfl rfl rfl (uAc rfl gU) ?_;refine uAa rfl rfl rfl (uAk rfl rfl (fun hh=>hh) gU rfl) ?_;refine uAa rfl rfl rfl (uAQ rfl rfl gU (fun _ hi=>gP rfl hi)) ?_;refine uAa rfl rfl rfl (uAc rfl gU) ?_;refine uAa rfl rfl rfl (uAp rfl gU rfl rfl rfl rfl rfl) ?_;refine uAa rfl rfl rfl (uAp rfl gU rfl rfl rfl rfl rfl) ?_;refine uAw rfl rfl rfl rfl rfl rfl gU (fun hh=>gA ((fun hh=>hh) hh) (gA ((fun hh=>hh) hh) (rfl))) (uEh _ _ (by first | omega | (dsimp only; omega)) (by first | omega | (dsimp only; omega))) rfl ?_;refine uAa rfl rfl rfl (uAQ rfl rfl gU (fun _ hi=>gP rfl hi)) ?_;refine uAa rfl rfl rfl (uAd rfl gU) ?_;refine uAf ?_;refine uAo ?_
   repeat (first | refine tR ?_ | refine bR ?_)
   refine uAr rfl ?_ trivial;refine uCY ?_
   simp [T.cmp_self]
end Go.Proofs.YtnjjdbapadkomaaGreatDoor
namespace Go.Abs
section
variable {H : Type} {enc : TypeId × Value→H} {P : Program} {L : List TypeId} {w : World}
structure Bnd (P : Program) (L : List TypeId) (M : Nat) (B : TypeId→DataW H→Prop) : Prop where
 str : ∀ {t : TypeId} {s : List UInt8},P.underlying t=some .string→B t (.lit (.string s))→s.length≤M
 sl : ∀ {t e : TypeId} {es sp : List (DataW H)},t ∈ L→P.underlying t=some (.slice e)→B t (.slice es sp)→es.length≤M ∧ ∀ x ∈ es,B e x
 st : ∀ {t : TypeId} {fs : Array Field} {ps : List (DataW H)},P.underlying t=some (.struct fs)→B t (.agg ps) → ∀ (j : Nat) (f : Field) (x : DataW H),fs.toList[j]? = some f→ps[j]? = some x→B f.type x
 arr : ∀ {t e : TypeId} {n : Nat} {ps : List (DataW H)},P.underlying t=some (.array n e)→B t (.agg ps) → ∀ x ∈ ps,B e x
end
end Go.Abs
namespace Go.Proofs.YtnjjdbapadkomaaGreatDoor
open Go Go.Abs
theorem uNP : uIw Tryz.prog [9,5,45]=true:=by kernel_rfl
theorem uNH {n : Nat} {cs : List C} (h : uCK Tryz.prog n 9 cs) : ∃ l,cs=[.s l]:=by
 cases n with
 | zero=>exact h.elim
 | succ n=>simp only [uCK,Tryz.underlying9] at h; exact h
theorem uMR {n : Nat} {c : C} (h : uCK Tryz.prog n 9 [c]) : ∃ l,c = .s l:=by
 obtain ⟨l,hl⟩:=uNH h
 exact ⟨l,by simpa using hl⟩
theorem uF6 {α : Type} {f : α→List C} {R : List C→Prop} (h : ∀ row,R row → ∃ t : α,row=f t) : ∀ es : List (List C),(∀ row,row ∈ es→R row) → ∃ ts : List α,es=ts.map f
 | [],_=>⟨[],rfl⟩
 | e :: es,he=>by
  obtain ⟨t,ht⟩:=h e (he e (List.mem_cons_self ..))
  obtain ⟨ts,hts⟩:=uF6 h es fun row hr=>he row (List.mem_cons_of_mem _ hr)
  exact ⟨t :: ts,by rw [List.map_cons,← hts,ht]⟩
theorem own : ownKnob Tryz.prog.godebug=none:=by kernel_rfl
theorem uM5 : laidOutB Tryz.prog=true:=by kernel_rfl
theorem uNR {W : World} (h : W.ShapedOpen Tryz.prog) : ∀ g ∈ sys.gv,g.1 < W.heap.size∧g.2 W.heap[g.1]? := by
 intro g hg
 have hg : g ∈ ([(0,intAt)] : List (Nat × (Option Obj→Prop))):=hg
 obtain rfl : g=(0,intAt):=by simpa using hg
 obtain ⟨m,hm⟩ : ∃ m,W.cell? ⟨0,0,none⟩=some (.int .i64 m):=laysM146.s1_3 W h
 exact ⟨World.block_lt_of_cell? (a:=⟨0,0,none⟩) W hm,intAt.of hm⟩
theorem uHf {H : Type} {enc : TypeId × Value→H} {a : Assume} {C : Checked} {os : Os} {f : FuncId} {fn : Func} {s : ChangeSpec} {conds : List PathCond} {apart fresh handsOn again : Bool} {X : World→Array Value→Prop}
  (hX : ∀ (w w' : World) (args : Array Value),w.heap=w'.heap→X w args→X w' args)
  (own : ownKnob C.prog.godebug=none) (started : os.Started) (noInit : C.prog.inits.idxOf? f=none) (hfn : C.prog.funcs[f]? = some fn)
  (witness : ∃ (w : World) (tape : Tape) (i : Input),w.os=os∧(w.forCall tape i).Shaped C.prog∧i.vars=[]∧Input.okWide C.prog (w.forCall tape i) .any w.heap.size f i ∧
   ((s.pre enc C.prog fn conds apart (w.forCall tape i).memory i.args∧X (w.forCall tape i).memory i.args)∧sizedMet enc C.prog fn (OpenSpec.ofChange s) apart (w.forCall tape i).memory i.args)∧a.holds C.prog (lone (Frame.enter C.prog f i.args .normal) [] (w.forCall tape i)))
  (contract : ∀ (W : World) (base : Nat) (args : Array Value) (ds gs : List (DataW H)) (before : List MemPlace),
   (∀ (j : Nat) t v,fn.params[j]? = some t→args[j]? = some v→Value.okWide C.prog W .any base t v) →
   DataW.Whole enc C.prog fn.params.toList s.vars apart W args.toList ds gs before→X W args→W.ShapedOpen C.prog →
   Calls C.prog f args W fun e W'=>∃ v,e = .returned v∧s.post enc C.prog fn apart fresh handsOn again W args v W') :
  ReturnsInHanded a C os f .any (fun w args=>(s.pre enc C.prog fn conds apart w args∧X w args)∧sizedMet enc C.prog fn (OpenSpec.ofChange s) apart w args) (s.post enc C.prog fn apart fresh handsOn again):=by
 refine returnsInHanded_of_calls own started noInit witness ?_
 intro w tape i _ hsh _ hok hpre hholds
 obtain ⟨_,_,_,fn',hfn',_,_,_,_,hval⟩:=hok
 have e : fn'=fn:=Option.some.inj (hfn'.symm.trans hfn)
 subst e
 obtain ⟨⟨⟨ds,gs,before,hw,hc⟩,hx⟩,hz⟩:=hpre
 have hw':=DataW.Whole.of_heap (w':=w.forCall tape i) (by rfl) hw
 refine (contract (w.forCall tape i) w.heap.size i.args ds gs before hval hw' (hX _ _ _ (by rfl) hx) hsh).mono fun e W' ⟨v,he,hp⟩=>?_
 subst he
 exact ChangeSpec.post_blind hp
end Go.Proofs.YtnjjdbapadkomaaGreatDoor
