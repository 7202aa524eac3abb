/- Our abstract program logic and contracts of this seat's functions, part 6: no statement of its own (long names of ours are shortened by a program). -/
import Derived.Test.YteidahabkfgfjaaGreatM5
set_option linter.unusedVariables false
set_option linter.unusedSimpArgs false
namespace Go.Proofs.YteidahabkfgfjaaGreat
open Go Go.Abs
theorem uQC (l r : List T) : X.v (.c (.sl 4 (T.rows l++T.rows r)))=xl (l++r):=by simp [xl,T.rows_eq]
def uDA (l : List Gl) : List T:=(l.map Gl.data).flatten
theorem uLB {l : List Gl} {k : Nat} (h : k < l.length) : uDA (l.take (k + 1))=uDA (l.take k)++(l.getD k default).data:=by
 rw[uBk (d:=default) h]; simp [uDA]
theorem uMM {l : List Gl} (h : ∀ g ∈ l,g.data.length≤2097152) : (uDA l).length≤2097152 * l.length:=by
 induction l with
 | nil=>simp [uDA]
 | cons g l ih =>
  have h1:=h g (by simp)
  have h2:=ih fun x hx=>h x (by simp [hx])
  simp only [uDA,List.map_cons,List.flatten_cons,List.length_append,List.length_cons,Nat.mul_succ] at h2 ⊢
  omega
def uJC (n : Nar) : List T:=n.steps.map Sp.msg++uDA n.goals
def fewN (n : Nar) : Bool:=(decide (n.roles.length≤16) && decide (n.fresh.length≤16) && decide (n.tags.length≤16) && decide (n.steps.length≤16) && decide (n.goals.length≤16)) && fewB (uJC n) 100 900
theorem uLS (n : Nar) (hd : ∀ g ∈ n.goals,g.data.length≤2097152) : Ctr sys 12 [xn n] [] (xb (fewN n)) none []:=by
 have l1:=uAi n.roles
 have l3:=Fs.rows_len n.fresh
 have l4:=uAi n.tags
 have l5:=Sp.rows_len n.steps
 have l6:=Gl.rows_len n.goals
 refine uAA Tryz.func12 rfl rfl rfl rfl rfl rfl ?_;refine uAd (uAb ?_);refine uAs rfl (uAH rfl rfl rfl rfl) ?_;refine uAa rfl rfl rfl (uAe rfl gU) ?_;refine uAf ?_;refine uAd ?_;refine uAd (uAb ?_);refine uAa rfl rfl rfl (uAg rfl gU rfl rfl) ?_;refine uAa rfl rfl rfl (uAh rfl gU rfl rfl rfl rfl) ?_;refine uAI rfl rfl rfl rfl rfl gU rfl rfl ?_ (fun hh=>by simp at hh); intro hlen;refine uAa rfl rfl rfl (uAm rfl rfl gU gU rfl) ?_;refine uAa rfl rfl rfl (uAc rfl gU) ?_;refine uAa rfl rfl rfl (uAg rfl gU rfl rfl) ?_;refine uAa rfl rfl rfl (uAh rfl (fun hh=>hh) rfl rfl rfl rfl) ?_;refine uAa rfl rfl rfl (uA7 rfl (fun hh=>hh) rfl rfl) ?_;refine uAa rfl rfl rfl (uAm rfl rfl (fun hh=>hh) gU rfl) ?_;refine uAa rfl rfl rfl (uAO rfl rfl gU (fun _ hi=>gP rfl hi)) ?_;refine uBd (s:=⟨[(1,_,_),(15,_,_)],[(.l 1,_)],[],[]⟩) (uAj (⟨sx rfl,sx rfl,trivial⟩) (⟨sx rfl,trivial⟩) trivial) ?_;refine uAa rfl rfl rfl (uAc rfl gU) ?_;refine uAa rfl rfl rfl (uAg rfl gU rfl rfl) ?_;refine uAa rfl rfl rfl (uAh rfl (fun hh=>hh) rfl rfl rfl rfl) ?_;refine uAa rfl rfl rfl (uA7 rfl (fun hh=>hh) rfl rfl) ?_;refine uAa rfl rfl rfl (uAm rfl rfl (fun hh=>hh) gU rfl) ?_;refine uAa rfl rfl rfl (uAO rfl rfl gU (fun _ hi=>gP rfl hi)) ?_;refine uAa rfl rfl rfl (uAc rfl gU) ?_
 refine uAa rfl rfl rfl (uAg rfl gU rfl rfl) ?_;refine uAa rfl rfl rfl (uAh rfl (fun hh=>hh) rfl rfl rfl rfl) ?_;refine uAa rfl rfl rfl (uA7 rfl (fun hh=>hh) rfl rfl) ?_;refine uAa rfl rfl rfl (uAm rfl rfl (fun hh=>hh) gU rfl) ?_;refine uAa rfl rfl rfl (uAO rfl rfl gU (fun _ hi=>gP rfl hi)) ?_;refine uBd (s:=⟨[(1,_,_),(27,_,_)],[(.l 1,_)],[],[]⟩) (uAj (⟨sx rfl,sx rfl,trivial⟩) (⟨sx rfl,trivial⟩) trivial) ?_;refine uAa rfl rfl rfl (uAc rfl gU) ?_;refine uAa rfl rfl rfl (uAg rfl gU rfl rfl) ?_;refine uAa rfl rfl rfl (uAh rfl (fun hh=>hh) rfl rfl rfl rfl) ?_;refine uAa rfl rfl rfl (uA7 rfl (fun hh=>hh) rfl rfl) ?_;refine uAa rfl rfl rfl (uAm rfl rfl (fun hh=>hh) gU rfl) ?_;refine uAa rfl rfl rfl (uAO rfl rfl gU (fun _ hi=>gP rfl hi)) ?_;refine uAf ?_;refine uAk (s:=⟨[(1,_,_),(33,_,_)],[(.l 1,_)],[],[]⟩) (uAj (⟨sx rfl,sx rfl,trivial⟩) (⟨sx rfl,trivial⟩) trivial) ?_;refine uAo rfl (fun hc=>?_) (fun hc=>?_)
 ·try simp only [nn,uAi,T.rows_len,Gl.rows_len,Fs.rows_len,Sp.rows_len] at hc
  refine uAd (uAb ?_);refine uAa rfl rfl rfl (uAe rfl gU) ?_;refine uAf ?_;refine uAq ?_
  repeat(first|refine tR ?_|refine bR ?_)
  refine uAu rfl ?_ trivial
  (refine uBY ?_; symm; unfold fewN; rw[Bool.eq_false_iff]; intro q; simp only [Bool.and_eq_true,decide_eq_true_eq] at q; omega)
 ·try simp only [nn,uAi,T.rows_len,Gl.rows_len,Fs.rows_len,Sp.rows_len] at hc
  have h16 : n.roles.length≤16∧n.fresh.length≤16∧n.tags.length≤16∧n.steps.length≤16∧n.goals.length≤16:=by omega
  have hE : fewN n=fewB (uJC n) 100 900:=by
   unfold fewN
   rw[decide_eq_true h16.1,decide_eq_true h16.2.1,decide_eq_true h16.2.2.1,decide_eq_true h16.2.2.2.1,decide_eq_true h16.2.2.2.2]; rfl
  rw[hE]
  refine uAp ?_;refine uAd (uAb ?_);refine uAs rfl (uBe (.inr rfl) rfl rfl) ?_;refine uAf ?_;refine uAd ?_;refine uAd (uAb ?_);refine uAa rfl rfl rfl (uAe rfl gU) ?_;refine uAf ?_;refine uAt ?_;refine uAW (ι:=Nat) { t:=[(1,_,_)],bx:=[(.l 1,_)],ow:=[(.t 3,_)] } (fun k=>[(4,true,xi (k : Int)),(3,true,xl ((n.steps.take k).map Sp.msg))]) (fun k=>[]) (fun k=>k≤n.steps.length) (fun k=>n.steps.length - k) (0) (by simp) (uAj (⟨sx rfl,sx rfl,sx rfl,trivial⟩) (⟨sx rfl,trivial⟩) (⟨rfl,trivial⟩)) ?_
  intro k hoka
  dsimp only [List.cons_append,List.nil_append]
  refine uAd ?_;refine uAd (uAb ?_);refine uAa rfl rfl rfl (uAc rfl gU) ?_;refine uAa rfl rfl rfl (uAg rfl gU rfl rfl) ?_;refine uAa rfl rfl rfl (uAh rfl gU rfl rfl rfl rfl) ?_;refine uAI rfl rfl rfl rfl rfl gU rfl rfl ?_ (fun hh=>by simp at hh); intro hlen;refine uAa rfl rfl rfl (uAm rfl rfl gU gU rfl) ?_;refine uAf ?_;refine uAk (s:=⟨[(1,_,_),(3,_,_),(4,_,_),(38,_,_)],[(.l 1,_)],[(.t 3,_)],[]⟩) (uAj (⟨sx rfl,sx rfl,sx rfl,sx rfl,trivial⟩) (⟨sx rfl,trivial⟩) (⟨rfl,trivial⟩)) ?_;refine uAo rfl (fun hc2=>?_) (fun hc2=>?_)
  ·try simp only [nn,uAi,T.rows_len,Gl.rows_len,Fs.rows_len,Sp.rows_len] at hc2
   have hT:=uBk (l:=n.steps) (d:=default) (k:=k) (by omega)
   refine uAp ?_;refine uAd ?_;refine uAt ?_;refine uAb ?_;refine uAs rfl (uAV (.inl rfl) rfl rfl rfl) ?_;refine uAa rfl rfl rfl (uAg rfl gU rfl rfl) ?_;refine uAa rfl rfl rfl (uAh rfl gU rfl rfl rfl rfl) ?_;refine uAa rfl rfl rfl (uAc rfl gU) ?_;refine uAa rfl rfl rfl (uAr rfl rfl gU gU rfl rfl rfl (fun hh=>Sp.rows_at (by first|omega|(simp at hh ⊢; omega)))) ?_;refine uAa rfl rfl rfl (uAU rfl gU rfl rfl) ?_;refine uAa rfl rfl rfl (uAD rfl gU rfl rfl rfl rfl) ?_;refine uAR (xs:=[_]) rfl rfl rfl rfl rfl rfl rfl rfl rfl gU rfl ?_;refine uAs rfl (uA0 rfl rfl rfl rfl rfl rfl rfl (by first|omega|(simp only [List.length_append,List.length_singleton,T.rows_len,List.length_map,List.length_take]; omega)) (by first|omega|(simp only [List.length_append,List.length_singleton,T.rows_len,List.length_map,List.length_take]; omega))) ?_;refine uAs rfl (uAV (.inr rfl) rfl rfl rfl) ?_;refine uAf ?_;refine uAk (s:=⟨[(1,_,_),(3,_,_),(4,_,_)],[(.l 1,_)],[(.t 3,_)],[]⟩) (uAj (⟨sx rfl,sx rfl,sx rfl,trivial⟩) (⟨sx rfl,trivial⟩) (⟨rfl,trivial⟩)) ?_;refine uAb ?_;refine uAa rfl rfl rfl (uAc rfl gU) ?_;refine uAa rfl rfl rfl (uAz rfl rfl gU gU rfl (IntWalk.i64_in _ (by omega))) ?_;refine uAa rfl rfl rfl (uAe rfl gU) ?_;refine uAf ?_;refine ⟨k + 1,?_,?_,uAj (⟨⟨_,rfl,?_⟩,⟨⟨_,rfl,?_⟩,⟨sx rfl,trivial⟩⟩⟩) (⟨sx rfl,trivial⟩) (⟨rfl,trivial⟩)⟩
   all_goals (first|rfl|omega|exact tx ((uFP _ _).trans (by rw[hT,List.map_append]; rfl)))
  ·try simp only [nn,uAi,T.rows_len,Gl.rows_len,Fs.rows_len,Sp.rows_len] at hc2
   have hk : k=n.steps.length:=by omega
   subst hk
   refine uAL ?_
   repeat(first|refine uAE ?_|refine uAF ?_|refine uAB rfl ?_)
   refine uAd ?_;refine uAd (uAb ?_);refine uAa rfl rfl rfl (uAe rfl gU) ?_;refine uAf ?_;refine uAt ?_;refine uAW (ι:=Nat) { t:=[(1,_,_)],bx:=[(.l 1,_)],ow:=[(.t 3,_)] } (fun j=>[(5,true,xi (j : Int)),(3,true,xl (n.steps.map Sp.msg++uDA (n.goals.take j)))]) (fun j=>[]) (fun j=>j≤n.goals.length) (fun j=>n.goals.length - j) (0) (by simp) (uAj (⟨sx rfl,⟨⟨_,rfl,by simp [uDA]⟩,⟨sx rfl,trivial⟩⟩⟩) (⟨sx rfl,trivial⟩) (⟨rfl,trivial⟩)) ?_
   intro j hokb
   dsimp only [List.cons_append,List.nil_append]
   have hdl:=uMM (l:=n.goals.take j) fun g hg=>hd g (List.mem_of_mem_take hg)
   rw[List.length_take] at hdl
   refine uAd ?_;refine uAd (uAb ?_);refine uAa rfl rfl rfl (uAc rfl gU) ?_;refine uAa rfl rfl rfl (uAg rfl gU rfl rfl) ?_;refine uAa rfl rfl rfl (uAh rfl gU rfl rfl rfl rfl) ?_;refine uAI rfl rfl rfl rfl rfl gU rfl rfl ?_ (fun hh=>by simp at hh); intro hlen;refine uAa rfl rfl rfl (uAm rfl rfl gU gU rfl) ?_;refine uAf ?_;refine uAk (s:=⟨[(1,_,_),(3,_,_),(5,_,_),(54,_,_)],[(.l 1,_)],[(.t 3,_)],[]⟩) (uAj (⟨sx rfl,sx rfl,sx rfl,sx rfl,trivial⟩) (⟨sx rfl,trivial⟩) (⟨rfl,trivial⟩)) ?_;refine uAo rfl (fun hc3=>?_) (fun hc3=>?_)
   ·try simp only [nn,uAi,T.rows_len,Gl.rows_len,Fs.rows_len,Sp.rows_len] at hc3
    have hT:=uLB (l:=n.goals) (k:=j) (by omega)
    have hdj : (n.goals.getD j default).data.length≤2097152:=hd _ (by rw[List.getD_eq_getElem?_getD,List.getElem?_eq_getElem (by omega)]; exact List.getElem_mem _)
    refine uAp ?_;refine uAd ?_;refine uAt ?_;refine uAb ?_;refine uAs rfl (uAV (.inl rfl) rfl rfl rfl) ?_;refine uAa rfl rfl rfl (uAg rfl gU rfl rfl) ?_;refine uAa rfl rfl rfl (uAh rfl gU rfl rfl rfl rfl) ?_;refine uAa rfl rfl rfl (uAc rfl gU) ?_;refine uAa rfl rfl rfl (uAr rfl rfl gU gU rfl rfl rfl (fun hh=>Gl.rows_at (by first|omega|(simp at hh ⊢; omega)))) ?_;refine uAa rfl rfl rfl (uAU rfl gU rfl rfl) ?_;refine uAa rfl rfl rfl (uAM rfl gU rfl rfl rfl) ?_;refine uAs rfl (uA0 rfl rfl rfl rfl rfl rfl rfl (by first|omega|(simp only [List.length_append,List.length_singleton,T.rows_len,List.length_map,List.length_take]; omega)) (by first|omega|(simp only [List.length_append,List.length_singleton,T.rows_len,List.length_map,List.length_take]; omega))) ?_;refine uAs rfl (uAV (.inr rfl) rfl rfl rfl) ?_;refine uAf ?_;refine uAk (s:=⟨[(1,_,_),(3,_,_),(5,_,_)],[(.l 1,_)],[(.t 3,_)],[]⟩) (uAj (⟨sx rfl,sx rfl,sx rfl,trivial⟩) (⟨sx rfl,trivial⟩) (⟨rfl,trivial⟩)) ?_;refine uAb ?_;refine uAa rfl rfl rfl (uAc rfl gU) ?_;refine uAa rfl rfl rfl (uAz rfl rfl gU gU rfl (IntWalk.i64_in _ (by omega))) ?_;refine uAa rfl rfl rfl (uAe rfl gU) ?_;refine uAf ?_;refine ⟨j + 1,?_,?_,uAj (⟨⟨_,rfl,?_⟩,⟨⟨_,rfl,?_⟩,⟨sx rfl,trivial⟩⟩⟩) (⟨sx rfl,trivial⟩) (⟨rfl,trivial⟩)⟩
    all_goals (first|rfl|omega|exact tx ((uQC _ _).trans (by rw[hT,List.append_assoc])))
   ·try simp only [nn,uAi,T.rows_len,Gl.rows_len,Fs.rows_len,Sp.rows_len] at hc3
    have hk : j=n.goals.length:=by omega
    subst hk
    have e : n.steps.map Sp.msg++uDA (n.goals.take n.goals.length)=uJC n:=by rw[List.take_length]; rfl
    rw[e]
    refine uAL ?_
    repeat(first|refine uAE ?_|refine uAF ?_|refine uAB rfl ?_)
    refine uAd (uAb ?_);refine uAa rfl rfl rfl (uAc rfl gU) ?_;refine uAx rfl rfl rfl rfl rfl rfl gU gU (uPh (uJC n) 100 900 (by omega)) rfl ?_;refine uAa rfl rfl rfl (uAe rfl gU) ?_;refine uAf ?_;refine uAq ?_
    repeat(first|refine tR ?_|refine bR ?_)
    refine uAu rfl ?_ trivial
    rfl
theorem uPE {n : Nar} (h : fewN n=true) : n.steps.length≤16∧n.goals.length≤16∧(∀ s ∈ n.steps,s.msg.size≤900000) ∧ ∀ g ∈ n.goals,T.sizes g.data≤900000:=by
 simp only [fewN,Bool.and_eq_true,decide_eq_true_eq] at h
 obtain ⟨_,h2⟩:=uLt h.2
 have h3 : T.sizes (n.steps.map Sp.msg++uDA n.goals)≤900:=by unfold uJC at h2; omega
 have happ : ∀ a b : List T,T.sizes (a++b)=T.sizes a + T.sizes b:=by
  intro a b
  induction a with
  | nil=>simp [T.sizes]
  | cons t a ih=>simp only [List.cons_append,T.sizes,ih]; omega
 rw[happ] at h3
 refine ⟨h.1.1.2,h.1.2,fun s hs=>?_,fun g hg=>?_⟩
 ·have : ∀ l : List Sp,s ∈ l→s.msg.size≤T.sizes (l.map Sp.msg):=by
   intro l hl
   induction l with
   | nil=>simp at hl
   | cons x l ih =>
    simp only [List.map_cons,T.sizes]
    rcases List.mem_cons.1 hl with q | q
    ·subst q; omega
    ·have := ih q; omega
  have := this _ hs
  omega
 ·have : ∀ l : List Gl,g ∈ l→T.sizes g.data≤T.sizes (uDA l):=by
   intro l hl
   induction l with
   | nil=>simp at hl
   | cons x l ih =>
    have e : uDA (x :: l)=x.data++uDA l:=by simp [uDA]
    rw[e,happ]
    rcases List.mem_cons.1 hl with q | q
    ·subst q; omega
    ·have := ih q; omega
  have := this _ hg
  omega
namespace T
mutual
def all : T→List T
 | mk k n s ks=>mk k n s ks :: alls ks
def alls : List T→List T
 | []=>[]
 | t :: ts=>all t++alls ts
end
end T
end Go.Proofs.YteidahabkfgfjaaGreat
namespace Go.Proofs.YteidahabkfgfjaaGreat
open Go Go.Abs
abbrev xr (l : List Tk) (p : PS) : X:=.v (.agg (pbx l p))
theorem uNi (s : List UInt8) (k : Int) : Ctr sys 50 [xs s,xi k] [] (xm ⟨2,s,k,[]⟩) none []:=by
 refine uAA Tryz.func50 rfl rfl rfl rfl rfl rfl ?_;refine uAd (uAb ?_);refine uAs rfl (uAK rfl rfl rfl) ?_;refine uAf ?_;refine uAd (uAb ?_);refine uAa rfl rfl rfl (uAc rfl gU) ?_;refine uAa rfl rfl rfl (uAc rfl gU) ?_;refine uAa rfl rfl rfl (uBg rfl Tryz.underlying47 rfl gU) ?_;refine uAs rfl (uAw rfl rfl rfl rfl rfl rfl rfl) ?_;refine uAf ?_;refine uAq ?_
 repeat(first|refine tR ?_|refine bR ?_)
 refine uAu rfl ?_ trivial
 rfl
theorem uOm (s : List UInt8) (ks : List T) (hk : ks.length≤3000000) : Ctr sys 166 [xs s,xl ks] [] (xm ⟨3,s,0,ks⟩) none []:=by
 have hrl:=T.rows_len ks
 refine uAA Tryz.func166 rfl rfl rfl rfl rfl rfl ?_;refine uAd (uAb ?_);refine uAs rfl (uAK rfl rfl rfl) ?_;refine uAf ?_;refine uAd (uAb ?_);refine uAa rfl rfl rfl (uAc rfl gU) ?_;refine uAR (xs:=[]) rfl rfl rfl rfl rfl rfl rfl rfl rfl gU rfl ?_;refine uAa rfl rfl rfl (uAc rfl gU) ?_;refine uAs rfl (uA0 rfl rfl rfl rfl rfl rfl rfl (by first|omega|(simp only [List.length_nil]; omega)) (by first|omega|(simp only [List.length_nil]; omega))) ?_;refine uAa rfl rfl rfl (uBg rfl Tryz.underlying47 rfl gU) ?_;refine uAs rfl (uAw rfl rfl rfl rfl rfl rfl rfl) ?_;refine uAf ?_;refine uAq ?_
 repeat(first|refine tR ?_|refine bR ?_)
 refine uAu rfl ?_ trivial
 rfl
theorem uF5 (s : List UInt8) (rs : List (List C)) (ks : List T) (h : rs=T.rows ks) (hk : ks.length≤3000000) : Ctr sys 166 [xs s, .v (.c (.sl 4 rs))] [] (xm ⟨3,s,0,ks⟩) none []:=by
 subst h; exact uOm s ks hk
theorem uAZ (l : List Tk) (p : PS) (c : List UInt8) (hl : l.length≤2000000) (hp : p.at'≤3000000) : Ctr sys 106 [xr l p,xs c] [] (xr l (uAS l c p)) none []:=by
 have hrl:=Tk.rows_len l
 refine uAA Tryz.func106 rfl rfl rfl rfl rfl rfl ?_;refine uAd (uAb ?_);refine uAs rfl (uAH rfl rfl rfl rfl) ?_;refine uAs rfl (uAK rfl rfl rfl) ?_;refine uAf ?_;refine uAd ?_;refine uAd (uAb ?_);refine uAa rfl rfl rfl (uAg rfl gU rfl rfl) ?_;refine uAa rfl rfl rfl (uAh rfl gU rfl rfl rfl rfl) ?_;refine uAa rfl rfl rfl (uAc rfl gU) ?_;refine uAa rfl rfl rfl (uAg rfl gU rfl rfl) ?_;refine uAa rfl rfl rfl (uAh rfl (fun hh=>hh) rfl rfl rfl rfl) ?_;refine uAa rfl rfl rfl (uAg rfl gU rfl rfl) ?_;refine uAa rfl rfl rfl (uAh rfl (fun hh=>hh) rfl rfl rfl rfl) ?_;refine uAa rfl rfl rfl (uA7 rfl (fun hh=>hh) rfl rfl) ?_;refine uAa rfl rfl rfl (uAm rfl rfl (fun hh=>hh) (fun hh=>hh) rfl) ?_;refine uAa rfl rfl rfl (uAO rfl rfl gU (fun _ hi=>gP rfl hi)) ?_;refine uBd (s:=⟨[(1,_,_),(2,_,_),(4,_,_),(14,_,_)],[(.l 2,_),(.l 4,_)],[],[]⟩) (uAj (⟨sx rfl,sx rfl,sx rfl,sx rfl,trivial⟩) (⟨sx rfl,sx rfl,trivial⟩) trivial) ?_;refine uAa rfl rfl rfl (uAc rfl gU) ?_;refine uAa rfl rfl rfl (uAg rfl gU rfl rfl) ?_;refine uAa rfl rfl rfl (uAh rfl (fun hh=>hh) rfl rfl rfl rfl) ?_;refine uAa rfl rfl rfl (uAg rfl gU rfl rfl) ?_;refine uAa rfl rfl rfl (uAh rfl (fun hh=>hh) rfl rfl rfl rfl) ?_;refine uAa rfl rfl rfl (uAr (j:=p.at') rfl rfl (fun hh=>hh) (fun hh=>hh) rfl rfl (by first|omega|(simp at hh ⊢; omega)) (fun hh=>Tk.rows_at (by first|omega|(simp at hh ⊢; omega)))) ?_
 refine uAa rfl rfl rfl (uAU rfl (fun hh=>hh) rfl rfl) ?_;refine uAa rfl rfl rfl (uAM rfl (fun hh=>hh) rfl rfl rfl) ?_;refine uAa rfl rfl rfl (uAm rfl rfl (fun hh=>hh) gU rfl) ?_;refine uAa rfl rfl rfl (uAO rfl rfl gU (fun _ hi=>gP rfl hi)) ?_;refine uAa rfl rfl rfl (uAc rfl gU) ?_;refine uAa rfl rfl rfl (uAg rfl gU rfl rfl) ?_;refine uBd (s:=⟨[(1,_,_),(2,_,_),(4,_,_),(25,_,_),(26,_,_)],[(.l 2,_),(.l 4,_)],[],[]⟩) (uAj (⟨sx rfl,sx rfl,sx rfl,sx rfl,sx rfl,trivial⟩) (⟨sx rfl,sx rfl,trivial⟩) trivial) ?_;refine uAa rfl rfl rfl (uAh rfl (fun hh=>hh) rfl rfl rfl rfl) ?_;refine uAa rfl rfl rfl (uAg rfl gU rfl rfl) ?_;refine uAa rfl rfl rfl (uAh rfl (fun hh=>hh) rfl rfl rfl rfl) ?_;refine uAa rfl rfl rfl (uAr (j:=p.at') rfl rfl (fun hh=>hh) (fun hh=>hh) rfl rfl (by first|omega|(simp at hh ⊢; omega)) (fun hh=>Tk.rows_at (by first|omega|(simp at hh ⊢; omega)))) ?_;refine uAa rfl rfl rfl (uAU rfl (fun hh=>hh) rfl rfl) ?_;refine uAa rfl rfl rfl (uAM rfl (fun hh=>hh) rfl rfl rfl) ?_;refine uAa rfl rfl rfl (uAc rfl gU) ?_;refine uAa rfl rfl rfl (uA3 rfl rfl (fun hh=>hh) (fun hh=>hh) rfl) ?_;refine uAa rfl rfl rfl (uAO rfl rfl gU (fun _ hi=>gP rfl hi)) ?_;refine uAf ?_;refine uAk (s:=⟨[(2,_,_),(4,_,_),(35,_,_)],[(.l 2,_),(.l 4,_)],[],[]⟩) (uAj (⟨sx rfl,sx rfl,sx rfl,trivial⟩) (⟨sx rfl,sx rfl,trivial⟩) trivial) ?_
 refine uAo rfl (fun hc=>?_) (fun hc=>?_)
 ·try simp only [nn,uAi,T.rows_len,Tk.rows_len] at hc
  have h : symQ l p c=false:=by simp only [symQ]; grind
  have h2 : uAS l c p=p.off:=by rw[uAS,h]; rfl
  rw[h2]
  refine uAd (uAb ?_);refine uAa rfl rfl rfl (uAg rfl gU rfl rfl) ?_;refine uAs rfl (uAw rfl rfl rfl rfl rfl rfl rfl) ?_;refine uAf ?_;refine uAd (uAb ?_);refine uAa rfl rfl rfl (uAn rfl gU rfl rfl rfl rfl rfl) ?_;refine uAs rfl (uAw rfl rfl rfl rfl rfl rfl rfl) ?_;refine uAf ?_;refine uAq ?_
  repeat(first|refine tR ?_|refine bR ?_)
  refine uAu rfl ?_ trivial
  rfl
 ·try simp only [nn,uAi,T.rows_len,Tk.rows_len] at hc
  have h : symQ l p c=true:=by simp only [symQ]; grind
  have h2 : uAS l c p=p.go:=by rw[uAS,if_pos h]
  rw[h2]
  refine uAp ?_;refine uAd (uAb ?_);refine uAa rfl rfl rfl (uAg rfl gU rfl rfl) ?_;refine uAa rfl rfl rfl (uAh rfl gU rfl rfl rfl rfl) ?_;refine uAa rfl rfl rfl (uAz rfl rfl gU gU rfl (IntWalk.i64_in _ (by omega))) ?_;refine uAa rfl rfl rfl (uAg rfl gU rfl rfl) ?_;refine uAs rfl (uAw rfl rfl rfl rfl rfl rfl rfl) ?_;refine uAf ?_;refine uAd (uAb ?_);refine uAa rfl rfl rfl (uAn rfl gU rfl rfl rfl rfl rfl) ?_;refine uAs rfl (uAw rfl rfl rfl rfl rfl rfl rfl) ?_;refine uAf ?_;refine uAq ?_
  repeat(first|refine tR ?_|refine bR ?_)
  refine uAu rfl ?_ trivial
  (first|rfl|exact congrArg (fun z=>X.v (.agg z)) (uN6 (by simp [PS.go]) rfl))
theorem uOl (l : List Tk) (c : List UInt8) (p : PS) : (uAS l c p).bad = !symQ l p c:=by
 unfold uAS
 split
 ·rename_i h
  rw[h]; exact (uCf h).2
 ·rename_i h
  have : symQ l p c=false:=by simpa using h
  rw[this]; rfl
theorem uCt (l : List Tk) (p : PS) (c : List UInt8) (hl : l.length≤2000000) (hp : p.at'≤3000000) : Ctr sys 107 [xr l p,xs c] [] (xb (symQ l p c)) none []:=by
 refine uAA Tryz.func107 rfl rfl rfl rfl rfl rfl ?_;refine uAd (uAb ?_);refine uAs rfl (uAH rfl rfl rfl rfl) ?_;refine uAa rfl rfl rfl (uAe rfl gU) ?_;refine uAf ?_;refine uAd (uAb ?_);refine uAa rfl rfl rfl (uAn rfl gU rfl rfl rfl rfl rfl) ?_;refine uAa rfl rfl rfl (uAc rfl gU) ?_;refine uAx rfl rfl rfl rfl rfl rfl gU gU (uAZ _ _ _ (by omega) (by omega)) rfl ?_;refine uAa rfl rfl rfl (uHk rfl gU (Tryz.underlying119) rfl rfl rfl rfl rfl rfl) ?_;refine uAa rfl rfl rfl (uA1 rfl gU) ?_;refine uAa rfl rfl rfl (uAe rfl gU) ?_;refine uAf ?_;refine uAq ?_
 repeat(first|refine tR ?_|refine bR ?_)
 refine uAu rfl ?_ trivial;exact uBY (by rw[uOl]; simp)
theorem uBE (l : List Tk) (p : PS) (hl : l.length≤2000000) (hp : p.at'≤3000000) : Ctr sys 105 [xr l p] [] (.tup [.c (.s (uAy l [] p).1), .agg (pbx l (uAy l [] p).2)]) none []:=by
 have hrl:=Tk.rows_len l
 refine uAA Tryz.func105 rfl rfl rfl rfl rfl rfl ?_;refine uAd (uAb ?_);refine uAs rfl (uAH rfl rfl rfl rfl) ?_;refine uAa rfl rfl rfl (uAe rfl gU) ?_;refine uAs rfl (uAK rfl rfl rfl) ?_;refine uAf ?_;refine uAd ?_;refine uAd (uAb ?_);refine uAa rfl rfl rfl (uAg rfl gU rfl rfl) ?_;refine uAa rfl rfl rfl (uAh rfl gU rfl rfl rfl rfl) ?_;refine uAa rfl rfl rfl (uAc rfl gU) ?_;refine uAa rfl rfl rfl (uAg rfl gU rfl rfl) ?_;refine uAa rfl rfl rfl (uAh rfl (fun hh=>hh) rfl rfl rfl rfl) ?_;refine uAa rfl rfl rfl (uAg rfl gU rfl rfl) ?_;refine uAa rfl rfl rfl (uAh rfl (fun hh=>hh) rfl rfl rfl rfl) ?_;refine uAa rfl rfl rfl (uA7 rfl (fun hh=>hh) rfl rfl) ?_;refine uAa rfl rfl rfl (uAm rfl rfl (fun hh=>hh) (fun hh=>hh) rfl) ?_;refine uBd (s:=⟨[(1,_,_),(3,_,_),(6,_,_),(12,_,_)],[(.l 1,_),(.l 3,_)],[],[]⟩) (uAj (⟨sx rfl,sx rfl,sx rfl,sx rfl,trivial⟩) (⟨sx rfl,sx rfl,trivial⟩) trivial) ?_;refine uAa rfl rfl rfl (uAO rfl rfl gU (fun _ hi=>gP rfl hi)) ?_;refine uAa rfl rfl rfl (uAc rfl gU) ?_;refine uAa rfl rfl rfl (uAg rfl gU rfl rfl) ?_;refine uAa rfl rfl rfl (uAh rfl (fun hh=>hh) rfl rfl rfl rfl) ?_;refine uAa rfl rfl rfl (uAg rfl gU rfl rfl) ?_;refine uAa rfl rfl rfl (uAh rfl (fun hh=>hh) rfl rfl rfl rfl) ?_
 refine uAa rfl rfl rfl (uAr (j:=p.at') rfl rfl (fun hh=>hh) (fun hh=>hh) rfl rfl (by first|omega|(simp at hh ⊢; omega)) (fun hh=>Tk.rows_at (by first|omega|(simp at hh ⊢; omega)))) ?_;refine uAa rfl rfl rfl (uAU rfl (fun hh=>hh) rfl rfl) ?_;refine uAa rfl rfl rfl (uAM rfl (fun hh=>hh) rfl rfl rfl) ?_;refine uAa rfl rfl rfl (uAm rfl rfl (fun hh=>hh) gU rfl) ?_;refine uAa rfl rfl rfl (uAO rfl rfl gU (fun _ hi=>gP rfl hi)) ?_;refine uAf ?_;refine uAk (s:=⟨[(1,_,_),(3,_,_),(23,_,_)],[(.l 1,_),(.l 3,_)],[],[]⟩) (uAj (⟨sx rfl,sx rfl,sx rfl,trivial⟩) (⟨sx rfl,sx rfl,trivial⟩) trivial) ?_;refine uAo rfl (fun hc=>?_) (fun hc=>?_)
 ·try simp only [nn,uAi,T.rows_len,Tk.rows_len] at hc
  have h : namQ l p []=false:=by simp only [namQ]; grind
  have h2 : uAy l [] p=([],p.off):=by rw[uAy,h]; rfl
  rw[h2]
  refine uAd (uAb ?_);refine uAa rfl rfl rfl (uAg rfl gU rfl rfl) ?_;refine uAs rfl (uAw rfl rfl rfl rfl rfl rfl rfl) ?_;refine uAf ?_;refine uAd ?_;refine awp_drawn' (by kernel_rfl) ?_;refine uAG rfl rfl rfl rfl rfl rfl rfl gU rfl rfl rfl rfl rfl ?_;refine uAl rfl rfl rfl rfl (uAe rfl gU) ?_;refine uAT rfl rfl rfl rfl rfl rfl rfl rfl rfl rfl rfl rfl ?_;refine uA2 (by kernel_rfl) ?_;refine uAq ?_
  repeat(first|refine tR ?_|refine bR ?_)
  refine uAu rfl ?_ trivial
  rfl
 ·try simp only [nn,uAi,T.rows_len,Tk.rows_len] at hc
  have h : namQ l p []=true:=by simp only [namQ]; grind
  have h2 : uAy l [] p=((l.getD p.at' tk0).text,p.go):=by rw[uAy,if_pos h]
  rw[h2]
  refine uAp ?_;refine uAd (uAb ?_);refine uAa rfl rfl rfl (uAg rfl gU rfl rfl) ?_;refine uAa rfl rfl rfl (uAh rfl gU rfl rfl rfl rfl) ?_;refine uAa rfl rfl rfl (uAz rfl rfl gU gU rfl (IntWalk.i64_in _ (by omega))) ?_;refine uAa rfl rfl rfl (uAg rfl gU rfl rfl) ?_;refine uAs rfl (uAw rfl rfl rfl rfl rfl rfl rfl) ?_;refine uAf ?_;refine uAd ?_;refine awp_drawn' (by kernel_rfl) ?_;refine uAl rfl rfl rfl rfl (uAg rfl gU rfl rfl) ?_;refine uA5 rfl rfl rfl rfl rfl rfl rfl gU rfl rfl rfl rfl ?_;refine uAl rfl rfl rfl rfl (uAg rfl gU rfl rfl) ?_;refine uA5 rfl rfl rfl rfl rfl rfl rfl gU rfl rfl rfl rfl ?_;refine uAl rfl rfl rfl rfl (uAz rfl rfl gU gU rfl (IntWalk.i64_in _ (by omega))) ?_;refine uAl rfl rfl rfl rfl (uAr (j:=p.at') rfl rfl gU gU rfl rfl (by first|omega|(simp at hh ⊢; omega)) (fun hh=>Tk.rows_at (by first|omega|(simp at hh ⊢; omega)))) ?_;refine uAl rfl rfl rfl rfl (uAU rfl gU rfl rfl) ?_;refine uAl rfl rfl rfl rfl (uAM rfl gU rfl rfl rfl) ?_;refine uAG rfl rfl rfl rfl rfl rfl rfl gU rfl rfl rfl rfl rfl ?_;refine uAl rfl rfl rfl rfl (uAe rfl gU) ?_;refine uAT rfl rfl rfl rfl rfl rfl rfl rfl rfl rfl rfl rfl ?_;refine uA2 (by kernel_rfl) ?_;refine uAq ?_
  repeat(first|refine tR ?_|refine bR ?_)
  refine uAu rfl ?_ trivial
  (first|rfl|exact congrArg (fun z=>X.tup [.c (.s (l.getD p.at' tk0).text), .agg z]) (uN6 (by simp [PS.go]) rfl))
theorem uLX (l : List Tk) (p : PS) (hl : l.length≤2000000) : Ctr sys 109 [xr l p] [] (xi (uJH l p)) none []:=by
 have hrl:=Tk.rows_len l
 refine uAA Tryz.func109 rfl rfl rfl rfl rfl rfl ?_;refine uAd (uAb ?_);refine uAs rfl (uAH rfl rfl rfl rfl) ?_;refine uAa rfl rfl rfl (uAe rfl gU) ?_;refine uAf ?_;refine uAd ?_;refine uAd (uAb ?_);refine uAa rfl rfl rfl (uAg rfl gU rfl rfl) ?_;refine uAa rfl rfl rfl (uAh rfl gU rfl rfl rfl rfl) ?_;refine uAI rfl rfl rfl rfl rfl gU rfl rfl ?_ (fun hh=>by simp at hh); intro hlen;refine uAa rfl rfl rfl (uAm rfl rfl gU gU rfl) ?_;refine uAf ?_;refine uAk (s:=⟨[(1,_,_),(6,_,_)],[(.l 1,_)],[],[]⟩) (uAj (⟨sx rfl,sx rfl,trivial⟩) (⟨sx rfl,trivial⟩) trivial) ?_;refine uAo rfl (fun hc=>?_) (fun hc=>?_)
 ·try simp only [nn,uAi,T.rows_len,Tk.rows_len] at hc
  refine uAd (uAb ?_);refine uAa rfl rfl rfl (uAe rfl gU) ?_;refine uAf ?_;refine uAq ?_
  repeat(first|refine tR ?_|refine bR ?_)
  refine uAu rfl ?_ trivial
  (rw[uJH,if_pos (by omega)]; rfl)
 ·try simp only [nn,uAi,T.rows_len,Tk.rows_len] at hc
  refine uAp ?_;refine uAd (uAb ?_);refine uAa rfl rfl rfl (uAg rfl gU rfl rfl) ?_;refine uAa rfl rfl rfl (uAh rfl gU rfl rfl rfl rfl) ?_;refine uAa rfl rfl rfl (uAg rfl gU rfl rfl) ?_;refine uAa rfl rfl rfl (uAh rfl gU rfl rfl rfl rfl) ?_;refine uAa rfl rfl rfl (uAg rfl gU rfl rfl) ?_;refine uAa rfl rfl rfl (uAh rfl gU rfl rfl rfl rfl) ?_;refine uAI rfl rfl rfl rfl rfl gU rfl rfl ?_ (fun hh=>by simp at hh); intro hlen;refine uAa rfl rfl rfl (uAz rfl rfl gU gU rfl (IntWalk.i64_in _ (by omega))) ?_;refine uAa rfl rfl rfl (uN5 rfl rfl gU gU) ?_;refine uAa rfl rfl rfl (uAr (j:=(min p.at' (l.length - 1))) rfl rfl gU gU rfl rfl (by first|omega|(simp at hh ⊢; omega)) (fun hh=>Tk.rows_at (by first|omega|(simp at hh ⊢; omega)))) ?_;refine uAa rfl rfl rfl (uAU rfl gU rfl rfl) ?_;refine uAa rfl rfl rfl (uAM rfl gU rfl rfl rfl) ?_;refine uBd (s:=⟨[(18,_,_)],[],[],[]⟩) (uAj (⟨sx rfl,trivial⟩) trivial trivial) ?_;refine uAa rfl rfl rfl (uAe rfl gU) ?_;refine uAf ?_;refine uAq ?_
  repeat(first|refine tR ?_|refine bR ?_)
  refine uAu rfl ?_ trivial
  rw[uJH,if_neg (by omega)]
  split
  ·rename_i h
   exact uBc (by rw[show min p.at' (l.length - 1)=l.length - 1 by omega])
  ·rename_i h
   exact uBc (by rw[show min p.at' (l.length - 1)=p.at' by omega])
theorem uMZ {l : List (List UInt8)} {s : List UInt8} {k : Nat} {e : Int} (h : k < l.length) (hi : (if idxF (fun x=>decide (x=s) && decide (s≠[])) (l.drop k) < 0 then 0 else idxF (fun x=>decide (x=s) && decide (s≠[])) (l.drop k) + k)=e) :
  ((l.getD k []=s∧s≠[])→e=k)∧(¬(l.getD k []=s∧s≠[])→(if idxF (fun x=>decide (x=s) && decide (s≠[])) (l.drop (k + 1)) < 0 then 0 else idxF (fun x=>decide (x=s) && decide (s≠[])) (l.drop (k + 1)) + (k + 1 : Nat))=e):=by
 rw[uIT (d:=[]) h,idxF] at hi
 refine ⟨fun q=>?_,fun q=>?_⟩
 ·have e1 : (decide (l.getD k []=s) && decide (s≠[]))=true:=by simp only [Bool.and_eq_true,decide_eq_true_eq]; exact q
  rw[e1] at hi
  simp at hi; omega
 ·have e1 : (decide (l.getD k []=s) && decide (s≠[]))=false:=by
   rw[Bool.eq_false_iff]; simp only [ne_eq,Bool.and_eq_true,decide_eq_true_eq]; exact q
  rw[e1] at hi
  simp only [Bool.false_eq_true,if_false] at hi
  have hg:=uJg (fun x=>decide (x=s) && decide (s≠[])) (l.drop (k + 1))
  generalize idxF (fun x=>decide (x=s) && decide (s≠[])) (List.drop (k + 1) l)=x at hi hg ⊢
  rw[← hi]
  by_cases hx : x < 0
  ·rw[if_pos hx,if_pos hx]; simp
  ·rw[if_neg hx,if_neg hx,if_neg (by omega)]; push_cast; omega
theorem uGq (l : List (List UInt8)) (s : List UInt8) : Ctr sys 131 [xss l,xs s] [] (xi (idx0 l s)) none []:=by
 have hrl:=uAi l
 refine uAA Tryz.func131 rfl rfl rfl rfl rfl rfl ?_;refine uAd (uAb ?_);refine uAa rfl rfl rfl (uAe rfl gU) ?_;refine uAf ?_;refine uAd ?_;refine uAd (uAb ?_);refine uAa rfl rfl rfl (uAe rfl gU) ?_;refine uAf ?_;refine uAt ?_;refine uAW (ι:=Nat) { t:=[(0,_,_),(1,_,_)],bx:=[],ow:=[] } (fun k=>[(5,true,xi (k : Int))]) (fun k=>[]) (fun k=>k≤l.length∧(if idxF (fun x=>decide (x=s) && decide (s≠[])) (l.drop k) < 0 then 0 else idxF (fun x=>decide (x=s) && decide (s≠[])) (l.drop k) + k)=idx0 l s) (fun k=>l.length - k) (0) (⟨by simp,by simp [idx0]⟩) (uAj (⟨sx rfl,sx rfl,sx rfl,trivial⟩) trivial trivial) ?_
 intro k hok
 dsimp only [List.cons_append,List.nil_append]
 obtain ⟨hk,hi⟩:=hok
 refine uAd ?_;refine uAd (uAb ?_);refine uAa rfl rfl rfl (uAc rfl gU) ?_;refine uAa rfl rfl rfl (uAc rfl gU) ?_;refine uAI rfl rfl rfl rfl rfl gU rfl rfl ?_ (fun hh=>by simp at hh); intro hlen;refine uAa rfl rfl rfl (uAm rfl rfl gU gU rfl) ?_;refine uAf ?_;refine uAo rfl (fun hc=>?_) (fun hc=>?_)
 ·try simp only [nn,uAi,T.rows_len,Tk.rows_len] at hc
  have hlt : k < l.length:=by omega
  have hd:=uMZ hlt hi
  refine uAp ?_;refine uAd ?_;refine uAt ?_;refine uAd (uAb ?_);refine uAa rfl rfl rfl (uAc rfl gU) ?_;refine uAa rfl rfl rfl (uAc rfl gU) ?_;refine uAa rfl rfl rfl (uAr rfl rfl gU gU rfl rfl rfl (fun hh=>uBP (by first|omega|(simp at hh ⊢; omega)))) ?_;refine uAa rfl rfl rfl (uAM rfl gU rfl rfl rfl) ?_;refine uAa rfl rfl rfl (uAc rfl gU) ?_;refine uAa rfl rfl rfl (uA3 rfl rfl gU gU rfl) ?_;refine uAa rfl rfl rfl (uAc rfl gU) ?_;refine uAa rfl rfl rfl (uAc rfl gU) ?_;refine uBd (s:=⟨[(0,_,_),(1,_,_),(5,_,_),(18,_,_),(19,_,_)],[],[],[]⟩) (uAj (⟨sx rfl,sx rfl,sx rfl,sx rfl,sx rfl,trivial⟩) trivial trivial) ?_;refine uAa rfl rfl rfl (uA3 rfl rfl (fun hh=>hh) gU rfl) ?_;refine uAa rfl rfl rfl (uAJ rfl rfl gU (fun _ hi=>gP rfl hi)) ?_;refine uAf ?_;refine uAo rfl (fun hc2=>?_) (fun hc2=>?_)
  ·try simp only [nn,uAi,T.rows_len,Tk.rows_len] at hc2
   refine uAd (uAb ?_);refine uAa rfl rfl rfl (uAc rfl gU) ?_;refine uAa rfl rfl rfl (uAe rfl gU) ?_;refine uAf ?_;refine uAq ?_
   repeat(first|refine tR ?_|refine bR ?_)
   refine uAu rfl ?_ trivial;exact uBc (hd.1 hc2).symm
  ·try simp only [nn,uAi,T.rows_len,Tk.rows_len] at hc2
   refine uAp ?_;refine uAb ?_;refine uAa rfl rfl rfl (uAc rfl gU) ?_;refine uAa rfl rfl rfl (uAz rfl rfl gU gU rfl (IntWalk.i64_in _ (by omega))) ?_;refine uAa rfl rfl rfl (uAe rfl gU) ?_;refine uAf ?_;refine ⟨k + 1,?_,?_,uAj (⟨⟨_,rfl,?_⟩,⟨sx rfl,sx rfl,trivial⟩⟩) trivial trivial⟩
   all_goals (first|rfl|omega|exact ⟨by omega,hd.2 (by rintro ⟨q1,q2⟩; rcases hc2 with q|q; exact q q1; exact q2 (by simpa using q))⟩)
 ·try simp only [nn,uAi,T.rows_len,Tk.rows_len] at hc
  rw[List.drop_of_length_le (by omega)] at hi
  refine uAL ?_
  repeat(first|refine uAE ?_|refine uAF ?_|refine uAB rfl ?_)
  refine uAd (uAb ?_);refine uAa rfl rfl rfl (uAe rfl gU) ?_;refine uAf ?_;refine uAq ?_
  repeat(first|refine tR ?_|refine bR ?_)
  refine uAu rfl ?_ trivial;exact uBc hi
theorem uDb (l : List Tk) (p : PS) (ws : List (List UInt8)) (hl : l.length≤2000000) (hp : p.at'≤3000000) : Ctr sys 104 [xr l p,xss ws] [] (.tup [.c (.i .i64 (chR l ws p).1), .agg (pbx l (chR l ws p).2)]) none []:=by
 refine uAA Tryz.func104 rfl rfl rfl rfl rfl rfl ?_;refine uAd (uAb ?_);refine uAs rfl (uAH rfl rfl rfl rfl) ?_;refine uAa rfl rfl rfl (uAe rfl gU) ?_;refine uAs rfl (uAK rfl rfl rfl) ?_;refine uAf ?_;refine uAd (uAb ?_);refine uAa rfl rfl rfl (uAn rfl gU rfl rfl rfl rfl rfl) ?_;refine uAx rfl rfl rfl rfl rfl rfl gU gU (uBE _ _ (by omega) (by omega)) rfl ?_;refine uAa rfl rfl rfl (uAc rfl gU) ?_;refine uAa rfl rfl rfl (uAv rfl gU rfl) ?_;refine uAa rfl rfl rfl (uAv rfl gU rfl) ?_;refine uAs rfl (uAK rfl rfl rfl) ?_;refine uAa rfl rfl rfl (uAe rfl gU) ?_;refine uAs rfl (uAw rfl rfl rfl rfl rfl rfl rfl) ?_;refine uAf ?_;refine uAk (s:=⟨[(1,_,_),(2,_,_),(5,_,_),(6,_,_),(7,_,_)],[(.l 2,_),(.l 5,_),(.l 7,_)],[],[]⟩) (uAj (⟨sx rfl,sx rfl,sx rfl,sx rfl,sx rfl,trivial⟩) (⟨sx rfl,sx rfl,sx rfl,trivial⟩) trivial) ?_;refine uAd ?_;refine uAd (uAb ?_);refine uAa rfl rfl rfl (uAg rfl gU rfl rfl) ?_;refine uAa rfl rfl rfl (uAh rfl gU rfl rfl rfl rfl) ?_;refine uAa rfl rfl rfl (uAc rfl gU) ?_;refine uAa rfl rfl rfl (uAc rfl gU) ?_;refine uAa rfl rfl rfl (uAc rfl gU) ?_;refine uAx rfl rfl rfl rfl rfl rfl gU (fun hh=>gA ((fun hh=>hh) hh) (gA ((fun hh=>hh) hh) (rfl))) (uGq _ _) rfl ?_
 refine uAa rfl rfl rfl (uAm rfl rfl (fun hh=>hh) gU rfl) ?_;refine uAa rfl rfl rfl (uAO rfl rfl gU (fun _ hi=>gP rfl hi)) ?_;refine uAf ?_;refine uAk (s:=⟨[(1,_,_),(2,_,_),(5,_,_),(6,_,_),(7,_,_),(20,_,_)],[(.l 2,_),(.l 5,_),(.l 7,_)],[],[]⟩) (uAj (⟨sx rfl,sx rfl,sx rfl,sx rfl,sx rfl,sx rfl,trivial⟩) (⟨sx rfl,sx rfl,sx rfl,trivial⟩) trivial) ?_;refine uAo rfl (fun hc=>?_) (fun hc=>?_)
 ·try simp only [nn,uAi,T.rows_len,Tk.rows_len] at hc
  have h : chR l ws p=(0,p.off):=by rw[chR,if_pos hc]
  rw[h]
  refine uAd (uAb ?_);refine uAa rfl rfl rfl (uAg rfl gU rfl rfl) ?_;refine uAs rfl (uAw rfl rfl rfl rfl rfl rfl rfl) ?_;refine uAf ?_;refine uAd ?_;refine awp_drawn' (by kernel_rfl) ?_;refine uAG rfl rfl rfl rfl rfl rfl rfl gU rfl rfl rfl rfl rfl ?_;refine uAl rfl rfl rfl rfl (uAe rfl gU) ?_;refine uAT rfl rfl rfl rfl rfl rfl rfl rfl rfl rfl rfl rfl ?_;refine uA2 (by kernel_rfl) ?_;refine uAq ?_
  repeat(first|refine tR ?_|refine bR ?_)
  refine uAu rfl ?_ trivial
  rfl
 ·try simp only [nn,uAi,T.rows_len,Tk.rows_len] at hc
  have h : chR l ws p=(idx0 ws (uAy l [] p).1,(uAy l [] p).2):=by rw[chR,if_neg (by rintro (q | q); { rw[hc.1] at q; cases q }; { exact hc.2 q })]
  rw[h]
  refine uAp ?_;refine uAd ?_;refine awp_drawn' (by kernel_rfl) ?_;refine uAl rfl rfl rfl rfl (uAc rfl gU) ?_;refine uAl rfl rfl rfl rfl (uAc rfl gU) ?_;refine uAQ rfl rfl rfl rfl rfl rfl rfl gU gU (uGq _ _) rfl ?_;refine uAG rfl rfl rfl rfl rfl rfl rfl gU rfl rfl rfl rfl rfl ?_;refine uAl rfl rfl rfl rfl (uAe rfl gU) ?_;refine uAT rfl rfl rfl rfl rfl rfl rfl rfl rfl rfl rfl rfl ?_;refine uA2 (by kernel_rfl) ?_;refine uAq ?_
  repeat(first|refine tR ?_|refine bR ?_)
  refine uAu rfl ?_ trivial
  rfl
theorem uC1 (l : List Tk) (p : PS) (hl : l.length≤2000000) (hp : p.at'≤l.length) : Ctr sys 132 [xr l p] [] (.tup [.c (.sl 1 (strR (uBB l p).1)), .agg (pbx l (uBB l p).2)]) none []:=by
 have hrl:=Tk.rows_len l
 have h0:=uA9 l [] p
 refine uAA Tryz.func132 rfl rfl rfl rfl rfl rfl ?_;refine uAd (uAb ?_);refine uAs rfl (uAH rfl rfl rfl rfl) ?_;refine uAs rfl (uBe (.inr rfl) rfl rfl) ?_;refine uAs rfl (uAK rfl rfl rfl) ?_;refine uAf ?_;refine uAd (uAb ?_);refine uAa rfl rfl rfl (uAn rfl gU rfl rfl rfl rfl rfl) ?_;refine uAx rfl rfl rfl rfl rfl rfl gU gU (uBE _ _ (by omega) (by omega)) rfl ?_;refine uAa rfl rfl rfl (uAc rfl gU) ?_;refine uAa rfl rfl rfl (uAv rfl gU rfl) ?_;refine uAa rfl rfl rfl (uAv rfl gU rfl) ?_;refine uAa rfl rfl rfl (uAe rfl gU) ?_;refine uAs rfl (uAw rfl rfl rfl rfl rfl rfl rfl) ?_;refine uAf ?_;refine uAk (s:=⟨[(1,_,_),(3,_,_),(4,_,_)],[(.l 1,_),(.l 3,_)],[],[]⟩) (uAj (⟨sx rfl,sx rfl,sx rfl,trivial⟩) (⟨sx rfl,sx rfl,trivial⟩) trivial) ?_;refine uAd (uAb ?_);refine uAa rfl rfl rfl (uAc rfl gU) ?_;refine uAR (xs:=[_]) rfl rfl rfl rfl rfl rfl rfl rfl rfl gU rfl ?_;refine uAs rfl (uAV (.inr rfl) rfl rfl rfl) ?_;refine uAf ?_;refine uAd ?_;refine uAt ?_;refine uAW (ι:=PS × List (List UInt8) × List UInt8) { t:=[(1,_,_),(3,_,_)],bx:=[(.l 3,_)],ow:=[(.t 5,_)] } (fun q=>[(4,true,xs q.2.2),(5,true,xss q.2.1)]) (fun q=>[((.l 1),pbx l q.1)]) (fun q=>q.1.at'≤l.length∧q.2.1.length≤q.1.at' + 1 ∧ ∃ n,l.length + 1≤n + q.1.at'∧uBV l (uAy l []) n q.1 q.2.1=uBB l p) (fun q=>l.length - q.1.at') (((uAy l [] p).2,[(uAy l [] p).1],(uAy l [] p).1)) (⟨h0.2 hp,by simp,_,by dsimp only; omega,rfl⟩) (uAj (⟨sx rfl,sx rfl,sx rfl,sx rfl,trivial⟩) (⟨sx rfl,sx rfl,trivial⟩) (⟨rfl,trivial⟩)) ?_
 intro q hok
 dsimp only [List.cons_append,List.nil_append] at *
 obtain ⟨q,out,x⟩:=q
 dsimp only at hok ⊢
 obtain ⟨hq,ho,n,hn,hi⟩:=hok
 have hro:=uAi out
 refine uAd ?_;refine uAd (uAb ?_);refine uAa rfl rfl rfl (uAn rfl gU rfl rfl rfl rfl rfl) ?_;refine uAx rfl rfl rfl rfl rfl rfl gU gU (uCt _ _ _ (by omega) (by omega)) rfl ?_;refine uAf ?_;refine uAo rfl (fun hc=>?_) (fun hc=>?_)
 ·try simp only [nn,uAi,T.rows_len,Tk.rows_len] at hc
  have hlt:=(uCf hc).1
  have hs : uAS l [44] q=q.go:=by rw[uAS,if_pos hc]
  have h1:=uA9 l [] q.go
  have hg : q.go.at'=q.at' + 1:=rfl
  obtain ⟨n,rfl⟩ : ∃ k,n=k + 1:=⟨n - 1,by omega⟩
  rw[uKS hc] at hi
  have hsy:=uAZ l q [44] (by omega) (by omega)
  rw[hs] at hsy
  refine uAp ?_;refine uAt ?_;refine uAd (uAb ?_);refine uAa rfl rfl rfl (uAn rfl gU rfl rfl rfl rfl rfl) ?_;refine uAx rfl rfl rfl rfl rfl rfl gU gU (hsy) rfl ?_;refine uAx rfl rfl rfl rfl rfl rfl gU gU (uBE l q.go (by omega) (by omega)) rfl ?_;refine uAa rfl rfl rfl (uAc rfl gU) ?_;refine uAa rfl rfl rfl (uAv rfl gU rfl) ?_;refine uAa rfl rfl rfl (uAv rfl gU rfl) ?_;refine uAa rfl rfl rfl (uAe rfl gU) ?_;refine uAs rfl (uAw rfl rfl rfl rfl rfl rfl rfl) ?_;refine uAf ?_;refine uAk (s:=⟨[(1,_,_),(3,_,_),(4,_,_),(5,_,_)],[(.l 1,_),(.l 3,_)],[(.t 5,_)],[]⟩) (uAj (⟨sx rfl,sx rfl,sx rfl,sx rfl,trivial⟩) (⟨sx rfl,sx rfl,trivial⟩) (⟨rfl,trivial⟩)) ?_;refine uAb ?_;refine uAs rfl (uAV (.inl rfl) rfl rfl rfl) ?_;refine uAa rfl rfl rfl (uAc rfl gU) ?_;refine uAR (xs:=[_]) rfl rfl rfl rfl rfl rfl rfl rfl rfl gU rfl ?_;refine uAs rfl (uA0 rfl rfl rfl rfl rfl rfl rfl (by first|omega|(simp only [List.length_append,List.length_singleton,uAi]; omega)) (by first|omega|(simp only [List.length_append,List.length_singleton,uAi]; omega))) ?_;refine uAs rfl (uAV (.inr rfl) rfl rfl rfl) ?_;refine uAf ?_;refine ⟨((uAy l [] q.go).2,out++[(uAy l [] q.go).1],(uAy l [] q.go).1),?_,?_,uAj (⟨⟨_,rfl,?_⟩,⟨⟨_,rfl,?_⟩,⟨sx rfl,sx rfl,trivial⟩⟩⟩) (⟨⟨_,rfl,?_⟩,⟨sx rfl,trivial⟩⟩) (⟨rfl,trivial⟩)⟩
  ·exact ⟨h1.2 (by omega),by simp only [List.length_append,List.length_singleton]; omega,n,by dsimp only; omega,hi⟩
  ·dsimp only; omega
  ·rfl
  ·exact tx (uDY _ _)
  all_goals rfl
 ·try simp only [nn,uAi,T.rows_len,Tk.rows_len] at hc
  rw[uFz hc] at hi
  refine uAL ?_
  repeat(first|refine uAE ?_|refine uAF ?_|refine uAB rfl ?_)
  refine uAd ?_;refine awp_drawn' (by kernel_rfl) ?_;refine uCH rfl (.inl rfl) rfl rfl rfl rfl rfl ?_;refine uAG rfl rfl rfl rfl rfl rfl rfl gU rfl rfl rfl rfl rfl ?_;refine uCH rfl (.inr rfl) rfl rfl rfl rfl rfl ?_;refine uAT rfl rfl rfl rfl rfl rfl rfl rfl rfl rfl rfl rfl ?_;refine uA2 (by kernel_rfl) ?_;refine uAq ?_
  repeat(first|refine tR ?_|refine bR ?_)
  refine uAu rfl ?_ trivial
  (rw[← hi]; rfl)
theorem uM1 : ∀ (n : Nat) (ts : List T),ts.length≤n→n≤3000000→0 < ts.length→Ctr sys 165 [xl ts] [] (xm (tupT ts)) none []:=by
 intro n
 induction n with
 | zero=>intro ts h _ h0; omega
 | succ n ih =>
  intro ts hts hn h0
  have hrl:=T.rows_len ts
  refine uAA Tryz.func165 rfl rfl rfl rfl rfl rfl ?_;refine uAd (uAb ?_);refine uAs rfl (uAK rfl rfl rfl) ?_;refine uAf ?_;refine uAd ?_;refine uAd (uAb ?_);refine uAa rfl rfl rfl (uAc rfl gU) ?_;refine uAI rfl rfl rfl rfl rfl gU rfl rfl ?_ (fun hh=>by simp at hh); intro hlen;refine uAa rfl rfl rfl (uAm rfl rfl gU gU rfl) ?_;refine uAf ?_;refine uAo rfl (fun hc=>?_) (fun hc=>?_)
  ·try simp only [nn,uAi,T.rows_len,Tk.rows_len] at hc
   obtain ⟨t,rfl⟩ : ∃ t,ts=[t]:=by
    match ts,hc with
    | [t],_=>exact ⟨t,rfl⟩
    | [],h=>simp at h
    | _ :: _ :: _,h=>simp at h; omega
   refine uAd (uAb ?_);refine uAa rfl rfl rfl (uAc rfl gU) ?_;refine uAa rfl rfl rfl (uAr (j:=0) rfl rfl gU gU rfl rfl (by first|omega|(simp at hh ⊢; omega)) (fun hh=>T.rows_at (by first|omega|(simp at hh ⊢; omega)))) ?_;refine uAa rfl rfl rfl (uAD rfl gU rfl rfl rfl rfl) ?_;refine uAs rfl (uAw rfl rfl rfl rfl rfl rfl rfl) ?_;refine uAf ?_;refine uAq ?_
   repeat(first|refine tR ?_|refine bR ?_)
   refine uAu rfl ?_ trivial
   rfl
  ·try simp only [nn,uAi,T.rows_len,Tk.rows_len] at hc
   obtain ⟨t,u,r,rfl⟩ : ∃ t u r,ts=t :: u :: r:=by
    match ts,hc,h0 with
    | [t],h,_=>exact absurd rfl h
    | [],_,h=>simp at h
    | t :: u :: r,_,_=>exact ⟨t,u,r,rfl⟩
   simp only [List.length_cons] at hts hrl
   have htu:=ih (u :: r) (by simp only [List.length_cons]; omega) (by omega) (by simp)
   have htu2 : ∀ rs : List (List C),rs=T.rows (u :: r)→Ctr sys 165 [.v (.c (.sl 4 rs))] [] (xm (tupT (u :: r))) none []:=by
    intro rs h; subst h; exact htu
   refine uAp ?_;refine uAd ?_;refine awp_drawn' (by kernel_rfl) ?_;refine uAl rfl rfl rfl rfl (uAc rfl gU) ?_;refine uAl rfl rfl rfl rfl (uAr (j:=0) rfl rfl gU gU rfl rfl (by first|omega|(simp at hh ⊢; omega)) (fun hh=>T.rows_at (by first|omega|(simp at hh ⊢; omega)))) ?_;refine uAl rfl rfl rfl rfl (uAD rfl gU rfl rfl rfl rfl) ?_;refine uAl rfl rfl rfl rfl (uAc rfl gU) ?_;refine uAl rfl rfl rfl rfl (uEm (l:=1) rfl gU rfl rfl (fun _=>⟨_,_,_,rfl,gU,by first|omega|(simp at hh ⊢; omega)⟩) (fun _=>rfl) (fun hh=>by first|omega|(simp at hh ⊢; omega)) (fun hh=>by first|omega|(simp at hh ⊢; omega))) ?_;refine uAQ rfl rfl rfl rfl rfl rfl rfl gU gU (htu2 _ (by simp [T.rows_eq,List.take_of_length_le])) rfl ?_;refine uDh (xs:=[_,_]) rfl rfl rfl rfl rfl rfl rfl rfl rfl rfl gU rfl ?_;refine uAQ rfl rfl rfl rfl rfl rfl rfl gU gU (uF5 _ _ [t,tupT (u :: r)] (by simp [T.rows_eq,T.cells]) (by simp)) rfl ?_;refine uAT rfl rfl rfl rfl rfl rfl rfl rfl rfl rfl rfl rfl ?_;refine uA2 (by kernel_rfl) ?_;refine uAq ?_
   repeat(first|refine tR ?_|refine bR ?_)
   refine uAu rfl ?_ trivial
   rfl
theorem uKs (ts : List T) (rs : List (List C)) (h : rs=T.rows ts) (hts : ts.length≤3000000) (h0 : 0 < ts.length) : Ctr sys 165 [.v (.c (.sl 4 rs))] [] (xm (tupT ts)) none []:=by
 subst h; exact uM1 _ ts hts (Nat.le_refl _) h0
theorem uET (l : List Tk) (n : Nat) (hl : l.length≤2000000) (ih : ∀ p : PS,p.at'≤l.length→l.length - p.at' < n→Ctr sys 153 [xr l p] [] (.tup [.agg (uA4 l n p).1.cells, .agg (pbx l (uA4 l n p).2)]) none []) (hf : Fwd l (uA4 l n)) (p : PS) (hp : p.at'≤l.length) (hn : l.length - p.at' < n) :
  Ctr sys 155 [xr l p] [] (.tup [.c (.sl 4 (T.rows (uBb l (uA4 l n) p).1)), .agg (pbx l (uBb l (uA4 l n) p).2)]) none []:=by
 have hrl:=Tk.rows_len l
 have h0:=hf p
 refine uAA Tryz.func155 rfl rfl rfl rfl rfl rfl ?_;refine uAd (uAb ?_);refine uAs rfl (uAH rfl rfl rfl rfl) ?_;refine uAs rfl (uBe (.inr rfl) rfl rfl) ?_;refine uAs rfl (uAK rfl rfl rfl) ?_;refine uAf ?_;refine uAd (uAb ?_);refine uAa rfl rfl rfl (uAn rfl gU rfl rfl rfl rfl rfl) ?_;refine uAx rfl rfl rfl rfl rfl rfl gU gU (ih p hp hn) rfl ?_;refine uAa rfl rfl rfl (uAc rfl gU) ?_;refine uAa rfl rfl rfl (uAv rfl gU rfl) ?_;refine uAa rfl rfl rfl (uAv rfl gU rfl) ?_;refine uAs rfl (uAK rfl rfl rfl) ?_;refine uAs rfl (uAw rfl rfl rfl rfl rfl rfl rfl) ?_;refine uAs rfl (uAw rfl rfl rfl rfl rfl rfl rfl) ?_;refine uAf ?_;refine uAk (s:=⟨[(1,_,_),(3,_,_),(4,_,_)],[(.l 1,_),(.l 3,_),(.l 4,_)],[],[]⟩) (uAj (⟨sx rfl,sx rfl,sx rfl,trivial⟩) (⟨sx rfl,sx rfl,sx rfl,trivial⟩) trivial) ?_;refine uAd (uAb ?_);refine uAa rfl rfl rfl (uAn rfl gU rfl rfl rfl rfl rfl) ?_;refine uAR (xs:=[_]) rfl rfl rfl rfl rfl rfl rfl rfl rfl gU rfl ?_;refine uAs rfl (uAV (.inr rfl) rfl rfl rfl) ?_;refine uAf ?_;refine uAd ?_;refine uAt ?_;refine uAW (ι:=PS × List T × T) { t:=[(1,_,_),(3,_,_),(4,_,_)],bx:=[(.l 3,_)],ow:=[(.t 5,_)] } (fun q=>[(5,true,xl q.2.1)]) (fun q=>[((.l 4),q.2.2.cells),((.l 1),pbx l q.1)]) (fun q=>p.at'≤q.1.at'∧q.1.at'≤l.length∧q.2.1.length≤q.1.at' + 1 ∧ ∃ k,l.length + 1≤k + q.1.at'∧uBV l (uA4 l n) k q.1 q.2.1=uBb l (uA4 l n) p) (fun q=>l.length - q.1.at') (((uA4 l n p).2,[(uA4 l n p).1],(uA4 l n p).1)) (⟨h0.1,h0.2 hp,by simp,_,by dsimp only; omega,rfl⟩) (uAj (⟨⟨_,rfl,by exact tx (uFP [] (uA4 l n p).1)⟩,⟨sx rfl,sx rfl,sx rfl,trivial⟩⟩) (⟨sx rfl,sx rfl,sx rfl,trivial⟩) (⟨rfl,trivial⟩)) ?_
 intro q hok
 dsimp only [List.cons_append,List.nil_append] at *
 obtain ⟨q,out,x⟩:=q
 dsimp only at hok ⊢
 obtain ⟨hq0,hq,ho,k,hk,hi⟩:=hok
 have hro:=T.rows_len out
 refine uAd ?_;refine uAd (uAb ?_);refine uAa rfl rfl rfl (uAn rfl gU rfl rfl rfl rfl rfl) ?_;refine uAx rfl rfl rfl rfl rfl rfl gU gU (uCt _ _ _ (by omega) (by omega)) rfl ?_;refine uAf ?_;refine uAo rfl (fun hc=>?_) (fun hc=>?_)
 ·try simp only [nn,uAi,T.rows_len,Tk.rows_len] at hc
  have hlt:=(uCf hc).1
  have hs : uAS l [44] q=q.go:=by rw[uAS,if_pos hc]
  have hg : q.go.at'=q.at' + 1:=rfl
  have h1:=hf q.go
  obtain ⟨k,rfl⟩ : ∃ j,k=j + 1:=⟨k - 1,by omega⟩
  rw[uKS hc] at hi
  have hsy:=uAZ l q [44] (by omega) (by omega)
  rw[hs] at hsy
  refine uAp ?_;refine uAt ?_;refine uAd (uAb ?_);refine uAa rfl rfl rfl (uAn rfl gU rfl rfl rfl rfl rfl) ?_;refine uAx rfl rfl rfl rfl rfl rfl gU gU (hsy) rfl ?_;refine uAx rfl rfl rfl rfl rfl rfl gU gU (ih q.go (by omega) (by omega)) rfl ?_;refine uAa rfl rfl rfl (uAc rfl gU) ?_;refine uAa rfl rfl rfl (uAv rfl gU rfl) ?_;refine uAa rfl rfl rfl (uAv rfl gU rfl) ?_;refine uAs rfl (uAw rfl rfl rfl rfl rfl rfl rfl) ?_;refine uAs rfl (uAw rfl rfl rfl rfl rfl rfl rfl) ?_;refine uAf ?_;refine uAk (s:=⟨[(1,_,_),(3,_,_),(4,_,_),(5,_,_)],[(.l 1,_),(.l 3,_),(.l 4,_)],[(.t 5,_)],[]⟩) (uAj (⟨sx rfl,sx rfl,sx rfl,sx rfl,trivial⟩) (⟨sx rfl,sx rfl,sx rfl,trivial⟩) (⟨rfl,trivial⟩)) ?_;refine uAb ?_;refine uAs rfl (uAV (.inl rfl) rfl rfl rfl) ?_;refine uAa rfl rfl rfl (uAn rfl gU rfl rfl rfl rfl rfl) ?_;refine uAR (xs:=[_]) rfl rfl rfl rfl rfl rfl rfl rfl rfl gU rfl ?_;refine uAs rfl (uA0 rfl rfl rfl rfl rfl rfl rfl (by first|omega|(simp only [List.length_append,List.length_singleton,T.rows_len]; omega)) (by first|omega|(simp only [List.length_append,List.length_singleton,T.rows_len]; omega))) ?_;refine uAs rfl (uAV (.inr rfl) rfl rfl rfl) ?_;refine uAf ?_;refine ⟨((uA4 l n q.go).2,out++[(uA4 l n q.go).1],(uA4 l n q.go).1),?_,?_,uAj (⟨⟨_,rfl,?_⟩,⟨sx rfl,sx rfl,sx rfl,trivial⟩⟩) (⟨⟨_,rfl,?_⟩,⟨⟨_,rfl,?_⟩,⟨sx rfl,trivial⟩⟩⟩) (⟨rfl,trivial⟩)⟩
  ·exact ⟨by dsimp only; omega,h1.2 (by omega),by simp only [List.length_append,List.length_singleton]; omega,k,by dsimp only; omega,hi⟩
  ·dsimp only; omega
  all_goals first
   | rfl
   | exact tx (uFP out (uA4 l n q.go).1)
 ·try simp only [nn,uAi,T.rows_len,Tk.rows_len] at hc
  rw[uFz hc] at hi
  refine uAL ?_
  repeat(first|refine uAE ?_|refine uAF ?_|refine uAB rfl ?_)
  refine uAd ?_;refine awp_drawn' (by kernel_rfl) ?_;refine uCH rfl (.inl rfl) rfl rfl rfl rfl rfl ?_;refine uAG rfl rfl rfl rfl rfl rfl rfl gU rfl rfl rfl rfl rfl ?_;refine uCH rfl (.inr rfl) rfl rfl rfl rfl rfl ?_;refine uAT rfl rfl rfl rfl rfl rfl rfl rfl rfl rfl rfl rfl ?_;refine uA2 (by kernel_rfl) ?_;refine uAq ?_
  repeat(first|refine tR ?_|refine bR ?_)
  refine uAu rfl ?_ trivial
  (rw[← hi]; rfl)
theorem uC7 (l : List Tk) (n : Nat) : Fwd l (uA4 l n):=fun p=>by rw[(uFM l n p).1]; exact uEz l n p
theorem uIP (l : List Tk) (n : Nat) (p : PS) : (uBb l (uA4 l n) p).1.length + p.at'≤1 + (uBb l (uA4 l n) p).2.at':=uE7 (uC7 l n) p
theorem uN3 {l : List Tk} {n : Nat} {p : PS} (h : symQ l p [60]=true) (hb : (uAS l [62] (uBb l (uA4 l n) (uAS l [44] (uA4 l n p.go).2)).2).bad=true) : uA4 l (n + 1) p=(T0,uAS l [62] (uBb l (uA4 l n) (uAS l [44] (uA4 l n p.go).2)).2):=by
 rw[uA4,if_pos h,if_pos hb]
theorem uPe {l : List Tk} {n : Nat} {p : PS} (h : symQ l p [60]=true) (hb : (uAS l [62] (uBb l (uA4 l n) (uAS l [44] (uA4 l n p.go).2)).2).bad=false) :
  uA4 l (n + 1) p=(tupT ((uA4 l n p.go).1 :: (uBb l (uA4 l n) (uAS l [44] (uA4 l n p.go).2)).1),uAS l [62] (uBb l (uA4 l n) (uAS l [44] (uA4 l n p.go).2)).2):=by
 rw[uA4,if_pos h,if_neg (by rw[hb]; simp)]
theorem uPG {l : List Tk} {n : Nat} {p : PS} (h : symQ l p [60]=false) (h2 : symQ l (uAy l [] p).2 [40]=false) : uA4 l (n + 1) p=(⟨2,(uAy l [] p).1,0,[]⟩,(uAy l [] p).2):=by
 rw[uA4,if_neg (by rw[h]; simp),if_neg (by rw[h2]; simp)]
theorem uPH {l : List Tk} {n : Nat} {p : PS} (h : symQ l p [60]=false) (h2 : symQ l (uAy l [] p).2 [40]=true) (h3 : symQ l (uAy l [] p).2.go [41]=true) : uA4 l (n + 1) p=(⟨3,(uAy l [] p).1,0,[]⟩,(uAy l [] p).2.go.go):=by
 rw[uA4,if_neg (by rw[h]; simp),if_pos h2,if_pos h3]
theorem uPP {l : List Tk} {n : Nat} {p : PS} (h : symQ l p [60]=false) (h2 : symQ l (uAy l [] p).2 [40]=true) (h3 : symQ l (uAy l [] p).2.go [41]=false) :
  uA4 l (n + 1) p=(⟨3,(uAy l [] p).1,0,(uBb l (uA4 l n) (uAy l [] p).2.go).1⟩,uAS l [41] (uBb l (uA4 l n) (uAy l [] p).2.go).2):=by
 rw[uA4,if_neg (by rw[h]; simp),if_pos h2,if_neg (by rw[h3]; simp)]
set_option maxHeartbeats 4000000 in
theorem uDU (l : List Tk) (hl : l.length≤2000000) : ∀ (n : Nat) (p : PS),p.at'≤l.length→l.length - p.at' < n→Ctr sys 153 [xr l p] [] (.tup [.agg (uA4 l n p).1.cells, .agg (pbx l (uA4 l n p).2)]) none []:=by
 intro n
 induction n with
 | zero=>intro p _ h; omega
 | succ n ih =>
  intro p hp hn
  have hrl:=Tk.rows_len l
  have hg : ∀ q : PS,q.go.at'=q.at' + 1:=fun _=>rfl
  have hml : ∀ q : PS,(T.rows (uBb l (uA4 l n) q).1).length=(uBb l (uA4 l n) q).1.length:=fun q=>T.rows_len _
  refine uAA Tryz.func153 rfl rfl rfl rfl rfl rfl ?_;refine uAd (uAb ?_);refine uAs rfl (uAH rfl rfl rfl rfl) ?_;refine uAs rfl (uAK rfl rfl rfl) ?_;refine uAs rfl (uAK rfl rfl rfl) ?_;refine uAf ?_;refine uAd ?_;refine uAd (uAb ?_);refine uAa rfl rfl rfl (uAn rfl gU rfl rfl rfl rfl rfl) ?_;refine uAx rfl rfl rfl rfl rfl rfl gU gU (uCt _ _ _ (by omega) (by omega)) rfl ?_;refine uAf ?_;refine uAk (s:=⟨[(1,_,_),(2,_,_),(3,_,_),(10,_,_)],[(.l 1,_),(.l 2,_),(.l 3,_)],[],[]⟩) (uAj (⟨sx rfl,sx rfl,sx rfl,sx rfl,trivial⟩) (⟨sx rfl,sx rfl,sx rfl,trivial⟩) trivial) ?_;refine uAo rfl (fun hc=>?_) (fun hc=>?_)
  ·try simp only [nn,uAi,T.rows_len,Tk.rows_len] at hc
   have hlt:=(uCf hc).1
   have hs : uAS l [60] p=p.go:=by rw[uAS,if_pos hc]
   have hgp:=hg p
   have a1:=uC7 l n p.go
   have a2:=uBy l [44] (uA4 l n p.go).2
   have a3:=uCR (uC7 l n) (uAS l [44] (uA4 l n p.go).2)
   have a4:=uBy l [62] (uBb l (uA4 l n) (uAS l [44] (uA4 l n p.go).2)).2
   have a5:=uIP l n (uAS l [44] (uA4 l n p.go).2)
   have a6:=hml (uAS l [44] (uA4 l n p.go).2)
   have hsy:=uAZ l p [60] (by omega) (by omega)
   rw[hs] at hsy
   refine uAd (uAb ?_);refine uAa rfl rfl rfl (uAn rfl gU rfl rfl rfl rfl rfl) ?_;refine uAx rfl rfl rfl rfl rfl rfl gU gU (hsy) rfl ?_;refine uAx rfl rfl rfl rfl rfl rfl gU gU (ih p.go (by omega) (by omega)) rfl ?_;refine uAa rfl rfl rfl (uAc rfl gU) ?_;refine uAa rfl rfl rfl (uAv rfl gU rfl) ?_;refine uAa rfl rfl rfl (uAv rfl gU rfl) ?_;refine uAs rfl (uAK rfl rfl rfl) ?_;refine uAs rfl (uAK rfl rfl rfl) ?_;refine uAs rfl (uAw rfl rfl rfl rfl rfl rfl rfl) ?_;refine uAs rfl (uAw rfl rfl rfl rfl rfl rfl rfl) ?_;refine uAf ?_;refine uAk (s:=⟨[(2,_,_),(3,_,_),(4,_,_),(5,_,_)],[(.l 2,_),(.l 3,_),(.l 4,_),(.l 5,_)],[],[]⟩) (uAj (⟨sx rfl,sx rfl,sx rfl,sx rfl,trivial⟩) (⟨sx rfl,sx rfl,sx rfl,sx rfl,trivial⟩) trivial) ?_;refine uAd (uAb ?_);refine uAa rfl rfl rfl (uAn rfl gU rfl rfl rfl rfl rfl) ?_;refine uAx rfl rfl rfl rfl rfl rfl gU gU (uAZ l (uA4 l n p.go).2 [44] (by omega) (by omega)) rfl ?_;refine uAx rfl rfl rfl rfl rfl rfl gU gU (uET l n hl ih (uC7 l n) (uAS l [44] (uA4 l n p.go).2) (by omega) (by omega)) rfl ?_;refine uAa rfl rfl rfl (uAc rfl gU) ?_;refine uAa rfl rfl rfl (uAv rfl gU rfl) ?_;refine uAa rfl rfl rfl (uAv rfl gU rfl) ?_;refine uAa rfl rfl rfl (uAe rfl gU) ?_;refine uAs rfl (uAw rfl rfl rfl rfl rfl rfl rfl) ?_
   refine uAf ?_;refine uAk (s:=⟨[(2,_,_),(3,_,_),(4,_,_),(5,_,_),(6,_,_)],[(.l 2,_),(.l 3,_),(.l 4,_),(.l 5,_)],[],[]⟩) (uAj (⟨sx rfl,sx rfl,sx rfl,sx rfl,sx rfl,trivial⟩) (⟨sx rfl,sx rfl,sx rfl,sx rfl,trivial⟩) trivial) ?_;refine uAd (uAb ?_);refine uAa rfl rfl rfl (uAn rfl gU rfl rfl rfl rfl rfl) ?_;refine uAx rfl rfl rfl rfl rfl rfl gU gU (uAZ l (uBb l (uA4 l n) (uAS l [44] (uA4 l n p.go).2)).2 [62] (by omega) (by omega)) rfl ?_;refine uAs rfl (uAw rfl rfl rfl rfl rfl rfl rfl) ?_;refine uAf ?_;refine uAd ?_;refine uAd (uAb ?_);refine uAa rfl rfl rfl (uAg rfl gU rfl rfl) ?_;refine uAa rfl rfl rfl (uAh rfl gU rfl rfl rfl rfl) ?_;refine uAf ?_;refine uAo rfl (fun hc2=>?_) (fun hc2=>?_)
   ·try simp only [nn,uAi,T.rows_len,Tk.rows_len] at hc2
    rw[uN3 hc hc2]
    refine uAd ?_;refine awp_drawn' (by kernel_rfl) ?_;refine uAl rfl rfl rfl rfl (uBg rfl Tryz.underlying47 rfl gU) ?_;refine uAG rfl rfl rfl rfl rfl rfl rfl gU rfl rfl rfl rfl rfl ?_;refine uAT rfl rfl rfl rfl rfl rfl rfl rfl rfl rfl rfl rfl ?_;refine uAT rfl rfl rfl rfl rfl rfl rfl rfl rfl rfl rfl rfl ?_;refine uA2 (by kernel_rfl) ?_;refine uAq ?_
    repeat(first|refine tR ?_|refine bR ?_)
    refine uAu rfl ?_ trivial
    rfl
   ·try simp only [nn,uAi,T.rows_len,Tk.rows_len] at hc2
    rw[uPe hc hc2]
    refine uAp ?_;refine uAd ?_;refine awp_drawn' (by kernel_rfl) ?_;refine uAG rfl rfl rfl rfl rfl rfl rfl gU rfl rfl rfl rfl rfl ?_;refine uDh (xs:=[_]) rfl rfl rfl rfl rfl rfl rfl rfl rfl rfl gU rfl ?_;refine uAl rfl rfl rfl rfl (uAc rfl gU) ?_;refine uDx rfl rfl rfl rfl rfl rfl rfl rfl rfl rfl rfl (by first|omega|(simp only [List.length_append,List.length_singleton,T.rows_len]; omega)) (by first|omega|(simp only [List.length_append,List.length_singleton,T.rows_len]; omega)) ?_;refine uAQ rfl rfl rfl rfl rfl rfl rfl gU gU (uKs ((uA4 l n p.go).1 :: (uBb l (uA4 l n) (uAS l [44] (uA4 l n p.go).2)).1) _ (by rw[T.rows_eq,T.rows_eq]; rfl) (by simp only [List.length_cons]; omega) (by simp)) rfl ?_;refine uAG rfl rfl rfl rfl rfl rfl rfl gU rfl rfl rfl rfl rfl ?_;refine uAT rfl rfl rfl rfl rfl rfl rfl rfl rfl rfl rfl rfl ?_;refine uAT rfl rfl rfl rfl rfl rfl rfl rfl rfl rfl rfl rfl ?_;refine uA2 (by kernel_rfl) ?_;refine uAq ?_
    repeat(first|refine tR ?_|refine bR ?_)
    refine uAu rfl ?_ trivial
    rfl
  ·try simp only [nn,uAi,T.rows_len,Tk.rows_len] at hc
   have a1:=uA9 l [] p
   refine uAp ?_;refine uAd (uAb ?_);refine uAa rfl rfl rfl (uAn rfl gU rfl rfl rfl rfl rfl) ?_;refine uAx rfl rfl rfl rfl rfl rfl gU gU (uBE l p (by omega) (by omega)) rfl ?_;refine uAa rfl rfl rfl (uAc rfl gU) ?_;refine uAa rfl rfl rfl (uAv rfl gU rfl) ?_;refine uAa rfl rfl rfl (uAv rfl gU rfl) ?_;refine uAa rfl rfl rfl (uAe rfl gU) ?_;refine uAs rfl (uAw rfl rfl rfl rfl rfl rfl rfl) ?_;refine uAf ?_;refine uAk (s:=⟨[(1,_,_),(2,_,_),(3,_,_),(7,_,_)],[(.l 1,_),(.l 2,_),(.l 3,_)],[],[]⟩) (uAj (⟨sx rfl,sx rfl,sx rfl,sx rfl,trivial⟩) (⟨sx rfl,sx rfl,sx rfl,trivial⟩) trivial) ?_;refine uAd ?_;refine uAd (uAb ?_);refine uAa rfl rfl rfl (uAg rfl gU rfl rfl) ?_;refine uAa rfl rfl rfl (uAh rfl gU rfl rfl rfl rfl) ?_;refine uAa rfl rfl rfl (uAc rfl gU) ?_;refine uAa rfl rfl rfl (uAn rfl gU rfl rfl rfl rfl rfl) ?_;refine uAx rfl rfl rfl rfl rfl rfl gU (fun hh=>gA ((fun hh=>hh) hh) (gA rfl (rfl))) (uCt _ _ _ (by omega) (by omega)) rfl ?_;refine uAa rfl rfl rfl (uA1 rfl (fun hh=>hh)) ?_;refine uAa rfl rfl rfl (uAO rfl rfl gU (fun _ hi=>gP rfl hi)) ?_;refine uAf ?_;refine uAk (s:=⟨[(1,_,_),(2,_,_),(3,_,_),(7,_,_),(46,_,_)],[(.l 1,_),(.l 2,_),(.l 3,_)],[],[]⟩) (uAj (⟨sx rfl,sx rfl,sx rfl,sx rfl,sx rfl,trivial⟩) (⟨sx rfl,sx rfl,sx rfl,trivial⟩) trivial) ?_
   refine uAo rfl (fun hc2=>?_) (fun hc2=>?_)
   ·try simp only [nn,uAi,T.rows_len,Tk.rows_len] at hc2
    have h2 : symQ l (uAy l [] p).2 [40]=false:=by
     rcases hc2 with q | q
     ·exact uCM q
     ·exact q
    rw[uPG hc h2]
    refine uAd ?_;refine awp_drawn' (by kernel_rfl) ?_;refine uAl rfl rfl rfl rfl (uAc rfl gU) ?_;refine uAQ rfl rfl rfl rfl rfl rfl rfl gU gU (uNi _ _) rfl ?_;refine uAG rfl rfl rfl rfl rfl rfl rfl gU rfl rfl rfl rfl rfl ?_;refine uAT rfl rfl rfl rfl rfl rfl rfl rfl rfl rfl rfl rfl ?_;refine uAT rfl rfl rfl rfl rfl rfl rfl rfl rfl rfl rfl rfl ?_;refine uA2 (by kernel_rfl) ?_;refine uAq ?_
    repeat(first|refine tR ?_|refine bR ?_)
    refine uAu rfl ?_ trivial
    rfl
   ·try simp only [nn,uAi,T.rows_len,Tk.rows_len] at hc2
    have h2:=hc2.2
    have hlt:=(uCf h2).1
    have hg2:=hg (uAy l [] p).2
    have hs2 : uAS l [40] (uAy l [] p).2=(uAy l [] p).2.go:=by rw[uAS,if_pos h2]
    have hsy:=uAZ l (uAy l [] p).2 [40] (by omega) (by omega)
    rw[hs2] at hsy
    refine uAp ?_;refine uAd (uAb ?_);refine uAa rfl rfl rfl (uAn rfl gU rfl rfl rfl rfl rfl) ?_;refine uAx rfl rfl rfl rfl rfl rfl gU gU (hsy) rfl ?_;refine uAs rfl (uAw rfl rfl rfl rfl rfl rfl rfl) ?_;refine uAf ?_;refine uAd ?_;refine uAd (uAb ?_);refine uAa rfl rfl rfl (uAn rfl gU rfl rfl rfl rfl rfl) ?_;refine uAx rfl rfl rfl rfl rfl rfl gU gU (uCt _ _ _ (by omega) (by omega)) rfl ?_;refine uAf ?_;refine uAo rfl (fun hc3=>?_) (fun hc3=>?_)
    ·try simp only [nn,uAi,T.rows_len,Tk.rows_len] at hc3
     have hlt3:=(uCf hc3).1
     rw[uPH hc h2 hc3]
     have hs3 : uAS l [41] (uAy l [] p).2.go=(uAy l [] p).2.go.go:=by rw[uAS,if_pos hc3]
     have hsy3:=uAZ l (uAy l [] p).2.go [41] (by omega) (by omega)
     rw[hs3] at hsy3
     refine uAd ?_;refine awp_drawn' (by kernel_rfl) ?_;refine uAl rfl rfl rfl rfl (uAc rfl gU) ?_;refine uAQ rfl rfl rfl rfl rfl rfl rfl gU gU (uF5 _ _ [] rfl (by simp)) rfl ?_;refine uAG rfl rfl rfl rfl rfl rfl rfl gU rfl rfl rfl rfl rfl ?_;refine uAQ rfl rfl rfl rfl rfl rfl rfl gU gU (hsy3) rfl ?_;refine uAT rfl rfl rfl rfl rfl rfl rfl rfl rfl rfl rfl rfl ?_;refine uAT rfl rfl rfl rfl rfl rfl rfl rfl rfl rfl rfl rfl ?_;refine uA2 (by kernel_rfl) ?_;refine uAq ?_
     repeat(first|refine tR ?_|refine bR ?_)
     refine uAu rfl ?_ trivial
     rfl
    ·try simp only [nn,uAi,T.rows_len,Tk.rows_len] at hc3
     rw[uPP hc h2 hc3]
     have a3:=uCR (uC7 l n) (uAy l [] p).2.go
     have a5:=uIP l n (uAy l [] p).2.go
     refine uAp ?_;refine uAd (uAb ?_);refine uAa rfl rfl rfl (uAn rfl gU rfl rfl rfl rfl rfl) ?_;refine uAx rfl rfl rfl rfl rfl rfl gU gU (uET l n hl ih (uC7 l n) (uAy l [] p).2.go (by omega) (by omega)) rfl ?_;refine uAa rfl rfl rfl (uAc rfl gU) ?_;refine uAa rfl rfl rfl (uAv rfl gU rfl) ?_;refine uAa rfl rfl rfl (uAv rfl gU rfl) ?_;refine uAa rfl rfl rfl (uAe rfl gU) ?_;refine uAs rfl (uAw rfl rfl rfl rfl rfl rfl rfl) ?_;refine uAf ?_;refine uAk (s:=⟨[(1,_,_),(2,_,_),(3,_,_),(7,_,_),(8,_,_)],[(.l 1,_),(.l 2,_),(.l 3,_)],[],[]⟩) (uAj (⟨sx rfl,sx rfl,sx rfl,sx rfl,sx rfl,trivial⟩) (⟨sx rfl,sx rfl,sx rfl,trivial⟩) trivial) ?_;refine uAd ?_;refine awp_drawn' (by kernel_rfl) ?_;refine uAl rfl rfl rfl rfl (uAc rfl gU) ?_;refine uAl rfl rfl rfl rfl (uAc rfl gU) ?_;refine uAQ rfl rfl rfl rfl rfl rfl rfl gU gU (uF5 _ _ (uBb l (uA4 l n) (uAy l [] p).2.go).1 rfl (by omega)) rfl ?_;refine uAG rfl rfl rfl rfl rfl rfl rfl gU rfl rfl rfl rfl rfl ?_;refine uAQ rfl rfl rfl rfl rfl rfl rfl gU gU (uAZ l (uBb l (uA4 l n) (uAy l [] p).2.go).2 [41] (by omega) (by omega)) rfl ?_;refine uAT rfl rfl rfl rfl rfl rfl rfl rfl rfl rfl rfl rfl ?_;refine uAT rfl rfl rfl rfl rfl rfl rfl rfl rfl rfl rfl rfl ?_;refine uA2 (by kernel_rfl) ?_;refine uAq ?_
     repeat(first|refine tR ?_|refine bR ?_)
     refine uAu rfl ?_ trivial
     rfl
def soC (n : Nar) (u1 u2 u3 u4 u5 : Value) : List C:=[.s n.name, .so u1 1 (strR n.roles), .so u2 3 (Fs.rows n.fresh), .so u3 1 (strR n.tags), .so u4 7 (Sp.rows n.steps), .so u5 5 (Gl.rows n.goals)]
abbrev narC (a : List UInt8) (r1 r2 r3 r4 r5 : List (List C)) : List C:=[.s a, .sl 1 r1, .sl 3 r2, .sl 1 r3, .sl 7 r4, .sl 5 r5]
abbrev uNX (a : List UInt8) (r1 r2 r3 r4 r5 : List (List C)) (u1 u2 u3 u4 u5 : Value) : List C:=[.s a, .so u1 1 r1, .so u2 3 r2, .so u3 1 r3, .so u4 7 r4, .so u5 5 r5]
theorem uPO {st st' : St} {n : Nm} {cs : List C} (hb : st'.box n=some cs) (hbx : ∀ m,m≠n→st'.box m=st.box m) (ht : st'.t=st.t) (ho : st'.ow=st.ow) (hm : st'.mp=st.mp) : Sub { st with bx:=(n,cs) :: st.bx } st' where
 t:=fun k e h=>by
  show getT st'.t k=some e
  rw[ht]; exact h
 bx:=fun m ds h=>by
  have h2 : getB ((n,cs) :: st.bx) m=some ds:=h
  rw[uA6] at h2
  split at h2
  ·rename_i he; subst he; rw[hb]; exact h2
  ·rename_i he; rw[hbx m fun q=>he q.symm]; exact h2
 ow:=fun p sz h=>by
  show getO st'.ow p=some sz
  rw[ho]; exact h
 mp:=.inr hm.symm
theorem uC2 (st : St) (n : Nm) (cs : List C) (m : Nm) : ({ st with bx:=(n,cs) :: st.bx } : St).box m=if n=m then some cs else st.box m:=uA6 _ _ _ _
theorem uBh {N : Nat} {c : Code} {Q : Exit→St→Prop} {st : St} (n : Nm) {a : List UInt8} {r1 r2 r3 r4 r5 : List (List C)} (hb : st.box n=some (narC a r1 r2 r3 r4 r5))
  (h : ∀ u1 u2 u3 u4 u5,AWP sysO N c Q { st with bx:=(n,uNX a r1 r2 r3 r4 r5 u1 u2 u3 u4 u5) :: st.bx }) : AWP sysO N c Q st:=by
 refine uEx n 1 hb rfl fun u1=>?_
 refine uEx n 2 ((uC2 _ _ _ _).trans (if_pos rfl)) rfl fun u2=>?_
 refine uEx n 3 ((uC2 _ _ _ _).trans (if_pos rfl)) rfl fun u3=>?_
 refine uEx n 4 ((uC2 _ _ _ _).trans (if_pos rfl)) rfl fun u4=>?_
 refine uEx n 5 ((uC2 _ _ _ _).trans (if_pos rfl)) rfl fun u5=>?_
 have hn : ∀ {m : Nm},m≠n → ¬n=m:=fun h q=>h q.symm
 exact uAk (uPO ((uC2 _ _ _ _).trans (if_pos rfl)) (fun m hm=>(uC2 _ _ _ _).trans ((if_neg (hn hm)).trans ((uC2 _ _ _ _).trans ((if_neg (hn hm)).trans ((uC2 _ _ _ _).trans ((if_neg (hn hm)).trans ((uC2 _ _ _ _).trans ((if_neg (hn hm)).trans ((uC2 _ _ _ _).trans (if_neg (hn hm)))))))))) ) rfl rfl rfl) (h u1 u2 u3 u4 u5)
theorem uO0 (st : St) (n m : Nm) (k sz : Nat) (cs : List C) (x : Nm) : ((({ st with bx:=(n,cs) :: st.bx } : St).unown (.b m k)).addOwn (.b n k) sz).box x=if n=x then some cs else st.box x:=uA6 _ _ _ _
theorem uOh (st : St) (n m : Nm) (k sz : Nat) (cs : List C) (p : Pl) : ((({ st with bx:=(n,cs) :: st.bx } : St).unown (.b m k)).addOwn (.b n k) sz).own p=if .b n k=p then some sz else if p = .b m k then none else st.own p:=by
 rw[St.addOwn_own,St.unown_own]; rfl
def uNS (st : St) (m : Nm) : Bool:=decide (st.own (.b m 1)=some 1) && decide (st.own (.b m 2)=some 3) && decide (st.own (.b m 3)=some 1) && decide (st.own (.b m 4)=some 7) && decide (st.own (.b m 5)=some 5)
theorem uBn {N : Nat} {c : Code} {Q : Exit→St→Prop} {st : St} (n m : Nm) {a : List UInt8} {r1 r2 r3 r4 r5 : List (List C)} {u1 u2 u3 u4 u5 : Value} (hb : st.box n=some (uNX a r1 r2 r3 r4 r5 u1 u2 u3 u4 u5)) (hbm : st.box m=some (uNX a r1 r2 r3 r4 r5 u1 u2 u3 u4 u5))
  (ho : uNS st m=true) (hnb : n.isBd=false) (hne : Nm.beq m n=false)
  (h : AWP sysO N c Q { st with bx:=(n,narC a r1 r2 r3 r4 r5) :: st.bx,ow:=(.b n 1,1) :: (.b n 2,3) :: (.b n 3,1) :: (.b n 4,7) :: (.b n 5,5) :: st.ow.filter fun q=>!Pl.inBox m q.1 }) : AWP sysO N c Q st:=by
 have hmn : ¬n=m:=fun q=>by subst q; rw[Nm.beq_self] at hne; cases hne
 simp only [uNS,Bool.and_eq_true,decide_eq_true_eq] at ho
 obtain ⟨⟨⟨⟨o1,o2⟩,o3⟩,o4⟩,o5⟩:=ho
 have hpb : ∀ i j,Pl.beq (.b m i) (.b n j)=false:=fun i j=>by simp [Pl.beq,hne]
 have bn : ∀ (s : St) (k sz : Nat) (cs : List C),((({ s with bx:=(n,cs) :: s.bx } : St).unown (.b m k)).addOwn (.b n k) sz).box n=some cs:=fun s k sz cs=>(uO0 s n m k sz cs n).trans (if_pos rfl)
 have bm : ∀ (s : St) (k sz : Nat) (cs : List C) {x : Nm},¬n=x→((({ s with bx:=(n,cs) :: s.bx } : St).unown (.b m k)).addOwn (.b n k) sz).box x=s.box x:=fun s k sz cs x hx=>(uO0 s n m k sz cs x).trans (if_neg hx)
 have ow : ∀ (s : St) (k sz : Nat) (cs : List C) {p : Pl},¬Pl.b n k=p → ¬p=Pl.b m k→((({ s with bx:=(n,cs) :: s.bx } : St).unown (.b m k)).addOwn (.b n k) sz).own p=s.own p:=fun s k sz cs p h1 h2=>(uOh s n m k sz cs p).trans ((if_neg h1).trans (if_neg h2))
 have os : ∀ (s : St) (k sz : Nat) (cs : List C),((({ s with bx:=(n,cs) :: s.bx } : St).unown (.b m k)).addOwn (.b n k) sz).own (.b n k)=some sz:=fun s k sz cs=>(uOh s n m k sz cs _).trans (if_pos rfl)
 have dn : ∀ {i j : Nat} {x y : Nm},i≠j → ¬Pl.b x i=Pl.b y j:=fun h q=>by simp at q; exact h q.2
 have hnm : ∀ {i j : Nat},¬Pl.b n i=Pl.b m j:=fun q=>by simp at q; exact hmn q.1
 refine uED n 1 m 1 hb rfl hbm rfl o1 hnb (hpb _ _) ?_;refine uED n 2 m 2 (bn _ _ _ _) rfl ((bm _ _ _ _ hmn).trans hbm) rfl ((ow _ _ _ _ (dn (by decide)) (dn (by decide))).trans o2) hnb (hpb _ _) ?_;refine uED n 3 m 3 (bn _ _ _ _) rfl ((bm _ _ _ _ hmn).trans ((bm _ _ _ _ hmn).trans hbm)) rfl ((ow _ _ _ _ (dn (by decide)) (dn (by decide))).trans ((ow _ _ _ _ (dn (by decide)) (dn (by decide))).trans o3)) hnb (hpb _ _) ?_;refine uED n 4 m 4 (bn _ _ _ _) rfl ((bm _ _ _ _ hmn).trans ((bm _ _ _ _ hmn).trans ((bm _ _ _ _ hmn).trans hbm))) rfl
  ((ow _ _ _ _ (dn (by decide)) (dn (by decide))).trans ((ow _ _ _ _ (dn (by decide)) (dn (by decide))).trans ((ow _ _ _ _ (dn (by decide)) (dn (by decide))).trans o4))) hnb (hpb _ _) ?_
 refine uED n 5 m 5 (bn _ _ _ _) rfl ((bm _ _ _ _ hmn).trans ((bm _ _ _ _ hmn).trans ((bm _ _ _ _ hmn).trans ((bm _ _ _ _ hmn).trans hbm)))) rfl
  ((ow _ _ _ _ (dn (by decide)) (dn (by decide))).trans ((ow _ _ _ _ (dn (by decide)) (dn (by decide))).trans ((ow _ _ _ _ (dn (by decide)) (dn (by decide))).trans ((ow _ _ _ _ (dn (by decide)) (dn (by decide))).trans o5)))) hnb (hpb _ _) ?_
 refine uAk ?_ h;refine ⟨fun k e q=>q,fun x cs q=>?_,fun p sz q=>?_, .inr rfl⟩
 ·have q2 : getB ((n,narC a r1 r2 r3 r4 r5) :: st.bx) x=some cs:=q
  clear q
  rw[uA6] at q2
  split at q2
  ·rename_i he; subst he; exact (bn _ _ _ _).trans q2
  ·rename_i he
   have q:=q2
   exact (bm _ _ _ _ he).trans ((bm _ _ _ _ he).trans ((bm _ _ _ _ he).trans ((bm _ _ _ _ he).trans ((bm _ _ _ _ he).trans q))))
 ·have q3 : getO ((Pl.b n 1,1) :: (.b n 2,3) :: (.b n 3,1) :: (.b n 4,7) :: (.b n 5,5) :: st.ow.filter fun q=>!Pl.inBox m q.1) p=some sz:=q
  clear q
  have q:=q3
  clear q3
  simp only [uBX] at q
  split at q
  ·rename_i he; subst he
   exact (ow _ _ _ _ (dn (by decide)) hnm).trans ((ow _ _ _ _ (dn (by decide)) hnm).trans ((ow _ _ _ _ (dn (by decide)) hnm).trans ((ow _ _ _ _ (dn (by decide)) hnm).trans ((os _ _ _ _).trans q))))
  rename_i p1
  split at q
  ·rename_i he; subst he
   exact (ow _ _ _ _ (dn (by decide)) hnm).trans ((ow _ _ _ _ (dn (by decide)) hnm).trans ((ow _ _ _ _ (dn (by decide)) hnm).trans ((os _ _ _ _).trans q)))
  rename_i p2
  split at q
  ·rename_i he; subst he
   exact (ow _ _ _ _ (dn (by decide)) hnm).trans ((ow _ _ _ _ (dn (by decide)) hnm).trans ((os _ _ _ _).trans q))
  rename_i p3
  split at q
  ·rename_i he; subst he
   exact (ow _ _ _ _ (dn (by decide)) hnm).trans ((os _ _ _ _).trans q)
  rename_i p4
  split at q
  ·rename_i he; subst he
   exact (os _ _ _ _).trans q
  rename_i p5
  rw[uBU (fun r=>!Pl.inBox m r)] at q
  split at q
  ·rename_i hin
   have hpm : ∀ {j : Nat},¬p=Pl.b m j:=fun e=>by subst e; simp [Pl.inBox,Nm.beq_self] at hin
   exact (ow _ _ _ _ p5 hpm).trans ((ow _ _ _ _ p4 hpm).trans ((ow _ _ _ _ p3 hpm).trans ((ow _ _ _ _ p2 hpm).trans ((ow _ _ _ _ p1 hpm).trans q))))
  ·cases q
def osR : OS:=[(0,1,1),(0,2,3),(0,3,1),(0,4,7),(0,5,5)]
abbrev xnr (l : List Tk) (r : Nar × PS) : X:=.tup [.agg r.1.cells, .agg (pbx l r.2)]
set_option maxHeartbeats 4000000 in
theorem uFb (l : List Tk) (p : PS) (n : Nar) (line : Int) (u1 u2 u3 u4 u5 : Value) (hl : l.length≤2000000) (hp : p.at'≤l.length) (hn : n.steps.length≤3000000) :
  CtrO sysO 134 [.v (.agg (soC n u1 u2 u3 u4 u5)),xr l p,xi line] [soC n u1 u2 u3 u4 u5] osR (xnr l ({ n with steps:=n.steps++[(uEK l line p).1] },(uEK l line p).2)) [soC n u1 u2 u3 u4 u5] .res:=by
 have hrs:=Sp.rows_len n.steps
 have hrl:=Tk.rows_len l
 refine uBM Tryz.func134 rfl rfl rfl rfl rfl rfl rfl ?_;refine uAd (uAb ?_);refine uAs rfl (uAH rfl rfl rfl rfl) ?_;refine uAs rfl (uAH rfl rfl rfl rfl) ?_;refine uAs rfl (uAK rfl rfl rfl) ?_;refine uAs rfl (uAK rfl rfl rfl) ?_;refine uAf ?_;refine uAk (s:=⟨[(2,_,_),(3,_,_),(4,_,_),(6,_,_),(7,_,_)],[(.l 3,_),(.l 4,_),(.l 6,_),(.l 7,_),(.o 0,_)],[(.b (.o 0) 1,_),(.b (.o 0) 2,_),(.b (.o 0) 3,_),(.b (.o 0) 4,_),(.b (.o 0) 5,_)],[]⟩) (uAj (⟨sx rfl,sx rfl,sx rfl,sx rfl,sx rfl,trivial⟩) (⟨sx rfl,sx rfl,sx rfl,sx rfl,sx rfl,trivial⟩) (⟨rfl,rfl,rfl,rfl,rfl,trivial⟩)) ?_;refine uBn (.l 3) (.o 0) rfl rfl rfl rfl rfl ?_;refine uAk (s:=⟨[(2,_,_),(3,_,_),(4,_,_),(6,_,_),(7,_,_)],[(.l 3,_),(.l 4,_),(.l 6,_),(.l 7,_),(.o 0,_)],[(.b (.l 3) 1,_),(.b (.l 3) 2,_),(.b (.l 3) 3,_),(.b (.l 3) 4,_),(.b (.l 3) 5,_)],[]⟩) (uAj (⟨sx rfl,sx rfl,sx rfl,sx rfl,sx rfl,trivial⟩) (⟨sx rfl,sx rfl,sx rfl,sx rfl,sx rfl,trivial⟩) (⟨rfl,rfl,rfl,rfl,rfl,trivial⟩)) ?_;refine uAd (uAb ?_);refine uAa rfl rfl rfl (uAc rfl gU) ?_;refine uAa rfl rfl rfl (uBg rfl Tryz.underlying49 rfl gU) ?_;refine uAs rfl (uAK rfl rfl rfl) ?_;refine uAs rfl (uAw rfl rfl rfl rfl rfl rfl rfl) ?_;refine uAf ?_
 refine uAd (uAb ?_);refine uAa rfl rfl rfl (uAn rfl gU rfl rfl rfl rfl rfl) ?_;refine uAx rfl rfl rfl rfl rfl rfl gU gU (up (uBE l _ (by omega) (le3 hl (by repeat(first|exact hp|refine uB9 ?_|refine uBJ ?_))))) rfl ?_;refine uAa rfl rfl rfl (uAc rfl gU) ?_;refine uAa rfl rfl rfl (uAv rfl gU rfl) ?_;refine uAa rfl rfl rfl (uAv rfl gU rfl) ?_;refine uAa rfl rfl rfl (uAg rfl gU rfl rfl) ?_;refine uAs rfl (uAw rfl rfl rfl rfl rfl rfl rfl) ?_;refine uAs rfl (uAw rfl rfl rfl rfl rfl rfl rfl) ?_;refine uAf ?_;refine uAk (s:=⟨[(3,_,_),(4,_,_),(6,_,_),(7,_,_),(8,_,_)],[(.l 3,_),(.l 4,_),(.l 6,_),(.l 7,_),(.l 8,_),(.o 0,_)],[(.b (.l 3) 1,_),(.b (.l 3) 2,_),(.b (.l 3) 3,_),(.b (.l 3) 4,_),(.b (.l 3) 5,_)],[]⟩) (uAj (⟨sx rfl,sx rfl,sx rfl,sx rfl,sx rfl,trivial⟩) (⟨sx rfl,sx rfl,sx rfl,sx rfl,sx rfl,sx rfl,trivial⟩) (⟨rfl,rfl,rfl,rfl,rfl,trivial⟩)) ?_;refine uAd (uAb ?_);refine uAa rfl rfl rfl (uAn rfl gU rfl rfl rfl rfl rfl) ?_;refine uAx rfl rfl rfl rfl rfl rfl gU gU (up (uAZ l _ _ (by omega) (le3 hl (by repeat(first|exact hp|refine uB9 ?_|refine uBJ ?_))))) rfl ?_;refine uAx rfl rfl rfl rfl rfl rfl gU gU (up (uAZ l _ _ (by omega) (le3 hl (by repeat(first|exact hp|refine uB9 ?_|refine uBJ ?_))))) rfl ?_
 refine uAs rfl (uAw rfl rfl rfl rfl rfl rfl rfl) ?_;refine uAf ?_;refine uAd (uAb ?_);refine uAa rfl rfl rfl (uAn rfl gU rfl rfl rfl rfl rfl) ?_;refine uAx rfl rfl rfl rfl rfl rfl gU gU (up (uBE l _ (by omega) (le3 hl (by repeat(first|exact hp|refine uB9 ?_|refine uBJ ?_))))) rfl ?_;refine uAa rfl rfl rfl (uAc rfl gU) ?_;refine uAa rfl rfl rfl (uAv rfl gU rfl) ?_;refine uAa rfl rfl rfl (uAv rfl gU rfl) ?_;refine uAa rfl rfl rfl (uAg rfl gU rfl rfl) ?_;refine uAs rfl (uAw rfl rfl rfl rfl rfl rfl rfl) ?_;refine uAs rfl (uAw rfl rfl rfl rfl rfl rfl rfl) ?_;refine uAf ?_;refine uAk (s:=⟨[(3,_,_),(4,_,_),(6,_,_),(7,_,_),(8,_,_)],[(.l 3,_),(.l 4,_),(.l 6,_),(.l 7,_),(.l 8,_),(.o 0,_)],[(.b (.l 3) 1,_),(.b (.l 3) 2,_),(.b (.l 3) 3,_),(.b (.l 3) 4,_),(.b (.l 3) 5,_)],[]⟩) (uAj (⟨sx rfl,sx rfl,sx rfl,sx rfl,sx rfl,trivial⟩) (⟨sx rfl,sx rfl,sx rfl,sx rfl,sx rfl,sx rfl,trivial⟩) (⟨rfl,rfl,rfl,rfl,rfl,trivial⟩)) ?_;refine uAd (uAb ?_);refine uAa rfl rfl rfl (uAn rfl gU rfl rfl rfl rfl rfl) ?_;refine uAx rfl rfl rfl rfl rfl rfl gU gU (up (uAZ l _ _ (by omega) (le3 hl (by repeat(first|exact hp|refine uB9 ?_|refine uBJ ?_))))) rfl ?_;refine uAx rfl rfl rfl rfl rfl rfl gU gU (up (uDU l (by omega) (l.length + 1) _ (by repeat(first|exact hp|refine uB9 ?_|refine uBJ ?_)) (by omega))) rfl ?_
 refine uAa rfl rfl rfl (uAc rfl gU) ?_;refine uAa rfl rfl rfl (uAv rfl gU rfl) ?_;refine uAa rfl rfl rfl (uAv rfl gU rfl) ?_;refine uAa rfl rfl rfl (uAg rfl gU rfl rfl) ?_;refine uAs rfl (uAw rfl rfl rfl rfl rfl rfl rfl) ?_;refine uAs rfl (uAw rfl rfl rfl rfl rfl rfl rfl) ?_;refine uAf ?_;refine uAk (s:=⟨[(3,_,_),(4,_,_),(6,_,_),(7,_,_),(8,_,_)],[(.l 3,_),(.l 4,_),(.l 6,_),(.l 7,_),(.l 8,_),(.o 0,_)],[(.b (.l 3) 1,_),(.b (.l 3) 2,_),(.b (.l 3) 3,_),(.b (.l 3) 4,_),(.b (.l 3) 5,_)],[]⟩) (uAj (⟨sx rfl,sx rfl,sx rfl,sx rfl,sx rfl,trivial⟩) (⟨sx rfl,sx rfl,sx rfl,sx rfl,sx rfl,sx rfl,trivial⟩) (⟨rfl,rfl,rfl,rfl,rfl,trivial⟩)) ?_;refine uAd (uAb ?_);refine uAa rfl rfl rfl (uAg rfl gU rfl rfl) ?_;refine uAs rfl (uBp rfl rfl rfl rfl rfl rfl rfl) ?_;refine uAa rfl rfl rfl (uAn rfl gU rfl rfl rfl rfl rfl) ?_;refine uAR (xs:=[_]) rfl rfl rfl rfl rfl rfl rfl rfl rfl gU rfl ?_;refine uAs rfl (uA0 rfl rfl rfl rfl rfl rfl rfl (by first|omega|(simp only [List.length_append,List.length_singleton,Sp.rows_len]; omega)) (by first|omega|(simp only [List.length_append,List.length_singleton,Sp.rows_len]; omega))) ?_;refine uAa rfl rfl rfl (uAg rfl gU rfl rfl) ?_;refine uAs rfl (uBi rfl rfl rfl rfl rfl rfl rfl) ?_
 refine uAf ?_;refine uAk (s:=⟨[(3,_,_),(4,_,_),(6,_,_),(7,_,_)],[(.l 3,_),(.l 4,_),(.l 6,_),(.l 7,_),(.o 0,_)],[(.b (.l 3) 1,_),(.b (.l 3) 2,_),(.b (.l 3) 3,_),(.b (.l 3) 4,_),(.b (.l 3) 5,_)],[]⟩) (uAj (⟨sx rfl,sx rfl,sx rfl,sx rfl,trivial⟩) (⟨sx rfl,sx rfl,sx rfl,sx rfl,sx rfl,trivial⟩) (⟨rfl,rfl,rfl,rfl,rfl,trivial⟩)) ?_;refine uAk (s:=⟨[(3,_,_),(4,_,_),(6,_,_),(7,_,_)],[(.l 3,_),(.l 4,_),(.l 6,_),(.l 7,_),(.o 0,_)],[(.b (.l 3) 1,_),(.b (.l 3) 2,_),(.b (.l 3) 3,_),(.b (.l 3) 4,_),(.b (.l 3) 5,_)],[]⟩) (uAj (⟨sx rfl,sx rfl,sx rfl,sx rfl,trivial⟩) (⟨sx rfl,sx rfl,sx rfl,sx rfl,sx rfl,trivial⟩) (⟨rfl,rfl,rfl,rfl,rfl,trivial⟩)) ?_;refine uBh (.l 3) rfl (fun w1 w2 w3 w4 w5=>?_);refine uAk (s:=⟨[(3,_,_),(4,_,_),(6,_,_),(7,_,_)],[(.l 3,_),(.l 4,_),(.l 6,_),(.l 7,_),(.o 0,_)],[(.b (.l 3) 1,_),(.b (.l 3) 2,_),(.b (.l 3) 3,_),(.b (.l 3) 4,_),(.b (.l 3) 5,_)],[]⟩) (uAj (⟨sx rfl,sx rfl,sx rfl,sx rfl,trivial⟩) (⟨sx rfl,sx rfl,sx rfl,sx rfl,sx rfl,trivial⟩) (⟨rfl,rfl,rfl,rfl,rfl,trivial⟩)) ?_;refine uAd ?_;refine awp_drawn' (by kernel_rfl) ?_;refine uAG rfl rfl rfl rfl rfl rfl rfl gU rfl rfl rfl rfl rfl ?_;refine uAG rfl rfl rfl rfl rfl rfl rfl gU rfl rfl rfl rfl rfl ?_
 refine uAT rfl rfl rfl rfl rfl rfl rfl rfl rfl rfl rfl rfl ?_;refine uAT rfl rfl rfl rfl rfl rfl rfl rfl rfl rfl rfl rfl ?_;refine uA2 (by kernel_rfl) ?_;refine uAk (s:=⟨[(3,_,_),(6,_,_),(7,_,_)],[(.l 3,_),(.l 6,_),(.l 7,_),(.o 0,_)],[(.b (.l 3) 1,_),(.b (.l 3) 2,_),(.b (.l 3) 3,_),(.b (.l 3) 4,_),(.b (.l 3) 5,_)],[]⟩) (uAj (⟨sx rfl,sx rfl,sx rfl,trivial⟩) (⟨sx rfl,sx rfl,sx rfl,sx rfl,trivial⟩) (⟨(ak rfl (ak rfl (ak rfl (ak rfl (rfl))))),(ak rfl (ak rfl (ak rfl (ak rfl (rfl))))),(ak rfl (ak rfl (ak rfl (ak rfl (rfl))))),(ak rfl (ak rfl (ak rfl (ak rfl (rfl))))),(ak rfl (ak rfl (ak rfl (ak rfl (rfl))))),trivial⟩)) ?_;refine uBn (.l 6) (.l 3) rfl rfl rfl rfl rfl ?_;refine uAk (s:=⟨[(3,_,_),(6,_,_),(7,_,_)],[(.l 3,_),(.l 6,_),(.l 7,_),(.o 0,_)],[(.b (.l 6) 1,_),(.b (.l 6) 2,_),(.b (.l 6) 3,_),(.b (.l 6) 4,_),(.b (.l 6) 5,_)],[]⟩) (uAj (⟨sx rfl,sx rfl,sx rfl,trivial⟩) (⟨sx rfl,sx rfl,sx rfl,sx rfl,trivial⟩) (⟨rfl,rfl,rfl,rfl,rfl,trivial⟩)) ?_;refine uAq ?_
 repeat(first|refine tR ?_|refine bR ?_)
 refine uBx rfl ?_ ⟨⟨_,rfl,rfl⟩,trivial⟩ (by simp) rfl rfl rfl rfl rfl rfl;exact congrArg (fun z=>X.tup [.agg (narC n.name (strR n.roles) (Fs.rows n.fresh) (strR n.tags) z (Gl.rows n.goals)), .agg (pbx l (uEK l line p).2)]) (Sp.rows_app n.steps [(uEK l line p).1]).symm
theorem uJr (l : List Tk) (ws : List (List UInt8)) : Fwd l (chR l ws):=fun p=>by
 have h:=uA9 l [] p
 unfold chR
 split
 ·simp [PS.off]
 ·exact h
theorem uEi {l : List Tk} {ws : List (List UInt8)} {p : PS} (h : p.at'≤l.length) : (chR l ws p).2.at'≤l.length:=(uJr l ws p).2 h
set_option maxHeartbeats 4000000 in
theorem uFf (l : List Tk) (p : PS) (n : Nar) (line : Int) (u1 u2 u3 u4 u5 : Value) (hl : l.length≤2000000) (hp : p.at'≤l.length) (hn : n.goals.length≤3000000) :
  CtrO sysO 135 [.v (.agg (soC n u1 u2 u3 u4 u5)),xr l p,xi line] [soC n u1 u2 u3 u4 u5] osR (xnr l ({ n with goals:=n.goals++[(uDP l line p).1] },(uDP l line p).2)) [soC n u1 u2 u3 u4 u5] .res:=by
 have hrs:=Gl.rows_len n.goals
 have hrl:=Tk.rows_len l
 refine uBM Tryz.func135 rfl rfl rfl rfl rfl rfl rfl ?_;refine uAd (uAb ?_);refine uAs rfl (uAH rfl rfl rfl rfl) ?_;refine uAs rfl (uAH rfl rfl rfl rfl) ?_;refine uAs rfl (uAK rfl rfl rfl) ?_;refine uAs rfl (uAK rfl rfl rfl) ?_;refine uAf ?_;refine uAk (s:=⟨[(2,_,_),(3,_,_),(4,_,_),(6,_,_),(7,_,_)],[(.l 3,_),(.l 4,_),(.l 6,_),(.l 7,_),(.o 0,_)],[(.b (.o 0) 1,_),(.b (.o 0) 2,_),(.b (.o 0) 3,_),(.b (.o 0) 4,_),(.b (.o 0) 5,_)],[]⟩) (uAj (⟨sx rfl,sx rfl,sx rfl,sx rfl,sx rfl,trivial⟩) (⟨sx rfl,sx rfl,sx rfl,sx rfl,sx rfl,trivial⟩) (⟨rfl,rfl,rfl,rfl,rfl,trivial⟩)) ?_;refine uBn (.l 3) (.o 0) rfl rfl rfl rfl rfl ?_;refine uAk (s:=⟨[(2,_,_),(3,_,_),(4,_,_),(6,_,_),(7,_,_)],[(.l 3,_),(.l 4,_),(.l 6,_),(.l 7,_),(.o 0,_)],[(.b (.l 3) 1,_),(.b (.l 3) 2,_),(.b (.l 3) 3,_),(.b (.l 3) 4,_),(.b (.l 3) 5,_)],[]⟩) (uAj (⟨sx rfl,sx rfl,sx rfl,sx rfl,sx rfl,trivial⟩) (⟨sx rfl,sx rfl,sx rfl,sx rfl,sx rfl,trivial⟩) (⟨rfl,rfl,rfl,rfl,rfl,trivial⟩)) ?_;refine uAd (uAb ?_);refine uAa rfl rfl rfl (uAc rfl gU) ?_;refine uAa rfl rfl rfl (uBg rfl Tryz.underlying51 rfl gU) ?_;refine uAs rfl (uAK rfl rfl rfl) ?_;refine uAs rfl (uAw rfl rfl rfl rfl rfl rfl rfl) ?_;refine uAf ?_
 refine uAd ?_;refine awp_drawn' (by kernel_rfl) ?_;refine uAG rfl rfl rfl rfl rfl rfl rfl gU rfl rfl rfl rfl rfl ?_;refine uAQ rfl rfl rfl rfl rfl rfl rfl gU gU (up uLZ) rfl ?_;refine uAQ rfl rfl rfl rfl rfl rfl rfl gU gU (up (uDb l p uBH (by omega) (by omega))) rfl ?_;refine uAl rfl rfl rfl rfl (uAc rfl gU) ?_;refine uAl rfl rfl rfl rfl (uAv rfl gU rfl) ?_;refine uAl rfl rfl rfl rfl (uAv rfl gU rfl) ?_;refine uAl rfl rfl rfl rfl (uAg rfl gU rfl rfl) ?_;refine uAT rfl rfl rfl rfl rfl rfl rfl rfl rfl rfl rfl rfl ?_;refine uAT rfl rfl rfl rfl rfl rfl rfl rfl rfl rfl rfl rfl ?_;refine uA2 (by kernel_rfl) ?_;refine uAk (s:=⟨[(3,_,_),(4,_,_),(6,_,_),(7,_,_),(8,_,_)],[(.l 3,_),(.l 4,_),(.l 6,_),(.l 7,_),(.l 8,_),(.o 0,_)],[(.b (.l 3) 1,_),(.b (.l 3) 2,_),(.b (.l 3) 3,_),(.b (.l 3) 4,_),(.b (.l 3) 5,_)],[]⟩) (uAj (⟨sx rfl,sx rfl,sx rfl,sx rfl,sx rfl,trivial⟩) (⟨sx rfl,sx rfl,sx rfl,sx rfl,sx rfl,sx rfl,trivial⟩) (⟨(ak rfl (ak rfl (ak rfl (ak rfl (ak rfl (ak rfl (ak rfl (ak rfl (ak rfl (rfl)))))))))),(ak rfl (ak rfl (ak rfl (ak rfl (ak rfl (ak rfl (ak rfl (ak rfl (ak rfl (rfl)))))))))),(ak rfl (ak rfl (ak rfl (ak rfl (ak rfl (ak rfl (ak rfl (ak rfl (ak rfl (rfl)))))))))),(ak rfl (ak rfl (ak rfl (ak rfl (ak rfl (ak rfl (ak rfl (ak rfl (ak rfl (rfl)))))))))),(ak rfl (ak rfl (ak rfl (ak rfl (ak rfl (ak rfl (ak rfl (ak rfl (ak rfl (rfl)))))))))),trivial⟩)) ?_
 refine uAd (uAb ?_);refine uAa rfl rfl rfl (uAn rfl gU rfl rfl rfl rfl rfl) ?_;refine uAx rfl rfl rfl rfl rfl rfl gU gU (up (uBE l _ (by omega) (le3 hl (by repeat(first|exact hp|refine uB9 ?_|refine uBJ ?_|refine uEi ?_))))) rfl ?_;refine uAa rfl rfl rfl (uAc rfl gU) ?_;refine uAa rfl rfl rfl (uAv rfl gU rfl) ?_;refine uAa rfl rfl rfl (uAv rfl gU rfl) ?_;refine uAa rfl rfl rfl (uAg rfl gU rfl rfl) ?_;refine uAs rfl (uAw rfl rfl rfl rfl rfl rfl rfl) ?_;refine uAs rfl (uAw rfl rfl rfl rfl rfl rfl rfl) ?_;refine uAf ?_;refine uAk (s:=⟨[(3,_,_),(4,_,_),(6,_,_),(7,_,_),(8,_,_)],[(.l 3,_),(.l 4,_),(.l 6,_),(.l 7,_),(.l 8,_),(.o 0,_)],[(.b (.l 3) 1,_),(.b (.l 3) 2,_),(.b (.l 3) 3,_),(.b (.l 3) 4,_),(.b (.l 3) 5,_)],[]⟩) (uAj (⟨sx rfl,sx rfl,sx rfl,sx rfl,sx rfl,trivial⟩) (⟨sx rfl,sx rfl,sx rfl,sx rfl,sx rfl,sx rfl,trivial⟩) (⟨rfl,rfl,rfl,rfl,rfl,trivial⟩)) ?_;refine uAd ?_;refine uAd (uAb ?_);refine uAa rfl rfl rfl (uAn rfl gU rfl rfl rfl rfl rfl) ?_;refine uAx rfl rfl rfl rfl rfl rfl gU gU (up (uCI ⟨(chR l uBH p).1,(uAy l [] (chR l uBH p).2).1,[],[],line⟩)) rfl ?_;refine uAf ?_;refine uAo rfl (fun hc=>?_) (fun hc=>?_)
 ·have h : uBs (chR l uBH p).1=true:=hc
  have hg : uDP l line p=(⟨(chR l uBH p).1,(uAy l [] (chR l uBH p).2).1,(uAy l [] (uAy l [] (chR l uBH p).2).2).1,(uBb l (uA4 l (l.length + 1)) (uAS l [58] (uAy l [] (uAy l [] (chR l uBH p).2).2).2)).1,line⟩,(uBb l (uA4 l (l.length + 1)) (uAS l [58] (uAy l [] (uAy l [] (chR l uBH p).2).2).2)).2):=by
   simp only [uDP,h,if_true]
  rw[hg]
  refine uAb ?_;refine uAa rfl rfl rfl (uAn rfl gU rfl rfl rfl rfl rfl) ?_;refine uAx rfl rfl rfl rfl rfl rfl gU gU (up (uBE l _ (by omega) (le3 hl (by repeat(first|exact hp|refine uB9 ?_|refine uBJ ?_|refine uEi ?_))))) rfl ?_;refine uAa rfl rfl rfl (uAc rfl gU) ?_;refine uAa rfl rfl rfl (uAv rfl gU rfl) ?_;refine uAa rfl rfl rfl (uAv rfl gU rfl) ?_;refine uAa rfl rfl rfl (uAg rfl gU rfl rfl) ?_;refine uAs rfl (uAw rfl rfl rfl rfl rfl rfl rfl) ?_;refine uAs rfl (uAw rfl rfl rfl rfl rfl rfl rfl) ?_;refine uAf ?_;refine uAk (s:=⟨[(3,_,_),(4,_,_),(6,_,_),(7,_,_),(8,_,_)],[(.l 3,_),(.l 4,_),(.l 6,_),(.l 7,_),(.l 8,_),(.o 0,_)],[(.b (.l 3) 1,_),(.b (.l 3) 2,_),(.b (.l 3) 3,_),(.b (.l 3) 4,_),(.b (.l 3) 5,_)],[]⟩) (uAj (⟨sx rfl,sx rfl,sx rfl,sx rfl,sx rfl,trivial⟩) (⟨sx rfl,sx rfl,sx rfl,sx rfl,sx rfl,sx rfl,trivial⟩) (⟨rfl,rfl,rfl,rfl,rfl,trivial⟩)) ?_;refine uAd (uAb ?_);refine uAa rfl rfl rfl (uAn rfl gU rfl rfl rfl rfl rfl) ?_;refine uAx rfl rfl rfl rfl rfl rfl gU gU (up (uAZ l _ _ (by omega) (le3 hl (by repeat(first|exact hp|refine uB9 ?_|refine uBJ ?_|refine uEi ?_))))) rfl ?_;refine uAx rfl rfl rfl rfl rfl rfl gU gU (up (uET l (l.length + 1) hl (fun q h1 h2=>uDU l hl _ q h1 h2) (uC7 l _) _ (by repeat(first|exact hp|refine uB9 ?_|refine uBJ ?_|refine uEi ?_)) (by omega))) rfl ?_
  refine uAa rfl rfl rfl (uAc rfl gU) ?_;refine uAa rfl rfl rfl (uAv rfl gU rfl) ?_;refine uAa rfl rfl rfl (uAv rfl gU rfl) ?_;refine uAa rfl rfl rfl (uAg rfl gU rfl rfl) ?_;refine uAs rfl (uAw rfl rfl rfl rfl rfl rfl rfl) ?_;refine uAs rfl (uAw rfl rfl rfl rfl rfl rfl rfl) ?_;refine uAf ?_;refine uAk (s:=⟨[(3,_,_),(4,_,_),(6,_,_),(7,_,_),(8,_,_)],[(.l 3,_),(.l 4,_),(.l 6,_),(.l 7,_),(.l 8,_),(.o 0,_)],[(.b (.l 3) 1,_),(.b (.l 3) 2,_),(.b (.l 3) 3,_),(.b (.l 3) 4,_),(.b (.l 3) 5,_)],[]⟩) (uAj (⟨sx rfl,sx rfl,sx rfl,sx rfl,sx rfl,trivial⟩) (⟨sx rfl,sx rfl,sx rfl,sx rfl,sx rfl,sx rfl,trivial⟩) (⟨rfl,rfl,rfl,rfl,rfl,trivial⟩)) ?_;refine uAd (uAb ?_);refine uAa rfl rfl rfl (uAg rfl gU rfl rfl) ?_;refine uAs rfl (uBp rfl rfl rfl rfl rfl rfl rfl) ?_;refine uAa rfl rfl rfl (uAn rfl gU rfl rfl rfl rfl rfl) ?_;refine uAR (xs:=[_]) rfl rfl rfl rfl rfl rfl rfl rfl rfl gU rfl ?_;refine uAs rfl (uA0 rfl rfl rfl rfl rfl rfl rfl (by first|omega|(simp only [List.length_append,List.length_singleton,Gl.rows_len]; omega)) (by first|omega|(simp only [List.length_append,List.length_singleton,Gl.rows_len]; omega))) ?_;refine uAa rfl rfl rfl (uAg rfl gU rfl rfl) ?_;refine uAs rfl (uBi rfl rfl rfl rfl rfl rfl rfl) ?_
  refine uAf ?_;refine uAk (s:=⟨[(3,_,_),(4,_,_),(6,_,_),(7,_,_)],[(.l 3,_),(.l 4,_),(.l 6,_),(.l 7,_),(.o 0,_)],[(.b (.l 3) 1,_),(.b (.l 3) 2,_),(.b (.l 3) 3,_),(.b (.l 3) 4,_),(.b (.l 3) 5,_)],[]⟩) (uAj (⟨sx rfl,sx rfl,sx rfl,sx rfl,trivial⟩) (⟨sx rfl,sx rfl,sx rfl,sx rfl,sx rfl,trivial⟩) (⟨rfl,rfl,rfl,rfl,rfl,trivial⟩)) ?_;refine uAk (s:=⟨[(3,_,_),(4,_,_),(6,_,_),(7,_,_)],[(.l 3,_),(.l 4,_),(.l 6,_),(.l 7,_),(.o 0,_)],[(.b (.l 3) 1,_),(.b (.l 3) 2,_),(.b (.l 3) 3,_),(.b (.l 3) 4,_),(.b (.l 3) 5,_)],[]⟩) (uAj (⟨sx rfl,sx rfl,sx rfl,sx rfl,trivial⟩) (⟨sx rfl,sx rfl,sx rfl,sx rfl,sx rfl,trivial⟩) (⟨rfl,rfl,rfl,rfl,rfl,trivial⟩)) ?_;refine uBh (.l 3) rfl (fun w1 w2 w3 w4 w5=>?_);refine uAk (s:=⟨[(3,_,_),(4,_,_),(6,_,_),(7,_,_)],[(.l 3,_),(.l 4,_),(.l 6,_),(.l 7,_),(.o 0,_)],[(.b (.l 3) 1,_),(.b (.l 3) 2,_),(.b (.l 3) 3,_),(.b (.l 3) 4,_),(.b (.l 3) 5,_)],[]⟩) (uAj (⟨sx rfl,sx rfl,sx rfl,sx rfl,trivial⟩) (⟨sx rfl,sx rfl,sx rfl,sx rfl,sx rfl,trivial⟩) (⟨rfl,rfl,rfl,rfl,rfl,trivial⟩)) ?_;refine uAd ?_;refine awp_drawn' (by kernel_rfl) ?_;refine uAG rfl rfl rfl rfl rfl rfl rfl gU rfl rfl rfl rfl rfl ?_;refine uAG rfl rfl rfl rfl rfl rfl rfl gU rfl rfl rfl rfl rfl ?_
  refine uAT rfl rfl rfl rfl rfl rfl rfl rfl rfl rfl rfl rfl ?_;refine uAT rfl rfl rfl rfl rfl rfl rfl rfl rfl rfl rfl rfl ?_;refine uA2 (by kernel_rfl) ?_;refine uAk (s:=⟨[(3,_,_),(6,_,_),(7,_,_)],[(.l 3,_),(.l 6,_),(.l 7,_),(.o 0,_)],[(.b (.l 3) 1,_),(.b (.l 3) 2,_),(.b (.l 3) 3,_),(.b (.l 3) 4,_),(.b (.l 3) 5,_)],[]⟩) (uAj (⟨sx rfl,sx rfl,sx rfl,trivial⟩) (⟨sx rfl,sx rfl,sx rfl,sx rfl,trivial⟩) (⟨(ak rfl (ak rfl (ak rfl (ak rfl (rfl))))),(ak rfl (ak rfl (ak rfl (ak rfl (rfl))))),(ak rfl (ak rfl (ak rfl (ak rfl (rfl))))),(ak rfl (ak rfl (ak rfl (ak rfl (rfl))))),(ak rfl (ak rfl (ak rfl (ak rfl (rfl))))),trivial⟩)) ?_;refine uBn (.l 6) (.l 3) rfl rfl rfl rfl rfl ?_;refine uAk (s:=⟨[(3,_,_),(6,_,_),(7,_,_)],[(.l 3,_),(.l 6,_),(.l 7,_),(.o 0,_)],[(.b (.l 6) 1,_),(.b (.l 6) 2,_),(.b (.l 6) 3,_),(.b (.l 6) 4,_),(.b (.l 6) 5,_)],[]⟩) (uAj (⟨sx rfl,sx rfl,sx rfl,trivial⟩) (⟨sx rfl,sx rfl,sx rfl,sx rfl,trivial⟩) (⟨rfl,rfl,rfl,rfl,rfl,trivial⟩)) ?_;refine uAq ?_
  repeat(first|refine tR ?_|refine bR ?_)
  refine uBx rfl ?_ ⟨⟨_,rfl,rfl⟩,trivial⟩ (by simp) rfl rfl rfl rfl rfl rfl;exact congrArg (fun z=>X.tup [.agg (narC n.name (strR n.roles) (Fs.rows n.fresh) (strR n.tags) (Sp.rows n.steps) z), .agg (pbx l (uBb l (uA4 l (l.length + 1)) (uAS l [58] (uAy l [] (uAy l [] (chR l uBH p).2).2).2)).2)]) (Gl.rows_app n.goals [⟨(chR l uBH p).1,(uAy l [] (chR l uBH p).2).1,(uAy l [] (uAy l [] (chR l uBH p).2).2).1,(uBb l (uA4 l (l.length + 1)) (uAS l [58] (uAy l [] (uAy l [] (chR l uBH p).2).2).2)).1,line⟩]).symm
 ·have h : uBs (chR l uBH p).1=false:=hc
  have hg : uDP l line p=(⟨(chR l uBH p).1,(uAy l [] (chR l uBH p).2).1,[],(uBb l (uA4 l (l.length + 1)) (uAS l [58] (uAy l [] (chR l uBH p).2).2)).1,line⟩,(uBb l (uA4 l (l.length + 1)) (uAS l [58] (uAy l [] (chR l uBH p).2).2)).2):=by
   simp only [uDP,h,Bool.false_eq_true,if_false]
  rw[hg]
  refine uAp ?_;refine uAd (uAb ?_);refine uAa rfl rfl rfl (uAn rfl gU rfl rfl rfl rfl rfl) ?_;refine uAx rfl rfl rfl rfl rfl rfl gU gU (up (uAZ l _ _ (by omega) (le3 hl (by repeat(first|exact hp|refine uB9 ?_|refine uBJ ?_|refine uEi ?_))))) rfl ?_;refine uAx rfl rfl rfl rfl rfl rfl gU gU (up (uET l (l.length + 1) hl (fun q h1 h2=>uDU l hl _ q h1 h2) (uC7 l _) _ (by repeat(first|exact hp|refine uB9 ?_|refine uBJ ?_|refine uEi ?_)) (by omega))) rfl ?_;refine uAa rfl rfl rfl (uAc rfl gU) ?_;refine uAa rfl rfl rfl (uAv rfl gU rfl) ?_;refine uAa rfl rfl rfl (uAv rfl gU rfl) ?_;refine uAa rfl rfl rfl (uAg rfl gU rfl rfl) ?_;refine uAs rfl (uAw rfl rfl rfl rfl rfl rfl rfl) ?_;refine uAs rfl (uAw rfl rfl rfl rfl rfl rfl rfl) ?_;refine uAf ?_;refine uAk (s:=⟨[(3,_,_),(4,_,_),(6,_,_),(7,_,_),(8,_,_)],[(.l 3,_),(.l 4,_),(.l 6,_),(.l 7,_),(.l 8,_),(.o 0,_)],[(.b (.l 3) 1,_),(.b (.l 3) 2,_),(.b (.l 3) 3,_),(.b (.l 3) 4,_),(.b (.l 3) 5,_)],[]⟩) (uAj (⟨sx rfl,sx rfl,sx rfl,sx rfl,sx rfl,trivial⟩) (⟨sx rfl,sx rfl,sx rfl,sx rfl,sx rfl,sx rfl,trivial⟩) (⟨rfl,rfl,rfl,rfl,rfl,trivial⟩)) ?_;refine uAd (uAb ?_);refine uAa rfl rfl rfl (uAg rfl gU rfl rfl) ?_;refine uAs rfl (uBp rfl rfl rfl rfl rfl rfl rfl) ?_
  refine uAa rfl rfl rfl (uAn rfl gU rfl rfl rfl rfl rfl) ?_;refine uAR (xs:=[_]) rfl rfl rfl rfl rfl rfl rfl rfl rfl gU rfl ?_;refine uAs rfl (uA0 rfl rfl rfl rfl rfl rfl rfl (by first|omega|(simp only [List.length_append,List.length_singleton,Gl.rows_len]; omega)) (by first|omega|(simp only [List.length_append,List.length_singleton,Gl.rows_len]; omega))) ?_;refine uAa rfl rfl rfl (uAg rfl gU rfl rfl) ?_;refine uAs rfl (uBi rfl rfl rfl rfl rfl rfl rfl) ?_;refine uAf ?_;refine uAk (s:=⟨[(3,_,_),(4,_,_),(6,_,_),(7,_,_)],[(.l 3,_),(.l 4,_),(.l 6,_),(.l 7,_),(.o 0,_)],[(.b (.l 3) 1,_),(.b (.l 3) 2,_),(.b (.l 3) 3,_),(.b (.l 3) 4,_),(.b (.l 3) 5,_)],[]⟩) (uAj (⟨sx rfl,sx rfl,sx rfl,sx rfl,trivial⟩) (⟨sx rfl,sx rfl,sx rfl,sx rfl,sx rfl,trivial⟩) (⟨rfl,rfl,rfl,rfl,rfl,trivial⟩)) ?_;refine uAk (s:=⟨[(3,_,_),(4,_,_),(6,_,_),(7,_,_)],[(.l 3,_),(.l 4,_),(.l 6,_),(.l 7,_),(.o 0,_)],[(.b (.l 3) 1,_),(.b (.l 3) 2,_),(.b (.l 3) 3,_),(.b (.l 3) 4,_),(.b (.l 3) 5,_)],[]⟩) (uAj (⟨sx rfl,sx rfl,sx rfl,sx rfl,trivial⟩) (⟨sx rfl,sx rfl,sx rfl,sx rfl,sx rfl,trivial⟩) (⟨rfl,rfl,rfl,rfl,rfl,trivial⟩)) ?_;refine uBh (.l 3) rfl (fun w1 w2 w3 w4 w5=>?_);refine uAk (s:=⟨[(3,_,_),(4,_,_),(6,_,_),(7,_,_)],[(.l 3,_),(.l 4,_),(.l 6,_),(.l 7,_),(.o 0,_)],[(.b (.l 3) 1,_),(.b (.l 3) 2,_),(.b (.l 3) 3,_),(.b (.l 3) 4,_),(.b (.l 3) 5,_)],[]⟩) (uAj (⟨sx rfl,sx rfl,sx rfl,sx rfl,trivial⟩) (⟨sx rfl,sx rfl,sx rfl,sx rfl,sx rfl,trivial⟩) (⟨rfl,rfl,rfl,rfl,rfl,trivial⟩)) ?_
  refine uAd ?_;refine awp_drawn' (by kernel_rfl) ?_;refine uAG rfl rfl rfl rfl rfl rfl rfl gU rfl rfl rfl rfl rfl ?_;refine uAG rfl rfl rfl rfl rfl rfl rfl gU rfl rfl rfl rfl rfl ?_;refine uAT rfl rfl rfl rfl rfl rfl rfl rfl rfl rfl rfl rfl ?_;refine uAT rfl rfl rfl rfl rfl rfl rfl rfl rfl rfl rfl rfl ?_;refine uA2 (by kernel_rfl) ?_;refine uAk (s:=⟨[(3,_,_),(6,_,_),(7,_,_)],[(.l 3,_),(.l 6,_),(.l 7,_),(.o 0,_)],[(.b (.l 3) 1,_),(.b (.l 3) 2,_),(.b (.l 3) 3,_),(.b (.l 3) 4,_),(.b (.l 3) 5,_)],[]⟩) (uAj (⟨sx rfl,sx rfl,sx rfl,trivial⟩) (⟨sx rfl,sx rfl,sx rfl,sx rfl,trivial⟩) (⟨(ak rfl (ak rfl (ak rfl (ak rfl (rfl))))),(ak rfl (ak rfl (ak rfl (ak rfl (rfl))))),(ak rfl (ak rfl (ak rfl (ak rfl (rfl))))),(ak rfl (ak rfl (ak rfl (ak rfl (rfl))))),(ak rfl (ak rfl (ak rfl (ak rfl (rfl))))),trivial⟩)) ?_;refine uBn (.l 6) (.l 3) rfl rfl rfl rfl rfl ?_;refine uAk (s:=⟨[(3,_,_),(6,_,_),(7,_,_)],[(.l 3,_),(.l 6,_),(.l 7,_),(.o 0,_)],[(.b (.l 6) 1,_),(.b (.l 6) 2,_),(.b (.l 6) 3,_),(.b (.l 6) 4,_),(.b (.l 6) 5,_)],[]⟩) (uAj (⟨sx rfl,sx rfl,sx rfl,trivial⟩) (⟨sx rfl,sx rfl,sx rfl,sx rfl,trivial⟩) (⟨rfl,rfl,rfl,rfl,rfl,trivial⟩)) ?_;refine uAq ?_
  repeat(first|refine tR ?_|refine bR ?_)
  refine uBx rfl ?_ ⟨⟨_,rfl,rfl⟩,trivial⟩ (by simp) rfl rfl rfl rfl rfl rfl;exact congrArg (fun z=>X.tup [.agg (narC n.name (strR n.roles) (Fs.rows n.fresh) (strR n.tags) (Sp.rows n.steps) z), .agg (pbx l (uBb l (uA4 l (l.length + 1)) (uAS l [58] (uAy l [] (chR l uBH p).2).2)).2)]) (Gl.rows_app n.goals [⟨(chR l uBH p).1,(uAy l [] (chR l uBH p).2).1,[],(uBb l (uA4 l (l.length + 1)) (uAS l [58] (uAy l [] (chR l uBH p).2).2)).1,line⟩]).symm
theorem uMJ {l : List Tk} {p : PS} (h : (chR l uBu p).2.bad=false) : (chR l uBu p).2.at'=p.at' + 1:=by
 rw[(uL9 l p).1] at h ⊢
 have hq:=uGf h
 rw[uAy,if_pos hq]; rfl
abbrev frC (n : Nar) (o : List Fs) : List C:=narC n.name (strR n.roles) (Fs.rows o) (strR n.tags) (Sp.rows n.steps) (Gl.rows n.goals)
set_option maxHeartbeats 8000000 in
theorem uEI (l : List Tk) (p : PS) (n : Nar) (u1 u2 u3 u4 u5 : Value) (hl : l.length≤2000000) (hp : p.at'≤l.length) (hn : n.fresh.length≤3000000) :
  CtrO sysO 133 [.v (.agg (soC n u1 u2 u3 u4 u5)),xr l p] [soC n u1 u2 u3 u4 u5] osR (xnr l ({ n with fresh:=(frRd l p n.fresh).1 },(frRd l p n.fresh).2)) [soC n u1 u2 u3 u4 u5] .res:=by
 have hrl:=Tk.rows_len l
 have a3 : (uAS l [58] (uAy l [] p).2).at'≤l.length:=uB9 (uBJ hp)
 obtain ⟨role,hrole⟩ : ∃ r,(uAy l [] p).1=r:=⟨_,rfl⟩
 refine uBM Tryz.func133 rfl rfl rfl rfl rfl rfl rfl ?_;refine uAd (uAb ?_);refine uAs rfl (uAH rfl rfl rfl rfl) ?_;refine uAs rfl (uAH rfl rfl rfl rfl) ?_;refine uAs rfl (uAK rfl rfl rfl) ?_;refine uAs rfl (uAK rfl rfl rfl) ?_;refine uAf ?_;refine uAk (s:=⟨[(2,_,_),(3,_,_),(4,_,_),(5,_,_)],[(.l 2,_),(.l 3,_),(.l 4,_),(.l 5,_),(.o 0,_)],[(.b (.o 0) 1,_),(.b (.o 0) 2,_),(.b (.o 0) 3,_),(.b (.o 0) 4,_),(.b (.o 0) 5,_)],[]⟩) (uAj (⟨sx rfl,sx rfl,sx rfl,sx rfl,trivial⟩) (⟨sx rfl,sx rfl,sx rfl,sx rfl,sx rfl,trivial⟩) (⟨rfl,rfl,rfl,rfl,rfl,trivial⟩)) ?_;refine uBn (.l 2) (.o 0) rfl rfl rfl rfl rfl ?_;refine uAk (s:=⟨[(2,_,_),(3,_,_),(4,_,_),(5,_,_)],[(.l 2,_),(.l 3,_),(.l 4,_),(.l 5,_),(.o 0,_)],[(.b (.l 2) 1,_),(.b (.l 2) 2,_),(.b (.l 2) 3,_),(.b (.l 2) 4,_),(.b (.l 2) 5,_)],[]⟩) (uAj (⟨sx rfl,sx rfl,sx rfl,sx rfl,trivial⟩) (⟨sx rfl,sx rfl,sx rfl,sx rfl,sx rfl,trivial⟩) (⟨rfl,rfl,rfl,rfl,rfl,trivial⟩)) ?_;refine uAd (uAb ?_);refine uAa rfl rfl rfl (uAn rfl gU rfl rfl rfl rfl rfl) ?_;refine uAx rfl rfl rfl rfl rfl rfl gU gU (up (uBE l p (by omega) (le3 hl hp))) rfl ?_;refine uAa rfl rfl rfl (uAc rfl gU) ?_;refine uAa rfl rfl rfl (uAv rfl gU rfl) ?_
 refine uAa rfl rfl rfl (uAv rfl gU rfl) ?_;refine uAa rfl rfl rfl (uAe rfl gU) ?_;refine uAs rfl (uAw rfl rfl rfl rfl rfl rfl rfl) ?_;refine uAf ?_;refine uAk (s:=⟨[(2,_,_),(3,_,_),(4,_,_),(5,_,_),(6,_,_)],[(.l 2,_),(.l 3,_),(.l 4,_),(.l 5,_),(.o 0,_)],[(.b (.l 2) 1,_),(.b (.l 2) 2,_),(.b (.l 2) 3,_),(.b (.l 2) 4,_),(.b (.l 2) 5,_)],[]⟩) (uAj (⟨sx rfl,sx rfl,sx rfl,sx rfl,sx rfl,trivial⟩) (⟨sx rfl,sx rfl,sx rfl,sx rfl,sx rfl,trivial⟩) (⟨rfl,rfl,rfl,rfl,rfl,trivial⟩)) ?_;refine uAd (uAb ?_);refine uAa rfl rfl rfl (uAn rfl gU rfl rfl rfl rfl rfl) ?_;refine uAx rfl rfl rfl rfl rfl rfl gU gU (up (uAZ l (uAy l [] p).2 _ (by omega) (le3 hl (uBJ hp)))) rfl ?_;refine uAs rfl (uAw rfl rfl rfl rfl rfl rfl rfl) ?_;refine uAf ?_;refine uAd ?_;refine uAd (uAb ?_);refine uAa rfl rfl rfl (uAe rfl gU) ?_;refine uAf ?_;refine uAt ?_
 rw[hrole]
 refine uAW (ι:=PS × Bool × List Fs) { t:=[(2,_,_),(3,_,_),(4,_,_),(5,_,_),(6,_,_)],bx:=[(.l 4,_),(.l 5,_),(.o 0,_)],ow:=[(.b (.l 2) 1,_),(.b (.l 2) 2,_),(.b (.l 2) 3,_),(.b (.l 2) 4,_),(.b (.l 2) 5,_)] } (fun q=>[(7,true,xb q.2.1)]) (fun q=>[((.l 3),pbx l q.1),((.l 2),frC n q.2.2)]) (fun q=>q.1.at'≤l.length∧q.2.2.length≤n.fresh.length + q.1.at' + (if q.2.1=true then 0 else 1) ∧ ∃ k,l.length + 1≤k + q.1.at'∧(if q.2.1=true then frRA l role k q.1 q.2.2 else if symQ l q.1 [44]=true then frRA l role k q.1.go q.2.2 else (q.2.2,q.1))=frRd l p n.fresh) (fun q=>(if q.2.1=true then 1 else 0) + (l.length - q.1.at')) ((uAS l [58] (uAy l [] p).2,true,n.fresh)) (⟨a3,by simp,l.length + 1,by dsimp only; omega,by dsimp only; rw[if_pos rfl,← hrole]; rfl⟩) (uAj (⟨sx rfl,sx rfl,sx rfl,sx rfl,sx rfl,sx rfl,trivial⟩) (⟨sx rfl,sx rfl,sx rfl,sx rfl,sx rfl,trivial⟩) (⟨rfl,rfl,rfl,rfl,rfl,trivial⟩)) ?_
 intro q hok
 dsimp only [List.cons_append,List.nil_append] at *
 obtain ⟨q,first,out⟩:=q
 dsimp only at hok ⊢
 obtain ⟨hq,ho,k,hk,hi⟩:=hok
 have hro:=Fs.rows_len out
 cases first
 ·rw[if_neg (by simp)] at hi
  simp only [Bool.false_eq_true,if_false] at ho
  refine uAd ?_;refine uAd (uAb ?_);refine uAa rfl rfl rfl (uAc rfl gU) ?_;refine uAa rfl rfl rfl (uAc rfl gU) ?_;refine uAa rfl rfl rfl (uAn rfl gU rfl rfl rfl rfl rfl) ?_;refine uAx rfl rfl rfl rfl rfl rfl gU (fun hh=>gA ((fun hh=>hh) hh) (gA rfl (rfl))) (up (uCt l q _ (by omega) (le3 hl hq))) rfl ?_;refine uAa rfl rfl rfl (uAO rfl rfl gU (fun _ hi=>gP rfl hi)) ?_;refine uAf ?_;refine uAk (s:=⟨[(2,_,_),(3,_,_),(4,_,_),(5,_,_),(6,_,_),(7,_,_),(20,_,_)],[(.l 2,_),(.l 3,_),(.l 4,_),(.l 5,_),(.o 0,_)],[(.b (.l 2) 1,_),(.b (.l 2) 2,_),(.b (.l 2) 3,_),(.b (.l 2) 4,_),(.b (.l 2) 5,_)],[]⟩) (uAj (⟨sx rfl,sx rfl,sx rfl,sx rfl,sx rfl,sx rfl,sx rfl,trivial⟩) (⟨sx rfl,sx rfl,sx rfl,sx rfl,sx rfl,trivial⟩) (⟨rfl,rfl,rfl,rfl,rfl,trivial⟩)) ?_;refine uAo rfl (fun hc1=>?_) (fun hc1=>?_)
  ·try simp only [nn,uAi,T.rows_len,Tk.rows_len] at hc1
   have hc1:=hc1.resolve_left (by simp)
   have hlt:=(uCf hc1).1
   have hs : uAS l [44] q=q.go:=by rw[uAS,if_pos hc1]
   have hg : q.go.at'=q.at' + 1:=rfl
   have hq2 : q.go.at'≤l.length:=by omega
   rw[if_pos hc1] at hi
   obtain ⟨k,rfl⟩ : ∃ j,k=j + 1:=⟨k - 1,by omega⟩
   have hsy:=uAZ l q [44] (by omega) (le3 hl hq)
   rw[hs] at hsy
   refine uAp ?_;refine uAd ?_;refine uAt ?_;refine uAd ?_;refine uAd (uAb ?_);refine uAa rfl rfl rfl (uAc rfl gU) ?_;refine uAa rfl rfl rfl (uA1 rfl gU) ?_;refine uAf ?_;refine uAo rfl (fun hc2=>?_) (fun hc2=>?_)
   ·refine uAb ?_
    refine uAa rfl rfl rfl (uAn rfl gU rfl rfl rfl rfl rfl) ?_;refine uAx rfl rfl rfl rfl rfl rfl gU gU (up hsy) rfl ?_;refine uAs rfl (uAw rfl rfl rfl rfl rfl rfl rfl) ?_;refine uAf ?_;refine uAd (uAb ?_);refine uAa rfl rfl rfl (uAc rfl gU) ?_;refine uAa rfl rfl rfl (uBg rfl Tryz.underlying79 rfl gU) ?_;refine uAs rfl (uAK rfl rfl rfl) ?_;refine uAs rfl (uAw rfl rfl rfl rfl rfl rfl rfl) ?_;refine uAf ?_;refine uAk (s:=⟨[(2,_,_),(3,_,_),(4,_,_),(5,_,_),(6,_,_),(8,_,_)],[(.l 2,_),(.l 3,_),(.l 4,_),(.l 5,_),(.l 8,_),(.o 0,_)],[(.b (.l 2) 1,_),(.b (.l 2) 2,_),(.b (.l 2) 3,_),(.b (.l 2) 4,_),(.b (.l 2) 5,_)],[]⟩) (uAj (⟨sx rfl,sx rfl,sx rfl,sx rfl,sx rfl,sx rfl,trivial⟩) (⟨sx rfl,sx rfl,sx rfl,sx rfl,sx rfl,sx rfl,trivial⟩) (⟨rfl,rfl,rfl,rfl,rfl,trivial⟩)) ?_;refine uAd (uAb ?_)
    have b1:=(uA9 l [] q.go).1
    have b2:=(uJr l uBu (uAy l [] q.go).2).1
    have b3 : (chR l uBu (uAy l [] q.go).2).2.at'≤l.length:=uEi (uBJ hq2)
    refine uAa rfl rfl rfl (uAn rfl gU rfl rfl rfl rfl rfl) ?_;refine uAx rfl rfl rfl rfl rfl rfl gU gU (up (uBE l q.go (by omega) (le3 hl hq2))) rfl ?_;refine uAa rfl rfl rfl (uAc rfl gU) ?_;refine uAa rfl rfl rfl (uAv rfl gU rfl) ?_;refine uAa rfl rfl rfl (uAv rfl gU rfl) ?_;refine uAa rfl rfl rfl (uAg rfl gU rfl rfl) ?_;refine uAs rfl (uAw rfl rfl rfl rfl rfl rfl rfl) ?_;refine uAs rfl (uAw rfl rfl rfl rfl rfl rfl rfl) ?_;refine uAf ?_;refine uAk (s:=⟨[(2,_,_),(3,_,_),(4,_,_),(5,_,_),(6,_,_),(8,_,_)],[(.l 2,_),(.l 3,_),(.l 4,_),(.l 5,_),(.l 8,_),(.o 0,_)],[(.b (.l 2) 1,_),(.b (.l 2) 2,_),(.b (.l 2) 3,_),(.b (.l 2) 4,_),(.b (.l 2) 5,_)],[]⟩) (uAj (⟨sx rfl,sx rfl,sx rfl,sx rfl,sx rfl,sx rfl,trivial⟩) (⟨sx rfl,sx rfl,sx rfl,sx rfl,sx rfl,sx rfl,trivial⟩) (⟨rfl,rfl,rfl,rfl,rfl,trivial⟩)) ?_;refine uAd ?_;refine awp_drawn' (by kernel_rfl) ?_;refine uAG rfl rfl rfl rfl rfl rfl rfl gU rfl rfl rfl rfl rfl ?_;refine uAQ rfl rfl rfl rfl rfl rfl rfl gU gU (up uGz) rfl ?_;refine uAQ rfl rfl rfl rfl rfl rfl rfl gU gU (up (uDb l (uAy l [] q.go).2 uBu (by omega) (le3 hl (uBJ hq2)))) rfl ?_;refine uAl rfl rfl rfl rfl (uAc rfl gU) ?_;refine uAl rfl rfl rfl rfl (uAv rfl gU rfl) ?_;refine uAl rfl rfl rfl rfl (uAv rfl gU rfl) ?_
    refine uAl rfl rfl rfl rfl (uAg rfl gU rfl rfl) ?_;refine uAT rfl rfl rfl rfl rfl rfl rfl rfl rfl rfl rfl rfl ?_;refine uAT rfl rfl rfl rfl rfl rfl rfl rfl rfl rfl rfl rfl ?_;refine uA2 (by kernel_rfl) ?_;refine uAk (s:=⟨[(2,_,_),(3,_,_),(4,_,_),(5,_,_),(6,_,_),(8,_,_)],[(.l 2,_),(.l 3,_),(.l 4,_),(.l 5,_),(.l 8,_),(.o 0,_)],[(.b (.l 2) 1,_),(.b (.l 2) 2,_),(.b (.l 2) 3,_),(.b (.l 2) 4,_),(.b (.l 2) 5,_)],[]⟩) (uAj (⟨sx rfl,sx rfl,sx rfl,sx rfl,sx rfl,sx rfl,trivial⟩) (⟨sx rfl,sx rfl,sx rfl,sx rfl,sx rfl,sx rfl,trivial⟩) (⟨(ak rfl (ak rfl (ak rfl (ak rfl (ak rfl (ak rfl (ak rfl (ak rfl (ak rfl (rfl)))))))))),(ak rfl (ak rfl (ak rfl (ak rfl (ak rfl (ak rfl (ak rfl (ak rfl (ak rfl (rfl)))))))))),(ak rfl (ak rfl (ak rfl (ak rfl (ak rfl (ak rfl (ak rfl (ak rfl (ak rfl (rfl)))))))))),(ak rfl (ak rfl (ak rfl (ak rfl (ak rfl (ak rfl (ak rfl (ak rfl (ak rfl (rfl)))))))))),(ak rfl (ak rfl (ak rfl (ak rfl (ak rfl (ak rfl (ak rfl (ak rfl (ak rfl (rfl)))))))))),trivial⟩)) ?_;refine uAd (uAb ?_);refine uAa rfl rfl rfl (uAg rfl gU rfl rfl) ?_;refine uAs rfl (uBp rfl rfl rfl rfl rfl rfl rfl) ?_;refine uAa rfl rfl rfl (uAn rfl gU rfl rfl rfl rfl rfl) ?_;refine uAR (xs:=[_]) rfl rfl rfl rfl rfl rfl rfl rfl rfl gU rfl ?_;refine uAs rfl (uA0 rfl rfl rfl rfl rfl rfl rfl (by first|omega|(simp only [List.length_append,List.length_singleton,Fs.rows_len]; omega)) (by first|omega|(simp only [List.length_append,List.length_singleton,Fs.rows_len]; omega))) ?_
    refine uAa rfl rfl rfl (uAg rfl gU rfl rfl) ?_;refine uAs rfl (uBi rfl rfl rfl rfl rfl rfl rfl) ?_;refine uAf ?_;refine uAk (s:=⟨[(2,_,_),(3,_,_),(4,_,_),(5,_,_),(6,_,_)],[(.l 2,_),(.l 3,_),(.l 4,_),(.l 5,_),(.o 0,_)],[(.b (.l 2) 1,_),(.b (.l 2) 2,_),(.b (.l 2) 3,_),(.b (.l 2) 4,_),(.b (.l 2) 5,_)],[]⟩) (uAj (⟨sx rfl,sx rfl,sx rfl,sx rfl,sx rfl,trivial⟩) (⟨sx rfl,sx rfl,sx rfl,sx rfl,sx rfl,trivial⟩) (⟨rfl,rfl,rfl,rfl,rfl,trivial⟩)) ?_;refine uAd (uAb ?_);refine uAa rfl rfl rfl (uAg rfl gU rfl rfl) ?_;refine uAa rfl rfl rfl (uAh rfl gU rfl rfl rfl rfl) ?_;refine uAf ?_;refine uAo rfl (fun hc3=>?_) (fun hc3=>?_)
    ·try simp only [nn,uAi,T.rows_len,Tk.rows_len] at hc3
     rw[frRA,if_pos hc3] at hi
     rw[← hi]
     refine uAk (s:=⟨[(2,_,_),(3,_,_),(4,_,_),(5,_,_)],[(.l 2,_),(.l 3,_),(.l 4,_),(.l 5,_),(.o 0,_)],[(.b (.l 2) 1,_),(.b (.l 2) 2,_),(.b (.l 2) 3,_),(.b (.l 2) 4,_),(.b (.l 2) 5,_)],[]⟩) (uAj (⟨sx rfl,sx rfl,sx rfl,sx rfl,trivial⟩) (⟨sx rfl,sx rfl,sx rfl,sx rfl,sx rfl,trivial⟩) (⟨rfl,rfl,rfl,rfl,rfl,trivial⟩)) ?_;refine uBh (.l 2) rfl (fun w1 w2 w3 w4 w5=>?_);refine uAk (s:=⟨[(2,_,_),(3,_,_),(4,_,_),(5,_,_)],[(.l 2,_),(.l 3,_),(.l 4,_),(.l 5,_),(.o 0,_)],[(.b (.l 2) 1,_),(.b (.l 2) 2,_),(.b (.l 2) 3,_),(.b (.l 2) 4,_),(.b (.l 2) 5,_)],[]⟩) (uAj (⟨sx rfl,sx rfl,sx rfl,sx rfl,trivial⟩) (⟨sx rfl,sx rfl,sx rfl,sx rfl,sx rfl,trivial⟩) (⟨rfl,rfl,rfl,rfl,rfl,trivial⟩)) ?_;refine uAd ?_;refine awp_drawn' (by kernel_rfl) ?_;refine uAG rfl rfl rfl rfl rfl rfl rfl gU rfl rfl rfl rfl rfl ?_;refine uAG rfl rfl rfl rfl rfl rfl rfl gU rfl rfl rfl rfl rfl ?_;refine uAT rfl rfl rfl rfl rfl rfl rfl rfl rfl rfl rfl rfl ?_;refine uAT rfl rfl rfl rfl rfl rfl rfl rfl rfl rfl rfl rfl ?_;refine uA2 (by kernel_rfl) ?_;refine uAk (s:=⟨[(2,_,_),(4,_,_),(5,_,_)],[(.l 2,_),(.l 4,_),(.l 5,_),(.o 0,_)],[(.b (.l 2) 1,_),(.b (.l 2) 2,_),(.b (.l 2) 3,_),(.b (.l 2) 4,_),(.b (.l 2) 5,_)],[]⟩) (uAj (⟨sx rfl,sx rfl,sx rfl,trivial⟩) (⟨sx rfl,sx rfl,sx rfl,sx rfl,trivial⟩) (⟨(ak rfl (ak rfl (ak rfl (ak rfl (rfl))))),(ak rfl (ak rfl (ak rfl (ak rfl (rfl))))),(ak rfl (ak rfl (ak rfl (ak rfl (rfl))))),(ak rfl (ak rfl (ak rfl (ak rfl (rfl))))),(ak rfl (ak rfl (ak rfl (ak rfl (rfl))))),trivial⟩)) ?_
     refine uBn (.l 4) (.l 2) rfl rfl rfl rfl rfl ?_;refine uAk (s:=⟨[(2,_,_),(4,_,_),(5,_,_)],[(.l 2,_),(.l 4,_),(.l 5,_),(.o 0,_)],[(.b (.l 4) 1,_),(.b (.l 4) 2,_),(.b (.l 4) 3,_),(.b (.l 4) 4,_),(.b (.l 4) 5,_)],[]⟩) (uAj (⟨sx rfl,sx rfl,sx rfl,trivial⟩) (⟨sx rfl,sx rfl,sx rfl,sx rfl,trivial⟩) (⟨rfl,rfl,rfl,rfl,rfl,trivial⟩)) ?_;refine uAq ?_
     repeat(first|refine tR ?_|refine bR ?_)
     refine uBx rfl ?_ ⟨⟨_,rfl,rfl⟩,trivial⟩ (by simp) rfl rfl rfl rfl rfl rfl;exact congrArg (fun z=>X.tup [.agg (narC n.name (strR n.roles) z (strR n.tags) (Sp.rows n.steps) (Gl.rows n.goals)), .agg (pbx l (chR l uBu (uAy l [] q.go).2).2)]) (Fs.rows_app out [⟨role,(uAy l [] q.go).1,(chR l uBu (uAy l [] q.go).2).1⟩]).symm
    ·try simp only [nn,uAi,T.rows_len,Tk.rows_len] at hc3
     rw[frRA,if_neg (by rw[hc3]; simp)] at hi
     have b4:=uMJ hc3
     refine uAp ?_;refine uAb ?_;refine uAa rfl rfl rfl (uAe rfl gU) ?_;refine uAf ?_;refine ⟨((chR l uBu (uAy l [] q.go).2).2,false,out++[⟨role,(uAy l [] q.go).1,(chR l uBu (uAy l [] q.go).2).1⟩]),?_,?_,uAj (⟨⟨_,rfl,?_⟩,⟨sx rfl,sx rfl,sx rfl,sx rfl,sx rfl,trivial⟩⟩) (⟨⟨_,rfl,?_⟩,⟨⟨_,rfl,?_⟩,⟨sx rfl,sx rfl,sx rfl,trivial⟩⟩⟩) (⟨rfl,rfl,rfl,rfl,rfl,trivial⟩)⟩
     ·refine ⟨b3,by dsimp only; simp only [List.length_append,List.length_singleton,Bool.false_eq_true,if_false]; omega,k,by dsimp only; omega,?_⟩
      rw[if_neg (by simp)]; exact hi
     ·dsimp only
      simp only [Bool.false_eq_true,if_false,if_true]
      omega
     all_goals first|rfl|exact congrArg (fun z=>some (narC n.name (strR n.roles) z (strR n.tags) (Sp.rows n.steps) (Gl.rows n.goals))) (Fs.rows_app out [⟨role,(uAy l [] q.go).1,(chR l uBu (uAy l [] q.go).2).1⟩]).symm|exact congrArg (fun z=>narC n.name (strR n.roles) z (strR n.tags) (Sp.rows n.steps) (Gl.rows n.goals)) (Fs.rows_app out [⟨role,(uAy l [] q.go).1,(chR l uBu (uAy l [] q.go).2).1⟩]).symm
   ·exfalso
    simp at hc2
  ·try simp only [nn,uAi,T.rows_len,Tk.rows_len] at hc1
   have hc1:=hc1.2
   rw[if_neg (by rw[hc1]; simp)] at hi
   rw[← hi]
   refine uAL ?_
   repeat(first|refine uAE ?_|refine uAF ?_|refine uAB rfl ?_)
   refine uAk (s:=⟨[(2,_,_),(3,_,_),(4,_,_),(5,_,_)],[(.l 2,_),(.l 3,_),(.l 4,_),(.l 5,_),(.o 0,_)],[(.b (.l 2) 1,_),(.b (.l 2) 2,_),(.b (.l 2) 3,_),(.b (.l 2) 4,_),(.b (.l 2) 5,_)],[]⟩) (uAj (⟨sx rfl,sx rfl,sx rfl,sx rfl,trivial⟩) (⟨sx rfl,sx rfl,sx rfl,sx rfl,sx rfl,trivial⟩) (⟨rfl,rfl,rfl,rfl,rfl,trivial⟩)) ?_;refine uBh (.l 2) rfl (fun w1 w2 w3 w4 w5=>?_);refine uAk (s:=⟨[(2,_,_),(3,_,_),(4,_,_),(5,_,_)],[(.l 2,_),(.l 3,_),(.l 4,_),(.l 5,_),(.o 0,_)],[(.b (.l 2) 1,_),(.b (.l 2) 2,_),(.b (.l 2) 3,_),(.b (.l 2) 4,_),(.b (.l 2) 5,_)],[]⟩) (uAj (⟨sx rfl,sx rfl,sx rfl,sx rfl,trivial⟩) (⟨sx rfl,sx rfl,sx rfl,sx rfl,sx rfl,trivial⟩) (⟨rfl,rfl,rfl,rfl,rfl,trivial⟩)) ?_;refine uAd ?_;refine awp_drawn' (by kernel_rfl) ?_;refine uAG rfl rfl rfl rfl rfl rfl rfl gU rfl rfl rfl rfl rfl ?_;refine uAG rfl rfl rfl rfl rfl rfl rfl gU rfl rfl rfl rfl rfl ?_;refine uAT rfl rfl rfl rfl rfl rfl rfl rfl rfl rfl rfl rfl ?_;refine uAT rfl rfl rfl rfl rfl rfl rfl rfl rfl rfl rfl rfl ?_;refine uA2 (by kernel_rfl) ?_;refine uAk (s:=⟨[(2,_,_),(4,_,_),(5,_,_)],[(.l 2,_),(.l 4,_),(.l 5,_),(.o 0,_)],[(.b (.l 2) 1,_),(.b (.l 2) 2,_),(.b (.l 2) 3,_),(.b (.l 2) 4,_),(.b (.l 2) 5,_)],[]⟩) (uAj (⟨sx rfl,sx rfl,sx rfl,trivial⟩) (⟨sx rfl,sx rfl,sx rfl,sx rfl,trivial⟩) (⟨(ak rfl (ak rfl (ak rfl (ak rfl (rfl))))),(ak rfl (ak rfl (ak rfl (ak rfl (rfl))))),(ak rfl (ak rfl (ak rfl (ak rfl (rfl))))),(ak rfl (ak rfl (ak rfl (ak rfl (rfl))))),(ak rfl (ak rfl (ak rfl (ak rfl (rfl))))),trivial⟩)) ?_
   refine uBn (.l 4) (.l 2) rfl rfl rfl rfl rfl ?_;refine uAk (s:=⟨[(2,_,_),(4,_,_),(5,_,_)],[(.l 2,_),(.l 4,_),(.l 5,_),(.o 0,_)],[(.b (.l 4) 1,_),(.b (.l 4) 2,_),(.b (.l 4) 3,_),(.b (.l 4) 4,_),(.b (.l 4) 5,_)],[]⟩) (uAj (⟨sx rfl,sx rfl,sx rfl,trivial⟩) (⟨sx rfl,sx rfl,sx rfl,sx rfl,trivial⟩) (⟨rfl,rfl,rfl,rfl,rfl,trivial⟩)) ?_;refine uAq ?_
   repeat(first|refine tR ?_|refine bR ?_)
   refine uBx rfl ?_ ⟨⟨_,rfl,rfl⟩,trivial⟩ (by simp) rfl rfl rfl rfl rfl rfl
   rfl
 ·rw[if_pos rfl] at hi
  simp only [if_true] at ho
  have hq2:=hq
  obtain ⟨k,rfl⟩ : ∃ j,k=j + 1:=⟨k - 1,by omega⟩
  refine uAd ?_;refine uAd (uAb ?_);refine uAa rfl rfl rfl (uAc rfl gU) ?_;refine uAa rfl rfl rfl (uAc rfl gU) ?_;refine uAa rfl rfl rfl (uAn rfl gU rfl rfl rfl rfl rfl) ?_;refine uAx rfl rfl rfl rfl rfl rfl gU (fun hh=>gA ((fun hh=>hh) hh) (gA rfl (rfl))) (up (uCt l q _ (by omega) (le3 hl hq))) rfl ?_;refine uAa rfl rfl rfl (uAO rfl rfl gU (fun _ hi=>gP rfl hi)) ?_;refine uAf ?_;refine uAk (s:=⟨[(2,_,_),(3,_,_),(4,_,_),(5,_,_),(6,_,_),(7,_,_),(20,_,_)],[(.l 2,_),(.l 3,_),(.l 4,_),(.l 5,_),(.o 0,_)],[(.b (.l 2) 1,_),(.b (.l 2) 2,_),(.b (.l 2) 3,_),(.b (.l 2) 4,_),(.b (.l 2) 5,_)],[]⟩) (uAj (⟨sx rfl,sx rfl,sx rfl,sx rfl,sx rfl,sx rfl,sx rfl,trivial⟩) (⟨sx rfl,sx rfl,sx rfl,sx rfl,sx rfl,trivial⟩) (⟨rfl,rfl,rfl,rfl,rfl,trivial⟩)) ?_;refine uAo rfl (fun hc1=>?_) (fun hc1=>?_)
  ·refine uAp ?_
   refine uAd ?_;refine uAt ?_;refine uAd ?_;refine uAd (uAb ?_);refine uAa rfl rfl rfl (uAc rfl gU) ?_;refine uAa rfl rfl rfl (uA1 rfl gU) ?_;refine uAf ?_;refine uAo rfl (fun hc2=>?_) (fun hc2=>?_)
   ·exfalso
    simp at hc2
   ·refine uAp ?_
    refine uAd (uAb ?_);refine uAa rfl rfl rfl (uAc rfl gU) ?_;refine uAa rfl rfl rfl (uBg rfl Tryz.underlying79 rfl gU) ?_;refine uAs rfl (uAK rfl rfl rfl) ?_;refine uAs rfl (uAw rfl rfl rfl rfl rfl rfl rfl) ?_;refine uAf ?_;refine uAk (s:=⟨[(2,_,_),(3,_,_),(4,_,_),(5,_,_),(6,_,_),(8,_,_)],[(.l 2,_),(.l 3,_),(.l 4,_),(.l 5,_),(.l 8,_),(.o 0,_)],[(.b (.l 2) 1,_),(.b (.l 2) 2,_),(.b (.l 2) 3,_),(.b (.l 2) 4,_),(.b (.l 2) 5,_)],[]⟩) (uAj (⟨sx rfl,sx rfl,sx rfl,sx rfl,sx rfl,sx rfl,trivial⟩) (⟨sx rfl,sx rfl,sx rfl,sx rfl,sx rfl,sx rfl,trivial⟩) (⟨rfl,rfl,rfl,rfl,rfl,trivial⟩)) ?_;refine uAd (uAb ?_)
    have b1:=(uA9 l [] q).1
    have b2:=(uJr l uBu (uAy l [] q).2).1
    have b3 : (chR l uBu (uAy l [] q).2).2.at'≤l.length:=uEi (uBJ hq2)
    refine uAa rfl rfl rfl (uAn rfl gU rfl rfl rfl rfl rfl) ?_;refine uAx rfl rfl rfl rfl rfl rfl gU gU (up (uBE l q (by omega) (le3 hl hq2))) rfl ?_;refine uAa rfl rfl rfl (uAc rfl gU) ?_;refine uAa rfl rfl rfl (uAv rfl gU rfl) ?_;refine uAa rfl rfl rfl (uAv rfl gU rfl) ?_;refine uAa rfl rfl rfl (uAg rfl gU rfl rfl) ?_;refine uAs rfl (uAw rfl rfl rfl rfl rfl rfl rfl) ?_;refine uAs rfl (uAw rfl rfl rfl rfl rfl rfl rfl) ?_;refine uAf ?_;refine uAk (s:=⟨[(2,_,_),(3,_,_),(4,_,_),(5,_,_),(6,_,_),(8,_,_)],[(.l 2,_),(.l 3,_),(.l 4,_),(.l 5,_),(.l 8,_),(.o 0,_)],[(.b (.l 2) 1,_),(.b (.l 2) 2,_),(.b (.l 2) 3,_),(.b (.l 2) 4,_),(.b (.l 2) 5,_)],[]⟩) (uAj (⟨sx rfl,sx rfl,sx rfl,sx rfl,sx rfl,sx rfl,trivial⟩) (⟨sx rfl,sx rfl,sx rfl,sx rfl,sx rfl,sx rfl,trivial⟩) (⟨rfl,rfl,rfl,rfl,rfl,trivial⟩)) ?_;refine uAd ?_;refine awp_drawn' (by kernel_rfl) ?_;refine uAG rfl rfl rfl rfl rfl rfl rfl gU rfl rfl rfl rfl rfl ?_;refine uAQ rfl rfl rfl rfl rfl rfl rfl gU gU (up uGz) rfl ?_;refine uAQ rfl rfl rfl rfl rfl rfl rfl gU gU (up (uDb l (uAy l [] q).2 uBu (by omega) (le3 hl (uBJ hq2)))) rfl ?_;refine uAl rfl rfl rfl rfl (uAc rfl gU) ?_;refine uAl rfl rfl rfl rfl (uAv rfl gU rfl) ?_;refine uAl rfl rfl rfl rfl (uAv rfl gU rfl) ?_
    refine uAl rfl rfl rfl rfl (uAg rfl gU rfl rfl) ?_;refine uAT rfl rfl rfl rfl rfl rfl rfl rfl rfl rfl rfl rfl ?_;refine uAT rfl rfl rfl rfl rfl rfl rfl rfl rfl rfl rfl rfl ?_;refine uA2 (by kernel_rfl) ?_;refine uAk (s:=⟨[(2,_,_),(3,_,_),(4,_,_),(5,_,_),(6,_,_),(8,_,_)],[(.l 2,_),(.l 3,_),(.l 4,_),(.l 5,_),(.l 8,_),(.o 0,_)],[(.b (.l 2) 1,_),(.b (.l 2) 2,_),(.b (.l 2) 3,_),(.b (.l 2) 4,_),(.b (.l 2) 5,_)],[]⟩) (uAj (⟨sx rfl,sx rfl,sx rfl,sx rfl,sx rfl,sx rfl,trivial⟩) (⟨sx rfl,sx rfl,sx rfl,sx rfl,sx rfl,sx rfl,trivial⟩) (⟨(ak rfl (ak rfl (ak rfl (ak rfl (ak rfl (ak rfl (ak rfl (ak rfl (ak rfl (rfl)))))))))),(ak rfl (ak rfl (ak rfl (ak rfl (ak rfl (ak rfl (ak rfl (ak rfl (ak rfl (rfl)))))))))),(ak rfl (ak rfl (ak rfl (ak rfl (ak rfl (ak rfl (ak rfl (ak rfl (ak rfl (rfl)))))))))),(ak rfl (ak rfl (ak rfl (ak rfl (ak rfl (ak rfl (ak rfl (ak rfl (ak rfl (rfl)))))))))),(ak rfl (ak rfl (ak rfl (ak rfl (ak rfl (ak rfl (ak rfl (ak rfl (ak rfl (rfl)))))))))),trivial⟩)) ?_;refine uAd (uAb ?_);refine uAa rfl rfl rfl (uAg rfl gU rfl rfl) ?_;refine uAs rfl (uBp rfl rfl rfl rfl rfl rfl rfl) ?_;refine uAa rfl rfl rfl (uAn rfl gU rfl rfl rfl rfl rfl) ?_;refine uAR (xs:=[_]) rfl rfl rfl rfl rfl rfl rfl rfl rfl gU rfl ?_;refine uAs rfl (uA0 rfl rfl rfl rfl rfl rfl rfl (by first|omega|(simp only [List.length_append,List.length_singleton,Fs.rows_len]; omega)) (by first|omega|(simp only [List.length_append,List.length_singleton,Fs.rows_len]; omega))) ?_
    refine uAa rfl rfl rfl (uAg rfl gU rfl rfl) ?_;refine uAs rfl (uBi rfl rfl rfl rfl rfl rfl rfl) ?_;refine uAf ?_;refine uAk (s:=⟨[(2,_,_),(3,_,_),(4,_,_),(5,_,_),(6,_,_)],[(.l 2,_),(.l 3,_),(.l 4,_),(.l 5,_),(.o 0,_)],[(.b (.l 2) 1,_),(.b (.l 2) 2,_),(.b (.l 2) 3,_),(.b (.l 2) 4,_),(.b (.l 2) 5,_)],[]⟩) (uAj (⟨sx rfl,sx rfl,sx rfl,sx rfl,sx rfl,trivial⟩) (⟨sx rfl,sx rfl,sx rfl,sx rfl,sx rfl,trivial⟩) (⟨rfl,rfl,rfl,rfl,rfl,trivial⟩)) ?_;refine uAd (uAb ?_);refine uAa rfl rfl rfl (uAg rfl gU rfl rfl) ?_;refine uAa rfl rfl rfl (uAh rfl gU rfl rfl rfl rfl) ?_;refine uAf ?_;refine uAo rfl (fun hc3=>?_) (fun hc3=>?_)
    ·try simp only [nn,uAi,T.rows_len,Tk.rows_len] at hc3
     rw[frRA,if_pos hc3] at hi
     rw[← hi]
     refine uAk (s:=⟨[(2,_,_),(3,_,_),(4,_,_),(5,_,_)],[(.l 2,_),(.l 3,_),(.l 4,_),(.l 5,_),(.o 0,_)],[(.b (.l 2) 1,_),(.b (.l 2) 2,_),(.b (.l 2) 3,_),(.b (.l 2) 4,_),(.b (.l 2) 5,_)],[]⟩) (uAj (⟨sx rfl,sx rfl,sx rfl,sx rfl,trivial⟩) (⟨sx rfl,sx rfl,sx rfl,sx rfl,sx rfl,trivial⟩) (⟨rfl,rfl,rfl,rfl,rfl,trivial⟩)) ?_;refine uBh (.l 2) rfl (fun w1 w2 w3 w4 w5=>?_);refine uAk (s:=⟨[(2,_,_),(3,_,_),(4,_,_),(5,_,_)],[(.l 2,_),(.l 3,_),(.l 4,_),(.l 5,_),(.o 0,_)],[(.b (.l 2) 1,_),(.b (.l 2) 2,_),(.b (.l 2) 3,_),(.b (.l 2) 4,_),(.b (.l 2) 5,_)],[]⟩) (uAj (⟨sx rfl,sx rfl,sx rfl,sx rfl,trivial⟩) (⟨sx rfl,sx rfl,sx rfl,sx rfl,sx rfl,trivial⟩) (⟨rfl,rfl,rfl,rfl,rfl,trivial⟩)) ?_;refine uAd ?_;refine awp_drawn' (by kernel_rfl) ?_;refine uAG rfl rfl rfl rfl rfl rfl rfl gU rfl rfl rfl rfl rfl ?_;refine uAG rfl rfl rfl rfl rfl rfl rfl gU rfl rfl rfl rfl rfl ?_;refine uAT rfl rfl rfl rfl rfl rfl rfl rfl rfl rfl rfl rfl ?_;refine uAT rfl rfl rfl rfl rfl rfl rfl rfl rfl rfl rfl rfl ?_;refine uA2 (by kernel_rfl) ?_;refine uAk (s:=⟨[(2,_,_),(4,_,_),(5,_,_)],[(.l 2,_),(.l 4,_),(.l 5,_),(.o 0,_)],[(.b (.l 2) 1,_),(.b (.l 2) 2,_),(.b (.l 2) 3,_),(.b (.l 2) 4,_),(.b (.l 2) 5,_)],[]⟩) (uAj (⟨sx rfl,sx rfl,sx rfl,trivial⟩) (⟨sx rfl,sx rfl,sx rfl,sx rfl,trivial⟩) (⟨(ak rfl (ak rfl (ak rfl (ak rfl (rfl))))),(ak rfl (ak rfl (ak rfl (ak rfl (rfl))))),(ak rfl (ak rfl (ak rfl (ak rfl (rfl))))),(ak rfl (ak rfl (ak rfl (ak rfl (rfl))))),(ak rfl (ak rfl (ak rfl (ak rfl (rfl))))),trivial⟩)) ?_
     refine uBn (.l 4) (.l 2) rfl rfl rfl rfl rfl ?_;refine uAk (s:=⟨[(2,_,_),(4,_,_),(5,_,_)],[(.l 2,_),(.l 4,_),(.l 5,_),(.o 0,_)],[(.b (.l 4) 1,_),(.b (.l 4) 2,_),(.b (.l 4) 3,_),(.b (.l 4) 4,_),(.b (.l 4) 5,_)],[]⟩) (uAj (⟨sx rfl,sx rfl,sx rfl,trivial⟩) (⟨sx rfl,sx rfl,sx rfl,sx rfl,trivial⟩) (⟨rfl,rfl,rfl,rfl,rfl,trivial⟩)) ?_;refine uAq ?_
     repeat(first|refine tR ?_|refine bR ?_)
     refine uBx rfl ?_ ⟨⟨_,rfl,rfl⟩,trivial⟩ (by simp) rfl rfl rfl rfl rfl rfl;exact congrArg (fun z=>X.tup [.agg (narC n.name (strR n.roles) z (strR n.tags) (Sp.rows n.steps) (Gl.rows n.goals)), .agg (pbx l (chR l uBu (uAy l [] q).2).2)]) (Fs.rows_app out [⟨role,(uAy l [] q).1,(chR l uBu (uAy l [] q).2).1⟩]).symm
    ·try simp only [nn,uAi,T.rows_len,Tk.rows_len] at hc3
     rw[frRA,if_neg (by rw[hc3]; simp)] at hi
     have b4:=uMJ hc3
     refine uAp ?_;refine uAb ?_;refine uAa rfl rfl rfl (uAe rfl gU) ?_;refine uAf ?_;refine ⟨((chR l uBu (uAy l [] q).2).2,false,out++[⟨role,(uAy l [] q).1,(chR l uBu (uAy l [] q).2).1⟩]),?_,?_,uAj (⟨⟨_,rfl,?_⟩,⟨sx rfl,sx rfl,sx rfl,sx rfl,sx rfl,trivial⟩⟩) (⟨⟨_,rfl,?_⟩,⟨⟨_,rfl,?_⟩,⟨sx rfl,sx rfl,sx rfl,trivial⟩⟩⟩) (⟨rfl,rfl,rfl,rfl,rfl,trivial⟩)⟩
     ·refine ⟨b3,by dsimp only; simp only [List.length_append,List.length_singleton,Bool.false_eq_true,if_false]; omega,k,by dsimp only; omega,?_⟩
      rw[if_neg (by simp)]; exact hi
     ·dsimp only
      simp only [Bool.false_eq_true,if_false,if_true]
      omega
     all_goals first|rfl|exact congrArg (fun z=>some (narC n.name (strR n.roles) z (strR n.tags) (Sp.rows n.steps) (Gl.rows n.goals))) (Fs.rows_app out [⟨role,(uAy l [] q).1,(chR l uBu (uAy l [] q).2).1⟩]).symm|exact congrArg (fun z=>narC n.name (strR n.roles) z (strR n.tags) (Sp.rows n.steps) (Gl.rows n.goals)) (Fs.rows_app out [⟨role,(uAy l [] q).1,(chR l uBu (uAy l [] q).2).1⟩]).symm
  ·exfalso
   simp at hc1
theorem uJJ (l : List Tk) (n : Nar) (line : Int) (q : PS) : uCc l n line 1 q=({ n with roles:=n.roles++(uBB l q).1 },(uBB l q).2):=by rw[uCc,if_pos rfl]
theorem uJO (l : List Tk) (n : Nar) (line : Int) (q : PS) : uCc l n line 2 q=({ n with fresh:=(frRd l q n.fresh).1 },(frRd l q n.fresh).2):=by rw[uCc,if_neg (by decide),if_pos rfl]
theorem uKP (l : List Tk) (n : Nar) (line : Int) (q : PS) : uCc l n line 3 q=({ n with tags:=n.tags++(uBB l q).1 },(uBB l q).2):=by rw[uCc,if_neg (by decide),if_neg (by decide),if_pos rfl]
theorem uKq (l : List Tk) (n : Nar) (line : Int) (q : PS) : uCc l n line 4 q=({ n with steps:=n.steps++[(uEK l line q).1] },(uEK l line q).2):=by rw[uCc,if_neg (by decide),if_neg (by decide),if_neg (by decide),if_pos rfl]
theorem uK7 (l : List Tk) (n : Nar) (line : Int) (q : PS) : uCc l n line 5 q=({ n with goals:=n.goals++[(uDP l line q).1] },(uDP l line q).2):=by rw[uCc,if_neg (by decide),if_neg (by decide),if_neg (by decide),if_neg (by decide),if_pos rfl]
theorem uKH (l : List Tk) (n : Nar) (line : Int) (q : PS) {k : Int} (h1 : k≠1) (h2 : k≠2) (h3 : k≠3) (h4 : k≠4) (h5 : k≠5) : uCc l n line k q=(n,q):=by rw[uCc,if_neg h1,if_neg h2,if_neg h3,if_neg h4,if_neg h5]
theorem uCk {l : List Tk} {n n' : Nar} {p q : PS} {line : Int} {k : Int} (hw : chR l uDz p=(k,q)) (hl : uCB l p=line) {r : PS} (h : uCc l n line k q=(n',r)) : uD4 l n p=(n',uAS l [59] r):=by
 unfold uD4; rw[hl,hw]; dsimp only; rw[h]
theorem uPX (l : List Tk) (out : List Fs) : Fwd l (fun p=>frRd l p out):=fun p=>by
 have h:=(uKO l out p).1
 have h2:=uIw l out p
 dsimp only at h h2 ⊢
 rw[h]; exact h2
theorem uOF (l : List Tk) (line : Int) : Fwd l (uEK l line):=fun p=>by rw[(uJQ l line p).1]; exact uHr l line p
theorem uOI (l : List Tk) (line : Int) : Fwd l (uDP l line):=fun p=>by rw[(uKA l line p).1]; exact uG3 l line p
set_option maxHeartbeats 16000000 in
theorem uLi (l : List Tk) (p : PS) (n : Nar) (u1 u2 u3 u4 u5 : Value) (hl : l.length≤2000000) (hp : p.at'≤l.length) (hn : n.Le 2000000) :
  CtrO sysO 108 [.v (.agg (soC n u1 u2 u3 u4 u5)),xr l p] [soC n u1 u2 u3 u4 u5] osR (xnr l (uD4 l n p)) [soC n u1 u2 u3 u4 u5] .res:=by
 have hrl:=Tk.rows_len l
 have hr1:=uAi n.roles
 have hr2:=uAi n.tags
 have hq1:=uEi (ws:=uDz) hp
 obtain ⟨b1,b2,b3,b4,b5⟩:=hn
 obtain ⟨k,q,hk⟩ : ∃ k q,chR l uDz p=(k,q):=⟨_,_,rfl⟩
 have hns:=uDb l p uDz (by omega) (by omega)
 rw[hk] at hns hq1
 dsimp only at hns hq1
 have hnl : (uBB l q).1.length≤2000001:=by
  have h1:=uE7 (uA9 l []) q
  have h2:=(uCR (uA9 l []) q).2 hq1
  unfold uBB; omega
 have hnr:=uAi (uBB l q).1
 have hq2 : (uBB l q).2.at'≤l.length:=(uCR (uA9 l []) q).2 hq1
 have hq3 : (frRd l q n.fresh).2.at'≤l.length:=(uPX l n.fresh q).2 hq1
 have hq4 : ∀ line,(uEK l line q).2.at'≤l.length:=fun line=>(uOF l line q).2 hq1
 have hq5 : ∀ line,(uDP l line q).2.at'≤l.length:=fun line=>(uOI l line q).2 hq1
 refine uBM Tryz.func108 rfl rfl rfl rfl rfl rfl rfl ?_;refine uAd (uAb ?_);refine uAs rfl (uAH rfl rfl rfl rfl) ?_;refine uAs rfl (uAH rfl rfl rfl rfl) ?_;refine uAs rfl (uAK rfl rfl rfl) ?_;refine uAs rfl (uAK rfl rfl rfl) ?_;refine uAf ?_;refine uAk (s:=⟨[(2,_,_),(3,_,_),(4,_,_),(5,_,_)],[(.l 2,_),(.l 3,_),(.l 4,_),(.l 5,_),(.o 0,_)],[(.b (.o 0) 1,_),(.b (.o 0) 2,_),(.b (.o 0) 3,_),(.b (.o 0) 4,_),(.b (.o 0) 5,_)],[]⟩) (uAj (⟨sx rfl,sx rfl,sx rfl,sx rfl,trivial⟩) (⟨sx rfl,sx rfl,sx rfl,sx rfl,sx rfl,trivial⟩) (⟨rfl,rfl,rfl,rfl,rfl,trivial⟩)) ?_;refine uBn (.l 2) (.o 0) rfl rfl rfl rfl rfl ?_;refine uAk (s:=⟨[(2,_,_),(3,_,_),(4,_,_),(5,_,_)],[(.l 2,_),(.l 3,_),(.l 4,_),(.l 5,_),(.o 0,_)],[(.b (.l 2) 1,_),(.b (.l 2) 2,_),(.b (.l 2) 3,_),(.b (.l 2) 4,_),(.b (.l 2) 5,_)],[]⟩) (uAj (⟨sx rfl,sx rfl,sx rfl,sx rfl,trivial⟩) (⟨sx rfl,sx rfl,sx rfl,sx rfl,sx rfl,trivial⟩) (⟨rfl,rfl,rfl,rfl,rfl,trivial⟩)) ?_;refine uAd (uAb ?_);refine uAa rfl rfl rfl (uAe rfl gU) ?_;refine uAf ?_;refine uAd ?_;refine uAd (uAb ?_);refine uAa rfl rfl rfl (uAg rfl gU rfl rfl) ?_;refine uAa rfl rfl rfl (uAh rfl gU rfl rfl rfl rfl) ?_;refine uAa rfl rfl rfl (uAg rfl gU rfl rfl) ?_
 refine uAa rfl rfl rfl (uAh rfl gU rfl rfl rfl rfl) ?_;refine uAI rfl rfl rfl rfl rfl gU rfl rfl ?_ (fun hh=>by simp at hh); intro hlen;refine uAa rfl rfl rfl (uAm rfl rfl gU gU rfl) ?_;refine uAf ?_;refine uAk (s:=⟨[(2,_,_),(3,_,_),(4,_,_),(5,_,_),(6,_,_),(14,_,_)],[(.l 2,_),(.l 3,_),(.l 4,_),(.l 5,_),(.o 0,_)],[(.b (.l 2) 1,_),(.b (.l 2) 2,_),(.b (.l 2) 3,_),(.b (.l 2) 4,_),(.b (.l 2) 5,_)],[]⟩) (uAj (⟨sx rfl,sx rfl,sx rfl,sx rfl,sx rfl,sx rfl,trivial⟩) (⟨sx rfl,sx rfl,sx rfl,sx rfl,sx rfl,trivial⟩) (⟨rfl,rfl,rfl,rfl,rfl,trivial⟩)) ?_;refine uAo rfl (fun hcx=>?_) (fun hcx=>?_)
 ·try simp only [nn,uAi,T.rows_len,Tk.rows_len] at hcx
  have hline : uCB l p=(l.getD p.at' tk0).line:=by rw[uCB,if_pos (by omega)]
  refine uAb ?_;refine uAa rfl rfl rfl (uAg rfl gU rfl rfl) ?_;refine uAa rfl rfl rfl (uAh rfl gU rfl rfl rfl rfl) ?_;refine uAa rfl rfl rfl (uAg rfl gU rfl rfl) ?_;refine uAa rfl rfl rfl (uAh rfl gU rfl rfl rfl rfl) ?_;refine uAa rfl rfl rfl (uAr (j:=p.at') rfl rfl gU gU rfl rfl (by first|omega|(simp at hh ⊢; omega)) (fun hh=>Tk.rows_at (by first|omega|(simp at hh ⊢; omega)))) ?_;refine uAa rfl rfl rfl (uAU rfl gU rfl rfl) ?_;refine uAa rfl rfl rfl (uAM rfl gU rfl rfl rfl) ?_;refine uAa rfl rfl rfl (uAe rfl gU) ?_;refine uAf ?_;refine uAk (s:=⟨[(2,_,_),(3,_,_),(4,_,_),(5,_,_),(6,_,_)],[(.l 2,_),(.l 3,_),(.l 4,_),(.l 5,_),(.o 0,_)],[(.b (.l 2) 1,_),(.b (.l 2) 2,_),(.b (.l 2) 3,_),(.b (.l 2) 4,_),(.b (.l 2) 5,_)],[]⟩) (uAj (⟨sx rfl,sx rfl,sx rfl,sx rfl,sx rfl,trivial⟩) (⟨sx rfl,sx rfl,sx rfl,sx rfl,sx rfl,trivial⟩) (⟨rfl,rfl,rfl,rfl,rfl,trivial⟩)) ?_;refine uAd (uAb ?_);refine uAa rfl rfl rfl (uAn rfl gU rfl rfl rfl rfl rfl) ?_;refine uAR (xs:=[_,_,_,_,_,_]) rfl rfl rfl rfl rfl rfl rfl rfl rfl gU rfl ?_;refine uAx rfl rfl rfl rfl rfl rfl gU gU (up hns) rfl ?_;refine uAa rfl rfl rfl (uAc rfl gU) ?_;refine uAa rfl rfl rfl (uAv rfl gU rfl) ?_;refine uAa rfl rfl rfl (uAv rfl gU rfl) ?_
  refine uAa rfl rfl rfl (uAe rfl gU) ?_;refine uAs rfl (uAw rfl rfl rfl rfl rfl rfl rfl) ?_;refine uAf ?_;refine uAk (s:=⟨[(2,_,_),(3,_,_),(4,_,_),(5,_,_),(6,_,_),(7,_,_)],[(.l 2,_),(.l 3,_),(.l 4,_),(.l 5,_),(.o 0,_)],[(.b (.l 2) 1,_),(.b (.l 2) 2,_),(.b (.l 2) 3,_),(.b (.l 2) 4,_),(.b (.l 2) 5,_)],[]⟩) (uAj (⟨sx rfl,sx rfl,sx rfl,sx rfl,sx rfl,sx rfl,trivial⟩) (⟨sx rfl,sx rfl,sx rfl,sx rfl,sx rfl,trivial⟩) (⟨rfl,rfl,rfl,rfl,rfl,trivial⟩)) ?_;refine uAd (uAb ?_);refine uAs rfl (uBe (.inr rfl) rfl rfl) ?_;refine uAf ?_;refine uAd ?_;refine uAd (uAb ?_);refine uAa rfl rfl rfl (uAc rfl gU) ?_;refine uAf ?_;refine uAt ?_;refine uAd (uAb ?_);refine uAa rfl rfl rfl (uAm rfl rfl gU gU rfl) ?_;refine uAa rfl rfl rfl (uAe rfl gU) ?_;refine uAf ?_;refine uAo rfl (fun hcu1=>?_) (fun hcu1=>?_)
  ·try simp only [nn,uAi,T.rows_len,Tk.rows_len] at hcu1
   subst hcu1
   rw[uCk hk hline (uJJ l n (l.getD p.at' tk0).line q)]
   refine uAd (uAb ?_);refine uAa rfl rfl rfl (uAn rfl gU rfl rfl rfl rfl rfl) ?_;refine uAx rfl rfl rfl rfl rfl rfl gU gU (up (uC1 l q (by omega) hq1)) rfl ?_;refine uAa rfl rfl rfl (uAc rfl gU) ?_;refine uAa rfl rfl rfl (uAv rfl gU rfl) ?_;refine uAa rfl rfl rfl (uAv rfl gU rfl) ?_;refine uAa rfl rfl rfl (uAe rfl gU) ?_;refine uAs rfl (uAw rfl rfl rfl rfl rfl rfl rfl) ?_;refine uAf ?_;refine uAk (s:=⟨[(2,_,_),(3,_,_),(4,_,_),(5,_,_),(8,_,_)],[(.l 2,_),(.l 3,_),(.l 4,_),(.l 5,_),(.o 0,_)],[(.b (.l 2) 1,_),(.b (.l 2) 2,_),(.b (.l 2) 3,_),(.b (.l 2) 4,_),(.b (.l 2) 5,_)],[]⟩) (uAj (⟨sx rfl,sx rfl,sx rfl,sx rfl,sx rfl,trivial⟩) (⟨sx rfl,sx rfl,sx rfl,sx rfl,sx rfl,trivial⟩) (⟨rfl,rfl,rfl,rfl,rfl,trivial⟩)) ?_;refine uAb ?_;refine uAa rfl rfl rfl (uAg rfl gU rfl rfl) ?_;refine uAs rfl (uBp rfl rfl rfl rfl rfl rfl rfl) ?_;refine uAa rfl rfl rfl (uAc rfl gU) ?_;refine uAs rfl (uA0 rfl rfl rfl rfl rfl rfl rfl (by first|omega|(simp only [List.length_append,List.length_singleton,uAi]; omega)) (by first|omega|(simp only [List.length_append,List.length_singleton,uAi]; omega))) ?_;refine uAa rfl rfl rfl (uAg rfl gU rfl rfl) ?_;refine uAs rfl (uBi rfl rfl rfl rfl rfl rfl rfl) ?_
   refine uAf ?_;refine uAk (s:=⟨[(2,_,_),(3,_,_),(4,_,_),(5,_,_)],[(.l 2,_),(.l 3,_),(.l 4,_),(.l 5,_),(.o 0,_)],[(.b (.l 2) 1,_),(.b (.l 2) 2,_),(.b (.l 2) 3,_),(.b (.l 2) 4,_),(.b (.l 2) 5,_)],[]⟩) (uAj (⟨sx rfl,sx rfl,sx rfl,sx rfl,trivial⟩) (⟨sx rfl,sx rfl,sx rfl,sx rfl,sx rfl,trivial⟩) (⟨rfl,rfl,rfl,rfl,rfl,trivial⟩)) ?_;refine uAk (s:=⟨[(2,_,_),(3,_,_),(4,_,_),(5,_,_)],[(.l 2,_),(.l 3,_),(.l 4,_),(.l 5,_),(.o 0,_)],[(.b (.l 2) 1,_),(.b (.l 2) 2,_),(.b (.l 2) 3,_),(.b (.l 2) 4,_),(.b (.l 2) 5,_)],[]⟩) (uAj (⟨sx rfl,sx rfl,sx rfl,sx rfl,trivial⟩) (⟨sx rfl,sx rfl,sx rfl,sx rfl,sx rfl,trivial⟩) (⟨rfl,rfl,rfl,rfl,rfl,trivial⟩)) ?_;refine uBh (.l 2) rfl (fun w1 w2 w3 w4 w5=>?_);refine uAk (s:=⟨[(2,_,_),(3,_,_),(4,_,_),(5,_,_)],[(.l 2,_),(.l 3,_),(.l 4,_),(.l 5,_),(.o 0,_)],[(.b (.l 2) 1,_),(.b (.l 2) 2,_),(.b (.l 2) 3,_),(.b (.l 2) 4,_),(.b (.l 2) 5,_)],[]⟩) (uAj (⟨sx rfl,sx rfl,sx rfl,sx rfl,trivial⟩) (⟨sx rfl,sx rfl,sx rfl,sx rfl,sx rfl,trivial⟩) (⟨rfl,rfl,rfl,rfl,rfl,trivial⟩)) ?_;refine uAd ?_;refine awp_drawn' (by kernel_rfl) ?_;refine uAG rfl rfl rfl rfl rfl rfl rfl gU rfl rfl rfl rfl rfl ?_;refine uAG rfl rfl rfl rfl rfl rfl rfl gU rfl rfl rfl rfl rfl ?_
   refine uAQ rfl rfl rfl rfl rfl rfl rfl gU gU (up (uAZ l _ _ (by omega) (le3 hl (by first|assumption|(dsimp only; first|assumption|exact hq4 _|exact hq5 _))))) rfl ?_;refine uAT rfl rfl rfl rfl rfl rfl rfl rfl rfl rfl rfl rfl ?_;refine uAT rfl rfl rfl rfl rfl rfl rfl rfl rfl rfl rfl rfl ?_;refine uA2 (by kernel_rfl) ?_;refine uAk (s:=⟨[(2,_,_),(4,_,_),(5,_,_)],[(.l 2,_),(.l 4,_),(.l 5,_),(.o 0,_)],[(.b (.l 2) 1,_),(.b (.l 2) 2,_),(.b (.l 2) 3,_),(.b (.l 2) 4,_),(.b (.l 2) 5,_)],[]⟩) (uAj (⟨sx rfl,sx rfl,sx rfl,trivial⟩) (⟨sx rfl,sx rfl,sx rfl,sx rfl,trivial⟩) (⟨(ak rfl (ak rfl (ak rfl (ak rfl (ak rfl (rfl)))))),(ak rfl (ak rfl (ak rfl (ak rfl (ak rfl (rfl)))))),(ak rfl (ak rfl (ak rfl (ak rfl (ak rfl (rfl)))))),(ak rfl (ak rfl (ak rfl (ak rfl (ak rfl (rfl)))))),(ak rfl (ak rfl (ak rfl (ak rfl (ak rfl (rfl)))))),trivial⟩)) ?_;refine uBn (.l 4) (.l 2) rfl rfl rfl rfl rfl ?_;refine uAk (s:=⟨[(2,_,_),(4,_,_),(5,_,_)],[(.l 2,_),(.l 4,_),(.l 5,_),(.o 0,_)],[(.b (.l 4) 1,_),(.b (.l 4) 2,_),(.b (.l 4) 3,_),(.b (.l 4) 4,_),(.b (.l 4) 5,_)],[]⟩) (uAj (⟨sx rfl,sx rfl,sx rfl,trivial⟩) (⟨sx rfl,sx rfl,sx rfl,sx rfl,trivial⟩) (⟨rfl,rfl,rfl,rfl,rfl,trivial⟩)) ?_;refine uAq ?_
   repeat(first|refine tR ?_|refine bR ?_)
   refine uBx rfl ?_ ⟨⟨_,rfl,rfl⟩,trivial⟩ (by simp) rfl rfl rfl rfl rfl rfl;exact congrArg (fun z=>X.tup [.agg (narC n.name z (Fs.rows n.fresh) (strR n.tags) (Sp.rows n.steps) (Gl.rows n.goals)), .agg (pbx l (uAS l [59] (uBB l q).2))]) (uEH _ _).symm
  ·try simp only [nn,uAi,T.rows_len,Tk.rows_len] at hcu1
   refine uAd (uAb ?_);refine uAa rfl rfl rfl (uAm rfl rfl gU gU rfl) ?_;refine uAa rfl rfl rfl (uAe rfl gU) ?_;refine uAf ?_;refine uAk (s:=⟨[(2,_,_),(3,_,_),(4,_,_),(5,_,_),(6,_,_),(28,_,_),(41,_,_)],[(.l 2,_),(.l 3,_),(.l 4,_),(.l 5,_),(.o 0,_)],[(.b (.l 2) 1,_),(.b (.l 2) 2,_),(.b (.l 2) 3,_),(.b (.l 2) 4,_),(.b (.l 2) 5,_)],[]⟩) (uAj (⟨sx rfl,sx rfl,sx rfl,sx rfl,sx rfl,sx rfl,sx rfl,trivial⟩) (⟨sx rfl,sx rfl,sx rfl,sx rfl,sx rfl,trivial⟩) (⟨rfl,rfl,rfl,rfl,rfl,trivial⟩)) ?_;refine uAo rfl (fun hcu2=>?_) (fun hcu2=>?_)
   ·try simp only [nn,uAi,T.rows_len,Tk.rows_len] at hcu2
    subst hcu2
    rw[uCk hk hline (uJO l n (l.getD p.at' tk0).line q)]
    refine uAk (s:=⟨[(2,_,_),(3,_,_),(4,_,_),(5,_,_)],[(.l 2,_),(.l 3,_),(.l 4,_),(.l 5,_),(.o 0,_)],[(.b (.l 2) 1,_),(.b (.l 2) 2,_),(.b (.l 2) 3,_),(.b (.l 2) 4,_),(.b (.l 2) 5,_)],[]⟩) (uAj (⟨sx rfl,sx rfl,sx rfl,sx rfl,trivial⟩) (⟨sx rfl,sx rfl,sx rfl,sx rfl,sx rfl,trivial⟩) (⟨rfl,rfl,rfl,rfl,rfl,trivial⟩)) ?_;refine uBh (.l 2) rfl (fun w1 w2 w3 w4 w5=>?_);refine uAk (s:=⟨[(2,_,_),(3,_,_),(4,_,_),(5,_,_)],[(.l 2,_),(.l 3,_),(.l 4,_),(.l 5,_),(.o 0,_)],[(.b (.l 2) 1,_),(.b (.l 2) 2,_),(.b (.l 2) 3,_),(.b (.l 2) 4,_),(.b (.l 2) 5,_)],[]⟩) (uAj (⟨sx rfl,sx rfl,sx rfl,sx rfl,trivial⟩) (⟨sx rfl,sx rfl,sx rfl,sx rfl,sx rfl,trivial⟩) (⟨rfl,rfl,rfl,rfl,rfl,trivial⟩)) ?_;refine uAb ?_;refine uAa rfl rfl rfl (uAn rfl gU rfl rfl rfl rfl rfl) ?_;refine uAa rfl rfl rfl (uAn rfl gU rfl rfl rfl rfl rfl) ?_;refine uDD (.l 2) (.l 3) osR rfl rfl rfl rfl rfl rfl ⟨rfl,rfl,rfl,rfl,rfl,rfl⟩ ⟨rfl,rfl,rfl,rfl,rfl,rfl⟩ rfl rfl rfl rfl rfl rfl rfl rfl rfl ⟨rfl,rfl⟩ rfl (uEI l q n w1 w2 w3 w4 w5 hl hq1 (by omega)) rfl rfl rfl rfl rfl rfl rfl rfl ?_;refine uAf ?_;refine uAk (s:=⟨[(2,_,_),(3,_,_),(4,_,_),(5,_,_)],[(.l 2,_),(.l 3,_),(.l 4,_),(.l 5,_),(.o 0,_)],[(.b (.l 2) 1,_),(.b (.l 2) 2,_),(.b (.l 2) 3,_),(.b (.l 2) 4,_),(.b (.l 2) 5,_)],[]⟩) (uAj (⟨sx rfl,sx rfl,sx rfl,sx rfl,trivial⟩) (⟨sx rfl,sx rfl,sx rfl,sx rfl,sx rfl,trivial⟩) (⟨rfl,rfl,rfl,rfl,rfl,trivial⟩)) ?_
    refine uAk (s:=⟨[(2,_,_),(3,_,_),(4,_,_),(5,_,_)],[(.l 2,_),(.l 3,_),(.l 4,_),(.l 5,_),(.o 0,_)],[(.b (.l 2) 1,_),(.b (.l 2) 2,_),(.b (.l 2) 3,_),(.b (.l 2) 4,_),(.b (.l 2) 5,_)],[]⟩) (uAj (⟨sx rfl,sx rfl,sx rfl,sx rfl,trivial⟩) (⟨sx rfl,sx rfl,sx rfl,sx rfl,sx rfl,trivial⟩) (⟨rfl,rfl,rfl,rfl,rfl,trivial⟩)) ?_;refine uBh (.l 2) rfl (fun w1 w2 w3 w4 w5=>?_);refine uAk (s:=⟨[(2,_,_),(3,_,_),(4,_,_),(5,_,_)],[(.l 2,_),(.l 3,_),(.l 4,_),(.l 5,_),(.o 0,_)],[(.b (.l 2) 1,_),(.b (.l 2) 2,_),(.b (.l 2) 3,_),(.b (.l 2) 4,_),(.b (.l 2) 5,_)],[]⟩) (uAj (⟨sx rfl,sx rfl,sx rfl,sx rfl,trivial⟩) (⟨sx rfl,sx rfl,sx rfl,sx rfl,sx rfl,trivial⟩) (⟨rfl,rfl,rfl,rfl,rfl,trivial⟩)) ?_;refine uAd ?_;refine awp_drawn' (by kernel_rfl) ?_;refine uAG rfl rfl rfl rfl rfl rfl rfl gU rfl rfl rfl rfl rfl ?_;refine uAG rfl rfl rfl rfl rfl rfl rfl gU rfl rfl rfl rfl rfl ?_;refine uAQ rfl rfl rfl rfl rfl rfl rfl gU gU (up (uAZ l _ _ (by omega) (le3 hl (by first|assumption|(dsimp only; first|assumption|exact hq4 _|exact hq5 _))))) rfl ?_;refine uAT rfl rfl rfl rfl rfl rfl rfl rfl rfl rfl rfl rfl ?_;refine uAT rfl rfl rfl rfl rfl rfl rfl rfl rfl rfl rfl rfl ?_;refine uA2 (by kernel_rfl) ?_;refine uAk (s:=⟨[(2,_,_),(4,_,_),(5,_,_)],[(.l 2,_),(.l 4,_),(.l 5,_),(.o 0,_)],[(.b (.l 2) 1,_),(.b (.l 2) 2,_),(.b (.l 2) 3,_),(.b (.l 2) 4,_),(.b (.l 2) 5,_)],[]⟩) (uAj (⟨sx rfl,sx rfl,sx rfl,trivial⟩) (⟨sx rfl,sx rfl,sx rfl,sx rfl,trivial⟩) (⟨(ak rfl (ak rfl (ak rfl (ak rfl (ak rfl (rfl)))))),(ak rfl (ak rfl (ak rfl (ak rfl (ak rfl (rfl)))))),(ak rfl (ak rfl (ak rfl (ak rfl (ak rfl (rfl)))))),(ak rfl (ak rfl (ak rfl (ak rfl (ak rfl (rfl)))))),(ak rfl (ak rfl (ak rfl (ak rfl (ak rfl (rfl)))))),trivial⟩)) ?_
    refine uBn (.l 4) (.l 2) rfl rfl rfl rfl rfl ?_;refine uAk (s:=⟨[(2,_,_),(4,_,_),(5,_,_)],[(.l 2,_),(.l 4,_),(.l 5,_),(.o 0,_)],[(.b (.l 4) 1,_),(.b (.l 4) 2,_),(.b (.l 4) 3,_),(.b (.l 4) 4,_),(.b (.l 4) 5,_)],[]⟩) (uAj (⟨sx rfl,sx rfl,sx rfl,trivial⟩) (⟨sx rfl,sx rfl,sx rfl,sx rfl,trivial⟩) (⟨rfl,rfl,rfl,rfl,rfl,trivial⟩)) ?_;refine uAq ?_
    repeat(first|refine tR ?_|refine bR ?_)
    refine uBx rfl ?_ ⟨⟨_,rfl,rfl⟩,trivial⟩ (by simp) rfl rfl rfl rfl rfl rfl
    rfl
   ·try simp only [nn,uAi,T.rows_len,Tk.rows_len] at hcu2
    refine uAd (uAb ?_);refine uAa rfl rfl rfl (uAm rfl rfl gU gU rfl) ?_;refine uAa rfl rfl rfl (uAe rfl gU) ?_;refine uAf ?_;refine uAo rfl (fun hcu3=>?_) (fun hcu3=>?_)
    ·try simp only [nn,uAi,T.rows_len,Tk.rows_len] at hcu3
     subst hcu3
     rw[uCk hk hline (uKP l n (l.getD p.at' tk0).line q)]
     refine uAd (uAb ?_);refine uAa rfl rfl rfl (uAn rfl gU rfl rfl rfl rfl rfl) ?_;refine uAx rfl rfl rfl rfl rfl rfl gU gU (up (uC1 l q (by omega) hq1)) rfl ?_;refine uAa rfl rfl rfl (uAc rfl gU) ?_;refine uAa rfl rfl rfl (uAv rfl gU rfl) ?_;refine uAa rfl rfl rfl (uAv rfl gU rfl) ?_;refine uAa rfl rfl rfl (uAe rfl gU) ?_;refine uAs rfl (uAw rfl rfl rfl rfl rfl rfl rfl) ?_;refine uAf ?_;refine uAk (s:=⟨[(2,_,_),(3,_,_),(4,_,_),(5,_,_),(8,_,_)],[(.l 2,_),(.l 3,_),(.l 4,_),(.l 5,_),(.o 0,_)],[(.b (.l 2) 1,_),(.b (.l 2) 2,_),(.b (.l 2) 3,_),(.b (.l 2) 4,_),(.b (.l 2) 5,_)],[]⟩) (uAj (⟨sx rfl,sx rfl,sx rfl,sx rfl,sx rfl,trivial⟩) (⟨sx rfl,sx rfl,sx rfl,sx rfl,sx rfl,trivial⟩) (⟨rfl,rfl,rfl,rfl,rfl,trivial⟩)) ?_;refine uAb ?_;refine uAa rfl rfl rfl (uAg rfl gU rfl rfl) ?_;refine uAs rfl (uBp rfl rfl rfl rfl rfl rfl rfl) ?_;refine uAa rfl rfl rfl (uAc rfl gU) ?_;refine uAs rfl (uA0 rfl rfl rfl rfl rfl rfl rfl (by first|omega|(simp only [List.length_append,List.length_singleton,uAi]; omega)) (by first|omega|(simp only [List.length_append,List.length_singleton,uAi]; omega))) ?_;refine uAa rfl rfl rfl (uAg rfl gU rfl rfl) ?_;refine uAs rfl (uBi rfl rfl rfl rfl rfl rfl rfl) ?_
     refine uAf ?_;refine uAk (s:=⟨[(2,_,_),(3,_,_),(4,_,_),(5,_,_)],[(.l 2,_),(.l 3,_),(.l 4,_),(.l 5,_),(.o 0,_)],[(.b (.l 2) 1,_),(.b (.l 2) 2,_),(.b (.l 2) 3,_),(.b (.l 2) 4,_),(.b (.l 2) 5,_)],[]⟩) (uAj (⟨sx rfl,sx rfl,sx rfl,sx rfl,trivial⟩) (⟨sx rfl,sx rfl,sx rfl,sx rfl,sx rfl,trivial⟩) (⟨rfl,rfl,rfl,rfl,rfl,trivial⟩)) ?_;refine uAk (s:=⟨[(2,_,_),(3,_,_),(4,_,_),(5,_,_)],[(.l 2,_),(.l 3,_),(.l 4,_),(.l 5,_),(.o 0,_)],[(.b (.l 2) 1,_),(.b (.l 2) 2,_),(.b (.l 2) 3,_),(.b (.l 2) 4,_),(.b (.l 2) 5,_)],[]⟩) (uAj (⟨sx rfl,sx rfl,sx rfl,sx rfl,trivial⟩) (⟨sx rfl,sx rfl,sx rfl,sx rfl,sx rfl,trivial⟩) (⟨rfl,rfl,rfl,rfl,rfl,trivial⟩)) ?_;refine uBh (.l 2) rfl (fun w1 w2 w3 w4 w5=>?_);refine uAk (s:=⟨[(2,_,_),(3,_,_),(4,_,_),(5,_,_)],[(.l 2,_),(.l 3,_),(.l 4,_),(.l 5,_),(.o 0,_)],[(.b (.l 2) 1,_),(.b (.l 2) 2,_),(.b (.l 2) 3,_),(.b (.l 2) 4,_),(.b (.l 2) 5,_)],[]⟩) (uAj (⟨sx rfl,sx rfl,sx rfl,sx rfl,trivial⟩) (⟨sx rfl,sx rfl,sx rfl,sx rfl,sx rfl,trivial⟩) (⟨rfl,rfl,rfl,rfl,rfl,trivial⟩)) ?_;refine uAd ?_;refine awp_drawn' (by kernel_rfl) ?_;refine uAG rfl rfl rfl rfl rfl rfl rfl gU rfl rfl rfl rfl rfl ?_;refine uAG rfl rfl rfl rfl rfl rfl rfl gU rfl rfl rfl rfl rfl ?_
     refine uAQ rfl rfl rfl rfl rfl rfl rfl gU gU (up (uAZ l _ _ (by omega) (le3 hl (by first|assumption|(dsimp only; first|assumption|exact hq4 _|exact hq5 _))))) rfl ?_;refine uAT rfl rfl rfl rfl rfl rfl rfl rfl rfl rfl rfl rfl ?_;refine uAT rfl rfl rfl rfl rfl rfl rfl rfl rfl rfl rfl rfl ?_;refine uA2 (by kernel_rfl) ?_;refine uAk (s:=⟨[(2,_,_),(4,_,_),(5,_,_)],[(.l 2,_),(.l 4,_),(.l 5,_),(.o 0,_)],[(.b (.l 2) 1,_),(.b (.l 2) 2,_),(.b (.l 2) 3,_),(.b (.l 2) 4,_),(.b (.l 2) 5,_)],[]⟩) (uAj (⟨sx rfl,sx rfl,sx rfl,trivial⟩) (⟨sx rfl,sx rfl,sx rfl,sx rfl,trivial⟩) (⟨(ak rfl (ak rfl (ak rfl (ak rfl (ak rfl (rfl)))))),(ak rfl (ak rfl (ak rfl (ak rfl (ak rfl (rfl)))))),(ak rfl (ak rfl (ak rfl (ak rfl (ak rfl (rfl)))))),(ak rfl (ak rfl (ak rfl (ak rfl (ak rfl (rfl)))))),(ak rfl (ak rfl (ak rfl (ak rfl (ak rfl (rfl)))))),trivial⟩)) ?_;refine uBn (.l 4) (.l 2) rfl rfl rfl rfl rfl ?_;refine uAk (s:=⟨[(2,_,_),(4,_,_),(5,_,_)],[(.l 2,_),(.l 4,_),(.l 5,_),(.o 0,_)],[(.b (.l 4) 1,_),(.b (.l 4) 2,_),(.b (.l 4) 3,_),(.b (.l 4) 4,_),(.b (.l 4) 5,_)],[]⟩) (uAj (⟨sx rfl,sx rfl,sx rfl,trivial⟩) (⟨sx rfl,sx rfl,sx rfl,sx rfl,trivial⟩) (⟨rfl,rfl,rfl,rfl,rfl,trivial⟩)) ?_;refine uAq ?_
     repeat(first|refine tR ?_|refine bR ?_)
     refine uBx rfl ?_ ⟨⟨_,rfl,rfl⟩,trivial⟩ (by simp) rfl rfl rfl rfl rfl rfl;exact congrArg (fun z=>X.tup [.agg (narC n.name (strR n.roles) (Fs.rows n.fresh) z (Sp.rows n.steps) (Gl.rows n.goals)), .agg (pbx l (uAS l [59] (uBB l q).2))]) (uEH _ _).symm
    ·try simp only [nn,uAi,T.rows_len,Tk.rows_len] at hcu3
     refine uAd (uAb ?_);refine uAa rfl rfl rfl (uAm rfl rfl gU gU rfl) ?_;refine uAa rfl rfl rfl (uAe rfl gU) ?_;refine uAf ?_;refine uAo rfl (fun hcu4=>?_) (fun hcu4=>?_)
     ·try simp only [nn,uAi,T.rows_len,Tk.rows_len] at hcu4
      subst hcu4
      rw[uCk hk hline (uKq l n (l.getD p.at' tk0).line q)]
      refine uAk (s:=⟨[(2,_,_),(3,_,_),(4,_,_),(5,_,_),(6,_,_)],[(.l 2,_),(.l 3,_),(.l 4,_),(.l 5,_),(.o 0,_)],[(.b (.l 2) 1,_),(.b (.l 2) 2,_),(.b (.l 2) 3,_),(.b (.l 2) 4,_),(.b (.l 2) 5,_)],[]⟩) (uAj (⟨sx rfl,sx rfl,sx rfl,sx rfl,sx rfl,trivial⟩) (⟨sx rfl,sx rfl,sx rfl,sx rfl,sx rfl,trivial⟩) (⟨rfl,rfl,rfl,rfl,rfl,trivial⟩)) ?_;refine uBh (.l 2) rfl (fun w1 w2 w3 w4 w5=>?_);refine uAk (s:=⟨[(2,_,_),(3,_,_),(4,_,_),(5,_,_),(6,_,_)],[(.l 2,_),(.l 3,_),(.l 4,_),(.l 5,_),(.o 0,_)],[(.b (.l 2) 1,_),(.b (.l 2) 2,_),(.b (.l 2) 3,_),(.b (.l 2) 4,_),(.b (.l 2) 5,_)],[]⟩) (uAj (⟨sx rfl,sx rfl,sx rfl,sx rfl,sx rfl,trivial⟩) (⟨sx rfl,sx rfl,sx rfl,sx rfl,sx rfl,trivial⟩) (⟨rfl,rfl,rfl,rfl,rfl,trivial⟩)) ?_;refine uAb ?_;refine uAa rfl rfl rfl (uAn rfl gU rfl rfl rfl rfl rfl) ?_;refine uAa rfl rfl rfl (uAn rfl gU rfl rfl rfl rfl rfl) ?_;refine uAa rfl rfl rfl (uAc rfl gU) ?_;refine uDD (.l 2) (.l 3) osR rfl rfl rfl rfl rfl rfl ⟨rfl,rfl,rfl,rfl,rfl,rfl⟩ ⟨rfl,rfl,rfl,rfl,rfl,rfl⟩ rfl rfl rfl rfl rfl rfl rfl rfl rfl ⟨rfl,rfl⟩ rfl (uFb l q n ((l.getD p.at' tk0).line) w1 w2 w3 w4 w5 hl hq1 (by omega)) rfl rfl rfl rfl rfl rfl rfl rfl ?_;refine uAf ?_;refine uAk (s:=⟨[(2,_,_),(3,_,_),(4,_,_),(5,_,_)],[(.l 2,_),(.l 3,_),(.l 4,_),(.l 5,_),(.o 0,_)],[(.b (.l 2) 1,_),(.b (.l 2) 2,_),(.b (.l 2) 3,_),(.b (.l 2) 4,_),(.b (.l 2) 5,_)],[]⟩) (uAj (⟨sx rfl,sx rfl,sx rfl,sx rfl,trivial⟩) (⟨sx rfl,sx rfl,sx rfl,sx rfl,sx rfl,trivial⟩) (⟨rfl,rfl,rfl,rfl,rfl,trivial⟩)) ?_
      refine uAk (s:=⟨[(2,_,_),(3,_,_),(4,_,_),(5,_,_)],[(.l 2,_),(.l 3,_),(.l 4,_),(.l 5,_),(.o 0,_)],[(.b (.l 2) 1,_),(.b (.l 2) 2,_),(.b (.l 2) 3,_),(.b (.l 2) 4,_),(.b (.l 2) 5,_)],[]⟩) (uAj (⟨sx rfl,sx rfl,sx rfl,sx rfl,trivial⟩) (⟨sx rfl,sx rfl,sx rfl,sx rfl,sx rfl,trivial⟩) (⟨rfl,rfl,rfl,rfl,rfl,trivial⟩)) ?_;refine uBh (.l 2) rfl (fun w1 w2 w3 w4 w5=>?_);refine uAk (s:=⟨[(2,_,_),(3,_,_),(4,_,_),(5,_,_)],[(.l 2,_),(.l 3,_),(.l 4,_),(.l 5,_),(.o 0,_)],[(.b (.l 2) 1,_),(.b (.l 2) 2,_),(.b (.l 2) 3,_),(.b (.l 2) 4,_),(.b (.l 2) 5,_)],[]⟩) (uAj (⟨sx rfl,sx rfl,sx rfl,sx rfl,trivial⟩) (⟨sx rfl,sx rfl,sx rfl,sx rfl,sx rfl,trivial⟩) (⟨rfl,rfl,rfl,rfl,rfl,trivial⟩)) ?_;refine uAd ?_;refine awp_drawn' (by kernel_rfl) ?_;refine uAG rfl rfl rfl rfl rfl rfl rfl gU rfl rfl rfl rfl rfl ?_;refine uAG rfl rfl rfl rfl rfl rfl rfl gU rfl rfl rfl rfl rfl ?_;refine uAQ rfl rfl rfl rfl rfl rfl rfl gU gU (up (uAZ l _ _ (by omega) (le3 hl (by first|assumption|(dsimp only; first|assumption|exact hq4 _|exact hq5 _))))) rfl ?_;refine uAT rfl rfl rfl rfl rfl rfl rfl rfl rfl rfl rfl rfl ?_;refine uAT rfl rfl rfl rfl rfl rfl rfl rfl rfl rfl rfl rfl ?_;refine uA2 (by kernel_rfl) ?_;refine uAk (s:=⟨[(2,_,_),(4,_,_),(5,_,_)],[(.l 2,_),(.l 4,_),(.l 5,_),(.o 0,_)],[(.b (.l 2) 1,_),(.b (.l 2) 2,_),(.b (.l 2) 3,_),(.b (.l 2) 4,_),(.b (.l 2) 5,_)],[]⟩) (uAj (⟨sx rfl,sx rfl,sx rfl,trivial⟩) (⟨sx rfl,sx rfl,sx rfl,sx rfl,trivial⟩) (⟨(ak rfl (ak rfl (ak rfl (ak rfl (ak rfl (rfl)))))),(ak rfl (ak rfl (ak rfl (ak rfl (ak rfl (rfl)))))),(ak rfl (ak rfl (ak rfl (ak rfl (ak rfl (rfl)))))),(ak rfl (ak rfl (ak rfl (ak rfl (ak rfl (rfl)))))),(ak rfl (ak rfl (ak rfl (ak rfl (ak rfl (rfl)))))),trivial⟩)) ?_
      refine uBn (.l 4) (.l 2) rfl rfl rfl rfl rfl ?_;refine uAk (s:=⟨[(2,_,_),(4,_,_),(5,_,_)],[(.l 2,_),(.l 4,_),(.l 5,_),(.o 0,_)],[(.b (.l 4) 1,_),(.b (.l 4) 2,_),(.b (.l 4) 3,_),(.b (.l 4) 4,_),(.b (.l 4) 5,_)],[]⟩) (uAj (⟨sx rfl,sx rfl,sx rfl,trivial⟩) (⟨sx rfl,sx rfl,sx rfl,sx rfl,trivial⟩) (⟨rfl,rfl,rfl,rfl,rfl,trivial⟩)) ?_;refine uAq ?_
      repeat(first|refine tR ?_|refine bR ?_)
      refine uBx rfl ?_ ⟨⟨_,rfl,rfl⟩,trivial⟩ (by simp) rfl rfl rfl rfl rfl rfl
      rfl
     ·try simp only [nn,uAi,T.rows_len,Tk.rows_len] at hcu4
      refine uAd (uAb ?_);refine uAa rfl rfl rfl (uAm rfl rfl gU gU rfl) ?_;refine uAa rfl rfl rfl (uAe rfl gU) ?_;refine uAf ?_;refine uAk (s:=⟨[(2,_,_),(3,_,_),(4,_,_),(5,_,_),(6,_,_),(70,_,_)],[(.l 2,_),(.l 3,_),(.l 4,_),(.l 5,_),(.o 0,_)],[(.b (.l 2) 1,_),(.b (.l 2) 2,_),(.b (.l 2) 3,_),(.b (.l 2) 4,_),(.b (.l 2) 5,_)],[]⟩) (uAj (⟨sx rfl,sx rfl,sx rfl,sx rfl,sx rfl,sx rfl,trivial⟩) (⟨sx rfl,sx rfl,sx rfl,sx rfl,sx rfl,trivial⟩) (⟨rfl,rfl,rfl,rfl,rfl,trivial⟩)) ?_;refine uAo rfl (fun hcu5=>?_) (fun hcu5=>?_)
      ·try simp only [nn,uAi,T.rows_len,Tk.rows_len] at hcu5
       subst hcu5
       rw[uCk hk hline (uK7 l n (l.getD p.at' tk0).line q)]
       refine uAk (s:=⟨[(2,_,_),(3,_,_),(4,_,_),(5,_,_),(6,_,_)],[(.l 2,_),(.l 3,_),(.l 4,_),(.l 5,_),(.o 0,_)],[(.b (.l 2) 1,_),(.b (.l 2) 2,_),(.b (.l 2) 3,_),(.b (.l 2) 4,_),(.b (.l 2) 5,_)],[]⟩) (uAj (⟨sx rfl,sx rfl,sx rfl,sx rfl,sx rfl,trivial⟩) (⟨sx rfl,sx rfl,sx rfl,sx rfl,sx rfl,trivial⟩) (⟨rfl,rfl,rfl,rfl,rfl,trivial⟩)) ?_;refine uBh (.l 2) rfl (fun w1 w2 w3 w4 w5=>?_);refine uAk (s:=⟨[(2,_,_),(3,_,_),(4,_,_),(5,_,_),(6,_,_)],[(.l 2,_),(.l 3,_),(.l 4,_),(.l 5,_),(.o 0,_)],[(.b (.l 2) 1,_),(.b (.l 2) 2,_),(.b (.l 2) 3,_),(.b (.l 2) 4,_),(.b (.l 2) 5,_)],[]⟩) (uAj (⟨sx rfl,sx rfl,sx rfl,sx rfl,sx rfl,trivial⟩) (⟨sx rfl,sx rfl,sx rfl,sx rfl,sx rfl,trivial⟩) (⟨rfl,rfl,rfl,rfl,rfl,trivial⟩)) ?_;refine uAb ?_;refine uAa rfl rfl rfl (uAn rfl gU rfl rfl rfl rfl rfl) ?_;refine uAa rfl rfl rfl (uAn rfl gU rfl rfl rfl rfl rfl) ?_;refine uAa rfl rfl rfl (uAc rfl gU) ?_;refine uDD (.l 2) (.l 3) osR rfl rfl rfl rfl rfl rfl ⟨rfl,rfl,rfl,rfl,rfl,rfl⟩ ⟨rfl,rfl,rfl,rfl,rfl,rfl⟩ rfl rfl rfl rfl rfl rfl rfl rfl rfl ⟨rfl,rfl⟩ rfl (uFf l q n ((l.getD p.at' tk0).line) w1 w2 w3 w4 w5 hl hq1 (by omega)) rfl rfl rfl rfl rfl rfl rfl rfl ?_;refine uAf ?_;refine uAk (s:=⟨[(2,_,_),(3,_,_),(4,_,_),(5,_,_)],[(.l 2,_),(.l 3,_),(.l 4,_),(.l 5,_),(.o 0,_)],[(.b (.l 2) 1,_),(.b (.l 2) 2,_),(.b (.l 2) 3,_),(.b (.l 2) 4,_),(.b (.l 2) 5,_)],[]⟩) (uAj (⟨sx rfl,sx rfl,sx rfl,sx rfl,trivial⟩) (⟨sx rfl,sx rfl,sx rfl,sx rfl,sx rfl,trivial⟩) (⟨rfl,rfl,rfl,rfl,rfl,trivial⟩)) ?_
       refine uAk (s:=⟨[(2,_,_),(3,_,_),(4,_,_),(5,_,_)],[(.l 2,_),(.l 3,_),(.l 4,_),(.l 5,_),(.o 0,_)],[(.b (.l 2) 1,_),(.b (.l 2) 2,_),(.b (.l 2) 3,_),(.b (.l 2) 4,_),(.b (.l 2) 5,_)],[]⟩) (uAj (⟨sx rfl,sx rfl,sx rfl,sx rfl,trivial⟩) (⟨sx rfl,sx rfl,sx rfl,sx rfl,sx rfl,trivial⟩) (⟨rfl,rfl,rfl,rfl,rfl,trivial⟩)) ?_;refine uBh (.l 2) rfl (fun w1 w2 w3 w4 w5=>?_);refine uAk (s:=⟨[(2,_,_),(3,_,_),(4,_,_),(5,_,_)],[(.l 2,_),(.l 3,_),(.l 4,_),(.l 5,_),(.o 0,_)],[(.b (.l 2) 1,_),(.b (.l 2) 2,_),(.b (.l 2) 3,_),(.b (.l 2) 4,_),(.b (.l 2) 5,_)],[]⟩) (uAj (⟨sx rfl,sx rfl,sx rfl,sx rfl,trivial⟩) (⟨sx rfl,sx rfl,sx rfl,sx rfl,sx rfl,trivial⟩) (⟨rfl,rfl,rfl,rfl,rfl,trivial⟩)) ?_;refine uAd ?_;refine awp_drawn' (by kernel_rfl) ?_;refine uAG rfl rfl rfl rfl rfl rfl rfl gU rfl rfl rfl rfl rfl ?_;refine uAG rfl rfl rfl rfl rfl rfl rfl gU rfl rfl rfl rfl rfl ?_;refine uAQ rfl rfl rfl rfl rfl rfl rfl gU gU (up (uAZ l _ _ (by omega) (le3 hl (by first|assumption|(dsimp only; first|assumption|exact hq4 _|exact hq5 _))))) rfl ?_;refine uAT rfl rfl rfl rfl rfl rfl rfl rfl rfl rfl rfl rfl ?_;refine uAT rfl rfl rfl rfl rfl rfl rfl rfl rfl rfl rfl rfl ?_;refine uA2 (by kernel_rfl) ?_;refine uAk (s:=⟨[(2,_,_),(4,_,_),(5,_,_)],[(.l 2,_),(.l 4,_),(.l 5,_),(.o 0,_)],[(.b (.l 2) 1,_),(.b (.l 2) 2,_),(.b (.l 2) 3,_),(.b (.l 2) 4,_),(.b (.l 2) 5,_)],[]⟩) (uAj (⟨sx rfl,sx rfl,sx rfl,trivial⟩) (⟨sx rfl,sx rfl,sx rfl,sx rfl,trivial⟩) (⟨(ak rfl (ak rfl (ak rfl (ak rfl (ak rfl (rfl)))))),(ak rfl (ak rfl (ak rfl (ak rfl (ak rfl (rfl)))))),(ak rfl (ak rfl (ak rfl (ak rfl (ak rfl (rfl)))))),(ak rfl (ak rfl (ak rfl (ak rfl (ak rfl (rfl)))))),(ak rfl (ak rfl (ak rfl (ak rfl (ak rfl (rfl)))))),trivial⟩)) ?_
       refine uBn (.l 4) (.l 2) rfl rfl rfl rfl rfl ?_;refine uAk (s:=⟨[(2,_,_),(4,_,_),(5,_,_)],[(.l 2,_),(.l 4,_),(.l 5,_),(.o 0,_)],[(.b (.l 4) 1,_),(.b (.l 4) 2,_),(.b (.l 4) 3,_),(.b (.l 4) 4,_),(.b (.l 4) 5,_)],[]⟩) (uAj (⟨sx rfl,sx rfl,sx rfl,trivial⟩) (⟨sx rfl,sx rfl,sx rfl,sx rfl,trivial⟩) (⟨rfl,rfl,rfl,rfl,rfl,trivial⟩)) ?_;refine uAq ?_
       repeat(first|refine tR ?_|refine bR ?_)
       refine uBx rfl ?_ ⟨⟨_,rfl,rfl⟩,trivial⟩ (by simp) rfl rfl rfl rfl rfl rfl
       rfl
      ·try simp only [nn,uAi,T.rows_len,Tk.rows_len] at hcu5
       rw[uCk hk hline (uKH l n (l.getD p.at' tk0).line q hcu1 hcu2 hcu3 hcu4 hcu5)]
       refine uAp ?_;refine uAk (s:=⟨[(2,_,_),(3,_,_),(4,_,_),(5,_,_)],[(.l 2,_),(.l 3,_),(.l 4,_),(.l 5,_),(.o 0,_)],[(.b (.l 2) 1,_),(.b (.l 2) 2,_),(.b (.l 2) 3,_),(.b (.l 2) 4,_),(.b (.l 2) 5,_)],[]⟩) (uAj (⟨sx rfl,sx rfl,sx rfl,sx rfl,trivial⟩) (⟨sx rfl,sx rfl,sx rfl,sx rfl,sx rfl,trivial⟩) (⟨rfl,rfl,rfl,rfl,rfl,trivial⟩)) ?_;refine uBh (.l 2) rfl (fun w1 w2 w3 w4 w5=>?_);refine uAk (s:=⟨[(2,_,_),(3,_,_),(4,_,_),(5,_,_)],[(.l 2,_),(.l 3,_),(.l 4,_),(.l 5,_),(.o 0,_)],[(.b (.l 2) 1,_),(.b (.l 2) 2,_),(.b (.l 2) 3,_),(.b (.l 2) 4,_),(.b (.l 2) 5,_)],[]⟩) (uAj (⟨sx rfl,sx rfl,sx rfl,sx rfl,trivial⟩) (⟨sx rfl,sx rfl,sx rfl,sx rfl,sx rfl,trivial⟩) (⟨rfl,rfl,rfl,rfl,rfl,trivial⟩)) ?_;refine uAd ?_;refine awp_drawn' (by kernel_rfl) ?_;refine uAG rfl rfl rfl rfl rfl rfl rfl gU rfl rfl rfl rfl rfl ?_;refine uAG rfl rfl rfl rfl rfl rfl rfl gU rfl rfl rfl rfl rfl ?_;refine uAQ rfl rfl rfl rfl rfl rfl rfl gU gU (up (uAZ l _ _ (by omega) (le3 hl (by first|assumption|(dsimp only; first|assumption|exact hq4 _|exact hq5 _))))) rfl ?_;refine uAT rfl rfl rfl rfl rfl rfl rfl rfl rfl rfl rfl rfl ?_;refine uAT rfl rfl rfl rfl rfl rfl rfl rfl rfl rfl rfl rfl ?_;refine uA2 (by kernel_rfl) ?_;refine uAk (s:=⟨[(2,_,_),(4,_,_),(5,_,_)],[(.l 2,_),(.l 4,_),(.l 5,_),(.o 0,_)],[(.b (.l 2) 1,_),(.b (.l 2) 2,_),(.b (.l 2) 3,_),(.b (.l 2) 4,_),(.b (.l 2) 5,_)],[]⟩) (uAj (⟨sx rfl,sx rfl,sx rfl,trivial⟩) (⟨sx rfl,sx rfl,sx rfl,sx rfl,trivial⟩) (⟨(ak rfl (ak rfl (ak rfl (ak rfl (ak rfl (rfl)))))),(ak rfl (ak rfl (ak rfl (ak rfl (ak rfl (rfl)))))),(ak rfl (ak rfl (ak rfl (ak rfl (ak rfl (rfl)))))),(ak rfl (ak rfl (ak rfl (ak rfl (ak rfl (rfl)))))),(ak rfl (ak rfl (ak rfl (ak rfl (ak rfl (rfl)))))),trivial⟩)) ?_
       refine uBn (.l 4) (.l 2) rfl rfl rfl rfl rfl ?_;refine uAk (s:=⟨[(2,_,_),(4,_,_),(5,_,_)],[(.l 2,_),(.l 4,_),(.l 5,_),(.o 0,_)],[(.b (.l 4) 1,_),(.b (.l 4) 2,_),(.b (.l 4) 3,_),(.b (.l 4) 4,_),(.b (.l 4) 5,_)],[]⟩) (uAj (⟨sx rfl,sx rfl,sx rfl,trivial⟩) (⟨sx rfl,sx rfl,sx rfl,sx rfl,trivial⟩) (⟨rfl,rfl,rfl,rfl,rfl,trivial⟩)) ?_;refine uAq ?_
       repeat(first|refine tR ?_|refine bR ?_)
       refine uBx rfl ?_ ⟨⟨_,rfl,rfl⟩,trivial⟩ (by simp) rfl rfl rfl rfl rfl rfl
       rfl
 ·try simp only [nn,uAi,T.rows_len,Tk.rows_len] at hcx
  have hline : uCB l p=0:=by rw[uCB,if_neg (by omega)]
  refine uAp ?_;refine uAd (uAb ?_);refine uAa rfl rfl rfl (uAn rfl gU rfl rfl rfl rfl rfl) ?_;refine uAR (xs:=[_,_,_,_,_,_]) rfl rfl rfl rfl rfl rfl rfl rfl rfl gU rfl ?_;refine uAx rfl rfl rfl rfl rfl rfl gU gU (up hns) rfl ?_;refine uAa rfl rfl rfl (uAc rfl gU) ?_;refine uAa rfl rfl rfl (uAv rfl gU rfl) ?_;refine uAa rfl rfl rfl (uAv rfl gU rfl) ?_;refine uAa rfl rfl rfl (uAe rfl gU) ?_;refine uAs rfl (uAw rfl rfl rfl rfl rfl rfl rfl) ?_;refine uAf ?_;refine uAk (s:=⟨[(2,_,_),(3,_,_),(4,_,_),(5,_,_),(6,_,_),(7,_,_)],[(.l 2,_),(.l 3,_),(.l 4,_),(.l 5,_),(.o 0,_)],[(.b (.l 2) 1,_),(.b (.l 2) 2,_),(.b (.l 2) 3,_),(.b (.l 2) 4,_),(.b (.l 2) 5,_)],[]⟩) (uAj (⟨sx rfl,sx rfl,sx rfl,sx rfl,sx rfl,sx rfl,trivial⟩) (⟨sx rfl,sx rfl,sx rfl,sx rfl,sx rfl,trivial⟩) (⟨rfl,rfl,rfl,rfl,rfl,trivial⟩)) ?_;refine uAd (uAb ?_);refine uAs rfl (uBe (.inr rfl) rfl rfl) ?_;refine uAf ?_;refine uAd ?_;refine uAd (uAb ?_);refine uAa rfl rfl rfl (uAc rfl gU) ?_;refine uAf ?_;refine uAt ?_;refine uAd (uAb ?_);refine uAa rfl rfl rfl (uAm rfl rfl gU gU rfl) ?_;refine uAa rfl rfl rfl (uAe rfl gU) ?_;refine uAf ?_;refine uAo rfl (fun hcv1=>?_) (fun hcv1=>?_)
  ·try simp only [nn,uAi,T.rows_len,Tk.rows_len] at hcv1
   subst hcv1
   rw[uCk hk hline (uJJ l n 0 q)]
   refine uAd (uAb ?_);refine uAa rfl rfl rfl (uAn rfl gU rfl rfl rfl rfl rfl) ?_;refine uAx rfl rfl rfl rfl rfl rfl gU gU (up (uC1 l q (by omega) hq1)) rfl ?_;refine uAa rfl rfl rfl (uAc rfl gU) ?_;refine uAa rfl rfl rfl (uAv rfl gU rfl) ?_;refine uAa rfl rfl rfl (uAv rfl gU rfl) ?_;refine uAa rfl rfl rfl (uAe rfl gU) ?_;refine uAs rfl (uAw rfl rfl rfl rfl rfl rfl rfl) ?_;refine uAf ?_;refine uAk (s:=⟨[(2,_,_),(3,_,_),(4,_,_),(5,_,_),(8,_,_)],[(.l 2,_),(.l 3,_),(.l 4,_),(.l 5,_),(.o 0,_)],[(.b (.l 2) 1,_),(.b (.l 2) 2,_),(.b (.l 2) 3,_),(.b (.l 2) 4,_),(.b (.l 2) 5,_)],[]⟩) (uAj (⟨sx rfl,sx rfl,sx rfl,sx rfl,sx rfl,trivial⟩) (⟨sx rfl,sx rfl,sx rfl,sx rfl,sx rfl,trivial⟩) (⟨rfl,rfl,rfl,rfl,rfl,trivial⟩)) ?_;refine uAb ?_;refine uAa rfl rfl rfl (uAg rfl gU rfl rfl) ?_;refine uAs rfl (uBp rfl rfl rfl rfl rfl rfl rfl) ?_;refine uAa rfl rfl rfl (uAc rfl gU) ?_;refine uAs rfl (uA0 rfl rfl rfl rfl rfl rfl rfl (by first|omega|(simp only [List.length_append,List.length_singleton,uAi]; omega)) (by first|omega|(simp only [List.length_append,List.length_singleton,uAi]; omega))) ?_;refine uAa rfl rfl rfl (uAg rfl gU rfl rfl) ?_;refine uAs rfl (uBi rfl rfl rfl rfl rfl rfl rfl) ?_
   refine uAf ?_;refine uAk (s:=⟨[(2,_,_),(3,_,_),(4,_,_),(5,_,_)],[(.l 2,_),(.l 3,_),(.l 4,_),(.l 5,_),(.o 0,_)],[(.b (.l 2) 1,_),(.b (.l 2) 2,_),(.b (.l 2) 3,_),(.b (.l 2) 4,_),(.b (.l 2) 5,_)],[]⟩) (uAj (⟨sx rfl,sx rfl,sx rfl,sx rfl,trivial⟩) (⟨sx rfl,sx rfl,sx rfl,sx rfl,sx rfl,trivial⟩) (⟨rfl,rfl,rfl,rfl,rfl,trivial⟩)) ?_;refine uAk (s:=⟨[(2,_,_),(3,_,_),(4,_,_),(5,_,_)],[(.l 2,_),(.l 3,_),(.l 4,_),(.l 5,_),(.o 0,_)],[(.b (.l 2) 1,_),(.b (.l 2) 2,_),(.b (.l 2) 3,_),(.b (.l 2) 4,_),(.b (.l 2) 5,_)],[]⟩) (uAj (⟨sx rfl,sx rfl,sx rfl,sx rfl,trivial⟩) (⟨sx rfl,sx rfl,sx rfl,sx rfl,sx rfl,trivial⟩) (⟨rfl,rfl,rfl,rfl,rfl,trivial⟩)) ?_;refine uBh (.l 2) rfl (fun w1 w2 w3 w4 w5=>?_);refine uAk (s:=⟨[(2,_,_),(3,_,_),(4,_,_),(5,_,_)],[(.l 2,_),(.l 3,_),(.l 4,_),(.l 5,_),(.o 0,_)],[(.b (.l 2) 1,_),(.b (.l 2) 2,_),(.b (.l 2) 3,_),(.b (.l 2) 4,_),(.b (.l 2) 5,_)],[]⟩) (uAj (⟨sx rfl,sx rfl,sx rfl,sx rfl,trivial⟩) (⟨sx rfl,sx rfl,sx rfl,sx rfl,sx rfl,trivial⟩) (⟨rfl,rfl,rfl,rfl,rfl,trivial⟩)) ?_;refine uAd ?_;refine awp_drawn' (by kernel_rfl) ?_;refine uAG rfl rfl rfl rfl rfl rfl rfl gU rfl rfl rfl rfl rfl ?_;refine uAG rfl rfl rfl rfl rfl rfl rfl gU rfl rfl rfl rfl rfl ?_
   refine uAQ rfl rfl rfl rfl rfl rfl rfl gU gU (up (uAZ l _ _ (by omega) (le3 hl (by first|assumption|(dsimp only; first|assumption|exact hq4 _|exact hq5 _))))) rfl ?_;refine uAT rfl rfl rfl rfl rfl rfl rfl rfl rfl rfl rfl rfl ?_;refine uAT rfl rfl rfl rfl rfl rfl rfl rfl rfl rfl rfl rfl ?_;refine uA2 (by kernel_rfl) ?_;refine uAk (s:=⟨[(2,_,_),(4,_,_),(5,_,_)],[(.l 2,_),(.l 4,_),(.l 5,_),(.o 0,_)],[(.b (.l 2) 1,_),(.b (.l 2) 2,_),(.b (.l 2) 3,_),(.b (.l 2) 4,_),(.b (.l 2) 5,_)],[]⟩) (uAj (⟨sx rfl,sx rfl,sx rfl,trivial⟩) (⟨sx rfl,sx rfl,sx rfl,sx rfl,trivial⟩) (⟨(ak rfl (ak rfl (ak rfl (ak rfl (ak rfl (rfl)))))),(ak rfl (ak rfl (ak rfl (ak rfl (ak rfl (rfl)))))),(ak rfl (ak rfl (ak rfl (ak rfl (ak rfl (rfl)))))),(ak rfl (ak rfl (ak rfl (ak rfl (ak rfl (rfl)))))),(ak rfl (ak rfl (ak rfl (ak rfl (ak rfl (rfl)))))),trivial⟩)) ?_;refine uBn (.l 4) (.l 2) rfl rfl rfl rfl rfl ?_;refine uAk (s:=⟨[(2,_,_),(4,_,_),(5,_,_)],[(.l 2,_),(.l 4,_),(.l 5,_),(.o 0,_)],[(.b (.l 4) 1,_),(.b (.l 4) 2,_),(.b (.l 4) 3,_),(.b (.l 4) 4,_),(.b (.l 4) 5,_)],[]⟩) (uAj (⟨sx rfl,sx rfl,sx rfl,trivial⟩) (⟨sx rfl,sx rfl,sx rfl,sx rfl,trivial⟩) (⟨rfl,rfl,rfl,rfl,rfl,trivial⟩)) ?_;refine uAq ?_
   repeat(first|refine tR ?_|refine bR ?_)
   refine uBx rfl ?_ ⟨⟨_,rfl,rfl⟩,trivial⟩ (by simp) rfl rfl rfl rfl rfl rfl;exact congrArg (fun z=>X.tup [.agg (narC n.name z (Fs.rows n.fresh) (strR n.tags) (Sp.rows n.steps) (Gl.rows n.goals)), .agg (pbx l (uAS l [59] (uBB l q).2))]) (uEH _ _).symm
  ·try simp only [nn,uAi,T.rows_len,Tk.rows_len] at hcv1
   refine uAd (uAb ?_);refine uAa rfl rfl rfl (uAm rfl rfl gU gU rfl) ?_;refine uAa rfl rfl rfl (uAe rfl gU) ?_;refine uAf ?_;refine uAk (s:=⟨[(2,_,_),(3,_,_),(4,_,_),(5,_,_),(6,_,_),(28,_,_),(41,_,_)],[(.l 2,_),(.l 3,_),(.l 4,_),(.l 5,_),(.o 0,_)],[(.b (.l 2) 1,_),(.b (.l 2) 2,_),(.b (.l 2) 3,_),(.b (.l 2) 4,_),(.b (.l 2) 5,_)],[]⟩) (uAj (⟨sx rfl,sx rfl,sx rfl,sx rfl,sx rfl,sx rfl,sx rfl,trivial⟩) (⟨sx rfl,sx rfl,sx rfl,sx rfl,sx rfl,trivial⟩) (⟨rfl,rfl,rfl,rfl,rfl,trivial⟩)) ?_;refine uAo rfl (fun hcv2=>?_) (fun hcv2=>?_)
   ·try simp only [nn,uAi,T.rows_len,Tk.rows_len] at hcv2
    subst hcv2
    rw[uCk hk hline (uJO l n 0 q)]
    refine uAk (s:=⟨[(2,_,_),(3,_,_),(4,_,_),(5,_,_)],[(.l 2,_),(.l 3,_),(.l 4,_),(.l 5,_),(.o 0,_)],[(.b (.l 2) 1,_),(.b (.l 2) 2,_),(.b (.l 2) 3,_),(.b (.l 2) 4,_),(.b (.l 2) 5,_)],[]⟩) (uAj (⟨sx rfl,sx rfl,sx rfl,sx rfl,trivial⟩) (⟨sx rfl,sx rfl,sx rfl,sx rfl,sx rfl,trivial⟩) (⟨rfl,rfl,rfl,rfl,rfl,trivial⟩)) ?_;refine uBh (.l 2) rfl (fun w1 w2 w3 w4 w5=>?_);refine uAk (s:=⟨[(2,_,_),(3,_,_),(4,_,_),(5,_,_)],[(.l 2,_),(.l 3,_),(.l 4,_),(.l 5,_),(.o 0,_)],[(.b (.l 2) 1,_),(.b (.l 2) 2,_),(.b (.l 2) 3,_),(.b (.l 2) 4,_),(.b (.l 2) 5,_)],[]⟩) (uAj (⟨sx rfl,sx rfl,sx rfl,sx rfl,trivial⟩) (⟨sx rfl,sx rfl,sx rfl,sx rfl,sx rfl,trivial⟩) (⟨rfl,rfl,rfl,rfl,rfl,trivial⟩)) ?_;refine uAb ?_;refine uAa rfl rfl rfl (uAn rfl gU rfl rfl rfl rfl rfl) ?_;refine uAa rfl rfl rfl (uAn rfl gU rfl rfl rfl rfl rfl) ?_;refine uDD (.l 2) (.l 3) osR rfl rfl rfl rfl rfl rfl ⟨rfl,rfl,rfl,rfl,rfl,rfl⟩ ⟨rfl,rfl,rfl,rfl,rfl,rfl⟩ rfl rfl rfl rfl rfl rfl rfl rfl rfl ⟨rfl,rfl⟩ rfl (uEI l q n w1 w2 w3 w4 w5 hl hq1 (by omega)) rfl rfl rfl rfl rfl rfl rfl rfl ?_;refine uAf ?_;refine uAk (s:=⟨[(2,_,_),(3,_,_),(4,_,_),(5,_,_)],[(.l 2,_),(.l 3,_),(.l 4,_),(.l 5,_),(.o 0,_)],[(.b (.l 2) 1,_),(.b (.l 2) 2,_),(.b (.l 2) 3,_),(.b (.l 2) 4,_),(.b (.l 2) 5,_)],[]⟩) (uAj (⟨sx rfl,sx rfl,sx rfl,sx rfl,trivial⟩) (⟨sx rfl,sx rfl,sx rfl,sx rfl,sx rfl,trivial⟩) (⟨rfl,rfl,rfl,rfl,rfl,trivial⟩)) ?_
    refine uAk (s:=⟨[(2,_,_),(3,_,_),(4,_,_),(5,_,_)],[(.l 2,_),(.l 3,_),(.l 4,_),(.l 5,_),(.o 0,_)],[(.b (.l 2) 1,_),(.b (.l 2) 2,_),(.b (.l 2) 3,_),(.b (.l 2) 4,_),(.b (.l 2) 5,_)],[]⟩) (uAj (⟨sx rfl,sx rfl,sx rfl,sx rfl,trivial⟩) (⟨sx rfl,sx rfl,sx rfl,sx rfl,sx rfl,trivial⟩) (⟨rfl,rfl,rfl,rfl,rfl,trivial⟩)) ?_;refine uBh (.l 2) rfl (fun w1 w2 w3 w4 w5=>?_);refine uAk (s:=⟨[(2,_,_),(3,_,_),(4,_,_),(5,_,_)],[(.l 2,_),(.l 3,_),(.l 4,_),(.l 5,_),(.o 0,_)],[(.b (.l 2) 1,_),(.b (.l 2) 2,_),(.b (.l 2) 3,_),(.b (.l 2) 4,_),(.b (.l 2) 5,_)],[]⟩) (uAj (⟨sx rfl,sx rfl,sx rfl,sx rfl,trivial⟩) (⟨sx rfl,sx rfl,sx rfl,sx rfl,sx rfl,trivial⟩) (⟨rfl,rfl,rfl,rfl,rfl,trivial⟩)) ?_;refine uAd ?_;refine awp_drawn' (by kernel_rfl) ?_;refine uAG rfl rfl rfl rfl rfl rfl rfl gU rfl rfl rfl rfl rfl ?_;refine uAG rfl rfl rfl rfl rfl rfl rfl gU rfl rfl rfl rfl rfl ?_;refine uAQ rfl rfl rfl rfl rfl rfl rfl gU gU (up (uAZ l _ _ (by omega) (le3 hl (by first|assumption|(dsimp only; first|assumption|exact hq4 _|exact hq5 _))))) rfl ?_;refine uAT rfl rfl rfl rfl rfl rfl rfl rfl rfl rfl rfl rfl ?_;refine uAT rfl rfl rfl rfl rfl rfl rfl rfl rfl rfl rfl rfl ?_;refine uA2 (by kernel_rfl) ?_;refine uAk (s:=⟨[(2,_,_),(4,_,_),(5,_,_)],[(.l 2,_),(.l 4,_),(.l 5,_),(.o 0,_)],[(.b (.l 2) 1,_),(.b (.l 2) 2,_),(.b (.l 2) 3,_),(.b (.l 2) 4,_),(.b (.l 2) 5,_)],[]⟩) (uAj (⟨sx rfl,sx rfl,sx rfl,trivial⟩) (⟨sx rfl,sx rfl,sx rfl,sx rfl,trivial⟩) (⟨(ak rfl (ak rfl (ak rfl (ak rfl (ak rfl (rfl)))))),(ak rfl (ak rfl (ak rfl (ak rfl (ak rfl (rfl)))))),(ak rfl (ak rfl (ak rfl (ak rfl (ak rfl (rfl)))))),(ak rfl (ak rfl (ak rfl (ak rfl (ak rfl (rfl)))))),(ak rfl (ak rfl (ak rfl (ak rfl (ak rfl (rfl)))))),trivial⟩)) ?_
    refine uBn (.l 4) (.l 2) rfl rfl rfl rfl rfl ?_;refine uAk (s:=⟨[(2,_,_),(4,_,_),(5,_,_)],[(.l 2,_),(.l 4,_),(.l 5,_),(.o 0,_)],[(.b (.l 4) 1,_),(.b (.l 4) 2,_),(.b (.l 4) 3,_),(.b (.l 4) 4,_),(.b (.l 4) 5,_)],[]⟩) (uAj (⟨sx rfl,sx rfl,sx rfl,trivial⟩) (⟨sx rfl,sx rfl,sx rfl,sx rfl,trivial⟩) (⟨rfl,rfl,rfl,rfl,rfl,trivial⟩)) ?_;refine uAq ?_
    repeat(first|refine tR ?_|refine bR ?_)
    refine uBx rfl ?_ ⟨⟨_,rfl,rfl⟩,trivial⟩ (by simp) rfl rfl rfl rfl rfl rfl
    rfl
   ·try simp only [nn,uAi,T.rows_len,Tk.rows_len] at hcv2
    refine uAd (uAb ?_);refine uAa rfl rfl rfl (uAm rfl rfl gU gU rfl) ?_;refine uAa rfl rfl rfl (uAe rfl gU) ?_;refine uAf ?_;refine uAo rfl (fun hcv3=>?_) (fun hcv3=>?_)
    ·try simp only [nn,uAi,T.rows_len,Tk.rows_len] at hcv3
     subst hcv3
     rw[uCk hk hline (uKP l n 0 q)]
     refine uAd (uAb ?_);refine uAa rfl rfl rfl (uAn rfl gU rfl rfl rfl rfl rfl) ?_;refine uAx rfl rfl rfl rfl rfl rfl gU gU (up (uC1 l q (by omega) hq1)) rfl ?_;refine uAa rfl rfl rfl (uAc rfl gU) ?_;refine uAa rfl rfl rfl (uAv rfl gU rfl) ?_;refine uAa rfl rfl rfl (uAv rfl gU rfl) ?_;refine uAa rfl rfl rfl (uAe rfl gU) ?_;refine uAs rfl (uAw rfl rfl rfl rfl rfl rfl rfl) ?_;refine uAf ?_;refine uAk (s:=⟨[(2,_,_),(3,_,_),(4,_,_),(5,_,_),(8,_,_)],[(.l 2,_),(.l 3,_),(.l 4,_),(.l 5,_),(.o 0,_)],[(.b (.l 2) 1,_),(.b (.l 2) 2,_),(.b (.l 2) 3,_),(.b (.l 2) 4,_),(.b (.l 2) 5,_)],[]⟩) (uAj (⟨sx rfl,sx rfl,sx rfl,sx rfl,sx rfl,trivial⟩) (⟨sx rfl,sx rfl,sx rfl,sx rfl,sx rfl,trivial⟩) (⟨rfl,rfl,rfl,rfl,rfl,trivial⟩)) ?_;refine uAb ?_;refine uAa rfl rfl rfl (uAg rfl gU rfl rfl) ?_;refine uAs rfl (uBp rfl rfl rfl rfl rfl rfl rfl) ?_;refine uAa rfl rfl rfl (uAc rfl gU) ?_;refine uAs rfl (uA0 rfl rfl rfl rfl rfl rfl rfl (by first|omega|(simp only [List.length_append,List.length_singleton,uAi]; omega)) (by first|omega|(simp only [List.length_append,List.length_singleton,uAi]; omega))) ?_;refine uAa rfl rfl rfl (uAg rfl gU rfl rfl) ?_;refine uAs rfl (uBi rfl rfl rfl rfl rfl rfl rfl) ?_
     refine uAf ?_;refine uAk (s:=⟨[(2,_,_),(3,_,_),(4,_,_),(5,_,_)],[(.l 2,_),(.l 3,_),(.l 4,_),(.l 5,_),(.o 0,_)],[(.b (.l 2) 1,_),(.b (.l 2) 2,_),(.b (.l 2) 3,_),(.b (.l 2) 4,_),(.b (.l 2) 5,_)],[]⟩) (uAj (⟨sx rfl,sx rfl,sx rfl,sx rfl,trivial⟩) (⟨sx rfl,sx rfl,sx rfl,sx rfl,sx rfl,trivial⟩) (⟨rfl,rfl,rfl,rfl,rfl,trivial⟩)) ?_;refine uAk (s:=⟨[(2,_,_),(3,_,_),(4,_,_),(5,_,_)],[(.l 2,_),(.l 3,_),(.l 4,_),(.l 5,_),(.o 0,_)],[(.b (.l 2) 1,_),(.b (.l 2) 2,_),(.b (.l 2) 3,_),(.b (.l 2) 4,_),(.b (.l 2) 5,_)],[]⟩) (uAj (⟨sx rfl,sx rfl,sx rfl,sx rfl,trivial⟩) (⟨sx rfl,sx rfl,sx rfl,sx rfl,sx rfl,trivial⟩) (⟨rfl,rfl,rfl,rfl,rfl,trivial⟩)) ?_;refine uBh (.l 2) rfl (fun w1 w2 w3 w4 w5=>?_);refine uAk (s:=⟨[(2,_,_),(3,_,_),(4,_,_),(5,_,_)],[(.l 2,_),(.l 3,_),(.l 4,_),(.l 5,_),(.o 0,_)],[(.b (.l 2) 1,_),(.b (.l 2) 2,_),(.b (.l 2) 3,_),(.b (.l 2) 4,_),(.b (.l 2) 5,_)],[]⟩) (uAj (⟨sx rfl,sx rfl,sx rfl,sx rfl,trivial⟩) (⟨sx rfl,sx rfl,sx rfl,sx rfl,sx rfl,trivial⟩) (⟨rfl,rfl,rfl,rfl,rfl,trivial⟩)) ?_;refine uAd ?_;refine awp_drawn' (by kernel_rfl) ?_;refine uAG rfl rfl rfl rfl rfl rfl rfl gU rfl rfl rfl rfl rfl ?_;refine uAG rfl rfl rfl rfl rfl rfl rfl gU rfl rfl rfl rfl rfl ?_
     refine uAQ rfl rfl rfl rfl rfl rfl rfl gU gU (up (uAZ l _ _ (by omega) (le3 hl (by first|assumption|(dsimp only; first|assumption|exact hq4 _|exact hq5 _))))) rfl ?_;refine uAT rfl rfl rfl rfl rfl rfl rfl rfl rfl rfl rfl rfl ?_;refine uAT rfl rfl rfl rfl rfl rfl rfl rfl rfl rfl rfl rfl ?_;refine uA2 (by kernel_rfl) ?_;refine uAk (s:=⟨[(2,_,_),(4,_,_),(5,_,_)],[(.l 2,_),(.l 4,_),(.l 5,_),(.o 0,_)],[(.b (.l 2) 1,_),(.b (.l 2) 2,_),(.b (.l 2) 3,_),(.b (.l 2) 4,_),(.b (.l 2) 5,_)],[]⟩) (uAj (⟨sx rfl,sx rfl,sx rfl,trivial⟩) (⟨sx rfl,sx rfl,sx rfl,sx rfl,trivial⟩) (⟨(ak rfl (ak rfl (ak rfl (ak rfl (ak rfl (rfl)))))),(ak rfl (ak rfl (ak rfl (ak rfl (ak rfl (rfl)))))),(ak rfl (ak rfl (ak rfl (ak rfl (ak rfl (rfl)))))),(ak rfl (ak rfl (ak rfl (ak rfl (ak rfl (rfl)))))),(ak rfl (ak rfl (ak rfl (ak rfl (ak rfl (rfl)))))),trivial⟩)) ?_;refine uBn (.l 4) (.l 2) rfl rfl rfl rfl rfl ?_;refine uAk (s:=⟨[(2,_,_),(4,_,_),(5,_,_)],[(.l 2,_),(.l 4,_),(.l 5,_),(.o 0,_)],[(.b (.l 4) 1,_),(.b (.l 4) 2,_),(.b (.l 4) 3,_),(.b (.l 4) 4,_),(.b (.l 4) 5,_)],[]⟩) (uAj (⟨sx rfl,sx rfl,sx rfl,trivial⟩) (⟨sx rfl,sx rfl,sx rfl,sx rfl,trivial⟩) (⟨rfl,rfl,rfl,rfl,rfl,trivial⟩)) ?_;refine uAq ?_
     repeat(first|refine tR ?_|refine bR ?_)
     refine uBx rfl ?_ ⟨⟨_,rfl,rfl⟩,trivial⟩ (by simp) rfl rfl rfl rfl rfl rfl;exact congrArg (fun z=>X.tup [.agg (narC n.name (strR n.roles) (Fs.rows n.fresh) z (Sp.rows n.steps) (Gl.rows n.goals)), .agg (pbx l (uAS l [59] (uBB l q).2))]) (uEH _ _).symm
    ·try simp only [nn,uAi,T.rows_len,Tk.rows_len] at hcv3
     refine uAd (uAb ?_);refine uAa rfl rfl rfl (uAm rfl rfl gU gU rfl) ?_;refine uAa rfl rfl rfl (uAe rfl gU) ?_;refine uAf ?_;refine uAo rfl (fun hcv4=>?_) (fun hcv4=>?_)
     ·try simp only [nn,uAi,T.rows_len,Tk.rows_len] at hcv4
      subst hcv4
      rw[uCk hk hline (uKq l n 0 q)]
      refine uAk (s:=⟨[(2,_,_),(3,_,_),(4,_,_),(5,_,_),(6,_,_)],[(.l 2,_),(.l 3,_),(.l 4,_),(.l 5,_),(.o 0,_)],[(.b (.l 2) 1,_),(.b (.l 2) 2,_),(.b (.l 2) 3,_),(.b (.l 2) 4,_),(.b (.l 2) 5,_)],[]⟩) (uAj (⟨sx rfl,sx rfl,sx rfl,sx rfl,sx rfl,trivial⟩) (⟨sx rfl,sx rfl,sx rfl,sx rfl,sx rfl,trivial⟩) (⟨rfl,rfl,rfl,rfl,rfl,trivial⟩)) ?_;refine uBh (.l 2) rfl (fun w1 w2 w3 w4 w5=>?_);refine uAk (s:=⟨[(2,_,_),(3,_,_),(4,_,_),(5,_,_),(6,_,_)],[(.l 2,_),(.l 3,_),(.l 4,_),(.l 5,_),(.o 0,_)],[(.b (.l 2) 1,_),(.b (.l 2) 2,_),(.b (.l 2) 3,_),(.b (.l 2) 4,_),(.b (.l 2) 5,_)],[]⟩) (uAj (⟨sx rfl,sx rfl,sx rfl,sx rfl,sx rfl,trivial⟩) (⟨sx rfl,sx rfl,sx rfl,sx rfl,sx rfl,trivial⟩) (⟨rfl,rfl,rfl,rfl,rfl,trivial⟩)) ?_;refine uAb ?_;refine uAa rfl rfl rfl (uAn rfl gU rfl rfl rfl rfl rfl) ?_;refine uAa rfl rfl rfl (uAn rfl gU rfl rfl rfl rfl rfl) ?_;refine uAa rfl rfl rfl (uAc rfl gU) ?_;refine uDD (.l 2) (.l 3) osR rfl rfl rfl rfl rfl rfl ⟨rfl,rfl,rfl,rfl,rfl,rfl⟩ ⟨rfl,rfl,rfl,rfl,rfl,rfl⟩ rfl rfl rfl rfl rfl rfl rfl rfl rfl ⟨rfl,rfl⟩ rfl (uFb l q n (0) w1 w2 w3 w4 w5 hl hq1 (by omega)) rfl rfl rfl rfl rfl rfl rfl rfl ?_;refine uAf ?_;refine uAk (s:=⟨[(2,_,_),(3,_,_),(4,_,_),(5,_,_)],[(.l 2,_),(.l 3,_),(.l 4,_),(.l 5,_),(.o 0,_)],[(.b (.l 2) 1,_),(.b (.l 2) 2,_),(.b (.l 2) 3,_),(.b (.l 2) 4,_),(.b (.l 2) 5,_)],[]⟩) (uAj (⟨sx rfl,sx rfl,sx rfl,sx rfl,trivial⟩) (⟨sx rfl,sx rfl,sx rfl,sx rfl,sx rfl,trivial⟩) (⟨rfl,rfl,rfl,rfl,rfl,trivial⟩)) ?_
      refine uAk (s:=⟨[(2,_,_),(3,_,_),(4,_,_),(5,_,_)],[(.l 2,_),(.l 3,_),(.l 4,_),(.l 5,_),(.o 0,_)],[(.b (.l 2) 1,_),(.b (.l 2) 2,_),(.b (.l 2) 3,_),(.b (.l 2) 4,_),(.b (.l 2) 5,_)],[]⟩) (uAj (⟨sx rfl,sx rfl,sx rfl,sx rfl,trivial⟩) (⟨sx rfl,sx rfl,sx rfl,sx rfl,sx rfl,trivial⟩) (⟨rfl,rfl,rfl,rfl,rfl,trivial⟩)) ?_;refine uBh (.l 2) rfl (fun w1 w2 w3 w4 w5=>?_);refine uAk (s:=⟨[(2,_,_),(3,_,_),(4,_,_),(5,_,_)],[(.l 2,_),(.l 3,_),(.l 4,_),(.l 5,_),(.o 0,_)],[(.b (.l 2) 1,_),(.b (.l 2) 2,_),(.b (.l 2) 3,_),(.b (.l 2) 4,_),(.b (.l 2) 5,_)],[]⟩) (uAj (⟨sx rfl,sx rfl,sx rfl,sx rfl,trivial⟩) (⟨sx rfl,sx rfl,sx rfl,sx rfl,sx rfl,trivial⟩) (⟨rfl,rfl,rfl,rfl,rfl,trivial⟩)) ?_;refine uAd ?_;refine awp_drawn' (by kernel_rfl) ?_;refine uAG rfl rfl rfl rfl rfl rfl rfl gU rfl rfl rfl rfl rfl ?_;refine uAG rfl rfl rfl rfl rfl rfl rfl gU rfl rfl rfl rfl rfl ?_;refine uAQ rfl rfl rfl rfl rfl rfl rfl gU gU (up (uAZ l _ _ (by omega) (le3 hl (by first|assumption|(dsimp only; first|assumption|exact hq4 _|exact hq5 _))))) rfl ?_;refine uAT rfl rfl rfl rfl rfl rfl rfl rfl rfl rfl rfl rfl ?_;refine uAT rfl rfl rfl rfl rfl rfl rfl rfl rfl rfl rfl rfl ?_;refine uA2 (by kernel_rfl) ?_;refine uAk (s:=⟨[(2,_,_),(4,_,_),(5,_,_)],[(.l 2,_),(.l 4,_),(.l 5,_),(.o 0,_)],[(.b (.l 2) 1,_),(.b (.l 2) 2,_),(.b (.l 2) 3,_),(.b (.l 2) 4,_),(.b (.l 2) 5,_)],[]⟩) (uAj (⟨sx rfl,sx rfl,sx rfl,trivial⟩) (⟨sx rfl,sx rfl,sx rfl,sx rfl,trivial⟩) (⟨(ak rfl (ak rfl (ak rfl (ak rfl (ak rfl (rfl)))))),(ak rfl (ak rfl (ak rfl (ak rfl (ak rfl (rfl)))))),(ak rfl (ak rfl (ak rfl (ak rfl (ak rfl (rfl)))))),(ak rfl (ak rfl (ak rfl (ak rfl (ak rfl (rfl)))))),(ak rfl (ak rfl (ak rfl (ak rfl (ak rfl (rfl)))))),trivial⟩)) ?_
      refine uBn (.l 4) (.l 2) rfl rfl rfl rfl rfl ?_;refine uAk (s:=⟨[(2,_,_),(4,_,_),(5,_,_)],[(.l 2,_),(.l 4,_),(.l 5,_),(.o 0,_)],[(.b (.l 4) 1,_),(.b (.l 4) 2,_),(.b (.l 4) 3,_),(.b (.l 4) 4,_),(.b (.l 4) 5,_)],[]⟩) (uAj (⟨sx rfl,sx rfl,sx rfl,trivial⟩) (⟨sx rfl,sx rfl,sx rfl,sx rfl,trivial⟩) (⟨rfl,rfl,rfl,rfl,rfl,trivial⟩)) ?_;refine uAq ?_
      repeat(first|refine tR ?_|refine bR ?_)
      refine uBx rfl ?_ ⟨⟨_,rfl,rfl⟩,trivial⟩ (by simp) rfl rfl rfl rfl rfl rfl
      rfl
     ·try simp only [nn,uAi,T.rows_len,Tk.rows_len] at hcv4
      refine uAd (uAb ?_);refine uAa rfl rfl rfl (uAm rfl rfl gU gU rfl) ?_;refine uAa rfl rfl rfl (uAe rfl gU) ?_;refine uAf ?_;refine uAk (s:=⟨[(2,_,_),(3,_,_),(4,_,_),(5,_,_),(6,_,_),(70,_,_)],[(.l 2,_),(.l 3,_),(.l 4,_),(.l 5,_),(.o 0,_)],[(.b (.l 2) 1,_),(.b (.l 2) 2,_),(.b (.l 2) 3,_),(.b (.l 2) 4,_),(.b (.l 2) 5,_)],[]⟩) (uAj (⟨sx rfl,sx rfl,sx rfl,sx rfl,sx rfl,sx rfl,trivial⟩) (⟨sx rfl,sx rfl,sx rfl,sx rfl,sx rfl,trivial⟩) (⟨rfl,rfl,rfl,rfl,rfl,trivial⟩)) ?_;refine uAo rfl (fun hcv5=>?_) (fun hcv5=>?_)
      ·try simp only [nn,uAi,T.rows_len,Tk.rows_len] at hcv5
       subst hcv5
       rw[uCk hk hline (uK7 l n 0 q)]
       refine uAk (s:=⟨[(2,_,_),(3,_,_),(4,_,_),(5,_,_),(6,_,_)],[(.l 2,_),(.l 3,_),(.l 4,_),(.l 5,_),(.o 0,_)],[(.b (.l 2) 1,_),(.b (.l 2) 2,_),(.b (.l 2) 3,_),(.b (.l 2) 4,_),(.b (.l 2) 5,_)],[]⟩) (uAj (⟨sx rfl,sx rfl,sx rfl,sx rfl,sx rfl,trivial⟩) (⟨sx rfl,sx rfl,sx rfl,sx rfl,sx rfl,trivial⟩) (⟨rfl,rfl,rfl,rfl,rfl,trivial⟩)) ?_;refine uBh (.l 2) rfl (fun w1 w2 w3 w4 w5=>?_);refine uAk (s:=⟨[(2,_,_),(3,_,_),(4,_,_),(5,_,_),(6,_,_)],[(.l 2,_),(.l 3,_),(.l 4,_),(.l 5,_),(.o 0,_)],[(.b (.l 2) 1,_),(.b (.l 2) 2,_),(.b (.l 2) 3,_),(.b (.l 2) 4,_),(.b (.l 2) 5,_)],[]⟩) (uAj (⟨sx rfl,sx rfl,sx rfl,sx rfl,sx rfl,trivial⟩) (⟨sx rfl,sx rfl,sx rfl,sx rfl,sx rfl,trivial⟩) (⟨rfl,rfl,rfl,rfl,rfl,trivial⟩)) ?_;refine uAb ?_;refine uAa rfl rfl rfl (uAn rfl gU rfl rfl rfl rfl rfl) ?_;refine uAa rfl rfl rfl (uAn rfl gU rfl rfl rfl rfl rfl) ?_;refine uAa rfl rfl rfl (uAc rfl gU) ?_;refine uDD (.l 2) (.l 3) osR rfl rfl rfl rfl rfl rfl ⟨rfl,rfl,rfl,rfl,rfl,rfl⟩ ⟨rfl,rfl,rfl,rfl,rfl,rfl⟩ rfl rfl rfl rfl rfl rfl rfl rfl rfl ⟨rfl,rfl⟩ rfl (uFf l q n (0) w1 w2 w3 w4 w5 hl hq1 (by omega)) rfl rfl rfl rfl rfl rfl rfl rfl ?_;refine uAf ?_;refine uAk (s:=⟨[(2,_,_),(3,_,_),(4,_,_),(5,_,_)],[(.l 2,_),(.l 3,_),(.l 4,_),(.l 5,_),(.o 0,_)],[(.b (.l 2) 1,_),(.b (.l 2) 2,_),(.b (.l 2) 3,_),(.b (.l 2) 4,_),(.b (.l 2) 5,_)],[]⟩) (uAj (⟨sx rfl,sx rfl,sx rfl,sx rfl,trivial⟩) (⟨sx rfl,sx rfl,sx rfl,sx rfl,sx rfl,trivial⟩) (⟨rfl,rfl,rfl,rfl,rfl,trivial⟩)) ?_
       refine uAk (s:=⟨[(2,_,_),(3,_,_),(4,_,_),(5,_,_)],[(.l 2,_),(.l 3,_),(.l 4,_),(.l 5,_),(.o 0,_)],[(.b (.l 2) 1,_),(.b (.l 2) 2,_),(.b (.l 2) 3,_),(.b (.l 2) 4,_),(.b (.l 2) 5,_)],[]⟩) (uAj (⟨sx rfl,sx rfl,sx rfl,sx rfl,trivial⟩) (⟨sx rfl,sx rfl,sx rfl,sx rfl,sx rfl,trivial⟩) (⟨rfl,rfl,rfl,rfl,rfl,trivial⟩)) ?_;refine uBh (.l 2) rfl (fun w1 w2 w3 w4 w5=>?_);refine uAk (s:=⟨[(2,_,_),(3,_,_),(4,_,_),(5,_,_)],[(.l 2,_),(.l 3,_),(.l 4,_),(.l 5,_),(.o 0,_)],[(.b (.l 2) 1,_),(.b (.l 2) 2,_),(.b (.l 2) 3,_),(.b (.l 2) 4,_),(.b (.l 2) 5,_)],[]⟩) (uAj (⟨sx rfl,sx rfl,sx rfl,sx rfl,trivial⟩) (⟨sx rfl,sx rfl,sx rfl,sx rfl,sx rfl,trivial⟩) (⟨rfl,rfl,rfl,rfl,rfl,trivial⟩)) ?_;refine uAd ?_;refine awp_drawn' (by kernel_rfl) ?_;refine uAG rfl rfl rfl rfl rfl rfl rfl gU rfl rfl rfl rfl rfl ?_;refine uAG rfl rfl rfl rfl rfl rfl rfl gU rfl rfl rfl rfl rfl ?_;refine uAQ rfl rfl rfl rfl rfl rfl rfl gU gU (up (uAZ l _ _ (by omega) (le3 hl (by first|assumption|(dsimp only; first|assumption|exact hq4 _|exact hq5 _))))) rfl ?_;refine uAT rfl rfl rfl rfl rfl rfl rfl rfl rfl rfl rfl rfl ?_;refine uAT rfl rfl rfl rfl rfl rfl rfl rfl rfl rfl rfl rfl ?_;refine uA2 (by kernel_rfl) ?_;refine uAk (s:=⟨[(2,_,_),(4,_,_),(5,_,_)],[(.l 2,_),(.l 4,_),(.l 5,_),(.o 0,_)],[(.b (.l 2) 1,_),(.b (.l 2) 2,_),(.b (.l 2) 3,_),(.b (.l 2) 4,_),(.b (.l 2) 5,_)],[]⟩) (uAj (⟨sx rfl,sx rfl,sx rfl,trivial⟩) (⟨sx rfl,sx rfl,sx rfl,sx rfl,trivial⟩) (⟨(ak rfl (ak rfl (ak rfl (ak rfl (ak rfl (rfl)))))),(ak rfl (ak rfl (ak rfl (ak rfl (ak rfl (rfl)))))),(ak rfl (ak rfl (ak rfl (ak rfl (ak rfl (rfl)))))),(ak rfl (ak rfl (ak rfl (ak rfl (ak rfl (rfl)))))),(ak rfl (ak rfl (ak rfl (ak rfl (ak rfl (rfl)))))),trivial⟩)) ?_
       refine uBn (.l 4) (.l 2) rfl rfl rfl rfl rfl ?_;refine uAk (s:=⟨[(2,_,_),(4,_,_),(5,_,_)],[(.l 2,_),(.l 4,_),(.l 5,_),(.o 0,_)],[(.b (.l 4) 1,_),(.b (.l 4) 2,_),(.b (.l 4) 3,_),(.b (.l 4) 4,_),(.b (.l 4) 5,_)],[]⟩) (uAj (⟨sx rfl,sx rfl,sx rfl,trivial⟩) (⟨sx rfl,sx rfl,sx rfl,sx rfl,trivial⟩) (⟨rfl,rfl,rfl,rfl,rfl,trivial⟩)) ?_;refine uAq ?_
       repeat(first|refine tR ?_|refine bR ?_)
       refine uBx rfl ?_ ⟨⟨_,rfl,rfl⟩,trivial⟩ (by simp) rfl rfl rfl rfl rfl rfl
       rfl
      ·try simp only [nn,uAi,T.rows_len,Tk.rows_len] at hcv5
       rw[uCk hk hline (uKH l n 0 q hcv1 hcv2 hcv3 hcv4 hcv5)]
       refine uAp ?_;refine uAk (s:=⟨[(2,_,_),(3,_,_),(4,_,_),(5,_,_)],[(.l 2,_),(.l 3,_),(.l 4,_),(.l 5,_),(.o 0,_)],[(.b (.l 2) 1,_),(.b (.l 2) 2,_),(.b (.l 2) 3,_),(.b (.l 2) 4,_),(.b (.l 2) 5,_)],[]⟩) (uAj (⟨sx rfl,sx rfl,sx rfl,sx rfl,trivial⟩) (⟨sx rfl,sx rfl,sx rfl,sx rfl,sx rfl,trivial⟩) (⟨rfl,rfl,rfl,rfl,rfl,trivial⟩)) ?_;refine uBh (.l 2) rfl (fun w1 w2 w3 w4 w5=>?_);refine uAk (s:=⟨[(2,_,_),(3,_,_),(4,_,_),(5,_,_)],[(.l 2,_),(.l 3,_),(.l 4,_),(.l 5,_),(.o 0,_)],[(.b (.l 2) 1,_),(.b (.l 2) 2,_),(.b (.l 2) 3,_),(.b (.l 2) 4,_),(.b (.l 2) 5,_)],[]⟩) (uAj (⟨sx rfl,sx rfl,sx rfl,sx rfl,trivial⟩) (⟨sx rfl,sx rfl,sx rfl,sx rfl,sx rfl,trivial⟩) (⟨rfl,rfl,rfl,rfl,rfl,trivial⟩)) ?_;refine uAd ?_;refine awp_drawn' (by kernel_rfl) ?_;refine uAG rfl rfl rfl rfl rfl rfl rfl gU rfl rfl rfl rfl rfl ?_;refine uAG rfl rfl rfl rfl rfl rfl rfl gU rfl rfl rfl rfl rfl ?_;refine uAQ rfl rfl rfl rfl rfl rfl rfl gU gU (up (uAZ l _ _ (by omega) (le3 hl (by first|assumption|(dsimp only; first|assumption|exact hq4 _|exact hq5 _))))) rfl ?_;refine uAT rfl rfl rfl rfl rfl rfl rfl rfl rfl rfl rfl rfl ?_;refine uAT rfl rfl rfl rfl rfl rfl rfl rfl rfl rfl rfl rfl ?_;refine uA2 (by kernel_rfl) ?_;refine uAk (s:=⟨[(2,_,_),(4,_,_),(5,_,_)],[(.l 2,_),(.l 4,_),(.l 5,_),(.o 0,_)],[(.b (.l 2) 1,_),(.b (.l 2) 2,_),(.b (.l 2) 3,_),(.b (.l 2) 4,_),(.b (.l 2) 5,_)],[]⟩) (uAj (⟨sx rfl,sx rfl,sx rfl,trivial⟩) (⟨sx rfl,sx rfl,sx rfl,sx rfl,trivial⟩) (⟨(ak rfl (ak rfl (ak rfl (ak rfl (ak rfl (rfl)))))),(ak rfl (ak rfl (ak rfl (ak rfl (ak rfl (rfl)))))),(ak rfl (ak rfl (ak rfl (ak rfl (ak rfl (rfl)))))),(ak rfl (ak rfl (ak rfl (ak rfl (ak rfl (rfl)))))),(ak rfl (ak rfl (ak rfl (ak rfl (ak rfl (rfl)))))),trivial⟩)) ?_
       refine uBn (.l 4) (.l 2) rfl rfl rfl rfl rfl ?_;refine uAk (s:=⟨[(2,_,_),(4,_,_),(5,_,_)],[(.l 2,_),(.l 4,_),(.l 5,_),(.o 0,_)],[(.b (.l 4) 1,_),(.b (.l 4) 2,_),(.b (.l 4) 3,_),(.b (.l 4) 4,_),(.b (.l 4) 5,_)],[]⟩) (uAj (⟨sx rfl,sx rfl,sx rfl,trivial⟩) (⟨sx rfl,sx rfl,sx rfl,sx rfl,trivial⟩) (⟨rfl,rfl,rfl,rfl,rfl,trivial⟩)) ?_;refine uAq ?_
       repeat(first|refine tR ?_|refine bR ?_)
       refine uBx rfl ?_ ⟨⟨_,rfl,rfl⟩,trivial⟩ (by simp) rfl rfl rfl rfl rfl rfl
       rfl
abbrev xnie (r : Nar × Int × Int) : X:=.tup [.agg r.1.cells, .c (.i .i64 r.2.1), .c (.i .i64 r.2.2)]
def uJo (l : List Tk) : Nar × Int × Int :=
 if (endE l (uD8 l).2).2≠0 then (nar0,(endE l (uD8 l).2).1,(endE l (uD8 l).2).2)
 else if narE uAN (uD8 l).1≠0 then (nar0,0,narE uAN (uD8 l).1)
 else ((uD8 l).1,0,0)
def uDS (s : List UInt8) : Nar × Int × Int:=if (tokP s).2.2≠0 then (nar0,(tokP s).2.1,(tokP s).2.2) else uJo (tokP s).1
theorem uNF (l : List Tk) (n : Nar) (p : PS) : p.at'≤(uDZ l n p).2.at':=Nat.le_trans (uA9 l uBF p).1 (Nat.le_trans (uHo l n (uCB l p) (uAy l uBF p).1 (uAy l uBF p).2).1 (uBy l [59] _).1)
theorem uMR (s : List UInt8) (hs : s.length≤9223372036854775807) : Ctr sys 103 [xs s] [] (uP4 (tokP s)) none []:=by rw[← uNN s]; exact uFT s hs
theorem uK4 {l : List Tk} {m : Nat} {n : Nar} {p : PS} (h : p.bad=true∨symQ l p [125]=true) : uCJ l m n p=(n,p):=by
 cases m with
 | zero=>rfl
 | succ m =>
  rw[uCJ]
  split
  ·rfl
  ·rename_i hb
   rw[if_pos (h.resolve_left hb)]
theorem uNx {l : List Tk} {m : Nat} {n : Nar} {p : PS} (h : p.bad=false) (hq : symQ l p [125]=false) : uCJ l (m + 1) n p=uCJ l m (uD4 l n p).1 (uD4 l n p).2:=by
 rw[uCJ,if_neg (by rw[h]; simp),if_neg (by rw[hq]; simp)]
theorem uOX {l : List Tk} {n : Nar} {p : PS} (h : (n,p)=uCJ l (l.length + 2) { nar0 with name:=(uAy l [] (chR l uCL ⟨0,false⟩).2).1 } (uAS l [123] (uAy l [] (chR l uCL ⟨0,false⟩).2).2)) : uKX l=(n,uAS l [125] p):=by
 unfold uKX; dsimp only; rw[← h]
set_option maxHeartbeats 8000000 in
theorem uI6 (s : List UInt8) (hs : s.length≤100000) : Ctr sysO 69 [xs s] [] (xnie (uDS s)) none []:=by
 have hcnt:=uLw s
 have htl:=Tk.rows_len (tokP s).1
 obtain ⟨l,hl⟩ : ∃ l,(tokP s).1=l:=⟨_,rfl⟩
 have hll : l.length≤100000:=by rw[← hl]; omega
 have a1:=(uJr l uCL ⟨0,false⟩).2 (Nat.zero_le _)
 have a2:=(uA9 l [] (chR l uCL ⟨0,false⟩).2).2 a1
 have a3:=(uBy l [123] (uAy l [] (chR l uCL ⟨0,false⟩).2).2).2 a2
 have hn1:=uDb l ⟨0,false⟩ uCL (by omega) (by dsimp only; omega)
 have hn2:=uBE l (chR l uCL ⟨0,false⟩).2 (by omega) (by omega)
 have hn3:=uAZ l (uAy l [] (chR l uCL ⟨0,false⟩).2).2 [123] (by omega) (by omega)
 obtain ⟨h1,h2⟩:=uOC l
 refine uAA Tryz.func69 rfl rfl rfl rfl rfl rfl ?_;refine uAd (uAb ?_);refine uAs rfl (uAK rfl rfl rfl) ?_;refine uAa rfl rfl rfl (uAe rfl gU) ?_;refine uAa rfl rfl rfl (uAe rfl gU) ?_;refine uAf ?_;refine uAd (uAb ?_);refine uAa rfl rfl rfl (uAc rfl gU) ?_;refine uAx rfl rfl rfl rfl rfl rfl gU gU (up (uMR _ (by omega))) rfl ?_;refine uAa rfl rfl rfl (uAc rfl gU) ?_;refine uAa rfl rfl rfl (uAv rfl gU rfl) ?_;refine uAa rfl rfl rfl (uAv rfl gU rfl) ?_;refine uAa rfl rfl rfl (uAv rfl gU rfl) ?_;refine uAa rfl rfl rfl (uAe rfl gU) ?_;refine uAa rfl rfl rfl (uAe rfl gU) ?_;refine uAa rfl rfl rfl (uAe rfl gU) ?_;refine uAf ?_;refine uAk (s:=⟨[(2,_,_),(5,_,_),(6,_,_),(7,_,_)],[(.l 2,_)],[],[]⟩) (uAj (⟨sx rfl,sx rfl,sx rfl,sx rfl,trivial⟩) (⟨sx rfl,trivial⟩) trivial) ?_;refine uAd ?_;refine uAd (uAb ?_);refine uAa rfl rfl rfl (uAc rfl gU) ?_;refine uAa rfl rfl rfl (uAm rfl rfl gU gU rfl) ?_;refine uAf ?_;refine uAo rfl (fun hc=>?_) (fun hc=>?_)
 ·try simp only [nn,uAi,T.rows_len,Tk.rows_len] at hc
  refine uAd (uAb ?_);refine uAa rfl rfl rfl (uBg rfl Tryz.underlying27 rfl gU) ?_;refine uAa rfl rfl rfl (uAc rfl gU) ?_;refine uAa rfl rfl rfl (uAc rfl gU) ?_;refine uAs rfl (uAw rfl rfl rfl rfl rfl rfl rfl) ?_;refine uAa rfl rfl rfl (uAe rfl gU) ?_;refine uAa rfl rfl rfl (uAe rfl gU) ?_;refine uAf ?_;refine uAq ?_
  repeat(first|refine tR ?_|refine bR ?_)
  refine uAu rfl ?_ trivial
  (rw[uDS,if_pos hc]; rfl)
 ·try simp only [nn,uAi,T.rows_len,Tk.rows_len] at hc
  have hpe : uDS s=uJo l:=by rw[uDS,if_neg (by simpa using hc),hl]
  rw[hpe]
  rw[hl]
  refine uAp ?_;refine uAd (uAb ?_);refine uAs rfl (uGs rfl rfl rfl rfl) ?_;refine uAf ?_;refine uAd (uAb ?_);refine uAa rfl rfl rfl (uAc rfl gU) ?_;refine uAa rfl rfl rfl (uBg rfl Tryz.underlying119 rfl gU) ?_;refine uAR (xs:=[_,_]) rfl rfl rfl rfl rfl rfl rfl rfl rfl gU rfl ?_;refine uAx rfl rfl rfl rfl rfl rfl gU gU (up hn1) rfl ?_;refine uAa rfl rfl rfl (uAc rfl gU) ?_;refine uAa rfl rfl rfl (uAv rfl gU rfl) ?_;refine uAa rfl rfl rfl (uAv rfl gU rfl) ?_;refine uAs rfl (uAK rfl rfl rfl) ?_;refine uAa rfl rfl rfl (uAe rfl gU) ?_;refine uBd (s:=⟨[(2,_,_),(5,_,_),(8,_,_),(10,_,_),(29,_,_)],[(.l 10,_),(.l 2,_),(.l 8,_)],[],[]⟩) (uAj (⟨sx rfl,sx rfl,sx rfl,sx rfl,sx rfl,trivial⟩) (⟨sx rfl,sx rfl,sx rfl,trivial⟩) trivial) ?_;refine uAs rfl (uAw rfl rfl rfl rfl rfl rfl rfl) ?_;refine uAf ?_;refine uAd (uAb ?_);refine uAa rfl rfl rfl (uAn rfl gU rfl rfl rfl rfl rfl) ?_;refine uAx rfl rfl rfl rfl rfl rfl gU gU (up hn2) rfl ?_;refine uAa rfl rfl rfl (uAc rfl gU) ?_;refine uAa rfl rfl rfl (uAv rfl gU rfl) ?_;refine uAa rfl rfl rfl (uAv rfl gU rfl) ?_;refine uAa rfl rfl rfl (uAg rfl gU rfl rfl) ?_;refine uAs rfl (uAw rfl rfl rfl rfl rfl rfl rfl) ?_;refine uAs rfl (uAw rfl rfl rfl rfl rfl rfl rfl) ?_
  refine uAf ?_;refine uAk (s:=⟨[(2,_,_),(5,_,_),(8,_,_),(10,_,_)],[(.l 10,_),(.l 2,_),(.l 8,_)],[],[]⟩) (uAj (⟨sx rfl,sx rfl,sx rfl,sx rfl,trivial⟩) (⟨sx rfl,sx rfl,sx rfl,trivial⟩) trivial) ?_;refine uAd (uAb ?_);refine uAa rfl rfl rfl (uAn rfl gU rfl rfl rfl rfl rfl) ?_;refine uAx rfl rfl rfl rfl rfl rfl gU gU (up hn3) rfl ?_;refine uAs rfl (uAw rfl rfl rfl rfl rfl rfl rfl) ?_;refine uAf ?_;refine uAd ?_;refine uAt ?_;refine uE3 (.l 8) 1 1 rfl rfl rfl ?_;refine uE3 (.l 8) 2 3 rfl rfl rfl ?_;refine uE3 (.l 8) 3 1 rfl rfl rfl ?_;refine uE3 (.l 8) 4 7 rfl rfl rfl ?_;refine uE3 (.l 8) 5 5 rfl rfl rfl ?_;refine uAW (ι:=PS × Nar) { t:=[(2,_,_),(5,_,_),(8,_,_),(10,_,_)],bx:=[(.l 2,_)],ow:=[(.b (.l 8) 1,_),(.b (.l 8) 2,_),(.b (.l 8) 3,_),(.b (.l 8) 4,_),(.b (.l 8) 5,_)] } (fun q=>[]) (fun q=>[((.l 10),pbx l q.1),((.l 8),q.2.cells)]) (fun q=>q.1.at'≤l.length∧(q.1.bad=false→q.2.Le q.1.at'∧q.2.Sm (2 * l.length + 2)) ∧ ∃ m,(q.1.bad=true∨l.length < m + q.1.at')∧uCJ l m q.2 q.1=uCJ l (l.length + 2) { nar0 with name:=(uAy l [] (chR l uCL ⟨0,false⟩).2).1 } (uAS l [123] (uAy l [] (chR l uCL ⟨0,false⟩).2).2)) (fun q=>(l.length - q.1.at') + (if q.1.bad=true then 0 else 1)) ((uAS l [123] (uAy l [] (chR l uCL ⟨0,false⟩).2).2,{ nar0 with name:=(uAy l [] (chR l uCL ⟨0,false⟩).2).1 })) (⟨a3,fun _=>⟨⟨Nat.zero_le _,Nat.zero_le _,Nat.zero_le _,Nat.zero_le _,Nat.zero_le _⟩,⟨fun s hs=>by simp [nar0] at hs,fun s hs=>by simp [nar0] at hs⟩⟩,l.length + 2, .inr (by omega),rfl⟩) (uAj (⟨sx rfl,sx rfl,sx rfl,sx rfl,trivial⟩) (⟨sx rfl,sx rfl,sx rfl,trivial⟩) (⟨rfl,rfl,rfl,rfl,rfl,trivial⟩)) ?_
  intro q hok
  dsimp only [List.cons_append,List.nil_append] at *
  obtain ⟨q,n⟩:=q
  dsimp only at hok ⊢
  obtain ⟨hq,hln,m,hm,hi⟩:=hok
  refine uAd ?_;refine uAd (uAb ?_);refine uAa rfl rfl rfl (uAg rfl gU rfl rfl) ?_;refine uAa rfl rfl rfl (uAh rfl gU rfl rfl rfl rfl) ?_;refine uAa rfl rfl rfl (uA1 rfl gU) ?_;refine uAa rfl rfl rfl (uAc rfl gU) ?_;refine uAa rfl rfl rfl (uAn rfl gU rfl rfl rfl rfl rfl) ?_;refine uAx rfl rfl rfl rfl rfl rfl gU (fun hh=>gA ((fun hh=>hh) hh) (gA rfl (rfl))) (up (uCt l q _ (by omega) (by omega))) rfl ?_;refine uAa rfl rfl rfl (uA1 rfl (fun hh=>hh)) ?_;refine uAa rfl rfl rfl (uAJ rfl rfl gU (fun _ hi=>gP rfl hi)) ?_;refine uAf ?_;refine uAk (s:=⟨[(2,_,_),(5,_,_),(8,_,_),(10,_,_),(45,_,_)],[(.l 10,_),(.l 2,_),(.l 8,_)],[(.b (.l 8) 1,_),(.b (.l 8) 2,_),(.b (.l 8) 3,_),(.b (.l 8) 4,_),(.b (.l 8) 5,_)],[]⟩) (uAj (⟨sx rfl,sx rfl,sx rfl,sx rfl,sx rfl,trivial⟩) (⟨sx rfl,sx rfl,sx rfl,trivial⟩) (⟨rfl,rfl,rfl,rfl,rfl,trivial⟩)) ?_;refine uAo rfl (fun hc2=>?_) (fun hc2=>?_)
  ·try simp only [nn,uAi,T.rows_len,Tk.rows_len] at hc2
   obtain ⟨hb,hz⟩:=hc2
   obtain ⟨hle,hsm⟩:=hln hb
   have hm : l.length < m + q.at':=hm.resolve_left (by rw[hb]; simp)
   obtain ⟨m,rfl⟩ : ∃ j,m=j + 1:=⟨m - 1,by omega⟩
   rw[uNx hb hz] at hi
   obtain ⟨i1,i2⟩:=uJ6 l n q hq
   have i5:=uNF l n q
   have i3:=uOu (l:=l) (p:=q) hle
   have i4:=uOq (l:=l) (p:=q) hsm hq
   obtain ⟨e1,e2⟩:=uKz l n q
   rw[← e1] at i1 i2 i5 i3
   refine uAp ?_;refine uAt ?_;refine uAk (s:=⟨[(2,_,_),(5,_,_),(8,_,_),(10,_,_)],[(.l 10,_),(.l 2,_),(.l 8,_)],[(.b (.l 8) 1,_),(.b (.l 8) 2,_),(.b (.l 8) 3,_),(.b (.l 8) 4,_),(.b (.l 8) 5,_)],[]⟩) (uAj (⟨sx rfl,sx rfl,sx rfl,sx rfl,trivial⟩) (⟨sx rfl,sx rfl,sx rfl,trivial⟩) (⟨rfl,rfl,rfl,rfl,rfl,trivial⟩)) ?_;refine uBh (.l 8) rfl (fun w1 w2 w3 w4 w5=>?_);refine uAk (s:=⟨[(2,_,_),(5,_,_),(8,_,_),(10,_,_)],[(.l 10,_),(.l 2,_),(.l 8,_)],[(.b (.l 8) 1,_),(.b (.l 8) 2,_),(.b (.l 8) 3,_),(.b (.l 8) 4,_),(.b (.l 8) 5,_)],[]⟩) (uAj (⟨sx rfl,sx rfl,sx rfl,sx rfl,trivial⟩) (⟨sx rfl,sx rfl,sx rfl,trivial⟩) (⟨rfl,rfl,rfl,rfl,rfl,trivial⟩)) ?_;refine uAb ?_;refine uAa rfl rfl rfl (uAn rfl gU rfl rfl rfl rfl rfl) ?_;refine uAa rfl rfl rfl (uAn rfl gU rfl rfl rfl rfl rfl) ?_;refine uDD (.l 8) (.l 10) osR rfl rfl rfl rfl rfl rfl ⟨rfl,rfl,rfl,rfl,rfl,rfl⟩ ⟨rfl,rfl,rfl,rfl,rfl,rfl⟩ rfl rfl rfl rfl rfl rfl rfl rfl rfl ⟨rfl,rfl⟩ rfl (uLi l q n w1 w2 w3 w4 w5 (by omega) hq (hle.mono (by omega))) rfl rfl rfl rfl rfl rfl rfl rfl ?_;refine uAf ?_;refine ⟨((uD4 l n q).2,(uD4 l n q).1),?_,?_,uAj (⟨sx rfl,sx rfl,sx rfl,sx rfl,trivial⟩) (⟨⟨_,rfl,?_⟩,⟨⟨_,rfl,?_⟩,⟨sx rfl,trivial⟩⟩⟩) (⟨rfl,rfl,rfl,rfl,rfl,trivial⟩)⟩
   ·refine ⟨i1,fun hb2=>?_,m,?_,hi⟩
    ·dsimp only at hb2 ⊢
     have he:=e2 hb2
     rw[he]; exact ⟨i3,i4⟩
    ·cases hz2 : (uD4 l n q).2.bad with
     | true=>exact .inl rfl
     | false=>exact .inr (by have := i2 hz2; dsimp only; omega)
   ·dsimp only
    rw[hb]
    cases hz2 : (uD4 l n q).2.bad with
    | true=>simp; omega
    | false=>have := i2 hz2; simp; omega
   all_goals rfl
  ·try simp only [nn,uAi,T.rows_len,Tk.rows_len] at hc2
   have hst : q.bad=true∨symQ l q [125]=true:=by
    rcases hc2 with x | x
    ·exact .inl (by simpa using x)
    ·exact .inr (by simpa using x)
   rw[uK4 hst] at hi
   have hR:=uOX hi
   rw[hR] at h1 h2
   dsimp only at h1 h2
   have hpl : uJo l=(if (endE l (uAS l [125] q)).2≠0 then (nar0,(endE l (uAS l [125] q)).1,(endE l (uAS l [125] q)).2) else if narE uAN (uD8 l).1≠0 then (nar0,0,narE uAN (uD8 l).1) else ((uD8 l).1,0,0)):=by
    rw[uJo,← h1]
   rw[← h1] at h2
   refine uAL ?_
   repeat(first|refine uAE ?_|refine uAF ?_|refine uAB rfl ?_)
   refine uAd (uAb ?_);refine uAa rfl rfl rfl (uAn rfl gU rfl rfl rfl rfl rfl) ?_;refine uAx rfl rfl rfl rfl rfl rfl gU gU (up (uAZ l q [125] (by omega) (by omega))) rfl ?_;refine uAs rfl (uAw rfl rfl rfl rfl rfl rfl rfl) ?_;refine uAf ?_;refine uAd ?_;refine uAd (uAb ?_);refine uAa rfl rfl rfl (uAg rfl gU rfl rfl) ?_;refine uAa rfl rfl rfl (uAh rfl gU rfl rfl rfl rfl) ?_;refine uAa rfl rfl rfl (uAc rfl gU) ?_;refine uAa rfl rfl rfl (uAg rfl gU rfl rfl) ?_;refine uAa rfl rfl rfl (uAh rfl (fun hh=>hh) rfl rfl rfl rfl) ?_;refine uAa rfl rfl rfl (uAc rfl gU) ?_;refine uAa rfl rfl rfl (uA7 rfl (fun hh=>hh) rfl rfl) ?_;refine uAa rfl rfl rfl (uAm rfl rfl (fun hh=>hh) (fun hh=>hh) rfl) ?_;refine uAa rfl rfl rfl (uAO rfl rfl gU (fun _ hi=>gP rfl hi)) ?_;refine uAf ?_;refine uAk (s:=⟨[(2,_,_),(8,_,_),(10,_,_),(62,_,_)],[(.l 10,_),(.l 2,_),(.l 8,_)],[(.b (.l 8) 1,_),(.b (.l 8) 2,_),(.b (.l 8) 3,_),(.b (.l 8) 4,_),(.b (.l 8) 5,_)],[]⟩) (uAj (⟨sx rfl,sx rfl,sx rfl,sx rfl,trivial⟩) (⟨sx rfl,sx rfl,sx rfl,trivial⟩) (⟨rfl,rfl,rfl,rfl,rfl,trivial⟩)) ?_;refine uAo rfl (fun hc3=>?_) (fun hc3=>?_)
   ·try simp only [nn,uAi,T.rows_len,Tk.rows_len] at hc3
    have he : endE l (uAS l [125] q)=(uJH l (uAS l [125] q),2):=by rw[endE,if_pos (by rcases hc3 with x | x; exact .inl x; exact .inr (by omega))]
    rw[he,if_pos (by simp)] at hpl
    refine uAd (uAb ?_);refine uAa rfl rfl rfl (uBg rfl Tryz.underlying27 rfl gU) ?_;refine uAa rfl rfl rfl (uAn rfl gU rfl rfl rfl rfl rfl) ?_;refine uAx rfl rfl rfl rfl rfl rfl gU gU (up (uLX _ _ (by omega))) rfl ?_;refine uAs rfl (uAw rfl rfl rfl rfl rfl rfl rfl) ?_;refine uAa rfl rfl rfl (uAe rfl gU) ?_;refine uAa rfl rfl rfl (uAe rfl gU) ?_;refine uAf ?_;refine uAq ?_
    repeat(first|refine tR ?_|refine bR ?_)
    refine uAu rfl ?_ trivial
    (rw[hpl]; rfl)
   ·try simp only [nn,uAi,T.rows_len,Tk.rows_len] at hc3
    have he : endE l (uAS l [125] q)=(0,0) := by rw[endE,if_neg (by rintro (x | x); { rw[hc3.1] at x; cases x }; { have := hc3.2; omega })]
    rw[he,if_neg (by simp),← h2 hc3.1] at hpl
    have hb:=uCZ hc3.1
    obtain ⟨hle,hsm⟩:=hln hb
    refine uAp ?_;refine uAd ?_;refine uAd (uAb ?_);refine uAa rfl rfl rfl (uAn rfl gU rfl rfl rfl rfl rfl) ?_;refine uAx rfl rfl rfl rfl rfl rfl gU gU (up (uGv n (fun s hs=>Nat.le_trans (hsm.steps s hs) (by omega)) (fun g hg=>Nat.le_trans (hsm.goals g hg) (by omega)))) rfl ?_;refine uAa rfl rfl rfl (uAe rfl gU) ?_;refine uAf ?_;refine uAd (uAb ?_);refine uAa rfl rfl rfl (uAc rfl gU) ?_;refine uAa rfl rfl rfl (uAm rfl rfl gU gU rfl) ?_;refine uAf ?_;refine uAk (s:=⟨[(2,_,_),(8,_,_),(11,_,_),(69,_,_)],[(.l 2,_),(.l 8,_)],[(.b (.l 8) 1,_),(.b (.l 8) 2,_),(.b (.l 8) 3,_),(.b (.l 8) 4,_),(.b (.l 8) 5,_)],[]⟩) (uAj (⟨sx rfl,sx rfl,sx rfl,sx rfl,trivial⟩) (⟨sx rfl,sx rfl,trivial⟩) (⟨rfl,rfl,rfl,rfl,rfl,trivial⟩)) ?_;refine uAo rfl (fun hc4=>?_) (fun hc4=>?_)
    ·try simp only [nn,uAi,T.rows_len,Tk.rows_len] at hc4
     rw[if_pos hc4] at hpl
     refine uAd (uAb ?_);refine uAa rfl rfl rfl (uBg rfl Tryz.underlying27 rfl gU) ?_;refine uAa rfl rfl rfl (uAc rfl gU) ?_;refine uAs rfl (uAw rfl rfl rfl rfl rfl rfl rfl) ?_;refine uAa rfl rfl rfl (uAe rfl gU) ?_;refine uAa rfl rfl rfl (uAe rfl gU) ?_;refine uAf ?_;refine uAq ?_
     repeat(first|refine tR ?_|refine bR ?_)
     refine uAu rfl ?_ trivial
     (rw[hpl]; rfl)
    ·try simp only [nn,uAi,T.rows_len,Tk.rows_len] at hc4
     rw[if_neg (by simpa using hc4)] at hpl
     refine uAp ?_;refine uAd (uAb ?_);refine uAa rfl rfl rfl (uAn rfl gU rfl rfl rfl rfl rfl) ?_;refine uAs rfl (uAw rfl rfl rfl rfl rfl rfl rfl) ?_;refine uAa rfl rfl rfl (uAe rfl gU) ?_;refine uAa rfl rfl rfl (uAe rfl gU) ?_;refine uAf ?_;refine uAq ?_
     repeat(first|refine tR ?_|refine bR ?_)
     refine uAu rfl ?_ trivial
     (rw[hpl]; rfl)
theorem uJI (s : List UInt8) (hs : s.length≤100000) : Ctr sys 69 [xs s] [] (xnie (uDS s)) none []:=(uI6 s hs).wk rfl fun _ h=>h
theorem uHc {R : List (List UInt8)} : ∀ (D : List (List UInt8 × Option (List UInt8))) (seen : List (List UInt8)),decA R seen D=0→seen.Nodup→(seen++D.map (·.1)).Nodup
 | [],seen,_,hs=>by simpa using hs
 | x :: r,seen,h,hs=>by
  rw[decA] at h
  split at h
  ·rename_i q; exact absurd h q
  ·rename_i q
   have q:=Decidable.not_not.1 q
   have hx : ¬ x.1 ∈ seen:=by
    intro hm
    have hc : seen.contains x.1=true:=List.contains_iff_mem.2 hm
    unfold dclE at q
    split at q
    ·simp at q
    split at q
    ·simp at q
    ·first|(rw[if_pos hc] at q; simp at q)|simp at q
   have h1 : (seen++[x.1]).Nodup:=by
    rw[List.nodup_append]
    refine ⟨hs,by simp,fun a ha b hb=>?_⟩
    rw[List.mem_singleton.1 hb]
    intro e; exact hx (e ▸ ha)
   have := uHc r (seen++[x.1]) h h1
   rw[List.append_assoc] at this
   exact this
theorem uNl {n : Nar} (h : decE n=0) : (uBa n).Nodup:=by
 have := uHc (dclL n) [] h (by simp)
 rw[List.nil_append,uHl] at this
 exact this
theorem uPw {nm : NmB} {n : Nar} (h : (chkE nm n).2=0) : narE nm n=0∧decE n=0∧useE n=(0,0):=by
 unfold chkE at h
 split at h
 ·rename_i q; exact absurd h q
 rename_i q1
 split at h
 ·rename_i q; exact absurd h q
 rename_i q2
 refine ⟨Decidable.not_not.1 q1,Decidable.not_not.1 q2,?_⟩
 unfold useE at h ⊢
 split at h
 ·rename_i q; exact absurd h q
 ·rename_i q; rw[if_neg q]; exact uLW h
theorem uJy {p : List UInt8→Bool} : ∀ {l : List (List UInt8)},0≤idxF p l→(idxF p l).toNat < l.length∧p (l.getD (idxF p l).toNat [])=true
 | [],h=>by simp [idxF] at h
 | x :: r,h=>by
  rw[idxF] at h ⊢
  by_cases hp : p x=true
  ·rw[if_pos hp] at h ⊢
   exact ⟨by simp,by simpa using hp⟩
  ·rw[if_neg hp] at h ⊢
   by_cases hn : idxF p r < 0
   ·rw[if_pos hn] at h; omega
   ·rw[if_neg hn] at h ⊢
    obtain ⟨h1,h2⟩:=uJy (p:=p) (l:=r) (by omega)
    have e : (idxF p r + 1).toNat=(idxF p r).toNat + 1:=by omega
    rw[e]
    exact ⟨by simp only [List.length_cons]; omega,by simpa using h2⟩
theorem uMY {α : Type} {l : List α} (h : l.Nodup) {i j : Nat} {hi : i < l.length} {hj : j < l.length} (he : l[i]'hi=l[j]'hj) : i=j:=by
 have hp:=List.pairwise_iff_getElem.1 h
 rcases Nat.lt_trichotomy i j with q | q | q
 ·exact absurd he (hp i j hi hj q)
 ·exact q
 ·exact absurd he.symm (hp j i hj hi q)
theorem uLp {l : List (List UInt8 × Int)} {k : List UInt8} (hn : (l.map (·.1)).Nodup) (h : 0≤ixS (l.map (·.1)) k) : mapI l k=(l.map (·.2)).getD (ixS (l.map (·.1)) k).toNat 0∧(ixS (l.map (·.1)) k).toNat < l.length:=by
 obtain ⟨h1,h2⟩:=uJy (p:=fun x=>decide (k=x)) h
 generalize hj : (ixS (l.map (·.1)) k).toNat=j
 rw[show (idxF (fun x=>decide (k=x)) (l.map (·.1))).toNat=j from hj] at h1 h2
 have h2 : k=(l.map (·.1)).getD j []:=of_decide_eq_true h2
 have hlt : j < l.length:=by simpa using h1
 refine ⟨?_,hlt⟩
 have hk : (l[j]'hlt).1=k:=by rw[h2,List.getD_eq_getElem?_getD,List.getElem?_map,List.getElem?_eq_getElem hlt]; rfl
 have hsome : (l.reverse.find? fun x=>decide (x.1=k)).isSome=true:=by
  rw[List.find?_isSome]
  exact ⟨l[j],by simp,decide_eq_true hk⟩
 obtain ⟨e,he⟩:=Option.isSome_iff_exists.1 hsome
 have he1 : e.1=k:=of_decide_eq_true (List.find?_some (p:=fun x : List UInt8 × Int=>decide (x.1=k)) he)
 have he2 : e ∈ l:=by simpa using List.mem_of_find?_eq_some he
 obtain ⟨i,hi,hie⟩:=List.mem_iff_getElem.1 he2
 have hij : i=j:=by
  have h3 : (l.map (·.1))[i]'(by simpa using hi)=(l.map (·.1))[j]'(by simpa using hlt):=by
   rw[List.getElem_map,List.getElem_map,hie,he1,hk]
  exact uMY hn h3
 subst hij
 rw[mapI,he,List.getD_eq_getElem?_getD,List.getElem?_map,List.getElem?_eq_getElem hi,hie]
 first|done|rfl
abbrev ChG:=List UInt8→Int→List UInt8 × Int
mutual
def chT (g : ChG) : T→T
 | .mk k n s ks=>.mk k (if k=2 then (g n s).1 else n) (if k=2 then (g n s).2 else s) (chTs g ks)
def chTs (g : ChG) : List T→List T
 | []=>[]
 | t :: ts=>chT g t :: chTs g ts
end
theorem uHY (g : ChG) : ∀ l : List T,chTs g l=l.map (chT g)
 | []=>by rw[chTs]; rfl
 | t :: ts=>by rw[chTs,uHY g ts]; rfl
theorem uJl (g : ChG) (t : T) : chT g t=⟨t.kind,if t.kind=2 then (g t.name t.sort).1 else t.name,if t.kind=2 then (g t.name t.sort).2 else t.sort,t.kids.map (chT g)⟩:=by
 cases t; rw[chT,uHY]; rfl
mutual
theorem uKh (g : ChG) : ∀ t : T,(chT g t).size=t.size
 | .mk k n s ks=>by rw[chT,T.size,T.size,uGg g ks]
theorem uGg (g : ChG) : ∀ l : List T,T.sizes (chTs g l)=T.sizes l
 | []=>by rw[chTs]
 | t :: ts=>by rw[chTs,T.sizes,T.sizes,uKh g t,uGg g ts]
end
mutual
def knT (K : List (List UInt8)) : T→Bool
 | .mk k n _ ks=>(decide (k≠2) || K.contains n) && knTs K ks
def knTs (K : List (List UInt8)) : List T→Bool
 | []=>true
 | t :: ts=>knT K t && knTs K ts
end
theorem uJR (K : List (List UInt8)) : ∀ l : List T,knTs K l=l.all (knT K)
 | []=>by rw[knTs]; rfl
 | t :: ts=>by rw[knTs,uJR K ts]; rfl
theorem uJa (K : List (List UInt8)) (t : T) : knT K t=((decide (t.kind≠2) || K.contains t.name) && t.kids.all (knT K)):=by cases t; rw[knT,uJR]; rfl
theorem uGm {K : List (List UInt8)} {t : T} (h3 : t.kind=3) (h : ∀ x ∈ t.kids,knT K x=true) : knT K t=true:=by
 rw[uJa,List.all_eq_true.2 h,h3]; rfl
theorem uEW {t : T} (h : gdB t=true) : ∀ x ∈ t.kids,gdB x=true:=by
 rw[uOc] at h
 simp only [Bool.and_eq_true] at h
 exact uKv h.2
theorem uOn {t : T} (h : gdB t=true) (h3 : t.kind≠3) : t.kind=2∧t.kids=[]:=by
 rw[uOc] at h
 simp only [Bool.and_eq_true,Bool.or_eq_true,decide_eq_true_eq,List.isEmpty_iff] at h
 rcases h.1.2 with q | q
 ·exact q
 ·exact absurd q h3
theorem uIZ {R K : List (List UInt8)} (hRK : ∀ x ∈ R,x ∈ K) {t : T} (hg : gdB t=true) (h : uEJ R t=true) : knT K t=true:=by
 rw[uEJ,Bool.and_eq_true,decide_eq_true_eq] at h
 obtain ⟨_,hk⟩:=uOn hg (by omega)
 rw[uJa,hk,h.1]
 simp only [List.all_nil,Bool.and_true,Bool.or_eq_true]
 exact .inr (List.contains_iff_mem.2 (hRK _ (List.contains_iff_mem.1 h.2)))
theorem uDv {t : T} {w : List UInt8} {k : Int} (h : isT t w k=true) : t.kind=3∧t.name=w∧(t.kids.length : Int)=k:=by
 simp only [isT,Bool.and_eq_true,decide_eq_true_eq] at h
 exact ⟨h.1.1,h.1.2,h.2⟩
theorem uL6 {t : T} (h : (t.kids.length : Int)=1) : t.kids=[kid t 0]:=by
 match hk : t.kids,h with
 | [a],_=>simp [kid,hk]
theorem uMB {t : T} (h : (t.kids.length : Int)=2) : t.kids=[kid t 0,kid t 1]:=by
 match hk : t.kids,h with
 | [a,b],_=>simp [kid,hk]
theorem uMn {R K : List (List UInt8)} (hRK : ∀ x ∈ R,x ∈ K) {t : T} (hg : gdB t=true) (h : uEa R t=true) : knT K t=true:=by
 rw[uEa,Bool.and_eq_true] at h
 obtain ⟨h1,h2,h3⟩:=uDv h.1
 have hk:=uL6 h3
 refine uGm h1 fun x hx=>?_
 have hgx:=uEW hg x hx
 rw[hk,List.mem_singleton] at hx
 subst hx
 exact uIZ hRK hgx h.2
theorem uOz {R K : List (List UInt8)} (hRK : ∀ x ∈ R,x ∈ K) {t : T} (hg : gdB t=true) (h : pubT R t=true) : knT K t=true:=by
 rw[pubT,Bool.and_eq_true] at h
 obtain ⟨h1,h2,h3⟩:=uDv h.1
 have hk:=uL6 h3
 refine uGm h1 fun x hx=>?_
 have hgx:=uEW hg x hx
 rw[hk,List.mem_singleton] at hx
 subst hx
 exact uMn hRK hgx h.2
theorem uP6 {R K : List (List UInt8)} (hRK : ∀ x ∈ R,x ∈ K) : ∀ (n : Nat) (t : T),t.size≤n→gdB t=true→uCj R K t=0→knT K t=true:=by
 intro n
 induction n with
 | zero=>intro t h; have := t.size_pos; omega
 | succ n ih =>
  intro t ht hg hc
  rw[uCS] at hc
  split at hc
  ·rename_i h3
   obtain ⟨h2,hk⟩:=uOn hg h3
   split at hc
   ·rename_i hm
    rw[uJa,hk,hm]; simp
   ·cases hc
  ·rename_i h3
   have h3:=Decidable.not_not.1 h3
   split at hc
   ·cases hc
   ·rename_i k hl
    have hz:=errs_zero.1 hc
    have hin : ∀ x ∈ t.kids.take k,knT K x=true:=fun x hx=>by
     have hm:=List.mem_of_mem_take hx
     have := uB3 hm
     exact ih x (by omega) (uEW hg x hm) (hz x hx)
    unfold uBv at hl
    split at hl
    ·rename_i q
     have hk2 : (t.kids.length : Int)=2:=by rcases q with q | q <;> exact (uDv q).2.2
     have e : 2=k:=Option.some.inj hl
     subst e
     rw[List.take_of_length_le (by omega)] at hin
     exact uGm h3 hin
    split at hl
    ·rename_i q
     have hk2:=(uDv q).2.2
     have e : 1=k:=Option.some.inj hl
     subst e
     rw[List.take_of_length_le (by omega)] at hin
     exact uGm h3 hin
    split at hl
    ·rename_i q
     have hk2 : (t.kids.length : Int)=2:=by rcases q with q | q <;> exact (uDv q.1).2.2
     have e : 1=k:=Option.some.inj hl
     subst e
     have hk:=uMB hk2
     have hg1 : gdB (kid t 1)=true:=uEW hg _ (by rw[hk]; simp)
     have h1 : knT K (kid t 1)=true:=by
      rcases q with q | q
      ·exact uOz hRK hg1 q.2
      ·exact uMn hRK hg1 q.2
     refine uGm h3 fun x hx=>?_
     rw[hk] at hx hin
     rcases List.mem_cons.1 hx with e | e
     ·exact hin x (by rw[e]; simp)
     ·rw[List.mem_singleton.1 e]; exact h1
    split at hl
    ·rename_i q
     rcases q with q | q
     ·exact uOz hRK hg q
     ·obtain ⟨⟨⟨q1,q2⟩,q3⟩,q4⟩:=shkT_iff.1 q
      have hk:=uMB (uDv q1).2.2
      refine uGm h3 fun x hx=>?_
      have hgx:=uEW hg x hx
      rw[hk] at hx
      rcases List.mem_cons.1 hx with e | e
      ·subst e; exact uIZ hRK hgx q2
      ·rw[List.mem_singleton.1 e] at hgx ⊢; exact uIZ hRK hgx q3
    ·cases hl
def srtG (n : Nar) : ChG:=fun nm _=>(nm,mapI (nmsL n) nm)
structure ChkOk (n : Nar) : Prop where
 nar : NarOk n
 nd : (uBa n).Nodup
 msg : ∀ s ∈ n.steps,knT (uBa n) s.msg=true∧gdB s.msg=true∧s.msg.size≤40
 dat : ∀ g ∈ n.goals,∀ t ∈ g.data,knT (uBa n) t=true∧gdB t=true∧t.size≤40
theorem uG1 (n : Nar) : ∀ x ∈ n.roles,x ∈ uBa n:=fun x hx=>by rw[uFU]; simp [hx]
theorem uNQ {n : Nar} (h : (chkE uAN n).2=0) : ChkOk n:=by
 obtain ⟨c1,c2,c3⟩:=uPw h
 have hok:=uI8 c1
 have hu : (useE n).2=0:=by rw[c3]
 have hst : (lnE (uDc n) Sp.line n.steps).2=0∧(lnE (uCy n) Gl.line n.goals).2=0:=by
  unfold useE at hu
  split at hu
  ·rename_i q; exact absurd hu q
  ·rename_i q; exact ⟨Decidable.not_not.1 q,hu⟩
 refine ⟨hok,uNl c2,fun s hs=>?_,fun g hg t ht=>?_⟩
 ·have hm:=(hok.steps s hs).2.2
  have hz:=lnE_zero.1 hst.1 s hs
  have hgd:=uNY hm.raw
  have ht : uCj n.roles (uBa n) s.msg=0:=by
   unfold uDc at hz
   split at hz
   ·rename_i q; exact absurd hz q
   ·exact hz
  exact ⟨uP6 (uG1 n) _ _ (Nat.le_refl _) hgd ht,hgd,hm.size⟩
 ·have hm:=(hok.goals g hg).data t ht
  have hz:=lnE_zero.1 hst.2 g hg
  have hgd:=uNY hm.raw
  have he : errs (uCj n.roles (uBa n)) g.data=0:=by
   unfold uCy at hz
   split at hz
   ·cases hz
   split at hz
   ·rename_i q; exact absurd hz q.2
   ·exact hz
  exact ⟨uP6 (uG1 n) _ _ (Nat.le_refl _) hgd (errs_zero.1 he t ht),hgd,hm.size⟩
def tbC (R : List (List UInt8)) (b : Nat) : List C:=[.sl 1 (strR R), .o (.map (some b))]
theorem uMV (R : List (List UInt8)) (l : List (List UInt8 × Int)) (b : Nat) (t : T) : CtrO (sysO.add b (mapL l)) 57 [.v (.ptr (.o 0) 0), .v (.ptr (.o 1) 0)] [t.cells,tbC R b] [] (.tup []) [(⟨t.kind,t.name,mapI l t.name,t.kids⟩ : T).cells,tbC R b] .box:=by
 refine uBM Tryz.func57 rfl rfl rfl rfl rfl rfl rfl ?_;refine uId b (mapL l) (List.mem_cons_self ..) ?_;refine awp_drawn' (by kernel_rfl) ?_;refine uAl rfl rfl rfl rfl (uAc rfl gU) ?_;refine uAl rfl rfl rfl rfl (uAg rfl gU rfl rfl) ?_;refine uA5 rfl rfl rfl rfl rfl rfl rfl gU rfl rfl rfl rfl ?_;refine uAl rfl rfl rfl rfl (uAc rfl gU) ?_;refine uAl rfl rfl rfl rfl (uCo rfl gU) ?_;refine uAl rfl rfl rfl rfl (uAg rfl gU rfl rfl) ?_;refine uA5 rfl rfl rfl rfl rfl rfl rfl gU rfl rfl rfl rfl ?_;refine uAl rfl rfl rfl rfl (uKf (i:=0) (c:=.i .i64 (mapI l t.name)) (z:=.int .i64 0) rfl rfl gU gU rfl Tryz.underlying61 Tryz.underlying9 (by kernel_rfl) (fun w S=>uI3 l t.name)) ?_;refine uAl rfl rfl rfl rfl (uCo rfl gU) ?_;refine uAl rfl rfl rfl rfl (uAg rfl gU rfl rfl) ?_;refine uAT rfl rfl rfl rfl rfl rfl rfl rfl rfl rfl rfl rfl ?_;refine uA2 (by kernel_rfl) ?_;refine uJ2 rfl ?_ (⟨⟨_,rfl,?_⟩,⟨⟨_,rfl,?_⟩,trivial⟩⟩) (by kernel_rfl)
 all_goals rfl
theorem uMd (l : List T) : ∀ (i : Nat) (row : List C),(T.rows l)[i]? = some row→row.length=4:=by
 intro i row h
 rw[T.rows_eq,List.getElem?_map] at h
 cases hx : l[i]? with
 | none=>rw[hx] at h; cases h
 | some t=>rw[hx] at h; cases h; rfl
theorem uFg (l : List T) : (T.rows l).flatten.length=l.length * 4:=by
 induction l with
 | nil=>simp [T.rows_eq]
 | cons x l ih =>
  have e : T.rows (x :: l)=x.cells :: T.rows l:=by simp [T.rows_eq]
  rw[e,List.flatten_cons,List.length_append,ih]
  have : x.cells.length=4:=rfl
  simp only [List.length_cons]; omega
theorem uOe (l : List T) (i : Nat) (t : T) : (T.rows l).set i t.cells=T.rows (l.set i t):=by
 rw[T.rows_eq,T.rows_eq,List.map_set]
theorem uHT (l : List T) (i : Nat) (t : T) (h : i < l.length) : uBo (T.rows l).flatten (i * 4) t.cells=(T.rows (l.set i t)).flatten:=by
 rw[uHX (uMd l) (by rw[T.rows_len]; exact h) rfl,uOe]
theorem uOP (l : List T) (i : Nat) (t : T) (h : i < l.length) : Nat.ble (0 + i * 4 + t.cells.length) (T.rows l).flatten.length=true:=by
 rw[uFg]
 exact Nat.ble_eq_true_of_le (by show 0 + i * 4 + 4≤_; omega)
def tZ : T:=⟨0,[],0,[]⟩
def padT (l : List T) (n : Nat) : List T:=l++List.replicate (n - l.length) tZ
theorem uO4 {l : List T} {n : Nat} (h : l.length≤n) : (padT l n).length=n:=by rw[padT,List.length_append,List.length_replicate]; omega
theorem uNO {l : List T} {n : Nat} (h : l.length < n) (x : T) : (padT l n).set l.length x=padT (l++[x]) n:=by
 rw[padT,padT,List.set_append_right _ _ (Nat.le_refl _),Nat.sub_self]
 obtain ⟨m,hm⟩ : ∃ m,n - l.length=m + 1:=⟨n - l.length - 1,by omega⟩
 have e : n - (l++[x]).length=m:=by simp; omega
 rw[hm,e,List.replicate_succ,List.set_cons_zero,List.append_assoc]; rfl
theorem uNc {l : List T} {n : Nat} (h : l.length=n) : padT l n=l:=by rw[padT,h,Nat.sub_self]; simp
theorem uO2 (n : Nat) : (List.replicate n tZ.cells).flatten=(T.rows (padT [] n)).flatten:=by
 rw[padT,T.rows_eq,List.nil_append,List.map_replicate]; rfl
abbrev mpG (l : List (List UInt8 × Int)) : ChG:=fun nm _=>(nm,mapI l nm)
theorem ps23 {st : St} {a b : Pass} (ha : st.box a.n=some a.cs) (hb : st.box b.n=some b.cs) : ∀ p ∈ [a,b],st.box p.n=some p.cs:=by
 intro p hp
 rcases List.mem_cons.1 hp with h | h
 ·rw[h]; exact ha
 ·rw[List.mem_singleton.1 h]; exact hb
set_option maxHeartbeats 4000000 in
theorem uEd (R : List (List UInt8)) (l : List (List UInt8 × Int)) (b : Nat) : ∀ (m : Nat) (t : T),t.size≤m→m≤900000→gdB t=true→Ctr (sysO.add b (mapL l)) 94 [xm t, .fn 57 [.ptr (.o 0) 0]] [tbC R b] (xm (chT (mpG l) t)) none [tbC R b]:=by
 intro m
 induction m with
 | zero=>intro t h; have := t.size_pos; omega
 | succ m ih =>
  intro t ht hm hgd
  have hr:=T.rows_len t.kids
  have hls:=T.len_sizes t.kids
  have hse:=t.size_eq
  have hgk:=uEW hgd
  refine uAA Tryz.func94 rfl rfl rfl rfl rfl rfl ?_;refine uAd (uAb ?_);refine uAs rfl (uAH rfl rfl rfl rfl) ?_;refine uAs rfl (uAK rfl rfl rfl) ?_;refine uAf ?_;refine uAd ?_;refine uAd (uAb ?_);refine uAa rfl rfl rfl (uAg rfl gU rfl rfl) ?_;refine uAa rfl rfl rfl (uAh rfl gU rfl rfl rfl rfl) ?_;refine uAa rfl rfl rfl (uAm rfl rfl gU gU rfl) ?_;refine uAf ?_;refine uAk (s:=⟨[(1,_,_),(2,_,_),(4,_,_),(10,_,_)],[(.l 2,_),(.l 4,_),(.o 0,_)],[],[]⟩) (uAj (⟨sx rfl,sx rfl,sx rfl,sx rfl,trivial⟩) (⟨sx rfl,sx rfl,sx rfl,trivial⟩) trivial) ?_;refine uAo rfl (fun hc=>?_) (fun hc=>?_)
  ·try simp only [nn,uAi,T.rows_len,Gl.rows_len,Fs.rows_len,Sp.rows_len] at hc
   have hk : t.kids=[]:=(uOn hgd (by omega)).2
   have hE : chT (mpG l) t=⟨t.kind,t.name,mapI l t.name,t.kids⟩:=by rw[uJl,if_pos hc,if_pos hc,hk]; rfl
   refine uAd (uAb ?_);refine uAa rfl rfl rfl (uAc rfl gU) ?_;refine uEG [⟨.l 2,0,t.cells,(⟨t.kind,t.name,mapI l t.name,t.kids⟩ : T).cells⟩,⟨.o 0,0,tbC R b,tbC R b⟩] [] rfl rfl rfl rfl rfl rfl (ps23 rfl rfl) rfl rfl (uMV R l b t) rfl rfl rfl ?_
   rw[hE]
   refine uAf ?_;refine uAd (uAb ?_);refine uAa rfl rfl rfl (uAn rfl gU rfl rfl rfl rfl rfl) ?_;refine uAs rfl (uAw rfl rfl rfl rfl rfl rfl rfl) ?_;refine uAf ?_;refine uAq ?_
   repeat(first|refine tR ?_|refine bR ?_)
   refine uAu rfl ?_ (⟨⟨_,rfl,?_⟩,trivial⟩)
   all_goals rfl
  ·try simp only [nn,uAi,T.rows_len,Gl.rows_len,Fs.rows_len,Sp.rows_len] at hc
   have hE : chT (mpG l) t=⟨t.kind,t.name,t.sort,t.kids.map (chT (mpG l))⟩:=by rw[uJl,if_neg hc,if_neg hc]
   rw[hE]
   refine uAp ?_;refine uAd (uAb ?_);refine uAa rfl rfl rfl (uAg rfl gU rfl rfl) ?_;refine uAa rfl rfl rfl (uAh rfl gU rfl rfl rfl rfl) ?_;refine uAI rfl rfl rfl rfl rfl gU rfl rfl ?_ (fun hh=>by simp at hh); intro hlen;refine uAs rfl (uK1 (n:=t.kids.length) rfl rfl rfl rfl rfl rfl rfl (by omega) (by omega) (by omega)) ?_;refine uAa rfl rfl rfl (uAe rfl gU) ?_;refine uAf ?_;refine uAk (s:=⟨[(1,_,_),(2,_,_),(4,_,_),(5,_,_)],[(.l 17,_),(.l 2,_),(.l 4,_),(.o 0,_)],[],[]⟩) (uAj (⟨sx rfl,sx rfl,sx rfl,sx rfl,trivial⟩) (⟨sx rfl,sx rfl,sx rfl,sx rfl,trivial⟩) trivial) ?_;refine uAd ?_;refine uAd (uAb ?_);refine uAa rfl rfl rfl (uAg rfl gU rfl rfl) ?_;refine uAa rfl rfl rfl (uAh rfl gU rfl rfl rfl rfl) ?_;refine uAI rfl rfl rfl rfl rfl gU rfl rfl ?_ (fun hh=>by simp at hh); intro hlen;refine uAa rfl rfl rfl (uAc rfl gU) ?_;refine uAf ?_;refine uAt ?_;refine uAW (ι:=Nat) { t:=[(1,_,_),(2,_,_),(4,_,_),(5,_,_),(19,_,_),(20,_,_)],bx:=[(.l 2,_),(.l 4,_),(.o 0,_)],ow:=[] } (fun k=>[(21,true,xi (k : Int))]) (fun k=>[((.l 17),(T.rows (padT ((t.kids.take k).map (chT (mpG l))) t.kids.length)).flatten)]) (fun k=>k≤t.kids.length) (fun k=>t.kids.length - k) (0) (by simp) (uAj (⟨sx rfl,sx rfl,sx rfl,sx rfl,sx rfl,sx rfl,sx rfl,trivial⟩) (⟨⟨_,rfl,uO2 _⟩,⟨sx rfl,sx rfl,sx rfl,trivial⟩⟩) trivial) ?_
   intro k hok
   dsimp only [List.cons_append,List.nil_append]
   have hpl : ((t.kids.take k).map (chT (mpG l))).length=k:=by rw[List.length_map,List.length_take]; omega
   have hpn:=uO4 (l:=(t.kids.take k).map (chT (mpG l))) (n:=t.kids.length) (by omega)
   refine uAd (uAb ?_);refine uAa rfl rfl rfl (uAm rfl rfl gU gU rfl) ?_;refine uAf ?_;refine uAd ?_;refine uAo rfl (fun hc2=>?_) (fun hc2=>?_)
   ·try simp only [nn,uAi,T.rows_len,Gl.rows_len,Fs.rows_len,Sp.rows_len] at hc2
    have hlt : k < t.kids.length:=by omega
    have hmm:=uBz (d:=default) hlt
    have hks:=uB3 hmm
    have hT:=uBk (l:=t.kids) (d:=default) hlt
    have hset : uBo (T.rows (padT ((t.kids.take k).map (chT (mpG l))) t.kids.length)).flatten (k * 4) (chT (mpG l) (t.kids.getD k default)).cells=(T.rows (padT ((t.kids.take (k + 1)).map (chT (mpG l))) t.kids.length)).flatten:=by
     have h1:=uNO (l:=(t.kids.take k).map (chT (mpG l))) (n:=t.kids.length) (by omega) (chT (mpG l) (t.kids.getD k default))
     rw[hpl] at h1
     rw[uHT _ _ _ (by omega),h1,hT,List.map_append]; rfl
    refine uAp ?_;refine uAd ?_;refine uAt ?_;refine uAd (uAb ?_);refine uAa rfl rfl rfl (uAc rfl gU) ?_;refine uAa rfl rfl rfl (uAr rfl rfl gU gU rfl rfl rfl (fun hh=>T.rows_at (by first|omega|(simp at hh ⊢; omega)))) ?_;refine uAa rfl rfl rfl (uAD rfl gU rfl rfl rfl rfl) ?_;refine uAs rfl (uAK rfl rfl rfl) ?_;refine uAa rfl rfl rfl (uAe rfl gU) ?_;refine uAs rfl (uAw rfl rfl rfl rfl rfl rfl rfl) ?_;refine uAf ?_;refine uAk (s:=⟨[(1,_,_),(2,_,_),(4,_,_),(5,_,_),(6,_,_),(7,_,_),(19,_,_),(20,_,_),(21,_,_)],[(.l 17,_),(.l 2,_),(.l 4,_),(.l 7,_),(.o 0,_)],[],[]⟩) (uAj (⟨sx rfl,sx rfl,sx rfl,sx rfl,sx rfl,sx rfl,sx rfl,sx rfl,sx rfl,trivial⟩) (⟨sx rfl,sx rfl,sx rfl,sx rfl,sx rfl,trivial⟩) trivial) ?_;refine uAb ?_;refine uAa rfl rfl rfl (uAc rfl gU) ?_;refine uAa rfl rfl rfl (uAc rfl gU) ?_;refine uAa rfl rfl rfl (uAn rfl gU rfl rfl rfl rfl rfl) ?_;refine uAa rfl rfl rfl (uAc rfl gU) ?_;refine uIc (.o 0) rfl rfl rfl rfl rfl rfl (ih (t.kids.getD k default) (by omega) (by omega) (hgk _ hmm)) rfl rfl rfl rfl rfl rfl ?_;refine uAa rfl rfl rfl (uBQ rfl rfl gU gU rfl rfl rfl (fun _=>by omega)) ?_;refine uAs rfl (uAw rfl rfl rfl rfl rfl rfl (uOP _ _ _ (by omega))) ?_;refine uAf ?_;refine uAk (s:=⟨[(1,_,_),(2,_,_),(4,_,_),(5,_,_),(19,_,_),(20,_,_),(21,_,_)],[(.l 17,_),(.l 2,_),(.l 4,_),(.o 0,_)],[],[]⟩) (uAj (⟨sx rfl,sx rfl,sx rfl,sx rfl,sx rfl,sx rfl,sx rfl,trivial⟩) (⟨sx rfl,sx rfl,sx rfl,sx rfl,trivial⟩) trivial) ?_
    refine uAb ?_;refine uAa rfl rfl rfl (uAz rfl rfl gU gU rfl (IntWalk.i64_in _ (by omega))) ?_;refine uAa rfl rfl rfl (uAc rfl gU) ?_;refine uAf ?_;refine ⟨k + 1,?_,?_,uAj (⟨⟨_,rfl,?_⟩,⟨sx rfl,sx rfl,sx rfl,sx rfl,sx rfl,sx rfl,trivial⟩⟩) (⟨⟨_,rfl,?_⟩,⟨sx rfl,sx rfl,sx rfl,trivial⟩⟩) trivial⟩
    all_goals (first|rfl|omega|(rw[Nat.zero_add,hset]; done))
   ·try simp only [nn,uAi,T.rows_len,Gl.rows_len,Fs.rows_len,Sp.rows_len] at hc2
    have hke : k=t.kids.length:=by omega
    subst hke
    rw[List.take_length,uNc (by rw[List.length_map])]
    refine uAL ?_
    repeat(first|refine uAE ?_|refine uAF ?_|refine uAB rfl ?_)
    refine uAd (uAb ?_);refine uIA 5 17 (T.rows (t.kids.map (chT (mpG l)))) rfl rfl (by rw[T.rows_len,List.length_map]) (by omega) (uMd _) rfl ?_;refine uAa rfl rfl rfl (uAc rfl gU) ?_;refine uAa rfl rfl rfl (uAg rfl gU rfl rfl) ?_;refine uAs rfl (uAw rfl rfl rfl rfl rfl rfl rfl) ?_;refine uAf ?_;refine uAd (uAb ?_);refine uAa rfl rfl rfl (uAn rfl gU rfl rfl rfl rfl rfl) ?_;refine uAs rfl (uAw rfl rfl rfl rfl rfl rfl rfl) ?_;refine uAf ?_;refine uAq ?_
    repeat(first|refine tR ?_|refine bR ?_)
    refine uAu rfl ?_ (⟨⟨_,rfl,?_⟩,trivial⟩)
    all_goals rfl
end Go.Proofs.YteidahabkfgfjaaGreat
namespace Go.Abs
variable {Z : Pg}
theorem uQH {P : Program} {o : Oper} {a : Act} {w : World} {K K' : Act→World→Prop} {A B : Act→World→Prop} (h : ∀ a w,K a w→K' a w) (hh : o.wp P a w K (Qn A)) : o.wp P a w K' (Qn B):=by
 unfold Oper.wp at *
 generalize (execOp a.eval o).run P w=r at *
 have hl : LetsOut (Qn A)→LetsOut (Qn B):=fun ⟨_,_,q⟩=>q.elim
 cases r with
 | ok n w' =>
  cases n <;> simp only [Oper.upon] at hh ⊢ <;>
   first
    | exact h _ _ hh
    | exact Calls.mono hh (fun e w'' he=>by cases e <;> first|exact h _ _ he|exact he.elim|exact hl he)
    | exact Rows.mono hh (fun _ _ he=>h _ _ he)
 | halt x w'=>cases x <;> simp only [Oper.upon] at hh ⊢ <;> first|exact hh|exact hh.elim
def Nd (Z : Pg) (N : Nat) (ops : Array Oper) (Q : St→Prop) (fuel : Nat) (listed : Array Bool) (st : St) : Prop :=
 ∀ (E : Env) (G : Gh) (a : Act) (w : World),Rel E G st a w→EOk Z N E→wpAny Z.P .any ops (Qn fun a' w'=>∃ G' st',Q st'∧Rel E G' st' a' w') fuel listed a w
theorem uGW {N : Nat} {ops : Array Oper} {Q : St→Prop} {listed : Array Bool} {st : St} (hr : Region.ready .any ops listed=[]) (h : Q st) : Nd Z N ops Q 0 listed st :=
 fun E G a w hrel _=>⟨hr,G,st,h,hrel⟩
def uOw (Z : Pg) (N : Nat) (ops : Array Oper) (Q : St→Prop) (fuel : Nat) (listed : Array Bool) (st : St) : List Nat→Prop
 | []=>True
 | i :: r=>(∃ o,ops[i]? = some o∧AL Z N ops [o] (Nd Z N ops Q fuel (listed.setIfInBounds i true)) st)∧uOw Z N ops Q fuel listed st r
theorem uK2 {N : Nat} {ops : Array Oper} {Q : St→Prop} {fuel : Nat} {listed : Array Bool} {st : St} : ∀ {rs : List Nat},uOw Z N ops Q fuel listed st rs → ∀ i ∈ rs,∃ o,ops[i]? = some o∧AL Z N ops [o] (Nd Z N ops Q fuel (listed.setIfInBounds i true)) st
 | [],_,i,hi=>absurd hi (List.not_mem_nil)
 | j :: r,h,i,hi=>by
  rcases List.mem_cons.1 hi with e | e
  ·subst e; exact h.1
  ·exact uK2 h.2 i e
theorem uAY {N : Nat} {ops : Array Oper} {Q : St→Prop} {fuel : Nat} {listed : Array Bool} {st : St} (i : Nat) (rs : List Nat) (hr : Region.ready .any ops listed=i :: rs) (h : uOw Z N ops Q fuel listed st (i :: rs)) : Nd Z N ops Q (fuel + 1) listed st:=by
 intro E G a w hrel hE
 refine ⟨fun e=>absurd (hr.symm.trans e) (List.cons_ne_nil _ _),fun j hj=>?_⟩
 rw[hr] at hj
 obtain ⟨o,ho,hal⟩:=uK2 h j hj
 have := hal E G a w hrel hE (wpAny Z.P .any ops (Qn fun a' w'=>∃ G' st',Q st'∧Rel E G' st' a' w') fuel (listed.setIfInBounds j true)) fun st' G' a' w' hn hr'=>hn E G' a' w' hr' hE
 unfold wpList at this
 unfold wpOp
 simp only [ho]
 split
 ·rename_i hw
  rw[if_pos hw] at this
  rcases this with q | q
  ·exact .inl (uQH (fun _ _ q=>q) q)
  ·obtain ⟨_,_,_,q⟩:=q
   exact q.elim
 ·rename_i hw
  rw[if_neg hw] at this
  exact this
theorem uQt {N : Nat} {Q : Exit→St→Prop} {st : St} {id : Nat} {ops : List Oper} (h : Nd Z N ops.toArray (Q .normal) ops.toArray.size (Array.replicate ops.toArray.size false) st) : AWP Z N (.region id ops.toArray true) Q st:=by
 intro E G a w hr hE
 refine wp_mono (wp_region_any Z.mix (h E G a _ hr.drew hE)) ?_
 intro e a' w' hq
 cases e <;> first|exact hq|exact hq.elim
end Go.Abs
namespace Go.Abs
variable {Z : Pg}
def CtrN (Z : Pg) (f : FuncId) (args : List X) (L : Nat) (cs : List C) : Prop :=
 uCA Z f ∧ ∀ (w : World) (G : Gh) (vs : List Value),All2 (XRep w G) args vs→(∀ b o,G.W b o ≠ .none→b < w.heap.size)→(∀ b o n,G.W b o ≠ .box n)→(∀ b o p,G.W b o ≠ .own p)→GlOk Z w G →
  Calls Z.P f vs.toArray w fun e w'=>∃ (v : Value) (G' : Gh) (b o0 cap : Nat),e = .returned v∧Fr (fun _ _=>False) w.heap.size w w' ∧
   (∀ b o,G.W b o = .imm→G'.W b o = .imm)∧(∀ b o,b < w.heap.size→G'.W b o = .imm→G.W b o = .imm)∧(∀ b o,G'.W b o ≠ .none→b < w'.heap.size)∧v = .slice (some ⟨b,o0,none⟩) L cap∧L≤cap∧w.heap.size≤b∧b < w'.heap.size ∧
   ∀ (j : Nat) (c : C),cs[j]? = some c→G'.W b (o0 + j) ≠ .imm∧w'.frozen? ⟨b,o0 + j,none⟩=false ∧ ∃ u,w'.cell? ⟨b,o0 + j,none⟩=some u∧CRep w' G'.S c u
def retN (T : List (Option TyI)) (rs : List ResultVar) (sz L : Nat) (cs : List C) : Exit→St→Prop
 | .normal,s | .ret,s=>∃ j : Nat,s.box (.l j)=some cs∧resX T s rs=some (.v (.ms (.l j) sz 0 L))
 | _,_=>False
theorem uEC {f : FuncId} {fn : Func} {c : Code} {N : Nat} {rs : List ResultVar} {args : List X} (sz : Nat) {L : Nat} {cs : List C} (hL : 0 < L) (hcs : cs≠[])
  (hf : Z.P.funcs[f]? = some fn) (hb : fn.body = some c) (hname : (fn.name == "runtime.NumGoroutine") = false) (hN : fn.ntmps = N) (hrs : fn.results = rs.toArray) (hlen' : Nat.ble args.length N = true)
  (h : AWP Z N c (retN Z.T rs sz L cs) (st0 args [])) (hx : ∀ A,Z.ex A:=by intro _; exact trivial) : CtrN Z f args L cs:=by
 have hlen : args.length≤N:=Nat.le_of_ble_eq_true hlen'
 refine ⟨⟨fn,hf,by rw[hb]; rfl,hname⟩,?_⟩
 intro w G vs hvs hwf hbox hown hgl
 let E : Env:={ B:=w.heap.size,w0:=w,W0:=G.W,A0:=fun j=>G.A (.o j),nt:=N }
 let a : Act:={ tmps:=vs.toArray++Array.replicate (fn.ntmps - vs.toArray.size) undef,defers:=[] }
 have hal : args.length=vs.length:=hvs.len
 have hrel : Rel E G (st0 args []) a w:={
  df:=rfl
  tm:=by
   intro k g x hk
   obtain ⟨i,y,h1,h2,h3⟩:=uD2 0 args k (g,x) hk
   simp only [Prod.mk.injEq] at h3
   obtain ⟨rfl,rfl⟩:=h3
   obtain ⟨v,hv,hx⟩:=hvs.get i x h2
   have hi : i < vs.length:=(List.getElem?_eq_some_iff.1 hv).1
   refine ⟨v,?_,fun _=>hx,fun hg=>by simp at hg⟩
   show (vs.toArray++_)[k]? = _
   rw[h1,Nat.zero_add,Array.getElem?_append_left (by simpa using hi)]
   simpa using hv
  bx:=by
   intro n cs hn
   obtain ⟨i,h1,h2⟩:=uCg 0 [] n cs hn
   rw[h1,Nat.zero_add]
   simp at h2
  ow:=by intro p sz hp; simp [St.own,st0,getO] at hp
  wf:=hwf
  olB:=fun b o n _ hn=>.inl ⟨n,hn⟩
  olO:=fun b o p _ hn=>⟨p,hn⟩
  nt:=by
   show (vs.toArray++Array.replicate (fn.ntmps - vs.toArray.size) undef).size=N
   simp; omega
  oA:=fun _=>rfl
  im:=fun b o h=>h
  im':=fun b o _ h=>.inl h
  fr:=Fr.refl _ _ _
  hB:=Nat.le_refl _
  lo:=fun b o _=>⟨fun n hn=>by exact absurd hn (hbox b o n),fun _ p=>hown b o p⟩
  bd:=fun t k cs hn=>by
   obtain ⟨i,h1,_⟩:=uCg 0 [] _ cs hn
   simp at h1
  mp:=fun x hx=>by cases hx }
 refine calls_of_wp hf hb ?_
 have hwp:=h E G a w hrel ⟨rfl,fun _=>rfl,fun g hg=>⟨(hgl g hg).1,(hgl g hg).2.1,fun o hm=>by
  rcases hm with ⟨n,hn⟩ | ⟨p,hp⟩
  ·exact (hgl g hg).2.2.1 o n hn
  ·exact (hgl g hg).2.2.2 o p hp⟩,hx _⟩
 refine wp_mono hwp ?_
 rintro e a' w' ⟨G',s,hq,hr'⟩
 have key : (∃ j : Nat,s.box (.l j)=some cs∧resX Z.T s rs=some (.v (.ms (.l j) sz 0 L))) →
   a'.defers=[] ∧ ∃ v,(results fn a'.tmps).run Z.P w' = .ok v w' ∧ ∃ (u : Value) (G' : Gh) (b o0 cap : Nat),Ending.returned v = .returned u∧Fr (fun _ _=>False) w.heap.size w w' ∧
    (∀ b o,G.W b o = .imm→G'.W b o = .imm)∧(∀ b o,b < w.heap.size→G'.W b o = .imm→G.W b o = .imm)∧(∀ b o,G'.W b o ≠ .none→b < w'.heap.size)∧u = .slice (some ⟨b,o0,none⟩) L cap∧L≤cap∧w.heap.size≤b∧b < w'.heap.size ∧
    ∀ (j : Nat) (c : C),cs[j]? = some c→G'.W b (o0 + j) ≠ .imm∧w'.frozen? ⟨b,o0 + j,none⟩=false ∧ ∃ u,w'.cell? ⟨b,o0 + j,none⟩=some u∧CRep w' G'.S c u:=by
  rintro ⟨j,hbj,hres⟩
  have hbx:=hr'.bx _ _ hbj
  refine ⟨hr'.df,?_⟩
  unfold resX at hres
  have hys : ∃ ys,uD1 Z.T s rs=some ys∧X.v (.ms (.l j) sz 0 L)=uEo ys:=by
   split at hres
   ·rename_i ys hy; simp only [Option.some.injEq] at hres; exact ⟨ys,hy,hres.symm⟩
   ·simp at hres
  obtain ⟨ys,hys,hrb⟩:=hys
  obtain ⟨us,hrun,hall,hone⟩:=uC6 hr' hys
  have hresv : ∃ v,(results fn a'.tmps).run Z.P w' = .ok v w'∧XRep w' G' (uEo ys) v:=by
   have hr0 : (results fn a'.tmps).run Z.P w' = .ok (if h : us.toArray.size=1 then us.toArray[0] else .tuple us.toArray) w':=by
    rw[uEu,hrs,List.mapM_toArray]
    simp only [Sem.run_bind,Sem.run_map,hrun,Result.andThen_ok,Sem.run_pure]
   exact ⟨_,hr0,uH1 hall⟩
  obtain ⟨v,hv1,hv2⟩:=hresv
  refine ⟨v,hv1,?_⟩
  have hfr : Fr (fun _ _=>False) w.heap.size w w':=hr'.fr.mono (Nat.le_refl _) fun b o _ hm=>by
   rcases hm with ⟨n,hn⟩ | ⟨p,hp⟩
   ·exact absurd hn (hbox b o n)
   ·exact absurd hp (hown b o p)
  let G2 : Gh:={ A:=G'.A,W:=fun b o=>match G'.W b o with | .imm=>.imm | _=>.none }
  have hS : ∀ b o,G'.S b o→G2.S b o:=fun b o hs=>by unfold Gh.S at *; simp [G2,hs]
  have hI : ∀ b o,G2.W b o = .imm→G'.W b o = .imm:=fun b o hi=>by
   simp only [G2] at hi
   split at hi
   ·assumption
   ·simp at hi
  rw[← hrb] at hv2
  have hv3 : ∃ cap,L≤cap∧v = .slice (some ⟨(G'.A (.l j)).1,(G'.A (.l j)).2 + 0,none⟩) L cap:=by
   rcases hv2 with ⟨h0,_⟩ | h
   ·omega
   ·exact h
  obtain ⟨cap,hcap,hv4⟩:=hv3
  obtain ⟨c0,hc0⟩ : ∃ c,cs[0]? = some c:=by
   cases cs with
   | nil=>exact absurd rfl hcs
   | cons c r=>exact ⟨c,rfl⟩
  have hb0:=(hbx 0 c0 hc0).1
  refine ⟨v,G2,(G'.A (.l j)).1,(G'.A (.l j)).2,cap,rfl,hfr,fun b o hi=>hS b o (hr'.im b o hi),fun b o hb hi=>?_,fun b o hn=>?_,by rw[hv4]; rfl,hcap,?_,?_,fun k c hk=>?_⟩
  ·rcases hr'.im' b o hb (hI b o hi) with h1 | ⟨p,hp⟩
   ·exact h1
   ·exact absurd hp (hown b o p)
  ·refine hr'.wf b o ?_
   intro he; apply hn; simp [G2,he]
  ·refine Nat.le_of_not_lt fun hlt=>?_
   obtain ⟨i,hi⟩:=(hr'.lo _ _ hlt).1 _ hb0
   cases hi
  ·exact hr'.wf _ _ (by rw[hb0]; simp)
  ·obtain ⟨h1,h2,u,h3,h4⟩:=hbx k c hk
   refine ⟨fun hi=>?_,h2,u,h3,h4.mono hS fun _ _ _=>rfl⟩
   have := hI _ _ hi
   rw[h1] at this; cases this
 cases e <;> first
  | exact key hq
  | exact hq.elim
theorem uBt {N : Nat} {ops : Array Oper} {rest : List Oper} {K : St→Prop} {st : St} {o : Oper} {d : Nat} {fo : Operand} {args : Array Operand} {ts : Array TypeId} {f : FuncId} {xs : List X} (sz : Nat) {L : Nat} {cs : List C}
  (ho : o.op = .call { callee:=.value fo,args:=args,argTypes:=ts }) (hg : uA8 ops st o=some true) (hd : o.dst=some d) (hN : Nat.ble (d + 1) N=true)
  (hf : lk Z.T st 0 fo=some (true, .fn f [])) (ha : uB0 Z.T st ts.toList args.toList=some (true,xs)) (hfr0 : st.freshO (.l d,true)=true)
  (hs : CtrN Z f xs L cs) (h : AL Z N ops rest K ((st.addBox (.l d) cs).put d (true, .v (.ms (.l d) sz 0 L)))) : AL Z N ops (o :: rest) K st:=by
 intro E G a w hr hE K' hK
 have hfr1 : FreshG st (.l d,true):=St.freshO_ok hfr0
 have hdN : d < E.nt:=by rw[hE.nt]; exact Nat.le_of_ble_eq_true hN
 unfold wpList
 rw[uBA hr hg,if_pos rfl]
 refine .inl ?_
 obtain ⟨cvs,hfv,hcv⟩:=uAX hr hf rfl
 have hcv0 : cvs=[]:=by cases cvs with
  | nil=>rfl
  | cons _ _=>exact hcv.elim
 subst hcv0
 have hav:=uCx hr ha rfl
 obtain ⟨hen,hsp⟩:=hs
 unfold Oper.wp
 rw[uDe ho hfv hen,Oper.upon_enter,List.append_nil]
 have hmono : ∀ {x : X} {v : Value},XRep w G x v→XRep w G.pure x v:=fun hx=>hx.mono (fun b o hs=>(G.pure_imm b o).2 hs) (fun _ _ _=>rfl) (fun _ _=>rfl)
 refine (hsp w G.pure _ (hav.mono fun _ _=>hmono) ?_ ?_ ?_ ((hE.at hr).pure)).mono ?_
 ·intro b o' hb
  refine hr.wf b o' ?_
  intro e; apply hb; unfold Gh.pure; simp [e]
 ·intro b o' n hn; rcases G.pure_cases b o' with h' | h' <;> rw[h'] at hn <;> simp at hn
 ·intro b o' p hn; rcases G.pure_cases b o' with h' | h' <;> rw[h'] at hn <;> simp at hn
 ·rintro e w' ⟨v,G',b,o0,cap,rfl,hfr,h1,h2,h3,hv,hcap,hb1,hb2,hcells⟩
  dsimp only
  have g2 : ∀ b o',b < w.heap.size→G'.W b o' = .imm→G.W b o' = .imm:=fun b o' hb hi=>(G.pure_imm b o').1 (h2 b o' hb hi)
  let G2:=G.back G' w.heap.size .none
  let G3 : Gh:={ A:=fun m=>if m = .l d then (b,o0) else G.A m,W:=fun b' o'=>if b'=b∧o0≤o'∧o' < o0 + cs.length then .box (.l d) else G2.W b' o' }
  have hnb : ∀ b',b' < w.heap.size → ¬ b'=b:=fun b' hb' e=>by omega
  have hS3 : ∀ b' o',G'.S b' o'→G3.S b' o':=fun b' o' hs=>by
   unfold Gh.S at *
   dsimp only [G3]
   rw[if_neg]
   ·exact Gh.back_imm g2 b' o' hs
   ·rintro ⟨e1,e2,e3⟩
    subst e1
    obtain ⟨k,rfl⟩ : ∃ k,o'=o0 + k:=⟨o' - o0,by omega⟩
    exact (hcells k _ (List.getElem?_eq_getElem (by omega))).1 hs
  have hrel : Rel E G3 (st.addBox (.l d) cs) a w':=by
   refine Rel.addBox ?_ ?_ rfl
   ·refine (hr.sub (St.drop_sub _ (.l d))).grow hfr ?_ (St.drop_same (st:=st) rfl (fun k g x hk=>hfr1.1 rfl k g x hk) _ _) ?_
    ·intro b' o' hb'
     dsimp only [G3]
     rw[if_neg (fun q=>hnb b' hb' q.1)]
     simp [G2,Gh.back,hb']
    ·intro b' o' hne
     dsimp only [G3] at hne
     split at hne
     ·rename_i q; rw[q.1]; exact hb2
     ·dsimp only [G2,Gh.back] at hne
      split at hne
      ·rename_i hlt; exact Nat.lt_of_lt_of_le hlt hfr.size
      ·refine h3 b' o' ?_
       intro e; rw[e] at hne; simp at hne
   ·intro k c hk
    obtain ⟨q1,q2,u,q3,q4⟩:=hcells k c hk
    have hkl : k < cs.length:=(List.getElem?_eq_some_iff.1 hk).1
    have hA : G3.A (.l d)=(b,o0):=by dsimp only [G3]; rw[if_pos rfl]
    rw[hA]
    refine ⟨?_,q2,u,q3,q4.mono hS3 fun _ _ _=>rfl⟩
    dsimp only [G3]
    rw[if_pos ⟨rfl,by omega,by omega⟩]
  have hput:=hrel.put hdN (g:=true) (x:=.v (.ms (.l d) sz 0 L)) (v:=v) (fun _=>.inr ⟨cap,hcap,by rw[hv]; dsimp only [G3]; rw[if_pos rfl]; rfl⟩) (fun hf=>by simp at hf)
  rw[hd]
  exact h E G3 _ _ hput hE K' hK
theorem uIY {N : Nat} {ops : Array Oper} {rest : List Oper} {K : St→Prop} {st : St} (k m : Nat) {sz : Nat} (hs : st.get k=some (true, .v (.c (.sl sz [])))) (hw : st.own (.t k)=some sz) (hfr : st.freshO (.l m,true)=true) (h : AL Z N ops rest K (st.thw k m sz)) : AL Z N ops rest K st:=fun E G a w hr hE=>by
 obtain ⟨G',h'⟩:=hr.thaw hs hw (St.freshO_ok hfr)
 exact h E G' a w h' hE
end Go.Abs
namespace Go.Proofs.YteidahabkfgfjaaGreat
open Go Go.Abs
theorem uDK (l : List (List UInt8)) (h : l.length≤100000) : Ctr sys 90 [.v (.c (.sl 1 (strR l)))] [] (.v (.c (.sl 1 (strR l)))) none []:=by
 have hr : (strR l).length≤100000:=by rw[uAi]; exact h
 refine uAA Tryz.func90 rfl rfl rfl rfl rfl rfl ?_;refine uAd (uAb ?_);refine uAs rfl (uBe (.inr rfl) rfl rfl) ?_;refine uAf ?_;refine uAd ?_;refine uAd (uAb ?_);refine uAa rfl rfl rfl (uAc rfl gU) ?_;refine uDX rfl rfl rfl rfl rfl rfl rfl rfl (fun b hb=>?_);refine uAf ?_;refine uAo rfl (fun hc=>?_) (fun hc=>?_)
 ·refine uAd (uAb ?_)
  refine uAs rfl (uBe (.inr rfl) rfl rfl) ?_;refine uAf ?_;refine uAq ?_
  repeat(first|refine tR ?_|refine bR ?_)
  refine uAu rfl ?_ trivial
  have := hb hc
  exact congrArg (fun z=>X.v (.c (.sl 1 z))) this.symm
 ·refine uAp ?_
  refine uAd (uAb ?_);refine uAR (xs:=[]) rfl rfl rfl rfl rfl rfl rfl rfl rfl gU rfl ?_;refine uAa rfl rfl rfl (uAc rfl gU) ?_;refine uAs rfl (uA0 rfl rfl rfl rfl rfl rfl rfl (by simp; omega) (by simp; omega)) ?_;refine uAs rfl (uAV (.inr rfl) rfl rfl rfl) ?_;refine uAf ?_;refine uAq ?_
  repeat(first|refine tR ?_|refine bR ?_)
  refine uAu rfl ?_ trivial
  rfl
theorem uGF (l : List Fs) (h : l.length≤100000) : Ctr sys 91 [.v (.c (.sl 3 (Fs.rows l)))] [] (.v (.c (.sl 3 (Fs.rows l)))) none []:=by
 have hr : (Fs.rows l).length≤100000:=by rw[Fs.rows_len]; exact h
 refine uAA Tryz.func91 rfl rfl rfl rfl rfl rfl ?_;refine uAd (uAb ?_);refine uAs rfl (uBe (.inr rfl) rfl rfl) ?_;refine uAf ?_;refine uAd ?_;refine uAd (uAb ?_);refine uAa rfl rfl rfl (uAc rfl gU) ?_;refine uDX rfl rfl rfl rfl rfl rfl rfl rfl (fun b hb=>?_);refine uAf ?_;refine uAo rfl (fun hc=>?_) (fun hc=>?_)
 ·refine uAd (uAb ?_)
  refine uAs rfl (uBe (.inr rfl) rfl rfl) ?_;refine uAf ?_;refine uAq ?_
  repeat(first|refine tR ?_|refine bR ?_)
  refine uAu rfl ?_ trivial
  have := hb hc
  exact congrArg (fun z=>X.v (.c (.sl 3 z))) this.symm
 ·refine uAp ?_
  refine uAd (uAb ?_);refine uAR (xs:=[]) rfl rfl rfl rfl rfl rfl rfl rfl rfl gU rfl ?_;refine uAa rfl rfl rfl (uAc rfl gU) ?_;refine uAs rfl (uA0 rfl rfl rfl rfl rfl rfl rfl (by simp; omega) (by simp; omega)) ?_;refine uAs rfl (uAV (.inr rfl) rfl rfl rfl) ?_;refine uAf ?_;refine uAq ?_
  repeat(first|refine tR ?_|refine bR ?_)
  refine uAu rfl ?_ trivial
  rfl
theorem uJb : Ctr sys 93 [.v (.c (.sl 5 []))] [] (.v (.c (.sl 5 []))) none []:=by
 refine uAA Tryz.func93 rfl rfl rfl rfl rfl rfl ?_;refine uAd (uAb ?_);refine uAs rfl (uBe (.inr rfl) rfl rfl) ?_;refine uAf ?_;refine uAd ?_;refine uAd (uAb ?_);refine uAa rfl rfl rfl (uAc rfl gU) ?_;refine uDX rfl rfl rfl rfl rfl rfl rfl rfl (fun b hb=>?_);refine uAf ?_;refine uAo rfl (fun hc=>?_) (fun hc=>?_)
 ·refine uAd (uAb ?_)
  refine uAs rfl (uBe (.inr rfl) rfl rfl) ?_;refine uAf ?_;refine uAq ?_
  repeat(first|refine tR ?_|refine bR ?_)
  refine uAu rfl ?_ trivial
  rfl
 ·refine uAp ?_
  refine uAd (uAb ?_);refine uAR (xs:=[]) rfl rfl rfl rfl rfl rfl rfl rfl rfl gU rfl ?_;refine uAa rfl rfl rfl (uAc rfl gU) ?_;refine uAs rfl (uA0 rfl rfl rfl rfl rfl rfl rfl (by simp) (by simp)) ?_;refine uAs rfl (uAV (.inr rfl) rfl rfl rfl) ?_;refine uAf ?_;refine uAq ?_
  repeat(first|refine tR ?_|refine bR ?_)
  refine uAu rfl ?_ trivial
  rfl
theorem uGC (l : List Sp) (h : l.length≤100000) (h0 : l≠[]) : CtrN sys 92 [.v (.c (.sl 7 (Sp.rows l)))] l.length (Sp.rows l).flatten:=by
 have hr : (Sp.rows l).length=l.length:=Sp.rows_len l
 have hp : 0 < l.length:=List.length_pos_iff.2 h0
 have hf : (Sp.rows l).flatten≠[]:=by
  cases l with
  | nil=>exact absurd rfl h0
  | cons x r=>intro q; have := congrArg List.length q; simp [Sp.rows,Sp.cells] at this
 refine uEC 7 (hp) (hf) Tryz.func92 rfl rfl rfl rfl rfl ?_;refine uAd (uAb ?_);refine uAs rfl (uBe (.inr rfl) rfl rfl) ?_;refine uAf ?_;refine uAd ?_;refine uAd (uAb ?_);refine uAa rfl rfl rfl (uAc rfl gU) ?_;refine uDX rfl rfl rfl rfl rfl rfl rfl rfl (fun b hb=>?_);refine uAf ?_;refine uAo rfl (fun hc=>?_) (fun hc=>?_)
 ·exfalso
  have := congrArg List.length (hb hc)
  rw[hr] at this; simp at this; exact h0 this
 ·refine uAp ?_
  refine uAd (uAb ?_);refine uAR (xs:=[]) rfl rfl rfl rfl rfl rfl rfl rfl rfl gU rfl ?_;refine uAa rfl rfl rfl (uAc rfl gU) ?_;refine uIY 5 5 rfl rfl rfl ?_;refine uEL 7 rfl rfl rfl rfl rfl rfl rfl rfl rfl rfl rfl rfl rfl (by simp) (by omega) (by simp; omega) (by omega) ?_
  rw[Nat.zero_add,hr]
  trace_state
  refine uAs rfl (uAV (.inr rfl) rfl rfl rfl) ?_;refine uAf ?_;refine uAq ?_
  repeat(first|refine tR ?_|refine bR ?_)
  refine ⟨7,rfl,?_⟩
  rfl
theorem uJ5 (l : List Gl) (h : l.length≤100000) (h0 : l≠[]) : CtrN sys 93 [.v (.c (.sl 5 (Gl.rows l)))] l.length (Gl.rows l).flatten:=by
 have hr : (Gl.rows l).length=l.length:=Gl.rows_len l
 have hp : 0 < l.length:=List.length_pos_iff.2 h0
 have hf : (Gl.rows l).flatten≠[]:=by
  cases l with
  | nil=>exact absurd rfl h0
  | cons x r=>intro q; have := congrArg List.length q; simp [Gl.rows,Gl.cells] at this
 refine uEC 5 (hp) (hf) Tryz.func93 rfl rfl rfl rfl rfl ?_;refine uAd (uAb ?_);refine uAs rfl (uBe (.inr rfl) rfl rfl) ?_;refine uAf ?_;refine uAd ?_;refine uAd (uAb ?_);refine uAa rfl rfl rfl (uAc rfl gU) ?_;refine uDX rfl rfl rfl rfl rfl rfl rfl rfl (fun b hb=>?_);refine uAf ?_;refine uAo rfl (fun hc=>?_) (fun hc=>?_)
 ·exfalso
  have := congrArg List.length (hb hc)
  rw[hr] at this; simp at this; exact h0 this
 ·refine uAp ?_
  refine uAd (uAb ?_);refine uAR (xs:=[]) rfl rfl rfl rfl rfl rfl rfl rfl rfl gU rfl ?_;refine uAa rfl rfl rfl (uAc rfl gU) ?_;refine uIY 5 5 rfl rfl rfl ?_;refine uEL 7 rfl rfl rfl rfl rfl rfl rfl rfl rfl rfl rfl rfl rfl (by simp) (by omega) (by simp; omega) (by omega) ?_
  rw[Nat.zero_add,hr]
  trace_state
  refine uAs rfl (uAV (.inr rfl) rfl rfl rfl) ?_;refine uAf ?_;refine uAq ?_
  repeat(first|refine tR ?_|refine bR ?_)
  refine ⟨7,rfl,?_⟩
  rfl
theorem uLf (l : List T) (h : l.length≤100000) (h0 : l≠[]) : CtrN sys 95 [.v (.c (.sl 4 (T.rows l)))] l.length (T.rows l).flatten:=by
 have hr : (T.rows l).length=l.length:=T.rows_len l
 have hp : 0 < l.length:=List.length_pos_iff.2 h0
 have hf : (T.rows l).flatten≠[]:=by
  cases l with
  | nil=>exact absurd rfl h0
  | cons x r=>intro q; have := congrArg List.length q; simp [T.rows_eq,T.cells] at this
 refine uEC 4 (hp) (hf) Tryz.func95 rfl rfl rfl rfl rfl ?_;refine uAd (uAb ?_);refine uAs rfl (uBe (.inr rfl) rfl rfl) ?_;refine uAf ?_;refine uAd ?_;refine uAd (uAb ?_);refine uAa rfl rfl rfl (uAc rfl gU) ?_;refine uDX rfl rfl rfl rfl rfl rfl rfl rfl (fun b hb=>?_);refine uAf ?_;refine uAo rfl (fun hc=>?_) (fun hc=>?_)
 ·exfalso
  have := congrArg List.length (hb hc)
  rw[hr] at this; simp at this; exact h0 this
 ·refine uAp ?_
  refine uAd (uAb ?_);refine uAR (xs:=[]) rfl rfl rfl rfl rfl rfl rfl rfl rfl gU rfl ?_;refine uAa rfl rfl rfl (uAc rfl gU) ?_;refine uIY 5 5 rfl rfl rfl ?_;refine uEL 7 rfl rfl rfl rfl rfl rfl rfl rfl rfl rfl rfl rfl rfl (by simp) (by omega) (by simp; omega) (by omega) ?_
  rw[Nat.zero_add,hr]
  trace_state
  refine uAs rfl (uAV (.inr rfl) rfl rfl rfl) ?_;refine uAf ?_;refine uAq ?_
  repeat(first|refine tR ?_|refine bR ?_)
  refine ⟨7,rfl,?_⟩
  rfl
end Go.Proofs.YteidahabkfgfjaaGreat
namespace Go.Abs
variable {Z : Pg}
theorem CtrN.wk {Z Z' : Pg} {f : FuncId} {args : List X} {L : Nat} {cs : List C} (hP : Z'.P=Z.P) (hg : ∀ g ∈ Z.gv,g ∈ Z'.gv) (h : CtrN Z f args L cs) : CtrN Z' f args L cs:=by
 obtain ⟨⟨fn,h1,h2,h3⟩,h4⟩:=h
 refine ⟨⟨fn,by rw[hP]; exact h1,h2,h3⟩,fun w G vs a b c d e=>?_⟩
 rw[hP]
 exact h4 w G vs a b c d fun x hx=>e x (hg x hx)
theorem uIO {N : Nat} {α : Type} {c : Code} {Q : Exit→St→Prop} {st : St} {id : Nat} {ops : List Oper} (S : α→St) (rest : ∀ x,AWP Z N c Q (S x)) (h : Nd Z N ops.toArray (fun s=>∃ x,Sub (S x) s) ops.toArray.size (Array.replicate ops.toArray.size false) st) : AWP Z N (.seq (.region id ops.toArray true) c) Q st :=
 uAd (uLd (uQt (Q:=fun e s=>match e with | .normal=>∃ x,Sub (S x) s | _=>False) h) fun e s hq=>by
  cases e with
  | normal=>obtain ⟨x,hs⟩:=hq; exact uAk hs (rest x)
  | _=>exact hq.elim)
theorem uMh {N : Nat} {α : Type} {ops : Array Oper} {Q : St→Prop} {F : Nat} {listed0 : Array Bool} {st0 : St} (f : Nat) (L : Array Bool) (S : α→St) (tail : ∀ x,Nd Z N ops Q f L (S x)) (h : (∀ (x : α) {listed : Array Bool} {st : St},listed=L→Sub (S x) st→Nd Z N ops Q f listed st)→Nd Z N ops Q F listed0 st0) : Nd Z N ops Q F listed0 st0 :=
 h fun x {listed st} hl hs=>by subst hl; exact fun E G a w hr hE=>tail x E G a w (hr.sub hs) hE
end Go.Abs
namespace Go.Abs
variable {Z : Pg}
theorem uH3 {st : St} {ty : TypeId} {gate : Bool} {t : TypeId} {x : Operand} {g : Bool} {n m : Nm} {off j sz o1 len : Nat} {ti : TyI} {cs : List C} {u : Value} (h : lk Z.T st ty x=some (g, .v (.ptr n off))) (hg : gate=true→g=true)
  (ht : tyAt Z.T t=some ti) (hagg : ti.agg=false) (hb : st.box n=some cs) (hc : cs[off]? = some (.o u)) (hj : st.get j=some (true, .v (.msv m sz o1 len u))) : PureOk Z st (.load t x) ty gate (.v (.ms m sz o1 len)):=by
 intro o E G a w ho hn hr hgt
 obtain ⟨v,hv,hrun⟩:=uAh h hg ht hagg hb hc o E G a w ho hn hr hgt
 refine ⟨v,?_,hrun⟩
 have e : v=u:=by cases hv; rfl
 subst e
 obtain ⟨vj,_,h1,_⟩:=hr.tm j true _ hj
 obtain ⟨e2,cap,h3,h4⟩:=h1 rfl
 rw[← e2]
 exact .inr ⟨cap,h3,h4⟩
section
variable {N : Nat} {st s0 : St} {ops : Array Oper} {B : List Nat} {k : Nat} {rest : List Oper} {acc : List Lnk} {o : Oper} {Q : St→Prop} {d : Nat} {gate : Bool}
def uKw (ops : Array Oper) (o : Oper) (n : Nm) (j : Nat) : Foot:={ rt:=j :: uMc ops o,rb:=[n],ro:=[] }
theorem uDR (j : Nat) {t : TypeId} {x : Operand} {g0 g : Bool} {n m : Nm} {off sz o1 len : Nat} {ti : TyI} {cs : List C} {u : Value} (hk : ops[k]? = some o) (ho : o.op = .load t x) (h0 : lk Z.T st o.type x=some (g0, .v (.ptr n off))) (hg : uA8 ops (rs (uKw ops o n j) st) o=some gate) (hd : o.dst=some d) (hN : Nat.ble (d + 1) N=true)
  (h : lk Z.T (rs (uKw ops o n j) st) o.type x=some (g, .v (.ptr n off))) (hgg : gate=true→g=true) (ht : tyAt Z.T t=some ti) (hagg : ti.agg=false) (hb : (rs (uKw ops o n j) st).box n=some cs) (hc : cs[off]? = some (.o u)) (hj : (rs (uKw ops o n j) st).get j=some (true, .v (.msv m sz o1 len u)))
  (hr : Draw Z N s0 ops B (k + 1) rest (acc++[(k,{ d:=some (d,gate, .v (.ms m sz o1 len)),drop:=[.t d] },uKw ops o n j)]) (ap { d:=some (d,gate, .v (.ms m sz o1 len)),drop:=[.t d] } st) Q) : Draw Z N s0 ops B k (o :: rest) acc st Q :=
 let _:=h0; uCF hk (uGV hg hd hN (by rw[ho]; exact uH3 h hgg ht hagg hb hc hj)) hr
end
theorem Rel.setBox {E : Env} {G : Gh} {st : St} {a : Act} {w : World} {n : Nm} {cs : List C} (h : Rel E G st a w) (hb : uCU w G n cs) (hnb : n.isBd=false) : Rel E G { st with bx:=(n,cs) :: st.bx } a w where
 df:=h.df
 tm:=h.tm
 bx:=by
  intro m ds hm
  have : St.box { st with bx:=(n,cs) :: st.bx } m=if n=m then some cs else st.box m:=uA6 _ _ _ _
  rw[this] at hm
  split at hm
  ·rename_i he; subst he; simp at hm; subst hm; exact hb
  ·exact h.bx m ds hm
 ow:=h.ow
 wf:=h.wf
 olB:=h.olB
 olO:=h.olO
 nt:=h.nt
 oA:=h.oA
 im:=h.im
 im':=h.im'
 fr:=h.fr
 hB:=h.hB
 lo:=h.lo
 bd:=by
  intro t k ds hm hne
  have : St.box { st with bx:=(n,cs) :: st.bx } (.bd t k)=if n = .bd t k then some cs else st.box (.bd t k):=uA6 _ _ _ _
  rw[this] at hm
  split at hm
  ·rename_i he; subst he; simp [Nm.isBd] at hnb
  ·exact h.bd t k ds hm hne
 mp:=h.mp
theorem uIp (cs : List C) (off : Nat) (c : C) : uBo cs off [c]=cs.set off c:=rfl
theorem Rel.frzIn {E : Env} {G : Gh} {st : St} {a : Act} {w : World} (h : Rel E G st a w) {k m sz L off : Nat} {u : Value} {n : Nm} {cs : List C} {es : List (List C)} (hs : st.get k=some (true, .v (.msv (.l m) sz 0 L u)))
  (hb : st.box (.l m)=some es.flatten) (hL : es.length=L) (hm : L≤9223372036854775807) (hrow : ∀ (i : Nat) (row : List C),es[i]? = some row→row.length=sz) (hf : FreshG st (.l m,false)) (hn : st.box n=some cs) (hnm : Nm.beq (.l m) n=false) (hc : cs[off]? = some (.o u)) (hnb : n.isBd=false) :
  ∃ G',Rel E G' { st.frz k m sz es with bx:=(n,uBo cs off [.sl sz es]) :: (st.frz k m sz es).bx } a w:=by
 obtain ⟨v,hv1,hv2,_⟩:=h.tm k true _ hs
 obtain ⟨e1,cap,hcap,hv3⟩:=hv2 rfl
 have h0 : Rel E G (st.same k (.l m) sz 0 L) a w:=by
  refine { df:=h.df,tm:=?_,bx:=h.bx,ow:=h.ow,wf:=h.wf,olB:=h.olB,olO:=h.olO,nt:=h.nt,oA:=h.oA,im:=h.im,im':=h.im',fr:=h.fr,hB:=h.hB,lo:=h.lo,bd:=h.bd,mp:=h.mp }
  intro j g x hj
  have e : (st.same k (.l m) sz 0 L).get j=if k=j then some (true, .v (.ms (.l m) sz 0 L)) else st.get j:=uBD _ _ _ _
  rw[e] at hj
  split at hj
  ·rename_i q; subst q
   simp only [Option.some.injEq,Prod.mk.injEq] at hj
   obtain ⟨rfl,rfl⟩:=hj
   exact ⟨v,hv1,fun _=>.inr ⟨cap,hcap,hv3⟩,fun q=>by cases q⟩
  ·exact h.tm j g x hj
 have hfz:=h0.freeze (k:=k) (m:=m) (sz:=sz) (L:=L) (es:=es) (by
  show getT ((k,true,_) :: st.t) k=_
  rw[uBD,if_pos rfl]) hb hL hm hrow (by
   exact ⟨fun q=>(by cases q),hf.2⟩)
 have hsub : Sub (st.frz k m sz es) ((st.same k (.l m) sz 0 L).frz k m sz es):=by
  refine ⟨fun j x hj=>?_,fun _ _ hb=>hb,fun _ _ ho=>ho, .inr rfl⟩
  have e1 : (st.frz k m sz es).get j=if k=j then some (true, .v (.c (.sl sz es))) else st.get j:=uBD _ _ _ _
  have e2 : ((st.same k (.l m) sz 0 L).frz k m sz es).get j=if k=j then some (true, .v (.c (.sl sz es))) else (st.same k (.l m) sz 0 L).get j:=uBD _ _ _ _
  have e3 : (st.same k (.l m) sz 0 L).get j=if k=j then some (true, .v (.ms (.l m) sz 0 L)) else st.get j:=uBD _ _ _ _
  rw[e1] at hj
  rw[e2]
  split
  ·rename_i q; rw[if_pos q] at hj; exact hj
  ·rename_i q; rw[if_neg q] at hj; rw[e3,if_neg q]; exact hj
 refine ⟨_,(hfz.sub hsub).setBox ?_ hnb⟩
 have hbn : (st.frz k m sz es).box n=some cs:=by
  have e : (st.frz k m sz es).box n=if (Nm.l m)=n then some [] else st.box n:=uA6 _ _ _ _
  rw[e,if_neg]
  ·exact hn
  ·intro q; rw[q,Nm.beq_self] at hnm; cases hnm
 have hold:=(hfz.sub hsub).bx n cs hbn
 have htk:=(hfz.sub hsub).tm k true (.v (.c (.sl sz es))) (by
  show getT ((k,true,_) :: st.t) k=_
  rw[uBD,if_pos rfl])
 obtain ⟨v2,hw1,hw2,_⟩:=htk
 have e2 : v2=v:=by rw[hv1] at hw1; exact (Option.some.inj hw1).symm
 have hslr:=hw2 rfl
 rw[e2,e1] at hslr
 have hoff : off < cs.length:=(List.getElem?_eq_some_iff.1 hc).1
 intro j c hj
 by_cases q : j=off
 ·subst q
  obtain ⟨p1,p2,v3,p3,p4⟩:=hold j _ hc
  have e3 : v3=u:=by cases p4; rfl
  subst e3
  have ec : c = .sl sz es:=by
   have : (uBo cs j [C.sl sz es])[j]? = some (.sl sz es):=by
    rw[uIp]; simp [hoff]
   rw[this] at hj; exact (Option.some.inj hj).symm
  subst ec
  exact ⟨p1,p2,v3,p3,hslr⟩
 ·have : (uBo cs off [C.sl sz es])[j]? = cs[j]? := by
   rw[uIp,List.getElem?_set,if_neg (fun e=>q e.symm)]
  rw[this] at hj
  exact hold j c hj
theorem uGl {N : Nat} {c : Code} {Q : Exit→St→Prop} {st : St} (k m : Nat) (n : Nm) (off : Nat) {sz L : Nat} {u : Value} {cs : List C} (es : List (List C)) (hs : st.get k=some (true, .v (.msv (.l m) sz 0 L u)))
  (hb : st.box (.l m)=some es.flatten) (hL : es.length=L) (hm : L≤9223372036854775807) (hrow : ∀ (i : Nat) (row : List C),es[i]? = some row→row.length=sz) (hfo : st.freshO (.l m,false)=true) (hn : st.box n=some cs) (hnm : Nm.beq (.l m) n=false) (hc : cs[off]? = some (.o u)) (hnb : n.isBd=false)
  (h : AWP Z N c Q { st.frz k m sz es with bx:=(n,uBo cs off [.sl sz es]) :: (st.frz k m sz es).bx }) : AWP Z N c Q st:=fun E G a w hr hE=>by
 obtain ⟨G',h'⟩:=hr.frzIn hs hb hL hm hrow (St.freshO_ok hfo) hn hnm hc hnb
 exact h E G' a w h' hE
end Go.Abs
