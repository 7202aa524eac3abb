/- Our abstract program logic and contracts of this seat's functions, part 7: no statement of its own (long names of ours are shortened by a program). -/
import Derived.Test.YteidahabkfgfjaaGreatM6
import Derived.KernelRfl
import Derived.SizedLaws
import Derived.Test.YteidahabkfgfjaaGreatChecked
import Derived.Handed
import Derived.Test.YteidahabkfgfjaaGreatRows
import Derived.Deep.DeepHandedRow
import Derived.Stop.Joined
set_option linter.unusedVariables false
set_option linter.unusedSimpArgs false
namespace Go.Proofs.YteidahabkfgfjaaGreat
open Go Go.Abs
theorem uON {n : Nar} (hnd : (uBa n).Nodup) {s : List UInt8} (h : (uBa n).contains s=true) : (srtL n).getD (ixS (uBa n) s).toNat 0=mapI (nmsL n) s∧(ixS (uBa n) s).toNat < (srtL n).length∧0≤ixS (uBa n) s:=by
 have h0 : 0≤ixS (uBa n) s:=(uE1 _ _).2 h
 obtain ⟨m1,m2⟩:=uLp (l:=nmsL n) (k:=s) hnd h0
 exact ⟨m1.symm,by rw[srtL,List.length_map]; exact m2,h0⟩
theorem uFY (n : Nar) (h1 : n.roles.length≤900000) (h2 : n.fresh.length≤900000) (h4 : n.tags.length≤900000) (hnd : (uBa n).Nodup) : ∀ (m : Nat) (t : T),t.size≤m→m≤900000→knT (uBa n) t=true→Ctr sys 58 [xn n,xm t] [] (xm (chT (srtG n) t)) none []:=by
 intro m
 induction m with
 | zero=>intro t h; have := t.size_pos; omega
 | succ m ih =>
  intro t ht hm hkn
  have hr:=T.rows_len t.kids
  have hls:=T.len_sizes t.kids
  have hse:=t.size_eq
  rw[uJa,Bool.and_eq_true] at hkn
  have hkk : ∀ x ∈ t.kids,knT (uBa n) x=true:=List.all_eq_true.1 hkn.2
  refine uAA Tryz.func58 rfl rfl rfl rfl rfl rfl ?_;refine uAd (uAb ?_);refine uAs rfl (uAH rfl rfl rfl rfl) ?_;refine uAs rfl (uAH rfl rfl rfl rfl) ?_;refine uAs rfl (uAK rfl rfl rfl) ?_;refine uAf ?_;refine uAd ?_;refine uAd (uAb ?_);refine uAa rfl rfl rfl (uAg rfl gU rfl rfl) ?_;refine uAa rfl rfl rfl (uAh rfl gU rfl rfl rfl rfl) ?_;refine uAa rfl rfl rfl (uAm rfl rfl gU gU rfl) ?_;refine uAf ?_;refine uAk (s:=⟨[(2,_,_),(3,_,_),(4,_,_),(11,_,_)],[(.l 2,_),(.l 3,_),(.l 4,_)],[],[]⟩) (uAj (⟨sx rfl,sx rfl,sx rfl,sx rfl,trivial⟩) (⟨sx rfl,sx rfl,sx rfl,trivial⟩) trivial) ?_;refine uAo rfl (fun hc=>?_) (fun hc=>?_)
  ·try simp only [nn,uAi,uAC,T.rows_len,Gl.rows_len,Fs.rows_len,Sp.rows_len] at hc
   have hkey : (uBa n).contains t.name=true:=by
    have := hkn.1
    simp only [Bool.or_eq_true,decide_eq_true_eq] at this
    rcases this with q | q
    ·exact absurd hc q
    ·exact q
   obtain ⟨k1,k2,k3⟩:=uON hnd hkey
   refine uAd (uAb ?_);refine uAa rfl rfl rfl (uAn rfl gU rfl rfl rfl rfl rfl) ?_;refine uAx rfl rfl rfl rfl rfl rfl gU gU (uEQ n h1 h2 h4) rfl ?_;refine uAa rfl rfl rfl (uAc rfl gU) ?_;refine uAa rfl rfl rfl (uAv rfl gU rfl) ?_;refine uAa rfl rfl rfl (uAv rfl gU rfl) ?_;refine uAa rfl rfl rfl (uAe rfl gU) ?_;refine uAa rfl rfl rfl (uAe rfl gU) ?_;refine uAf ?_;refine uAk (s:=⟨[(2,_,_),(3,_,_),(4,_,_),(5,_,_),(6,_,_)],[(.l 2,_),(.l 3,_),(.l 4,_)],[],[]⟩) (uAj (⟨sx rfl,sx rfl,sx rfl,sx rfl,sx rfl,trivial⟩) (⟨sx rfl,sx rfl,sx rfl,trivial⟩) trivial) ?_;refine uAb ?_;refine uAa rfl rfl rfl (uAc rfl gU) ?_;refine uAa rfl rfl rfl (uAc rfl gU) ?_;refine uAa rfl rfl rfl (uAg rfl gU rfl rfl) ?_;refine uAa rfl rfl rfl (uAh rfl gU rfl rfl rfl rfl) ?_;refine uAx rfl rfl rfl rfl rfl rfl gU gU (uCQ _ _) rfl ?_;refine uAa rfl rfl rfl (uAr (j:=(ixS (uBa n) t.name).toNat) rfl rfl gU gU rfl rfl (by first|omega|(simp at hh ⊢; omega)) (fun hh=>uI5 (by first|omega|(simp at hh ⊢; omega)))) ?_;refine uAa rfl rfl rfl (uAM rfl gU rfl rfl rfl) ?_;refine uAa rfl rfl rfl (uAg rfl gU rfl rfl) ?_;refine uAs rfl (uAw rfl rfl rfl rfl rfl rfl rfl) ?_;refine uAf ?_;refine uAk (s:=⟨[(2,_,_),(3,_,_),(4,_,_)],[(.l 2,_),(.l 3,_),(.l 4,_)],[],[]⟩) (uAj (⟨sx rfl,sx rfl,sx rfl,trivial⟩) (⟨sx rfl,sx rfl,sx rfl,trivial⟩) trivial) ?_
   refine uAd (uAb ?_);refine uAs rfl (uBe (.inr rfl) rfl rfl) ?_;refine uAf ?_;refine uAd ?_;refine uAd (uAb ?_);refine uAa rfl rfl rfl (uAe rfl gU) ?_;refine uAf ?_;refine uAt ?_;refine uAW (ι:=Nat) { t:=[(2,_,_),(3,_,_),(4,_,_)],bx:=[(.l 2,_),(.l 3,_),(.l 4,_)],ow:=[(.t 7,_)] } (fun j=>[(8,true,xi (j : Int)),(7,true,xl ((t.kids.take j).map (chT (srtG n))))]) (fun j=>[]) (fun j=>j≤t.kids.length) (fun j=>t.kids.length - j) (0) (by simp) (uAj (⟨sx rfl,sx rfl,sx rfl,sx rfl,sx rfl,trivial⟩) (⟨sx rfl,sx rfl,sx rfl,trivial⟩) (⟨rfl,trivial⟩)) ?_
   intro j hoka
   dsimp only [List.cons_append,List.nil_append]
   have hrl:=T.rows_len ((t.kids.take j).map (chT (srtG n)))
   rw[List.length_map,List.length_take] at hrl
   refine uAd ?_;refine uAd (uAb ?_);refine uAa rfl rfl rfl (uAc rfl gU) ?_;refine uAa rfl rfl rfl (uAg rfl gU rfl rfl) ?_;refine uAa rfl rfl rfl (uAh rfl gU rfl rfl rfl rfl) ?_;refine uAI rfl rfl rfl rfl rfl gU rfl rfl ?_ (fun hh=>by simp at hh); intro hlen;refine uAa rfl rfl rfl (uAm rfl rfl gU gU rfl) ?_;refine uAf ?_;refine uAk (s:=⟨[(2,_,_),(3,_,_),(4,_,_),(7,_,_),(8,_,_),(29,_,_)],[(.l 2,_),(.l 3,_),(.l 4,_)],[(.t 7,_)],[]⟩) (uAj (⟨sx rfl,sx rfl,sx rfl,sx rfl,sx rfl,sx rfl,trivial⟩) (⟨sx rfl,sx rfl,sx rfl,trivial⟩) (⟨rfl,trivial⟩)) ?_;refine uAo rfl (fun hc2=>?_) (fun hc2=>?_)
   ·try simp only [nn,uAi,uAC,T.rows_len,Gl.rows_len,Fs.rows_len,Sp.rows_len] at hc2
    have hlt : j < t.kids.length:=by omega
    have hT:=uBk (l:=t.kids) (d:=default) hlt
    have hm:=uBz (d:=default) hlt
    have hks:=uB3 hm
    refine uAp ?_;refine uAd ?_;refine uAt ?_;refine awp_drawn' (by kernel_rfl) ?_;refine uCH rfl (.inl rfl) rfl rfl rfl rfl rfl ?_;refine uAG rfl rfl rfl rfl rfl rfl rfl gU rfl rfl rfl rfl rfl ?_;refine uAl rfl rfl rfl rfl (uAg rfl gU rfl rfl) ?_;refine uA5 rfl rfl rfl rfl rfl rfl rfl gU rfl rfl rfl rfl ?_;refine uAl rfl rfl rfl rfl (uAc rfl gU) ?_;refine uAl rfl rfl rfl rfl (uAr rfl rfl gU gU rfl rfl rfl (fun hh=>T.rows_at (by first|omega|(simp at hh ⊢; omega)))) ?_;refine uAl rfl rfl rfl rfl (uAD rfl gU rfl rfl rfl rfl) ?_;refine uAQ rfl rfl rfl rfl rfl rfl rfl gU gU (ih (t.kids.getD j default) (by omega) (by omega) (hkk _ hm)) rfl ?_;refine uDh (xs:=[_]) rfl rfl rfl rfl rfl rfl rfl rfl rfl rfl gU rfl ?_;refine uDx rfl rfl rfl rfl rfl (rko (ak2 rfl (ak rfl (ak rfl (ak rfl (ak rfl (ak rfl (ak rfl (ak rfl (rfl)))))))))) rfl rfl rfl rfl rfl (by first|omega|(simp only [List.length_append,List.length_singleton,T.rows_len,Sp.rows_len,Gl.rows_len,List.length_map,List.length_take]; omega)) (by first|omega|(simp only [List.length_append,List.length_singleton,T.rows_len,Sp.rows_len,Gl.rows_len,List.length_map,List.length_take]; omega)) ?_;refine uCH rfl (.inr rfl) rfl rfl rfl rfl rfl ?_;refine uA2 (by kernel_rfl) ?_;refine uAk (s:=⟨[(2,_,_),(3,_,_),(4,_,_),(7,_,_),(8,_,_)],[(.l 2,_),(.l 3,_),(.l 4,_)],[(.t 7,_)],[]⟩) (uAj (⟨sx rfl,sx rfl,sx rfl,sx rfl,sx rfl,trivial⟩) (⟨sx rfl,sx rfl,sx rfl,trivial⟩) (⟨rfl,trivial⟩)) ?_
    refine uAb ?_;refine uAa rfl rfl rfl (uAc rfl gU) ?_;refine uAa rfl rfl rfl (uAz rfl rfl gU gU rfl (IntWalk.i64_in _ (by omega))) ?_;refine uAa rfl rfl rfl (uAe rfl gU) ?_;refine uAf ?_;refine ⟨j + 1,?_,?_,uAj (⟨⟨_,rfl,?_⟩,⟨⟨_,rfl,?_⟩,⟨sx rfl,sx rfl,sx rfl,trivial⟩⟩⟩) (⟨sx rfl,sx rfl,sx rfl,trivial⟩) (⟨rfl,trivial⟩)⟩
    all_goals (first|rfl|omega|exact tx ((uFP _ _).trans (by rw[hT,List.map_append]; rfl)))
   ·try simp only [nn,uAi,uAC,T.rows_len,Gl.rows_len,Fs.rows_len,Sp.rows_len] at hc2
    have hke : j=t.kids.length:=by omega
    subst hke
    rw[List.take_length]
    refine uAL ?_
    repeat(first|refine uAE ?_|refine uAF ?_|refine uAB rfl ?_)
    refine uAd (uAb ?_);refine uAs rfl (uAV (.inl rfl) rfl rfl rfl) ?_;refine uAa rfl rfl rfl (uAg rfl gU rfl rfl) ?_;refine uAs rfl (uBi rfl rfl rfl rfl rfl rfl rfl) ?_;refine uAf ?_;refine uAd (uAb ?_);refine uAa rfl rfl rfl (uAn rfl gU rfl rfl rfl rfl rfl) ?_;refine uAs rfl (uAw rfl rfl rfl rfl rfl rfl rfl) ?_;refine uAf ?_;refine uAq ?_
    repeat(first|refine tR ?_|refine bR ?_)
    refine uAu rfl ?_ trivial
    (rw[uJl,if_pos hc,if_pos hc,k1]; rfl)
  ·try simp only [nn,uAi,uAC,T.rows_len,Gl.rows_len,Fs.rows_len,Sp.rows_len] at hc
   refine uAp ?_;refine uAd (uAb ?_);refine uAs rfl (uBe (.inr rfl) rfl rfl) ?_;refine uAf ?_;refine uAd ?_;refine uAd (uAb ?_);refine uAa rfl rfl rfl (uAe rfl gU) ?_;refine uAf ?_;refine uAt ?_;refine uAW (ι:=Nat) { t:=[(2,_,_),(3,_,_),(4,_,_)],bx:=[(.l 2,_),(.l 3,_),(.l 4,_)],ow:=[(.t 7,_)] } (fun j=>[(8,true,xi (j : Int)),(7,true,xl ((t.kids.take j).map (chT (srtG n))))]) (fun j=>[]) (fun j=>j≤t.kids.length) (fun j=>t.kids.length - j) (0) (by simp) (uAj (⟨sx rfl,sx rfl,sx rfl,sx rfl,sx rfl,trivial⟩) (⟨sx rfl,sx rfl,sx rfl,trivial⟩) (⟨rfl,trivial⟩)) ?_
   intro j hokb
   dsimp only [List.cons_append,List.nil_append]
   have hrl:=T.rows_len ((t.kids.take j).map (chT (srtG n)))
   rw[List.length_map,List.length_take] at hrl
   refine uAd ?_;refine uAd (uAb ?_);refine uAa rfl rfl rfl (uAc rfl gU) ?_;refine uAa rfl rfl rfl (uAg rfl gU rfl rfl) ?_;refine uAa rfl rfl rfl (uAh rfl gU rfl rfl rfl rfl) ?_;refine uAI rfl rfl rfl rfl rfl gU rfl rfl ?_ (fun hh=>by simp at hh); intro hlen;refine uAa rfl rfl rfl (uAm rfl rfl gU gU rfl) ?_;refine uAf ?_;refine uAk (s:=⟨[(2,_,_),(3,_,_),(4,_,_),(7,_,_),(8,_,_),(29,_,_)],[(.l 2,_),(.l 3,_),(.l 4,_)],[(.t 7,_)],[]⟩) (uAj (⟨sx rfl,sx rfl,sx rfl,sx rfl,sx rfl,sx rfl,trivial⟩) (⟨sx rfl,sx rfl,sx rfl,trivial⟩) (⟨rfl,trivial⟩)) ?_;refine uAo rfl (fun hc2=>?_) (fun hc2=>?_)
   ·try simp only [nn,uAi,uAC,T.rows_len,Gl.rows_len,Fs.rows_len,Sp.rows_len] at hc2
    have hlt : j < t.kids.length:=by omega
    have hT:=uBk (l:=t.kids) (d:=default) hlt
    have hm:=uBz (d:=default) hlt
    have hks:=uB3 hm
    refine uAp ?_;refine uAd ?_;refine uAt ?_;refine awp_drawn' (by kernel_rfl) ?_;refine uCH rfl (.inl rfl) rfl rfl rfl rfl rfl ?_;refine uAG rfl rfl rfl rfl rfl rfl rfl gU rfl rfl rfl rfl rfl ?_;refine uAl rfl rfl rfl rfl (uAg rfl gU rfl rfl) ?_;refine uA5 rfl rfl rfl rfl rfl rfl rfl gU rfl rfl rfl rfl ?_;refine uAl rfl rfl rfl rfl (uAc rfl gU) ?_;refine uAl rfl rfl rfl rfl (uAr rfl rfl gU gU rfl rfl rfl (fun hh=>T.rows_at (by first|omega|(simp at hh ⊢; omega)))) ?_;refine uAl rfl rfl rfl rfl (uAD rfl gU rfl rfl rfl rfl) ?_;refine uAQ rfl rfl rfl rfl rfl rfl rfl gU gU (ih (t.kids.getD j default) (by omega) (by omega) (hkk _ hm)) rfl ?_;refine uDh (xs:=[_]) rfl rfl rfl rfl rfl rfl rfl rfl rfl rfl gU rfl ?_;refine uDx rfl rfl rfl rfl rfl (rko (ak2 rfl (ak rfl (ak rfl (ak rfl (ak rfl (ak rfl (ak rfl (ak rfl (rfl)))))))))) rfl rfl rfl rfl rfl (by first|omega|(simp only [List.length_append,List.length_singleton,T.rows_len,Sp.rows_len,Gl.rows_len,List.length_map,List.length_take]; omega)) (by first|omega|(simp only [List.length_append,List.length_singleton,T.rows_len,Sp.rows_len,Gl.rows_len,List.length_map,List.length_take]; omega)) ?_;refine uCH rfl (.inr rfl) rfl rfl rfl rfl rfl ?_;refine uA2 (by kernel_rfl) ?_;refine uAk (s:=⟨[(2,_,_),(3,_,_),(4,_,_),(7,_,_),(8,_,_)],[(.l 2,_),(.l 3,_),(.l 4,_)],[(.t 7,_)],[]⟩) (uAj (⟨sx rfl,sx rfl,sx rfl,sx rfl,sx rfl,trivial⟩) (⟨sx rfl,sx rfl,sx rfl,trivial⟩) (⟨rfl,trivial⟩)) ?_
    refine uAb ?_;refine uAa rfl rfl rfl (uAc rfl gU) ?_;refine uAa rfl rfl rfl (uAz rfl rfl gU gU rfl (IntWalk.i64_in _ (by omega))) ?_;refine uAa rfl rfl rfl (uAe rfl gU) ?_;refine uAf ?_;refine ⟨j + 1,?_,?_,uAj (⟨⟨_,rfl,?_⟩,⟨⟨_,rfl,?_⟩,⟨sx rfl,sx rfl,sx rfl,trivial⟩⟩⟩) (⟨sx rfl,sx rfl,sx rfl,trivial⟩) (⟨rfl,trivial⟩)⟩
    all_goals (first|rfl|omega|exact tx ((uFP _ _).trans (by rw[hT,List.map_append]; rfl)))
   ·try simp only [nn,uAi,uAC,T.rows_len,Gl.rows_len,Fs.rows_len,Sp.rows_len] at hc2
    have hke : j=t.kids.length:=by omega
    subst hke
    rw[List.take_length]
    refine uAL ?_
    repeat(first|refine uAE ?_|refine uAF ?_|refine uAB rfl ?_)
    refine uAd (uAb ?_);refine uAs rfl (uAV (.inl rfl) rfl rfl rfl) ?_;refine uAa rfl rfl rfl (uAg rfl gU rfl rfl) ?_;refine uAs rfl (uBi rfl rfl rfl rfl rfl rfl rfl) ?_;refine uAf ?_;refine uAd (uAb ?_);refine uAa rfl rfl rfl (uAn rfl gU rfl rfl rfl rfl rfl) ?_;refine uAs rfl (uAw rfl rfl rfl rfl rfl rfl rfl) ?_;refine uAf ?_;refine uAq ?_
    repeat(first|refine tR ?_|refine bR ?_)
    refine uAu rfl ?_ trivial
    (rw[uJl,if_neg hc,if_neg hc]; rfl)
def chS (g : ChG) (s : Sp) : Sp:=⟨s.frm,s.dst,chT g s.msg,s.line⟩
def chL (g : ChG) (x : Gl) : Gl:=⟨x.kind,x.role,x.wth,x.data.map (chT g),x.line⟩
def chN (g : ChG) (n : Nar) : Nar:=⟨n.name,n.roles,n.fresh,n.tags,n.steps.map (chS g),n.goals.map (chL g)⟩
def resE (n : Nar) : Nar × Int × Int:=if (chkE uAN n).2≠0 then (nar0,(chkE uAN n).1,(chkE uAN n).2) else (chN (srtG n) n,0,0)
theorem uPF (l : List Sp) (s : Sp) : Sp.rows l++[s.cells]=Sp.rows (l++[s]):=by simp [Sp.rows]
theorem uPN (l : List Gl) (s : Gl) : Gl.rows l++[s.cells]=Gl.rows (l++[s]):=by simp [Gl.rows]
theorem uQz (l : List T) (s : T) : T.rows l++[s.cells]=T.rows (l++[s]):=by simp [T.rows_eq]
set_option maxHeartbeats 4000000 in
theorem uH4 (n : Nar) (hs : ∀ s ∈ n.steps,s.msg.size≤900000) (hg : ∀ g ∈ n.goals,T.sizes g.data≤900000) : Ctr sys 26 [xn n] [] (xnie (resE n)) none []:=by
 have l5:=Sp.rows_len n.steps
 have l6:=Gl.rows_len n.goals
 refine uAA Tryz.func26 rfl rfl rfl rfl rfl rfl ?_;refine uAd (uAb ?_);refine uAs rfl (uAH rfl rfl rfl rfl) ?_;refine uAs rfl (uAK rfl rfl rfl) ?_;refine uAa rfl rfl rfl (uAe rfl gU) ?_;refine uAa rfl rfl rfl (uAe rfl gU) ?_;refine uAf ?_;refine uAd ?_;refine uAd (uAb ?_);refine uAa rfl rfl rfl (uAn rfl gU rfl rfl rfl rfl rfl) ?_;refine uAx rfl rfl rfl rfl rfl rfl gU gU (uKC n hs hg) rfl ?_;refine uAa rfl rfl rfl (uAc rfl gU) ?_;refine uAa rfl rfl rfl (uAv rfl gU rfl) ?_;refine uAa rfl rfl rfl (uAv rfl gU rfl) ?_;refine uAa rfl rfl rfl (uAe rfl gU) ?_;refine uAa rfl rfl rfl (uAe rfl gU) ?_;refine uAf ?_;refine uAk (s:=⟨[(1,_,_),(2,_,_),(5,_,_),(6,_,_)],[(.l 1,_),(.l 2,_)],[],[]⟩) (uAj (⟨sx rfl,sx rfl,sx rfl,sx rfl,trivial⟩) (⟨sx rfl,sx rfl,trivial⟩) trivial) ?_;refine uAd (uAb ?_);refine uAa rfl rfl rfl (uAc rfl gU) ?_;refine uAa rfl rfl rfl (uAm rfl rfl gU gU rfl) ?_;refine uAf ?_;refine uAo rfl (fun hc=>?_) (fun hc=>?_)
 ·try simp only [nn,uAi,uAC,T.rows_len,Gl.rows_len,Fs.rows_len,Sp.rows_len] at hc
  refine uAd (uAb ?_);refine uAa rfl rfl rfl (uBg rfl Tryz.underlying27 rfl gU) ?_;refine uAa rfl rfl rfl (uAc rfl gU) ?_;refine uAa rfl rfl rfl (uAc rfl gU) ?_;refine uAs rfl (uAw rfl rfl rfl rfl rfl rfl rfl) ?_;refine uAa rfl rfl rfl (uAe rfl gU) ?_;refine uAa rfl rfl rfl (uAe rfl gU) ?_;refine uAf ?_;refine uAq ?_
  repeat(first|refine tR ?_|refine bR ?_)
  refine uAu rfl ?_ trivial
  (rw[resE,if_pos hc]; rfl)
 ·try simp only [nn,uAi,uAC,T.rows_len,Gl.rows_len,Fs.rows_len,Sp.rows_len] at hc
  have hE : resE n=(chN (srtG n) n,0,0):=by rw[resE,if_neg (by simpa using hc)]
  have hok:=uNQ (n:=n) hc
  have b1 : n.roles.length≤900000 := by have := hok.nar.r2; omega
  have b2 : n.fresh.length≤900000 := by have := hok.nar.f2; omega
  have b3 : n.tags.length≤900000 := by have := hok.nar.t2; omega
  have b5:=hok.nar.s2
  have b6:=hok.nar.g2
  rw[hE]
  refine uAp ?_;refine uAd (uAb ?_);refine uAa rfl rfl rfl (uAn rfl gU rfl rfl rfl rfl rfl) ?_;refine uAs rfl (uAK rfl rfl rfl) ?_;refine uAs rfl (uAw rfl rfl rfl rfl rfl rfl rfl) ?_;refine uAf ?_;refine uAd (uAb ?_);refine uAa rfl rfl rfl (uAg rfl gU rfl rfl) ?_;refine uAs rfl (uDV rfl rfl rfl rfl rfl rfl) ?_;refine uAa rfl rfl rfl (uAg rfl gU rfl rfl) ?_;refine uAs rfl (uDV rfl rfl rfl rfl rfl rfl) ?_;refine uAf ?_;refine uAk (s:=⟨[(1,_,_),(2,_,_),(7,_,_)],[(.l 1,_),(.l 2,_),(.l 7,_)],[(.b (.l 7) 4,_),(.b (.l 7) 5,_)],[]⟩) (uAj (⟨sx rfl,sx rfl,sx rfl,trivial⟩) (⟨sx rfl,sx rfl,sx rfl,trivial⟩) (⟨rfl,rfl,trivial⟩)) ?_;refine uAd ?_;refine uAd (uAb ?_);refine uAa rfl rfl rfl (uAe rfl gU) ?_;refine uAf ?_;refine uAt ?_;refine uAW (ι:=Nat) { t:=[(1,_,_),(2,_,_),(7,_,_)],bx:=[(.l 1,_),(.l 2,_)],ow:=[(.b (.l 7) 4,_),(.b (.l 7) 5,_)] } (fun k=>[(8,true,xi (k : Int))]) (fun k=>[((.l 7),[.s n.name, .sl 1 (strR n.roles), .sl 3 (Fs.rows n.fresh), .sl 1 (strR n.tags), .sl 7 (Sp.rows ((n.steps.take k).map (chS (srtG n)))), .sl 5 []])]) (fun k=>k≤n.steps.length) (fun k=>n.steps.length - k) (0) (by simp) (uAj (⟨sx rfl,sx rfl,sx rfl,sx rfl,trivial⟩) (⟨sx rfl,sx rfl,sx rfl,trivial⟩) (⟨rfl,rfl,trivial⟩)) ?_
  intro k hoka
  dsimp only [List.cons_append,List.nil_append]
  have hrl:=Sp.rows_len ((n.steps.take k).map (chS (srtG n)))
  rw[List.length_map,List.length_take] at hrl
  refine uAd ?_;refine uAd (uAb ?_);refine uAa rfl rfl rfl (uAc rfl gU) ?_;refine uAa rfl rfl rfl (uAg rfl gU rfl rfl) ?_;refine uAa rfl rfl rfl (uAh rfl gU rfl rfl rfl rfl) ?_;refine uAI rfl rfl rfl rfl rfl gU rfl rfl ?_ (fun hh=>by simp at hh); intro hlen;refine uAa rfl rfl rfl (uAm rfl rfl gU gU rfl) ?_;refine uAf ?_;refine uAk (s:=⟨[(1,_,_),(2,_,_),(7,_,_),(8,_,_),(30,_,_)],[(.l 1,_),(.l 2,_),(.l 7,_)],[(.b (.l 7) 4,_),(.b (.l 7) 5,_)],[]⟩) (uAj (⟨sx rfl,sx rfl,sx rfl,sx rfl,sx rfl,trivial⟩) (⟨sx rfl,sx rfl,sx rfl,trivial⟩) (⟨rfl,rfl,trivial⟩)) ?_;refine uAo rfl (fun hc2=>?_) (fun hc2=>?_)
  ·try simp only [nn,uAi,uAC,T.rows_len,Gl.rows_len,Fs.rows_len,Sp.rows_len] at hc2
   have hlt : k < n.steps.length:=by omega
   have hT:=uBk (l:=n.steps) (d:=default) hlt
   obtain ⟨m1,m2,m3⟩:=hok.msg _ (uBz (d:=default) hlt)
   refine uAp ?_;refine uAd ?_;refine uAt ?_;refine uAd (uAb ?_);refine uAa rfl rfl rfl (uAg rfl gU rfl rfl) ?_;refine uAa rfl rfl rfl (uAh rfl gU rfl rfl rfl rfl) ?_;refine uAa rfl rfl rfl (uAc rfl gU) ?_;refine uAa rfl rfl rfl (uAr rfl rfl gU gU rfl rfl rfl (fun hh=>Sp.rows_at (by first|omega|(simp at hh ⊢; omega)))) ?_;refine uAa rfl rfl rfl (uAD rfl gU rfl rfl rfl rfl) ?_;refine uAs rfl (uAK rfl rfl rfl) ?_;refine uAs rfl (uAw rfl rfl rfl rfl rfl rfl rfl) ?_;refine uAf ?_;refine uAk (s:=⟨[(1,_,_),(2,_,_),(7,_,_),(8,_,_),(9,_,_)],[(.l 1,_),(.l 2,_),(.l 7,_),(.l 9,_)],[(.b (.l 7) 4,_),(.b (.l 7) 5,_)],[]⟩) (uAj (⟨sx rfl,sx rfl,sx rfl,sx rfl,sx rfl,trivial⟩) (⟨sx rfl,sx rfl,sx rfl,sx rfl,trivial⟩) (⟨rfl,rfl,trivial⟩)) ?_;refine uAd (uAb ?_);refine uAa rfl rfl rfl (uAn rfl gU rfl rfl rfl rfl rfl) ?_;refine uAa rfl rfl rfl (uAg rfl gU rfl rfl) ?_;refine uAa rfl rfl rfl (uAn rfl gU rfl rfl rfl rfl rfl) ?_;refine uAx rfl rfl rfl rfl rfl rfl gU gU (uFY n b1 b2 b3 hok.nd _ (n.steps.getD k default).msg (Nat.le_refl _) (by omega) m1) rfl ?_;refine uAa rfl rfl rfl (uAg rfl gU rfl rfl) ?_;refine uAs rfl (uAw rfl rfl rfl rfl rfl rfl rfl) ?_;refine uAf ?_;refine uAk (s:=⟨[(1,_,_),(2,_,_),(7,_,_),(8,_,_),(9,_,_)],[(.l 1,_),(.l 2,_),(.l 7,_),(.l 9,_)],[(.b (.l 7) 4,_),(.b (.l 7) 5,_)],[]⟩) (uAj (⟨sx rfl,sx rfl,sx rfl,sx rfl,sx rfl,trivial⟩) (⟨sx rfl,sx rfl,sx rfl,sx rfl,trivial⟩) (⟨rfl,rfl,trivial⟩)) ?_
   refine uAb ?_;refine uAa rfl rfl rfl (uAg rfl gU rfl rfl) ?_;refine uAs rfl (uBp rfl rfl rfl rfl rfl rfl rfl) ?_;refine uAa rfl rfl rfl (uAn rfl gU rfl rfl rfl rfl rfl) ?_;refine uAR (xs:=[_]) rfl rfl rfl rfl rfl rfl rfl rfl rfl gU rfl ?_;refine uAs rfl (uA0 rfl rfl rfl rfl rfl rfl rfl (by first|omega|(simp only [List.length_append,List.length_singleton,T.rows_len,Sp.rows_len,Gl.rows_len,List.length_map,List.length_take]; omega)) (by first|omega|(simp only [List.length_append,List.length_singleton,T.rows_len,Sp.rows_len,Gl.rows_len,List.length_map,List.length_take]; omega))) ?_;refine uAa rfl rfl rfl (uAg rfl gU rfl rfl) ?_;refine uAs rfl (uBi rfl rfl rfl rfl rfl rfl rfl) ?_;refine uAf ?_;refine uAk (s:=⟨[(1,_,_),(2,_,_),(7,_,_),(8,_,_)],[(.l 1,_),(.l 2,_),(.l 7,_)],[(.b (.l 7) 4,_),(.b (.l 7) 5,_)],[]⟩) (uAj (⟨sx rfl,sx rfl,sx rfl,sx rfl,trivial⟩) (⟨sx rfl,sx rfl,sx rfl,trivial⟩) (⟨rfl,rfl,trivial⟩)) ?_;refine uAb ?_;refine uAa rfl rfl rfl (uAc rfl gU) ?_;refine uAa rfl rfl rfl (uAz rfl rfl gU gU rfl (IntWalk.i64_in _ (by omega))) ?_;refine uAa rfl rfl rfl (uAe rfl gU) ?_;refine uAf ?_;refine ⟨k + 1,?_,?_,uAj (⟨⟨_,rfl,?_⟩,⟨sx rfl,sx rfl,sx rfl,trivial⟩⟩) (⟨⟨_,rfl,?_⟩,⟨sx rfl,sx rfl,trivial⟩⟩) (⟨rfl,rfl,trivial⟩)⟩
   all_goals (first|rfl|omega|(rw[hT,List.map_append]; exact congrArg (fun z=>[C.s n.name,C.sl 1 (strR n.roles),C.sl 3 (Fs.rows n.fresh),C.sl 1 (strR n.tags),C.sl 7 z,C.sl 5 []]) (uPF _ (chS (srtG n) (n.steps.getD k default)))))
  ·try simp only [nn,uAi,uAC,T.rows_len,Gl.rows_len,Fs.rows_len,Sp.rows_len] at hc2
   have hke : k=n.steps.length:=by omega
   subst hke
   rw[List.take_length]
   refine uAL ?_
   repeat(first|refine uAE ?_|refine uAF ?_|refine uAB rfl ?_)
   refine uAd ?_;refine uAd (uAb ?_);refine uAa rfl rfl rfl (uAe rfl gU) ?_;refine uAf ?_;refine uAt ?_;refine uAW (ι:=Nat) { t:=[(1,_,_),(2,_,_),(7,_,_)],bx:=[(.l 1,_),(.l 2,_)],ow:=[(.b (.l 7) 4,_),(.b (.l 7) 5,_)] } (fun j=>[(10,true,xi (j : Int))]) (fun j=>[((.l 7),[.s n.name, .sl 1 (strR n.roles), .sl 3 (Fs.rows n.fresh), .sl 1 (strR n.tags), .sl 7 (Sp.rows (n.steps.map (chS (srtG n)))), .sl 5 (Gl.rows ((n.goals.take j).map (chL (srtG n))))])]) (fun j=>j≤n.goals.length) (fun j=>n.goals.length - j) (0) (by simp) (uAj (⟨sx rfl,sx rfl,sx rfl,sx rfl,trivial⟩) (⟨sx rfl,sx rfl,sx rfl,trivial⟩) (⟨rfl,rfl,trivial⟩)) ?_
   intro j hokb
   dsimp only [List.cons_append,List.nil_append]
   have hrl2:=Gl.rows_len ((n.goals.take j).map (chL (srtG n)))
   rw[List.length_map,List.length_take] at hrl2
   refine uAd ?_;refine uAd (uAb ?_);refine uAa rfl rfl rfl (uAc rfl gU) ?_;refine uAa rfl rfl rfl (uAg rfl gU rfl rfl) ?_;refine uAa rfl rfl rfl (uAh rfl gU rfl rfl rfl rfl) ?_;refine uAI rfl rfl rfl rfl rfl gU rfl rfl ?_ (fun hh=>by simp at hh); intro hlen;refine uAa rfl rfl rfl (uAm rfl rfl gU gU rfl) ?_;refine uAf ?_;refine uAk (s:=⟨[(1,_,_),(2,_,_),(7,_,_),(10,_,_),(53,_,_)],[(.l 1,_),(.l 2,_),(.l 7,_)],[(.b (.l 7) 4,_),(.b (.l 7) 5,_)],[]⟩) (uAj (⟨sx rfl,sx rfl,sx rfl,sx rfl,sx rfl,trivial⟩) (⟨sx rfl,sx rfl,sx rfl,trivial⟩) (⟨rfl,rfl,trivial⟩)) ?_;refine uAo rfl (fun hc3=>?_) (fun hc3=>?_)
   ·try simp only [nn,uAi,uAC,T.rows_len,Gl.rows_len,Fs.rows_len,Sp.rows_len] at hc3
    have hlt : j < n.goals.length:=by omega
    have hT:=uBk (l:=n.goals) (d:=default) hlt
    have hd:=hok.dat _ (uBz (d:=default) hlt)
    have hdl:=(hok.nar.goals _ (uBz (d:=default) hlt)).d2
    have hdr:=T.rows_len (n.goals.getD j default).data
    refine uAp ?_;refine uAd ?_;refine uAt ?_;refine uAd (uAb ?_);refine uAa rfl rfl rfl (uAg rfl gU rfl rfl) ?_;refine uAa rfl rfl rfl (uAh rfl gU rfl rfl rfl rfl) ?_;refine uAa rfl rfl rfl (uAc rfl gU) ?_;refine uAa rfl rfl rfl (uAr rfl rfl gU gU rfl rfl rfl (fun hh=>Gl.rows_at (by first|omega|(simp at hh ⊢; omega)))) ?_;refine uAa rfl rfl rfl (uAD rfl gU rfl rfl rfl rfl) ?_;refine uAs rfl (uAK rfl rfl rfl) ?_;refine uAs rfl (uAw rfl rfl rfl rfl rfl rfl rfl) ?_;refine uAf ?_;refine uAk (s:=⟨[(1,_,_),(2,_,_),(7,_,_),(10,_,_),(11,_,_)],[(.l 1,_),(.l 11,_),(.l 2,_),(.l 7,_)],[(.b (.l 7) 4,_),(.b (.l 7) 5,_)],[]⟩) (uAj (⟨sx rfl,sx rfl,sx rfl,sx rfl,sx rfl,trivial⟩) (⟨sx rfl,sx rfl,sx rfl,sx rfl,trivial⟩) (⟨rfl,rfl,trivial⟩)) ?_;refine uAd (uAb ?_);refine uAa rfl rfl rfl (uAg rfl gU rfl rfl) ?_;refine uAs rfl (uDV rfl rfl rfl rfl rfl rfl) ?_;refine uAf ?_;refine uAd ?_;refine uAd (uAb ?_);refine uAa rfl rfl rfl (uAe rfl gU) ?_;refine uAf ?_;refine uAt ?_;refine uAW (ι:=Nat) { t:=[(1,_,_),(2,_,_),(7,_,_),(10,_,_),(11,_,_)],bx:=[(.l 1,_),(.l 2,_),(.l 7,_)],ow:=[(.b (.l 11) 3,_),(.b (.l 7) 4,_),(.b (.l 7) 5,_)] } (fun i=>[(12,true,xi (i : Int))]) (fun i=>[((.l 11),[.i .i64 (n.goals.getD j default).kind, .s (n.goals.getD j default).role, .s (n.goals.getD j default).wth, .sl 4 (T.rows (((n.goals.getD j default).data.take i).map (chT (srtG n)))), .i .i64 (n.goals.getD j default).line])]) (fun i=>i≤(n.goals.getD j default).data.length) (fun i=>(n.goals.getD j default).data.length - i) (0) (by simp) (uAj (⟨sx rfl,sx rfl,sx rfl,sx rfl,sx rfl,sx rfl,trivial⟩) (⟨sx rfl,sx rfl,sx rfl,sx rfl,trivial⟩) (⟨rfl,rfl,rfl,trivial⟩)) ?_
    intro i hokc
    dsimp only [List.cons_append,List.nil_append]
    have hrl3:=T.rows_len (((n.goals.getD j default).data.take i).map (chT (srtG n)))
    rw[List.length_map,List.length_take] at hrl3
    refine uAd ?_;refine uAd (uAb ?_);refine uAa rfl rfl rfl (uAc rfl gU) ?_;refine uAa rfl rfl rfl (uAg rfl gU rfl rfl) ?_;refine uAa rfl rfl rfl (uAh rfl gU rfl rfl rfl rfl) ?_;refine uAa rfl rfl rfl (uAc rfl gU) ?_;refine uAa rfl rfl rfl (uAr rfl rfl gU gU rfl rfl rfl (fun hh=>Gl.rows_at (by first|omega|(simp at hh ⊢; omega)))) ?_;refine uAa rfl rfl rfl (uAU rfl gU rfl rfl) ?_;refine uAa rfl rfl rfl (uAM rfl gU rfl rfl rfl) ?_;refine uAI rfl rfl rfl rfl rfl gU rfl rfl ?_ (fun hh=>by simp at hh); intro hlen;refine uAa rfl rfl rfl (uAm rfl rfl gU gU rfl) ?_;refine uAf ?_;refine uAk (s:=⟨[(1,_,_),(2,_,_),(7,_,_),(10,_,_),(11,_,_),(12,_,_),(70,_,_)],[(.l 1,_),(.l 11,_),(.l 2,_),(.l 7,_)],[(.b (.l 11) 3,_),(.b (.l 7) 4,_),(.b (.l 7) 5,_)],[]⟩) (uAj (⟨sx rfl,sx rfl,sx rfl,sx rfl,sx rfl,sx rfl,sx rfl,trivial⟩) (⟨sx rfl,sx rfl,sx rfl,sx rfl,trivial⟩) (⟨rfl,rfl,rfl,trivial⟩)) ?_;refine uAo rfl (fun hc4=>?_) (fun hc4=>?_)
    ·try simp only [nn,uAi,uAC,T.rows_len,Gl.rows_len,Fs.rows_len,Sp.rows_len] at hc4
     have hlt4 : i < (n.goals.getD j default).data.length:=by omega
     have hT4:=uBk (l:=(n.goals.getD j default).data) (d:=default) hlt4
     obtain ⟨m1,m2,m3⟩:=hd _ (uBz (d:=default) hlt4)
     refine uAp ?_;refine uAd ?_;refine uAt ?_;refine awp_drawn' (by kernel_rfl) ?_;refine uAl rfl rfl rfl rfl (uAg rfl gU rfl rfl) ?_;refine uJ4 rfl rfl rfl rfl rfl rfl rfl rfl rfl rfl rfl rfl ?_;refine uAG rfl rfl rfl rfl rfl rfl rfl gU rfl rfl rfl rfl rfl ?_;refine uAl rfl rfl rfl rfl (uAg rfl gU rfl rfl) ?_;refine uA5 rfl rfl rfl rfl rfl rfl rfl gU rfl rfl rfl rfl ?_;refine uAl rfl rfl rfl rfl (uAc rfl gU) ?_;refine uAl rfl rfl rfl rfl (uAr rfl rfl gU gU rfl rfl rfl (fun hh=>Gl.rows_at (by first|omega|(simp at hh ⊢; omega)))) ?_;refine uAl rfl rfl rfl rfl (uAU rfl gU rfl rfl) ?_;refine uAl rfl rfl rfl rfl (uAM rfl gU rfl rfl rfl) ?_;refine uAl rfl rfl rfl rfl (uAc rfl gU) ?_;refine uAl rfl rfl rfl rfl (uAr rfl rfl gU gU rfl rfl rfl (fun hh=>T.rows_at (by first|omega|(simp at hh ⊢; omega)))) ?_;refine uAl rfl rfl rfl rfl (uAD rfl gU rfl rfl rfl rfl) ?_;refine uAQ rfl rfl rfl rfl rfl rfl rfl gU gU (uFY n b1 b2 b3 hok.nd _ ((n.goals.getD j default).data.getD i default) (Nat.le_refl _) (by omega) m1) rfl ?_;refine uDh (xs:=[_]) rfl rfl rfl rfl rfl rfl rfl rfl rfl rfl gU rfl ?_;refine uDx rfl rfl rfl rfl rfl (rko (ak2 rfl (ak rfl (ak rfl (ak rfl (ak rfl (ak rfl (ak rfl (ak rfl (ak rfl (ak rfl (ak rfl (ak rfl (rfl)))))))))))))) rfl rfl rfl rfl rfl (by first|omega|(simp only [List.length_append,List.length_singleton,T.rows_len,Sp.rows_len,Gl.rows_len,List.length_map,List.length_take]; omega)) (by first|omega|(simp only [List.length_append,List.length_singleton,T.rows_len,Sp.rows_len,Gl.rows_len,List.length_map,List.length_take]; omega)) ?_
     refine uAl rfl rfl rfl rfl (uAg rfl gU rfl rfl) ?_;refine uJA rfl rfl rfl rfl rfl rfl rfl rfl rfl rfl rfl rfl ?_;refine uA2 (by kernel_rfl) ?_;refine uAk (s:=⟨[(1,_,_),(2,_,_),(7,_,_),(10,_,_),(11,_,_),(12,_,_)],[(.l 1,_),(.l 11,_),(.l 2,_),(.l 7,_)],[(.b (.l 11) 3,_),(.b (.l 7) 4,_),(.b (.l 7) 5,_)],[]⟩) (uAj (⟨sx rfl,sx rfl,sx rfl,sx rfl,sx rfl,sx rfl,trivial⟩) (⟨sx rfl,sx rfl,sx rfl,sx rfl,trivial⟩) (⟨rfl,(ak2 rfl (ak rfl (ak2 rfl (ak2 rfl (ak rfl (ak rfl (ak rfl (ak rfl (ak rfl (ak rfl (ak rfl (ak rfl (ak rfl (ak rfl (ak rfl (ak2 rfl (ak rfl (rfl)))))))))))))))))),(ak2 rfl (ak rfl (ak2 rfl (ak2 rfl (ak rfl (ak rfl (ak rfl (ak rfl (ak rfl (ak rfl (ak rfl (ak rfl (ak rfl (ak rfl (ak rfl (ak2 rfl (ak rfl (rfl)))))))))))))))))),trivial⟩)) ?_;refine uAb ?_;refine uAa rfl rfl rfl (uAc rfl gU) ?_;refine uAa rfl rfl rfl (uAz rfl rfl gU gU rfl (IntWalk.i64_in _ (by omega))) ?_;refine uAa rfl rfl rfl (uAe rfl gU) ?_;refine uAf ?_;refine ⟨i + 1,?_,?_,uAj (⟨⟨_,rfl,?_⟩,⟨sx rfl,sx rfl,sx rfl,sx rfl,sx rfl,trivial⟩⟩) (⟨⟨_,rfl,?_⟩,⟨sx rfl,sx rfl,sx rfl,trivial⟩⟩) (⟨rfl,rfl,rfl,trivial⟩)⟩
     all_goals (first|rfl|omega|(rw[hT4,List.map_append]; exact congrArg (fun z=>[C.i .i64 (n.goals.getD j default).kind,C.s (n.goals.getD j default).role,C.s (n.goals.getD j default).wth,C.sl 4 z,C.i .i64 (n.goals.getD j default).line]) (uQz _ (chT (srtG n) ((n.goals.getD j default).data.getD i default)))))
    ·try simp only [nn,uAi,uAC,T.rows_len,Gl.rows_len,Fs.rows_len,Sp.rows_len] at hc4
     have hie : i=(n.goals.getD j default).data.length:=by omega
     subst hie
     rw[List.take_length]
     refine uAL ?_
     repeat(first|refine uAE ?_|refine uAF ?_|refine uAB rfl ?_)
     refine uAb ?_;refine uAa rfl rfl rfl (uAg rfl gU rfl rfl) ?_;refine uAs rfl (uBp rfl rfl rfl rfl rfl rfl rfl) ?_;refine uAa rfl rfl rfl (uAn rfl gU rfl rfl rfl rfl rfl) ?_;refine uAR (xs:=[_]) rfl rfl rfl rfl rfl rfl rfl rfl rfl gU rfl ?_;refine uAs rfl (uA0 rfl rfl rfl rfl rfl rfl rfl (by first|omega|(simp only [List.length_append,List.length_singleton,T.rows_len,Sp.rows_len,Gl.rows_len,List.length_map,List.length_take]; omega)) (by first|omega|(simp only [List.length_append,List.length_singleton,T.rows_len,Sp.rows_len,Gl.rows_len,List.length_map,List.length_take]; omega))) ?_;refine uAa rfl rfl rfl (uAg rfl gU rfl rfl) ?_;refine uAs rfl (uBi rfl rfl rfl rfl rfl rfl rfl) ?_;refine uAf ?_;refine uAk (s:=⟨[(1,_,_),(2,_,_),(7,_,_),(10,_,_)],[(.l 1,_),(.l 2,_),(.l 7,_)],[(.b (.l 7) 4,_),(.b (.l 7) 5,_)],[]⟩) (uAj (⟨sx rfl,sx rfl,sx rfl,sx rfl,trivial⟩) (⟨sx rfl,sx rfl,sx rfl,trivial⟩) (⟨rfl,rfl,trivial⟩)) ?_;refine uAb ?_;refine uAa rfl rfl rfl (uAc rfl gU) ?_;refine uAa rfl rfl rfl (uAz rfl rfl gU gU rfl (IntWalk.i64_in _ (by omega))) ?_;refine uAa rfl rfl rfl (uAe rfl gU) ?_;refine uAf ?_;refine ⟨j + 1,?_,?_,uAj (⟨⟨_,rfl,?_⟩,⟨sx rfl,sx rfl,sx rfl,trivial⟩⟩) (⟨⟨_,rfl,?_⟩,⟨sx rfl,sx rfl,trivial⟩⟩) (⟨rfl,rfl,trivial⟩)⟩
     all_goals (first|rfl|omega|(rw[hT,List.map_append]; exact congrArg (fun z=>[C.s n.name,C.sl 1 (strR n.roles),C.sl 3 (Fs.rows n.fresh),C.sl 1 (strR n.tags),C.sl 7 (Sp.rows (n.steps.map (chS (srtG n)))),C.sl 5 z]) (uPN _ (chL (srtG n) (n.goals.getD j default)))))
   ·try simp only [nn,uAi,uAC,T.rows_len,Gl.rows_len,Fs.rows_len,Sp.rows_len] at hc3
    have hje : j=n.goals.length:=by omega
    subst hje
    rw[List.take_length]
    refine uAL ?_
    repeat(first|refine uAE ?_|refine uAF ?_|refine uAB rfl ?_)
    refine uAd (uAb ?_);refine uAa rfl rfl rfl (uAn rfl gU rfl rfl rfl rfl rfl) ?_;refine uAs rfl (uAw rfl rfl rfl rfl rfl rfl rfl) ?_;refine uAa rfl rfl rfl (uAe rfl gU) ?_;refine uAa rfl rfl rfl (uAe rfl gU) ?_;refine uAf ?_;refine uAq ?_
    repeat(first|refine tR ?_|refine bR ?_)
    refine uAu rfl ?_ trivial
    rfl
theorem uNV {sz : Nat} {xs : List (List C)} {i j m : Nat} {row : List C} (h : ∀ (i : Nat) (row : List C),xs[i]? = some row→row.length=sz) (hi : xs[i]? = some row) (hjm : j + m≤sz) : (xs.flatten.drop (i * sz + j)).take m=(row.drop j).take m:=by
 have hr:=uHz h hi
 have e : row.drop j=(xs.flatten.drop (i * sz + j)).take (sz - j):=by
  rw[← hr,List.drop_take,List.drop_drop]
 rw[e,List.take_take,Nat.min_eq_left (by omega)]
theorem uMz {sz : Nat} {xs : List (List C)} {i j : Nat} {row ds : List C} (h : ∀ (i : Nat) (row : List C),xs[i]? = some row→row.length=sz) (hi : xs[i]? = some row) (hjm : j + ds.length≤sz) : uBo xs.flatten (i * sz + j) ds=(xs.set i (uBo row j ds)).flatten:=by
 have hil : i < xs.length:=(List.getElem?_eq_some_iff.1 hi).1
 have hrl:=h i row hi
 have hlen : (uBo row j ds).length=sz:=by rw[uBR,hrl]
 rw[← uHX h hil hlen]
 have hfl : i * sz + sz≤xs.flatten.length:=by
  cases hz : sz with
  | zero =>
   have : ds.length=0:=by omega
   rw[Nat.mul_zero]; omega
  | succ z =>
   have hg : row[z]? = some (row[z]'(by omega)):=List.getElem?_eq_getElem (by omega)
   have := uFN h hi hg
   have := (List.getElem?_eq_some_iff.1 this).1
   rw[hz] at this; omega
 refine List.ext_getElem? fun k=>?_
 rw[uCW _ _ _ _ (by omega),uCW _ _ _ _ (by omega),hlen]
 by_cases h1 : i * sz≤k∧k < i * sz + sz
 ·obtain ⟨k',rfl⟩ : ∃ k',k=i * sz + k':=⟨k - i * sz,by omega⟩
  have hrk : row[k']? = some (row[k']'(by omega)):=List.getElem?_eq_getElem (by omega)
  have hfk:=uFN h hi hrk
  rw[if_pos h1,Nat.add_sub_cancel_left,uCW _ _ _ _ (by omega)]
  by_cases h2 : j≤k'∧k' < j + ds.length
  ·rw[if_pos (by omega),if_pos h2]
   congr 1; omega
  ·rw[if_neg (by omega),if_neg h2,hfk,hrk]
 ·rw[if_neg (by omega),if_neg h1]
theorem uMr (l : List Sp) : ∀ (i : Nat) (row : List C),(Sp.rows l)[i]? = some row→row.length=7:=by
 intro i row h
 rw[Sp.rows,List.getElem?_map] at h
 cases hx : l[i]? with
 | none=>rw[hx] at h; cases h
 | some t=>rw[hx] at h; cases h; rfl
theorem uOv (l : List Gl) : ∀ (i : Nat) (row : List C),(Gl.rows l)[i]? = some row→row.length=5:=by
 intro i row h
 rw[Gl.rows,List.getElem?_map] at h
 cases hx : l[i]? with
 | none=>rw[hx] at h; cases h
 | some t=>rw[hx] at h; cases h; rfl
def upto {α : Type} (f : α→α) (l : List α) (k : Nat) : List α:=(l.take k).map f++l.drop k
theorem uE8 {α : Type} (f : α→α) (l : List α) : upto f l 0=l:=by simp [upto]
theorem uE5 {α : Type} (f : α→α) (l : List α) : upto f l l.length=l.map f:=by simp [upto]
theorem uFW {α : Type} (f : α→α) (l : List α) (k : Nat) : (upto f l k).length=l.length:=by
 simp only [upto,List.length_append,List.length_map,List.length_take,List.length_drop]; omega
theorem uGO {α : Type} {f : α→α} {l : List α} {k : Nat} {d : α} (h : k < l.length) : (upto f l k)[k]? = some (l.getD k d):=by
 rw[upto,List.getElem?_append_right (by simp; omega),List.length_map,List.length_take,Nat.min_eq_left (by omega),Nat.sub_self,List.getElem?_drop,Nat.add_zero,List.getD_eq_getElem?_getD,List.getElem?_eq_getElem h]; rfl
theorem uF2 {α : Type} {f : α→α} {l : List α} {k : Nat} {d : α} (h : k < l.length) : (upto f l k).set k (f (l.getD k d))=upto f l (k + 1):=by
 rw[upto,List.set_append_right _ _ (by simp; omega),upto,uBk (d:=d) h,List.map_append,List.append_assoc]
 congr 1
 have e : k - ((l.take k).map f).length=0:=by simp; omega
 rw[e,List.drop_eq_getElem_cons h,List.set_cons_zero]
 rfl
theorem uPZ {l : List Sp} {k : Nat} {s : Sp} (h : l[k]? = some s) : ((Sp.rows l).flatten.drop (k * 7 + 2)).take 4=s.msg.cells:=by
 rw[uNV (uMr l) (row:=s.cells) (by rw[Sp.rows,List.getElem?_map,h]; rfl) (by omega)]; rfl
theorem uKd {l : List Sp} {k : Nat} {s : Sp} (h : l[k]? = some s) (t : T) : uBo (Sp.rows l).flatten (k * 7 + 2) t.cells=(Sp.rows (l.set k { s with msg:=t })).flatten:=by
 rw[uMz (uMr l) (row:=s.cells) (by rw[Sp.rows,List.getElem?_map,h]; rfl) (by show 2 + 4≤7; omega),Sp.rows,Sp.rows,List.map_set]; rfl
theorem uPn {l : List Gl} {k : Nat} {g : Gl} (h : l[k]? = some g) : (Gl.rows l).flatten[k * 5 + 3]? = some (.sl 4 (T.rows g.data)) :=
 uFN (uOv l) (row:=g.cells) (by rw[Gl.rows,List.getElem?_map,h]; rfl) rfl
theorem uOT {l : List Gl} {k : Nat} {g : Gl} (h : l[k]? = some g) (d : List T) : uBo (Gl.rows l).flatten (k * 5 + 3) [.sl 4 (T.rows d)]=(Gl.rows (l.set k { g with data:=d })).flatten:=by
 rw[uMz (uOv l) (row:=g.cells) (by rw[Gl.rows,List.getElem?_map,h]; rfl) (by show 3 + 1≤5; omega),Gl.rows,Gl.rows,List.map_set]; rfl
theorem uDO (l : List Sp) : (Sp.rows l).flatten.length=l.length * 7:=by
 induction l with
 | nil=>simp [Sp.rows]
 | cons x l ih =>
  have e : Sp.rows (x :: l)=x.cells :: Sp.rows l:=by simp [Sp.rows]
  have : x.cells.length=7:=rfl
  rw[e,List.flatten_cons,List.length_append,ih]
  simp only [List.length_cons]; omega
theorem uGE (l : List Gl) : (Gl.rows l).flatten.length=l.length * 5:=by
 induction l with
 | nil=>simp [Gl.rows]
 | cons x l ih =>
  have e : Gl.rows (x :: l)=x.cells :: Gl.rows l:=by simp [Gl.rows]
  have : x.cells.length=5:=rfl
  rw[e,List.flatten_cons,List.length_append,ih]
  simp only [List.length_cons]; omega
theorem uKe {l : List Sp} {k : Nat} {s : Sp} (h : l[k]? = some s) : ((Sp.rows l).flatten.drop (0 + k * 7 + 2)).take 4=s.msg.cells:=by
 rw[Nat.zero_add]; exact uPZ h
theorem uOD {l : List Gl} {k : Nat} {g : Gl} (h : l[k]? = some g) : (Gl.rows l).flatten[0 + k * 5 + 3]? = some (.sl 4 (T.rows g.data)):=by
 rw[Nat.zero_add]; exact uPn h
theorem uLk {l : List T} {i : Nat} {t : T} (h : l[i]? = some t) : ((T.rows l).flatten.drop (0 + i * 4)).take 4=t.cells:=by
 rw[Nat.zero_add,uHz (uMd l) (row:=t.cells) (by rw[T.rows_eq,List.getElem?_map,h]; rfl)]
noncomputable abbrev zR (n : Nar) (b : Nat) : Pg:=sysO.add b (mapL (nmsL n))
set_option maxHeartbeats 4000000 in
theorem uN9 (n : Nar) (b : Nat) (hr : n.roles.length≤100) (hf : n.fresh.length≤100) (ht : n.tags.length≤100) (hs : n.steps.length≤100) (hg : n.goals.length≤100) (hs0 : n.steps≠[]) (hg0 : n.goals≠[])
  (hm : ∀ s ∈ n.steps,gdB s.msg=true∧s.msg.size≤900000) (hd : ∀ g ∈ n.goals,g.data≠[]∧g.data.length≤100 ∧ ∀ t ∈ g.data,gdB t=true∧t.size≤900000) : CtrO (zR n b) 56 [xn n, .fn 57 [.ptr (.o 0) 0]] [tbC n.roles b] [] (xn (chN (srtG n) n)) [tbC n.roles b] .box:=by
 have p1 : 0 < n.steps.length:=List.length_pos_iff.2 hs0
 have p2 : 0 < n.goals.length:=List.length_pos_iff.2 hg0
 have cs1 : CtrN (zR n b) 92 [.v (.c (.sl 7 (Sp.rows n.steps)))] n.steps.length (Sp.rows n.steps).flatten:=CtrN.wk (Z:=sys) rfl (fun g hg=>by cases hg) (uGC n.steps (by omega) hs0)
 have cs2 : CtrN (zR n b) 93 [.v (.c (.sl 5 (Gl.rows n.goals)))] n.goals.length (Gl.rows n.goals).flatten:=CtrN.wk (Z:=sys) rfl (fun g hg=>by cases hg) (uJ5 n.goals (by omega) hg0)
 have hfs:=uDO n.steps
 have hfg:=uGE n.goals
 refine uBM Tryz.func56 rfl rfl rfl rfl rfl rfl rfl ?_;refine uAd (uAb ?_);refine uAs rfl (uAH rfl rfl rfl rfl) ?_;refine uAs rfl (uAK rfl rfl rfl) ?_;refine uAf ?_;refine uAd ?_;refine awp_drawn' (by kernel_rfl) ?_;refine uAl rfl rfl rfl rfl (uAg rfl gU rfl rfl) ?_;refine uA5 rfl rfl rfl rfl rfl rfl rfl gU rfl rfl rfl rfl ?_;refine uAQ rfl rfl rfl rfl rfl rfl rfl gU gU (Ctr.add (up (uDK _ (by omega)))) rfl ?_;refine uAl rfl rfl rfl rfl (uAg rfl gU rfl rfl) ?_;refine uA5 rfl rfl rfl rfl rfl rfl rfl gU rfl rfl rfl rfl ?_;refine uAQ rfl rfl rfl rfl rfl rfl rfl gU gU (Ctr.add (up (uGF _ (by omega)))) rfl ?_;refine uAl rfl rfl rfl rfl (uAg rfl gU rfl rfl) ?_;refine uA5 rfl rfl rfl rfl rfl rfl rfl gU rfl rfl rfl rfl ?_;refine uAQ rfl rfl rfl rfl rfl rfl rfl gU gU (Ctr.add (up (uDK _ (by omega)))) rfl ?_;refine uAl rfl rfl rfl rfl (uAg rfl gU rfl rfl) ?_;refine uAT rfl rfl rfl rfl rfl rfl rfl rfl rfl rfl rfl rfl ?_;refine uAl rfl rfl rfl rfl (uAg rfl gU rfl rfl) ?_;refine uAT rfl rfl rfl rfl rfl rfl rfl rfl rfl rfl rfl rfl ?_;refine uAl rfl rfl rfl rfl (uAg rfl gU rfl rfl) ?_;refine uAT rfl rfl rfl rfl rfl rfl rfl rfl rfl rfl rfl rfl ?_;refine uA2 (by kernel_rfl) ?_;refine uAk (s:=⟨[(1,_,_),(2,_,_),(4,_,_)],[(.l 2,_),(.l 4,_),(.o 0,_)],[],[]⟩) (uAj (⟨sx rfl,sx rfl,sx rfl,trivial⟩) (⟨sx rfl,sx rfl,sx rfl,trivial⟩) trivial) ?_
 refine uIO (fun x : Value × Value=>{ t:=[(1,true, .fn 57 [.ptr (.o 0) 0]),(2,true, .v (.ptr (.l 2) 0)),(4,true, .v (.ptr (.l 4) 0)),(23,true, .v (.msv (.l 23) 7 0 n.steps.length x.1)),(26,true, .v (.msv (.l 26) 5 0 n.goals.length x.2))],bx:=[((.l 2),[.s n.name, .sl 1 (strR n.roles), .sl 3 (Fs.rows n.fresh), .sl 1 (strR n.tags), .o x.1, .o x.2]),((.l 4),[.s [], .sl 1 [], .sl 3 [], .sl 1 [], .sl 7 [], .sl 5 []]),((.l 23),(Sp.rows n.steps).flatten),((.l 26),(Gl.rows n.goals).flatten),((.o 0),tbC n.roles b)],ow:=[] }) (fun x=>?_) ?_
 rotate_left
 ·refine uMh 5 #[true,true,true,true,true,false,false,false,false,false] (fun u1 : Value=>{ t:=[(1,true, .fn 57 [.ptr (.o 0) 0]),(2,true, .v (.ptr (.l 2) 0)),(4,true, .v (.ptr (.l 4) 0)),(23,true, .v (.msv (.l 23) 7 0 n.steps.length u1)),(25,true, .v (.c (.sl 5 (Gl.rows n.goals))))],bx:=[((.l 2),[.s n.name, .sl 1 (strR n.roles), .sl 3 (Fs.rows n.fresh), .sl 1 (strR n.tags), .sl 7 (Sp.rows n.steps), .sl 5 (Gl.rows n.goals)]),((.l 4),[.s [], .sl 1 [], .sl 3 [], .sl 1 [], .sl 7 [], .sl 5 []]),((.l 23),(Sp.rows n.steps).flatten),((.o 0),tbC n.roles b)],ow:=[] }) (fun u1=>?_) (fun go=>?_)
  ·refine uAY 5 [6] (by kernel_rfl) ⟨⟨_,rfl,?_⟩,⟨_,rfl,?_⟩,trivial⟩
   ·refine uBt 5 rfl rfl rfl rfl rfl rfl rfl cs2 ?_
    refine uB1 26 rfl p2 (fun u2=>uAf ?_);refine uAY 6 [] (by kernel_rfl) ⟨⟨_,rfl,?_⟩,trivial⟩;refine uAa rfl rfl rfl (uAg rfl gU rfl rfl) (uAf ?_);refine uAY 7 [] (by kernel_rfl) ⟨⟨_,rfl,?_⟩,trivial⟩;refine uAs rfl (uAw rfl rfl rfl rfl rfl rfl rfl) (uAf ?_);refine uAY 8 [] (by kernel_rfl) ⟨⟨_,rfl,?_⟩,trivial⟩;refine uAa rfl rfl rfl (uAg rfl gU rfl rfl) (uAf ?_);refine uAY 9 [] (by kernel_rfl) ⟨⟨_,rfl,?_⟩,trivial⟩;refine uAs rfl (uAw rfl rfl rfl rfl rfl rfl rfl) (uAf ?_);exact uGW (by kernel_rfl) ⟨(u1,u2),uAj ⟨sx rfl,sx rfl,sx rfl,sx rfl,sx rfl,trivial⟩ ⟨sx rfl,sx rfl,sx rfl,sx rfl,sx rfl,trivial⟩ trivial⟩
   ·refine uAa rfl rfl rfl (uAg rfl gU rfl rfl) (uAf ?_)
    refine uAY 5 [] (by kernel_rfl) ⟨⟨_,rfl,?_⟩,trivial⟩;refine uBt 5 rfl rfl rfl rfl rfl rfl rfl cs2 ?_;refine uB1 26 rfl p2 (fun u2=>uAf ?_);refine uAY 7 [] (by kernel_rfl) ⟨⟨_,rfl,?_⟩,trivial⟩;refine uAs rfl (uAw rfl rfl rfl rfl rfl rfl rfl) (uAf ?_);refine uAY 8 [] (by kernel_rfl) ⟨⟨_,rfl,?_⟩,trivial⟩;refine uAa rfl rfl rfl (uAg rfl gU rfl rfl) (uAf ?_);refine uAY 9 [] (by kernel_rfl) ⟨⟨_,rfl,?_⟩,trivial⟩;refine uAs rfl (uAw rfl rfl rfl rfl rfl rfl rfl) (uAf ?_);exact uGW (by kernel_rfl) ⟨(u1,u2),uAj ⟨sx rfl,sx rfl,sx rfl,sx rfl,sx rfl,trivial⟩ ⟨sx rfl,sx rfl,sx rfl,sx rfl,sx rfl,trivial⟩ trivial⟩
  ·refine uAY 0 [3] (by kernel_rfl) ⟨⟨_,rfl,?_⟩,⟨_,rfl,?_⟩,trivial⟩
   ·refine uAa rfl rfl rfl (uAg rfl gU rfl rfl) (uAf ?_)
    refine uAY 1 [3] (by kernel_rfl) ⟨⟨_,rfl,?_⟩,⟨_,rfl,?_⟩,trivial⟩
    ·refine uAa rfl rfl rfl (uAh rfl gU rfl rfl rfl rfl) (uAf ?_)
     refine uAY 2 [3] (by kernel_rfl) ⟨⟨_,rfl,?_⟩,⟨_,rfl,?_⟩,trivial⟩
     ·refine uBt 7 rfl rfl rfl rfl rfl rfl rfl cs1 ?_
      refine uB1 23 rfl p1 (fun u1=>uAf ?_);refine uAY 3 [] (by kernel_rfl) ⟨⟨_,rfl,?_⟩,trivial⟩;refine uAa rfl rfl rfl (uAg rfl gU rfl rfl) (uAf ?_);refine uAY 4 [] (by kernel_rfl) ⟨⟨_,rfl,?_⟩,trivial⟩;refine uAa rfl rfl rfl (uAh rfl gU rfl rfl rfl rfl) (uAf ?_);exact go u1 (by kernel_rfl) (uAj ⟨sx rfl,sx rfl,sx rfl,sx rfl,sx rfl,trivial⟩ ⟨sx rfl,sx rfl,sx rfl,sx rfl,trivial⟩ trivial)
     ·refine uAa rfl rfl rfl (uAg rfl gU rfl rfl) (uAf ?_)
      refine uAY 2 [4] (by kernel_rfl) ⟨⟨_,rfl,?_⟩,⟨_,rfl,?_⟩,trivial⟩
      ·refine uBt 7 rfl rfl rfl rfl rfl rfl rfl cs1 ?_
       refine uB1 23 rfl p1 (fun u1=>uAf ?_);refine uAY 4 [] (by kernel_rfl) ⟨⟨_,rfl,?_⟩,trivial⟩;refine uAa rfl rfl rfl (uAh rfl gU rfl rfl rfl rfl) (uAf ?_);exact go u1 (by kernel_rfl) (uAj ⟨sx rfl,sx rfl,sx rfl,sx rfl,sx rfl,trivial⟩ ⟨sx rfl,sx rfl,sx rfl,sx rfl,trivial⟩ trivial)
      ·refine uAa rfl rfl rfl (uAh rfl gU rfl rfl rfl rfl) (uAf ?_)
       refine uAY 2 [] (by kernel_rfl) ⟨⟨_,rfl,?_⟩,trivial⟩;refine uBt 7 rfl rfl rfl rfl rfl rfl rfl cs1 ?_;refine uB1 23 rfl p1 (fun u1=>uAf ?_);exact go u1 (by kernel_rfl) (uAj ⟨sx rfl,sx rfl,sx rfl,sx rfl,sx rfl,trivial⟩ ⟨sx rfl,sx rfl,sx rfl,sx rfl,trivial⟩ trivial)
    ·refine uAa rfl rfl rfl (uAg rfl gU rfl rfl) (uAf ?_)
     refine uAY 1 [4] (by kernel_rfl) ⟨⟨_,rfl,?_⟩,⟨_,rfl,?_⟩,trivial⟩
     ·refine uAa rfl rfl rfl (uAh rfl gU rfl rfl rfl rfl) (uAf ?_)
      refine uAY 2 [4] (by kernel_rfl) ⟨⟨_,rfl,?_⟩,⟨_,rfl,?_⟩,trivial⟩
      ·refine uBt 7 rfl rfl rfl rfl rfl rfl rfl cs1 ?_
       refine uB1 23 rfl p1 (fun u1=>uAf ?_);refine uAY 4 [] (by kernel_rfl) ⟨⟨_,rfl,?_⟩,trivial⟩;refine uAa rfl rfl rfl (uAh rfl gU rfl rfl rfl rfl) (uAf ?_);exact go u1 (by kernel_rfl) (uAj ⟨sx rfl,sx rfl,sx rfl,sx rfl,sx rfl,trivial⟩ ⟨sx rfl,sx rfl,sx rfl,sx rfl,trivial⟩ trivial)
      ·refine uAa rfl rfl rfl (uAh rfl gU rfl rfl rfl rfl) (uAf ?_)
       refine uAY 2 [] (by kernel_rfl) ⟨⟨_,rfl,?_⟩,trivial⟩;refine uBt 7 rfl rfl rfl rfl rfl rfl rfl cs1 ?_;refine uB1 23 rfl p1 (fun u1=>uAf ?_);exact go u1 (by kernel_rfl) (uAj ⟨sx rfl,sx rfl,sx rfl,sx rfl,sx rfl,trivial⟩ ⟨sx rfl,sx rfl,sx rfl,sx rfl,trivial⟩ trivial)
     ·refine uAa rfl rfl rfl (uAh rfl gU rfl rfl rfl rfl) (uAf ?_)
      refine uAY 1 [] (by kernel_rfl) ⟨⟨_,rfl,?_⟩,trivial⟩;refine uAa rfl rfl rfl (uAh rfl gU rfl rfl rfl rfl) (uAf ?_);refine uAY 2 [] (by kernel_rfl) ⟨⟨_,rfl,?_⟩,trivial⟩;refine uBt 7 rfl rfl rfl rfl rfl rfl rfl cs1 ?_;refine uB1 23 rfl p1 (fun u1=>uAf ?_);exact go u1 (by kernel_rfl) (uAj ⟨sx rfl,sx rfl,sx rfl,sx rfl,sx rfl,trivial⟩ ⟨sx rfl,sx rfl,sx rfl,sx rfl,trivial⟩ trivial)
   ·refine uAa rfl rfl rfl (uAg rfl gU rfl rfl) (uAf ?_)
    refine uAY 0 [4] (by kernel_rfl) ⟨⟨_,rfl,?_⟩,⟨_,rfl,?_⟩,trivial⟩
    ·refine uAa rfl rfl rfl (uAg rfl gU rfl rfl) (uAf ?_)
     refine uAY 1 [4] (by kernel_rfl) ⟨⟨_,rfl,?_⟩,⟨_,rfl,?_⟩,trivial⟩
     ·refine uAa rfl rfl rfl (uAh rfl gU rfl rfl rfl rfl) (uAf ?_)
      refine uAY 2 [4] (by kernel_rfl) ⟨⟨_,rfl,?_⟩,⟨_,rfl,?_⟩,trivial⟩
      ·refine uBt 7 rfl rfl rfl rfl rfl rfl rfl cs1 ?_
       refine uB1 23 rfl p1 (fun u1=>uAf ?_);refine uAY 4 [] (by kernel_rfl) ⟨⟨_,rfl,?_⟩,trivial⟩;refine uAa rfl rfl rfl (uAh rfl gU rfl rfl rfl rfl) (uAf ?_);exact go u1 (by kernel_rfl) (uAj ⟨sx rfl,sx rfl,sx rfl,sx rfl,sx rfl,trivial⟩ ⟨sx rfl,sx rfl,sx rfl,sx rfl,trivial⟩ trivial)
      ·refine uAa rfl rfl rfl (uAh rfl gU rfl rfl rfl rfl) (uAf ?_)
       refine uAY 2 [] (by kernel_rfl) ⟨⟨_,rfl,?_⟩,trivial⟩;refine uBt 7 rfl rfl rfl rfl rfl rfl rfl cs1 ?_;refine uB1 23 rfl p1 (fun u1=>uAf ?_);exact go u1 (by kernel_rfl) (uAj ⟨sx rfl,sx rfl,sx rfl,sx rfl,sx rfl,trivial⟩ ⟨sx rfl,sx rfl,sx rfl,sx rfl,trivial⟩ trivial)
     ·refine uAa rfl rfl rfl (uAh rfl gU rfl rfl rfl rfl) (uAf ?_)
      refine uAY 1 [] (by kernel_rfl) ⟨⟨_,rfl,?_⟩,trivial⟩;refine uAa rfl rfl rfl (uAh rfl gU rfl rfl rfl rfl) (uAf ?_);refine uAY 2 [] (by kernel_rfl) ⟨⟨_,rfl,?_⟩,trivial⟩;refine uBt 7 rfl rfl rfl rfl rfl rfl rfl cs1 ?_;refine uB1 23 rfl p1 (fun u1=>uAf ?_);exact go u1 (by kernel_rfl) (uAj ⟨sx rfl,sx rfl,sx rfl,sx rfl,sx rfl,trivial⟩ ⟨sx rfl,sx rfl,sx rfl,sx rfl,trivial⟩ trivial)
    ·refine uAa rfl rfl rfl (uAh rfl gU rfl rfl rfl rfl) (uAf ?_)
     refine uAY 0 [] (by kernel_rfl) ⟨⟨_,rfl,?_⟩,trivial⟩;refine uAa rfl rfl rfl (uAg rfl gU rfl rfl) (uAf ?_);refine uAY 1 [] (by kernel_rfl) ⟨⟨_,rfl,?_⟩,trivial⟩;refine uAa rfl rfl rfl (uAh rfl gU rfl rfl rfl rfl) (uAf ?_);refine uAY 2 [] (by kernel_rfl) ⟨⟨_,rfl,?_⟩,trivial⟩;refine uBt 7 rfl rfl rfl rfl rfl rfl rfl cs1 ?_;refine uB1 23 rfl p1 (fun u1=>uAf ?_);exact go u1 (by kernel_rfl) (uAj ⟨sx rfl,sx rfl,sx rfl,sx rfl,sx rfl,trivial⟩ ⟨sx rfl,sx rfl,sx rfl,sx rfl,trivial⟩ trivial)
 obtain ⟨u1,u2⟩:=x
 dsimp only
 refine uAd ?_;refine uAd (uAb ?_);refine uAa rfl rfl rfl (uAg rfl gU rfl rfl) ?_;refine uAa rfl rfl rfl (uAh rfl gU rfl rfl rfl rfl) ?_;refine uFV 30 23 rfl rfl ?_;refine uAa rfl rfl rfl (uEp rfl gU rfl rfl) ?_;refine uAa rfl rfl rfl (uAc rfl gU) ?_;refine uAf ?_;refine uAt ?_;refine uAW (ι:=Nat) { t:=[(1,_,_),(2,_,_),(4,_,_),(23,_,_),(26,_,_),(31,_,_)],bx:=[(.l 2,_),(.l 26,_),(.l 4,_),(.o 0,_)],ow:=[] } (fun k=>[(32,true,xi (k : Int))]) (fun k=>[((.l 23),(Sp.rows (upto (chS (srtG n)) n.steps k)).flatten)]) (fun k=>k≤n.steps.length) (fun k=>n.steps.length - k) (0) (by simp) (uAj (⟨sx rfl,sx rfl,sx rfl,sx rfl,sx rfl,sx rfl,sx rfl,trivial⟩) (⟨⟨_,rfl,by rw[uE8]⟩,⟨sx rfl,sx rfl,sx rfl,sx rfl,trivial⟩⟩) trivial) ?_
 intro k hoka
 dsimp only [List.cons_append,List.nil_append]
 have hul:=uFW (chS (srtG n)) n.steps k
 have hfl:=uDO (upto (chS (srtG n)) n.steps k)
 refine uAd (uAb ?_);refine uAa rfl rfl rfl (uAm rfl rfl gU gU rfl) ?_;refine uAf ?_;refine uAd ?_;refine uAo rfl (fun hc=>?_) (fun hc=>?_)
 ·try simp only [nn,uAi,T.rows_len,Gl.rows_len,Fs.rows_len,Sp.rows_len] at hc
  have hlt : k < n.steps.length:=by omega
  have hat:=uGO (f:=chS (srtG n)) (d:=default) hlt
  have hset:=uF2 (f:=chS (srtG n)) (d:=default) hlt
  have hmk:=hm _ (uBz (d:=default) hlt)
  refine uAp ?_;refine uAd ?_;refine uAt ?_;refine uAd (uAb ?_);refine uAa rfl rfl rfl (uAc rfl gU) ?_;refine uAa rfl rfl rfl (uAe rfl gU) ?_;refine uAf ?_;refine awp_drawn' (by kernel_rfl) ?_;refine uAl rfl rfl rfl rfl (uAg rfl gU rfl rfl) ?_;refine uDR 23 rfl rfl rfl rfl rfl rfl rfl gU rfl rfl rfl rfl rfl ?_;refine uAl rfl rfl rfl rfl (uAc rfl gU) ?_;refine uAl rfl rfl rfl rfl (uAg rfl gU rfl rfl) ?_;refine uDR 23 rfl rfl rfl rfl rfl rfl rfl gU rfl rfl rfl rfl rfl ?_;refine uAl rfl rfl rfl rfl (uAc rfl gU) ?_;refine uAl rfl rfl rfl rfl (uBQ rfl rfl gU gU rfl rfl rfl (fun _=>by omega)) ?_;refine uAl rfl rfl rfl rfl (uAg rfl gU rfl rfl) ?_;refine uAG rfl rfl rfl rfl rfl rfl rfl gU rfl rfl rfl (uKe hat) rfl ?_;refine uAl rfl rfl rfl rfl (uAc rfl gU) ?_;refine uIM (.o 0) rfl rfl rfl rfl rfl rfl rfl (uEd n.roles (nmsL n) b _ (n.steps.getD k default).msg (Nat.le_refl _) hmk.2 hmk.1) rfl rfl rfl rfl rfl rfl ?_;refine uAl rfl rfl rfl rfl (uBQ rfl rfl gU gU rfl rfl rfl (fun _=>by omega)) ?_;refine uAl rfl rfl rfl rfl (uAg rfl gU rfl rfl) ?_;refine uAT rfl rfl rfl rfl rfl rfl rfl rfl rfl rfl rfl (Nat.ble_eq_true_of_le (by rw[hfl,hul]; show 0 + k * 7 + 2 + 4≤_; omega)) ?_;refine uA2 (by kernel_rfl) ?_;refine uAk (s:=⟨[(1,_,_),(2,_,_),(4,_,_),(23,_,_),(26,_,_),(31,_,_),(32,_,_)],[(.l 2,_),(.l 23,_),(.l 26,_),(.l 4,_),(.o 0,_)],[],[]⟩) (uAj (⟨sx rfl,sx rfl,sx rfl,sx rfl,sx rfl,sx rfl,sx rfl,trivial⟩) (⟨sx rfl,sx rfl,sx rfl,sx rfl,sx rfl,trivial⟩) trivial) ?_
  refine uAb ?_;refine uAa rfl rfl rfl (uAz rfl rfl gU gU rfl (IntWalk.i64_in _ (by omega))) ?_;refine uAa rfl rfl rfl (uAc rfl gU) ?_;refine uAf ?_;refine ⟨k + 1,?_,?_,uAj (⟨⟨_,rfl,?_⟩,⟨sx rfl,sx rfl,sx rfl,sx rfl,sx rfl,sx rfl,trivial⟩⟩) (⟨⟨_,rfl,?_⟩,⟨sx rfl,sx rfl,sx rfl,sx rfl,trivial⟩⟩) trivial⟩
  all_goals (first|rfl|omega|(rw[Nat.zero_add,uKd hat,← hset]; rfl))
 ·try simp only [nn,uAi,T.rows_len,Gl.rows_len,Fs.rows_len,Sp.rows_len] at hc
  have hke : k=n.steps.length:=by omega
  subst hke
  rw[uE5]
  refine uAL ?_
  repeat(first|refine uAE ?_|refine uAF ?_|refine uAB rfl ?_)
  refine uAd ?_;refine uAd (uAb ?_);refine uAa rfl rfl rfl (uAg rfl gU rfl rfl) ?_;refine uAa rfl rfl rfl (uAh rfl gU rfl rfl rfl rfl) ?_;refine uFV 50 26 rfl rfl ?_;refine uAa rfl rfl rfl (uEp rfl gU rfl rfl) ?_;refine uAa rfl rfl rfl (uAc rfl gU) ?_;refine uAf ?_;refine uAk (s:=⟨[(1,_,_),(2,_,_),(4,_,_),(23,_,_),(26,_,_),(51,_,_),(52,_,_)],[(.l 2,_),(.l 23,_),(.l 26,_),(.l 4,_),(.o 0,_)],[],[]⟩) (uAj (⟨sx rfl,sx rfl,sx rfl,sx rfl,sx rfl,sx rfl,sx rfl,trivial⟩) (⟨sx rfl,sx rfl,sx rfl,sx rfl,sx rfl,trivial⟩) trivial) ?_;refine uAt ?_;refine uAW (ι:=Nat) { t:=[(1,_,_),(2,_,_),(4,_,_),(23,_,_),(26,_,_),(51,_,_)],bx:=[(.l 2,_),(.l 23,_),(.l 4,_),(.o 0,_)],ow:=[] } (fun j=>[(52,true,xi (j : Int))]) (fun j=>[((.l 26),(Gl.rows (upto (chL (srtG n)) n.goals j)).flatten)]) (fun j=>j≤n.goals.length) (fun j=>n.goals.length - j) (0) (by simp) (uAj (⟨sx rfl,sx rfl,sx rfl,sx rfl,sx rfl,sx rfl,sx rfl,trivial⟩) (⟨⟨_,rfl,by rw[uE8]⟩,⟨sx rfl,sx rfl,sx rfl,sx rfl,trivial⟩⟩) trivial) ?_
  intro j hokb
  dsimp only [List.cons_append,List.nil_append]
  have hul:=uFW (chL (srtG n)) n.goals j
  have hfl:=uGE (upto (chL (srtG n)) n.goals j)
  refine uAd (uAb ?_);refine uAa rfl rfl rfl (uAm rfl rfl gU gU rfl) ?_;refine uAf ?_;refine uAd ?_;refine uAo rfl (fun hc2=>?_) (fun hc2=>?_)
  ·try simp only [nn,uAi,T.rows_len,Gl.rows_len,Fs.rows_len,Sp.rows_len] at hc2
   have hlt : j < n.goals.length:=by omega
   have hat:=uGO (f:=chL (srtG n)) (d:=default) hlt
   have hset:=uF2 (f:=chL (srtG n)) (d:=default) hlt
   obtain ⟨d1,d2,d3⟩:=hd _ (uBz (d:=default) hlt)
   refine uAp ?_;refine uAd ?_;refine uAt ?_;refine uAd (uAb ?_);refine uAa rfl rfl rfl (uAc rfl gU) ?_;refine uAa rfl rfl rfl (uAe rfl gU) ?_;refine uAf ?_;refine uAd (uAb ?_);refine uAa rfl rfl rfl (uAg rfl gU rfl rfl) ?_;refine uAa rfl rfl rfl (uAh rfl gU rfl rfl rfl rfl) ?_;refine uFV 56 26 rfl rfl ?_;refine uAa rfl rfl rfl (uAc rfl gU) ?_;refine uAa rfl rfl rfl (uBQ rfl rfl gU gU rfl rfl rfl (fun _=>by omega)) ?_;refine uAa rfl rfl rfl (uAg rfl gU rfl rfl) ?_;refine uAa rfl rfl rfl (uAh rfl gU rfl rfl rfl (uOD hat)) ?_;refine uBt 4 rfl rfl rfl rfl rfl rfl rfl (CtrN.wk (Z:=sys) rfl (fun g hg=>by cases hg) (uLf (n.goals.getD j default).data (by omega) d1)) ?_;refine uAa rfl rfl rfl (uAe rfl gU) ?_;refine uAf ?_;refine uAk (s:=⟨[(1,_,_),(2,_,_),(4,_,_),(6,_,_),(7,_,_),(23,_,_),(26,_,_),(51,_,_),(52,_,_)],[(.l 2,_),(.l 23,_),(.l 26,_),(.l 4,_),(.l 61,_),(.o 0,_)],[],[]⟩) (uAj (⟨sx rfl,sx rfl,sx rfl,sx rfl,sx rfl,sx rfl,sx rfl,sx rfl,sx rfl,trivial⟩) (⟨sx rfl,sx rfl,sx rfl,sx rfl,sx rfl,sx rfl,trivial⟩) trivial) ?_;refine uAd ?_;refine uAd (uAb ?_);refine uAa rfl rfl rfl (uAc rfl gU) ?_;refine uAa rfl rfl rfl (uEp rfl gU rfl rfl) ?_;refine uAa rfl rfl rfl (uAc rfl gU) ?_
   refine uAf ?_;refine uAt ?_;refine uAW (ι:=Nat) { t:=[(1,_,_),(2,_,_),(4,_,_),(6,_,_),(7,_,_),(23,_,_),(26,_,_),(51,_,_),(52,_,_),(63,_,_)],bx:=[(.l 2,_),(.l 23,_),(.l 26,_),(.l 4,_),(.o 0,_)],ow:=[] } (fun i=>[(64,true,xi (i : Int))]) (fun i=>[((.l 61),(T.rows (upto (chT (srtG n)) (n.goals.getD j default).data i)).flatten)]) (fun i=>i≤(n.goals.getD j default).data.length) (fun i=>(n.goals.getD j default).data.length - i) (0) (by simp) (uAj (⟨sx rfl,sx rfl,sx rfl,sx rfl,sx rfl,sx rfl,sx rfl,sx rfl,sx rfl,sx rfl,sx rfl,trivial⟩) (⟨⟨_,rfl,by rw[uE8]⟩,⟨sx rfl,sx rfl,sx rfl,sx rfl,sx rfl,trivial⟩⟩) trivial) ?_
   intro i hokc
   dsimp only [List.cons_append,List.nil_append]
   have hul2:=uFW (chT (srtG n)) (n.goals.getD j default).data i
   have hfl2:=uFg (upto (chT (srtG n)) (n.goals.getD j default).data i)
   refine uAd (uAb ?_);refine uAa rfl rfl rfl (uAm rfl rfl gU gU rfl) ?_;refine uAf ?_;refine uAd ?_;refine uAo rfl (fun hc3=>?_) (fun hc3=>?_)
   ·try simp only [nn,uAi,T.rows_len,Gl.rows_len,Fs.rows_len,Sp.rows_len] at hc3
    have hlt3 : i < (n.goals.getD j default).data.length:=by omega
    have hat3:=uGO (f:=chT (srtG n)) (d:=default) hlt3
    have hset3:=uF2 (f:=chT (srtG n)) (d:=default) hlt3
    obtain ⟨e1,e2⟩:=d3 _ (uBz (d:=default) hlt3)
    refine uAp ?_;refine uAd ?_;refine uAt ?_;refine uAd (uAb ?_);refine uAa rfl rfl rfl (uAc rfl gU) ?_;refine uAa rfl rfl rfl (uAe rfl gU) ?_;refine uAf ?_;refine uAb ?_;refine uAa rfl rfl rfl (uAc rfl gU) ?_;refine uAa rfl rfl rfl (uAc rfl gU) ?_;refine uAa rfl rfl rfl (uAc rfl gU) ?_;refine uAa rfl rfl rfl (uAc rfl gU) ?_;refine uAa rfl rfl rfl (uBQ rfl rfl gU gU rfl rfl rfl (fun _=>by omega)) ?_;refine uAa rfl rfl rfl (uAn rfl gU rfl rfl rfl (uLk hat3) rfl) ?_;refine uAa rfl rfl rfl (uAc rfl gU) ?_;refine uIc (.o 0) rfl rfl rfl rfl rfl rfl (uEd n.roles (nmsL n) b _ ((n.goals.getD j default).data.getD i default) (Nat.le_refl _) e2 e1) rfl rfl rfl rfl rfl rfl ?_;refine uAa rfl rfl rfl (uBQ rfl rfl gU gU rfl rfl rfl (fun _=>by omega)) ?_;refine uAs rfl (uAw rfl rfl rfl rfl rfl rfl (Nat.ble_eq_true_of_le (by rw[hfl2,hul2]; show 0 + i * 4 + 4≤_; omega))) ?_;refine uAf ?_;refine uAk (s:=⟨[(1,_,_),(2,_,_),(4,_,_),(6,_,_),(7,_,_),(23,_,_),(26,_,_),(51,_,_),(52,_,_),(63,_,_),(64,_,_)],[(.l 2,_),(.l 23,_),(.l 26,_),(.l 4,_),(.l 61,_),(.o 0,_)],[],[]⟩) (uAj (⟨sx rfl,sx rfl,sx rfl,sx rfl,sx rfl,sx rfl,sx rfl,sx rfl,sx rfl,sx rfl,sx rfl,trivial⟩) (⟨sx rfl,sx rfl,sx rfl,sx rfl,sx rfl,sx rfl,trivial⟩) trivial) ?_
    refine uAb ?_;refine uAa rfl rfl rfl (uAz rfl rfl gU gU rfl (IntWalk.i64_in _ (by omega))) ?_;refine uAa rfl rfl rfl (uAc rfl gU) ?_;refine uAf ?_;refine ⟨i + 1,?_,?_,uAj (⟨⟨_,rfl,?_⟩,⟨sx rfl,sx rfl,sx rfl,sx rfl,sx rfl,sx rfl,sx rfl,sx rfl,sx rfl,sx rfl,trivial⟩⟩) (⟨⟨_,rfl,?_⟩,⟨sx rfl,sx rfl,sx rfl,sx rfl,sx rfl,trivial⟩⟩) trivial⟩
    all_goals (first|rfl|omega|(rw[Nat.zero_add,uHT _ _ _ (by rw[hul2]; omega),← hset3]; rfl))
   ·try simp only [nn,uAi,T.rows_len,Gl.rows_len,Fs.rows_len,Sp.rows_len] at hc3
    have hie : i=(n.goals.getD j default).data.length:=by omega
    subst hie
    rw[uE5]
    refine uAL ?_
    repeat(first|refine uAE ?_|refine uAF ?_|refine uAB rfl ?_)
    refine uAb ?_;refine uIA 7 61 (T.rows ((n.goals.getD j default).data.map (chT (srtG n)))) rfl rfl (by rw[T.rows_len,List.length_map]) (by omega) (uMd _) rfl ?_;refine uAa rfl rfl rfl (uAg rfl gU rfl rfl) ?_;refine uAa rfl rfl rfl (uAh rfl gU rfl rfl rfl rfl) ?_;refine uFV 78 26 rfl rfl ?_;refine uAa rfl rfl rfl (uAc rfl gU) ?_;refine uAa rfl rfl rfl (uAc rfl gU) ?_;refine uAa rfl rfl rfl (uBQ rfl rfl gU gU rfl rfl rfl (fun _=>by omega)) ?_;refine uAa rfl rfl rfl (uAg rfl gU rfl rfl) ?_;refine uAs rfl (uAw rfl rfl rfl rfl rfl rfl (Nat.ble_eq_true_of_le (by rw[hfl,hul]; show 0 + j * 5 + 3 + 1≤_; omega))) ?_;refine uAf ?_;refine uAk (s:=⟨[(1,_,_),(2,_,_),(4,_,_),(23,_,_),(26,_,_),(51,_,_),(52,_,_)],[(.l 2,_),(.l 23,_),(.l 26,_),(.l 4,_),(.o 0,_)],[],[]⟩) (uAj (⟨sx rfl,sx rfl,sx rfl,sx rfl,sx rfl,sx rfl,sx rfl,trivial⟩) (⟨sx rfl,sx rfl,sx rfl,sx rfl,sx rfl,trivial⟩) trivial) ?_;refine uAb ?_;refine uAa rfl rfl rfl (uAz rfl rfl gU gU rfl (IntWalk.i64_in _ (by omega))) ?_;refine uAa rfl rfl rfl (uAc rfl gU) ?_;refine uAf ?_;refine ⟨j + 1,?_,?_,uAj (⟨⟨_,rfl,?_⟩,⟨sx rfl,sx rfl,sx rfl,sx rfl,sx rfl,sx rfl,trivial⟩⟩) (⟨⟨_,rfl,?_⟩,⟨sx rfl,sx rfl,sx rfl,sx rfl,trivial⟩⟩) trivial⟩
    all_goals (first|rfl|omega|(rw[Nat.zero_add,uOT hat,← hset]; rfl))
  ·try simp only [nn,uAi,T.rows_len,Gl.rows_len,Fs.rows_len,Sp.rows_len] at hc2
   have hje : j=n.goals.length:=by omega
   subst hje
   rw[uE5]
   refine uAL ?_
   repeat(first|refine uAE ?_|refine uAF ?_|refine uAB rfl ?_)
   refine uGl 23 23 (.l 2) 4 (Sp.rows (n.steps.map (chS (srtG n)))) rfl rfl (by rw[Sp.rows_len,List.length_map]) (by omega) (uMr _) rfl rfl rfl rfl rfl ?_;refine uGl 26 26 (.l 2) 5 (Gl.rows (n.goals.map (chL (srtG n)))) rfl rfl (by rw[Gl.rows_len,List.length_map]) (by omega) (uOv _) rfl rfl rfl rfl rfl ?_;refine uAd (uAb ?_);refine uAa rfl rfl rfl (uAn rfl gU rfl rfl rfl rfl rfl) ?_;refine uAs rfl (uAw rfl rfl rfl rfl rfl rfl rfl) ?_;refine uAf ?_;refine uAq ?_
   repeat(first|refine tR ?_|refine bR ?_)
   refine uC3 rfl ?_ (⟨⟨_,rfl,?_⟩,trivial⟩) (by kernel_rfl)
   all_goals rfl
set_option maxHeartbeats 4000000 in
theorem uNo (n : Nar) (b : Nat) (hr : n.roles.length≤100) (hf : n.fresh.length≤100) (ht : n.tags.length≤100) (hs : n.steps.length≤100) (hg : n.goals.length≤100) (hs0 : n.steps≠[]) (hg0 : n.goals=[])
  (hm : ∀ s ∈ n.steps,gdB s.msg=true∧s.msg.size≤900000) (hd : ∀ g ∈ n.goals,g.data≠[]∧g.data.length≤100 ∧ ∀ t ∈ g.data,gdB t=true∧t.size≤900000) : CtrO (zR n b) 56 [xn n, .fn 57 [.ptr (.o 0) 0]] [tbC n.roles b] [] (xn (chN (srtG n) n)) [tbC n.roles b] .box:=by
 have p1 : 0 < n.steps.length:=List.length_pos_iff.2 hs0
 have hz : Gl.rows n.goals=[]:=by rw[hg0]; rfl
 have hz2 : Gl.rows (n.goals.map (chL (srtG n)))=[]:=by rw[hg0]; rfl
 have hx : xn (chN (srtG n) n)=X.v (.agg [.s n.name, .sl 1 (strR n.roles), .sl 3 (Fs.rows n.fresh), .sl 1 (strR n.tags), .sl 7 (Sp.rows (n.steps.map (chS (srtG n)))), .sl 5 []]):=by
  show X.v (.agg [.s n.name, .sl 1 (strR n.roles), .sl 3 (Fs.rows n.fresh), .sl 1 (strR n.tags), .sl 7 (Sp.rows (n.steps.map (chS (srtG n)))), .sl 5 (Gl.rows (n.goals.map (chL (srtG n))))])=_
  rw[hz2]
 rw[hx]
 have cs1 : CtrN (zR n b) 92 [.v (.c (.sl 7 (Sp.rows n.steps)))] n.steps.length (Sp.rows n.steps).flatten:=CtrN.wk (Z:=sys) rfl (fun g hg=>by cases hg) (uGC n.steps (by omega) hs0)
 have cs2 : Ctr (zR n b) 93 [.v (.c (.sl 5 (Gl.rows n.goals)))] [] (.v (.c (.sl 5 []))) none []:=by
  rw[hz]; exact Ctr.add (up uJb)
 have hfs:=uDO n.steps
 refine uBM Tryz.func56 rfl rfl rfl rfl rfl rfl rfl ?_;refine uAd (uAb ?_);refine uAs rfl (uAH rfl rfl rfl rfl) ?_;refine uAs rfl (uAK rfl rfl rfl) ?_;refine uAf ?_;refine uAd ?_;refine awp_drawn' (by kernel_rfl) ?_;refine uAl rfl rfl rfl rfl (uAg rfl gU rfl rfl) ?_;refine uA5 rfl rfl rfl rfl rfl rfl rfl gU rfl rfl rfl rfl ?_;refine uAQ rfl rfl rfl rfl rfl rfl rfl gU gU (Ctr.add (up (uDK _ (by omega)))) rfl ?_;refine uAl rfl rfl rfl rfl (uAg rfl gU rfl rfl) ?_;refine uA5 rfl rfl rfl rfl rfl rfl rfl gU rfl rfl rfl rfl ?_;refine uAQ rfl rfl rfl rfl rfl rfl rfl gU gU (Ctr.add (up (uGF _ (by omega)))) rfl ?_;refine uAl rfl rfl rfl rfl (uAg rfl gU rfl rfl) ?_;refine uA5 rfl rfl rfl rfl rfl rfl rfl gU rfl rfl rfl rfl ?_;refine uAQ rfl rfl rfl rfl rfl rfl rfl gU gU (Ctr.add (up (uDK _ (by omega)))) rfl ?_;refine uAl rfl rfl rfl rfl (uAg rfl gU rfl rfl) ?_;refine uAT rfl rfl rfl rfl rfl rfl rfl rfl rfl rfl rfl rfl ?_;refine uAl rfl rfl rfl rfl (uAg rfl gU rfl rfl) ?_;refine uAT rfl rfl rfl rfl rfl rfl rfl rfl rfl rfl rfl rfl ?_;refine uAl rfl rfl rfl rfl (uAg rfl gU rfl rfl) ?_;refine uAT rfl rfl rfl rfl rfl rfl rfl rfl rfl rfl rfl rfl ?_;refine uA2 (by kernel_rfl) ?_;refine uAk (s:=⟨[(1,_,_),(2,_,_),(4,_,_)],[(.l 2,_),(.l 4,_),(.o 0,_)],[],[]⟩) (uAj (⟨sx rfl,sx rfl,sx rfl,trivial⟩) (⟨sx rfl,sx rfl,sx rfl,trivial⟩) trivial) ?_
 refine uIO (fun x : Value=>{ t:=[(1,true, .fn 57 [.ptr (.o 0) 0]),(2,true, .v (.ptr (.l 2) 0)),(4,true, .v (.ptr (.l 4) 0)),(23,true, .v (.msv (.l 23) 7 0 n.steps.length x))],bx:=[((.l 2),[.s n.name, .sl 1 (strR n.roles), .sl 3 (Fs.rows n.fresh), .sl 1 (strR n.tags), .o x, .sl 5 []]),((.l 4),[.s [], .sl 1 [], .sl 3 [], .sl 1 [], .sl 7 [], .sl 5 []]),((.l 23),(Sp.rows n.steps).flatten),((.o 0),tbC n.roles b)],ow:=[] }) (fun x=>?_) ?_
 rotate_left
 ·refine uMh 5 #[true,true,true,true,true,false,false,false,false,false] (fun u1 : Value=>{ t:=[(1,true, .fn 57 [.ptr (.o 0) 0]),(2,true, .v (.ptr (.l 2) 0)),(4,true, .v (.ptr (.l 4) 0)),(23,true, .v (.msv (.l 23) 7 0 n.steps.length u1)),(25,true, .v (.c (.sl 5 (Gl.rows n.goals))))],bx:=[((.l 2),[.s n.name, .sl 1 (strR n.roles), .sl 3 (Fs.rows n.fresh), .sl 1 (strR n.tags), .sl 7 (Sp.rows n.steps), .sl 5 (Gl.rows n.goals)]),((.l 4),[.s [], .sl 1 [], .sl 3 [], .sl 1 [], .sl 7 [], .sl 5 []]),((.l 23),(Sp.rows n.steps).flatten),((.o 0),tbC n.roles b)],ow:=[] }) (fun u1=>?_) (fun go=>?_)
  ·refine uAY 5 [6] (by kernel_rfl) ⟨⟨_,rfl,?_⟩,⟨_,rfl,?_⟩,trivial⟩
   ·refine uAx rfl rfl rfl rfl rfl rfl gU gU cs2 rfl (uAf ?_)
    refine uAY 6 [] (by kernel_rfl) ⟨⟨_,rfl,?_⟩,trivial⟩;refine uAa rfl rfl rfl (uAg rfl gU rfl rfl) (uAf ?_);refine uAY 7 [] (by kernel_rfl) ⟨⟨_,rfl,?_⟩,trivial⟩;refine uAs rfl (uAw rfl rfl rfl rfl rfl rfl rfl) (uAf ?_);refine uAY 8 [] (by kernel_rfl) ⟨⟨_,rfl,?_⟩,trivial⟩;refine uAa rfl rfl rfl (uAg rfl gU rfl rfl) (uAf ?_);refine uAY 9 [] (by kernel_rfl) ⟨⟨_,rfl,?_⟩,trivial⟩;refine uAs rfl (uAw rfl rfl rfl rfl rfl rfl rfl) (uAf ?_);exact uGW (by kernel_rfl) ⟨u1,uAj ⟨sx rfl,sx rfl,sx rfl,sx rfl,trivial⟩ ⟨sx rfl,sx rfl,sx rfl,sx rfl,trivial⟩ trivial⟩
   ·refine uAa rfl rfl rfl (uAg rfl gU rfl rfl) (uAf ?_)
    refine uAY 5 [] (by kernel_rfl) ⟨⟨_,rfl,?_⟩,trivial⟩;refine uAx rfl rfl rfl rfl rfl rfl gU gU cs2 rfl (uAf ?_);refine uAY 7 [] (by kernel_rfl) ⟨⟨_,rfl,?_⟩,trivial⟩;refine uAs rfl (uAw rfl rfl rfl rfl rfl rfl rfl) (uAf ?_);refine uAY 8 [] (by kernel_rfl) ⟨⟨_,rfl,?_⟩,trivial⟩;refine uAa rfl rfl rfl (uAg rfl gU rfl rfl) (uAf ?_);refine uAY 9 [] (by kernel_rfl) ⟨⟨_,rfl,?_⟩,trivial⟩;refine uAs rfl (uAw rfl rfl rfl rfl rfl rfl rfl) (uAf ?_);exact uGW (by kernel_rfl) ⟨u1,uAj ⟨sx rfl,sx rfl,sx rfl,sx rfl,trivial⟩ ⟨sx rfl,sx rfl,sx rfl,sx rfl,trivial⟩ trivial⟩
  ·refine uAY 0 [3] (by kernel_rfl) ⟨⟨_,rfl,?_⟩,⟨_,rfl,?_⟩,trivial⟩
   ·refine uAa rfl rfl rfl (uAg rfl gU rfl rfl) (uAf ?_)
    refine uAY 1 [3] (by kernel_rfl) ⟨⟨_,rfl,?_⟩,⟨_,rfl,?_⟩,trivial⟩
    ·refine uAa rfl rfl rfl (uAh rfl gU rfl rfl rfl rfl) (uAf ?_)
     refine uAY 2 [3] (by kernel_rfl) ⟨⟨_,rfl,?_⟩,⟨_,rfl,?_⟩,trivial⟩
     ·refine uBt 7 rfl rfl rfl rfl rfl rfl rfl cs1 ?_
      refine uB1 23 rfl p1 (fun u1=>uAf ?_);refine uAY 3 [] (by kernel_rfl) ⟨⟨_,rfl,?_⟩,trivial⟩;refine uAa rfl rfl rfl (uAg rfl gU rfl rfl) (uAf ?_);refine uAY 4 [] (by kernel_rfl) ⟨⟨_,rfl,?_⟩,trivial⟩;refine uAa rfl rfl rfl (uAh rfl gU rfl rfl rfl rfl) (uAf ?_);exact go u1 (by kernel_rfl) (uAj ⟨sx rfl,sx rfl,sx rfl,sx rfl,sx rfl,trivial⟩ ⟨sx rfl,sx rfl,sx rfl,sx rfl,trivial⟩ trivial)
     ·refine uAa rfl rfl rfl (uAg rfl gU rfl rfl) (uAf ?_)
      refine uAY 2 [4] (by kernel_rfl) ⟨⟨_,rfl,?_⟩,⟨_,rfl,?_⟩,trivial⟩
      ·refine uBt 7 rfl rfl rfl rfl rfl rfl rfl cs1 ?_
       refine uB1 23 rfl p1 (fun u1=>uAf ?_);refine uAY 4 [] (by kernel_rfl) ⟨⟨_,rfl,?_⟩,trivial⟩;refine uAa rfl rfl rfl (uAh rfl gU rfl rfl rfl rfl) (uAf ?_);exact go u1 (by kernel_rfl) (uAj ⟨sx rfl,sx rfl,sx rfl,sx rfl,sx rfl,trivial⟩ ⟨sx rfl,sx rfl,sx rfl,sx rfl,trivial⟩ trivial)
      ·refine uAa rfl rfl rfl (uAh rfl gU rfl rfl rfl rfl) (uAf ?_)
       refine uAY 2 [] (by kernel_rfl) ⟨⟨_,rfl,?_⟩,trivial⟩;refine uBt 7 rfl rfl rfl rfl rfl rfl rfl cs1 ?_;refine uB1 23 rfl p1 (fun u1=>uAf ?_);exact go u1 (by kernel_rfl) (uAj ⟨sx rfl,sx rfl,sx rfl,sx rfl,sx rfl,trivial⟩ ⟨sx rfl,sx rfl,sx rfl,sx rfl,trivial⟩ trivial)
    ·refine uAa rfl rfl rfl (uAg rfl gU rfl rfl) (uAf ?_)
     refine uAY 1 [4] (by kernel_rfl) ⟨⟨_,rfl,?_⟩,⟨_,rfl,?_⟩,trivial⟩
     ·refine uAa rfl rfl rfl (uAh rfl gU rfl rfl rfl rfl) (uAf ?_)
      refine uAY 2 [4] (by kernel_rfl) ⟨⟨_,rfl,?_⟩,⟨_,rfl,?_⟩,trivial⟩
      ·refine uBt 7 rfl rfl rfl rfl rfl rfl rfl cs1 ?_
       refine uB1 23 rfl p1 (fun u1=>uAf ?_);refine uAY 4 [] (by kernel_rfl) ⟨⟨_,rfl,?_⟩,trivial⟩;refine uAa rfl rfl rfl (uAh rfl gU rfl rfl rfl rfl) (uAf ?_);exact go u1 (by kernel_rfl) (uAj ⟨sx rfl,sx rfl,sx rfl,sx rfl,sx rfl,trivial⟩ ⟨sx rfl,sx rfl,sx rfl,sx rfl,trivial⟩ trivial)
      ·refine uAa rfl rfl rfl (uAh rfl gU rfl rfl rfl rfl) (uAf ?_)
       refine uAY 2 [] (by kernel_rfl) ⟨⟨_,rfl,?_⟩,trivial⟩;refine uBt 7 rfl rfl rfl rfl rfl rfl rfl cs1 ?_;refine uB1 23 rfl p1 (fun u1=>uAf ?_);exact go u1 (by kernel_rfl) (uAj ⟨sx rfl,sx rfl,sx rfl,sx rfl,sx rfl,trivial⟩ ⟨sx rfl,sx rfl,sx rfl,sx rfl,trivial⟩ trivial)
     ·refine uAa rfl rfl rfl (uAh rfl gU rfl rfl rfl rfl) (uAf ?_)
      refine uAY 1 [] (by kernel_rfl) ⟨⟨_,rfl,?_⟩,trivial⟩;refine uAa rfl rfl rfl (uAh rfl gU rfl rfl rfl rfl) (uAf ?_);refine uAY 2 [] (by kernel_rfl) ⟨⟨_,rfl,?_⟩,trivial⟩;refine uBt 7 rfl rfl rfl rfl rfl rfl rfl cs1 ?_;refine uB1 23 rfl p1 (fun u1=>uAf ?_);exact go u1 (by kernel_rfl) (uAj ⟨sx rfl,sx rfl,sx rfl,sx rfl,sx rfl,trivial⟩ ⟨sx rfl,sx rfl,sx rfl,sx rfl,trivial⟩ trivial)
   ·refine uAa rfl rfl rfl (uAg rfl gU rfl rfl) (uAf ?_)
    refine uAY 0 [4] (by kernel_rfl) ⟨⟨_,rfl,?_⟩,⟨_,rfl,?_⟩,trivial⟩
    ·refine uAa rfl rfl rfl (uAg rfl gU rfl rfl) (uAf ?_)
     refine uAY 1 [4] (by kernel_rfl) ⟨⟨_,rfl,?_⟩,⟨_,rfl,?_⟩,trivial⟩
     ·refine uAa rfl rfl rfl (uAh rfl gU rfl rfl rfl rfl) (uAf ?_)
      refine uAY 2 [4] (by kernel_rfl) ⟨⟨_,rfl,?_⟩,⟨_,rfl,?_⟩,trivial⟩
      ·refine uBt 7 rfl rfl rfl rfl rfl rfl rfl cs1 ?_
       refine uB1 23 rfl p1 (fun u1=>uAf ?_);refine uAY 4 [] (by kernel_rfl) ⟨⟨_,rfl,?_⟩,trivial⟩;refine uAa rfl rfl rfl (uAh rfl gU rfl rfl rfl rfl) (uAf ?_);exact go u1 (by kernel_rfl) (uAj ⟨sx rfl,sx rfl,sx rfl,sx rfl,sx rfl,trivial⟩ ⟨sx rfl,sx rfl,sx rfl,sx rfl,trivial⟩ trivial)
      ·refine uAa rfl rfl rfl (uAh rfl gU rfl rfl rfl rfl) (uAf ?_)
       refine uAY 2 [] (by kernel_rfl) ⟨⟨_,rfl,?_⟩,trivial⟩;refine uBt 7 rfl rfl rfl rfl rfl rfl rfl cs1 ?_;refine uB1 23 rfl p1 (fun u1=>uAf ?_);exact go u1 (by kernel_rfl) (uAj ⟨sx rfl,sx rfl,sx rfl,sx rfl,sx rfl,trivial⟩ ⟨sx rfl,sx rfl,sx rfl,sx rfl,trivial⟩ trivial)
     ·refine uAa rfl rfl rfl (uAh rfl gU rfl rfl rfl rfl) (uAf ?_)
      refine uAY 1 [] (by kernel_rfl) ⟨⟨_,rfl,?_⟩,trivial⟩;refine uAa rfl rfl rfl (uAh rfl gU rfl rfl rfl rfl) (uAf ?_);refine uAY 2 [] (by kernel_rfl) ⟨⟨_,rfl,?_⟩,trivial⟩;refine uBt 7 rfl rfl rfl rfl rfl rfl rfl cs1 ?_;refine uB1 23 rfl p1 (fun u1=>uAf ?_);exact go u1 (by kernel_rfl) (uAj ⟨sx rfl,sx rfl,sx rfl,sx rfl,sx rfl,trivial⟩ ⟨sx rfl,sx rfl,sx rfl,sx rfl,trivial⟩ trivial)
    ·refine uAa rfl rfl rfl (uAh rfl gU rfl rfl rfl rfl) (uAf ?_)
     refine uAY 0 [] (by kernel_rfl) ⟨⟨_,rfl,?_⟩,trivial⟩;refine uAa rfl rfl rfl (uAg rfl gU rfl rfl) (uAf ?_);refine uAY 1 [] (by kernel_rfl) ⟨⟨_,rfl,?_⟩,trivial⟩;refine uAa rfl rfl rfl (uAh rfl gU rfl rfl rfl rfl) (uAf ?_);refine uAY 2 [] (by kernel_rfl) ⟨⟨_,rfl,?_⟩,trivial⟩;refine uBt 7 rfl rfl rfl rfl rfl rfl rfl cs1 ?_;refine uB1 23 rfl p1 (fun u1=>uAf ?_);exact go u1 (by kernel_rfl) (uAj ⟨sx rfl,sx rfl,sx rfl,sx rfl,sx rfl,trivial⟩ ⟨sx rfl,sx rfl,sx rfl,sx rfl,trivial⟩ trivial)
 obtain ⟨u1,hu1⟩ : ∃ u,u=x:=⟨x,rfl⟩
 rw[← hu1]
 refine uAd ?_;refine uAd (uAb ?_);refine uAa rfl rfl rfl (uAg rfl gU rfl rfl) ?_;refine uAa rfl rfl rfl (uAh rfl gU rfl rfl rfl rfl) ?_;refine uFV 30 23 rfl rfl ?_;refine uAa rfl rfl rfl (uEp rfl gU rfl rfl) ?_;refine uAa rfl rfl rfl (uAc rfl gU) ?_;refine uAf ?_;refine uAt ?_;refine uAW (ι:=Nat) { t:=[(1,_,_),(2,_,_),(4,_,_),(23,_,_),(31,_,_)],bx:=[(.l 2,_),(.l 4,_),(.o 0,_)],ow:=[] } (fun k=>[(32,true,xi (k : Int))]) (fun k=>[((.l 23),(Sp.rows (upto (chS (srtG n)) n.steps k)).flatten)]) (fun k=>k≤n.steps.length) (fun k=>n.steps.length - k) (0) (by simp) (uAj (⟨sx rfl,sx rfl,sx rfl,sx rfl,sx rfl,sx rfl,trivial⟩) (⟨⟨_,rfl,by rw[uE8]⟩,⟨sx rfl,sx rfl,sx rfl,trivial⟩⟩) trivial) ?_
 intro k hoka
 dsimp only [List.cons_append,List.nil_append]
 have hul:=uFW (chS (srtG n)) n.steps k
 have hfl:=uDO (upto (chS (srtG n)) n.steps k)
 refine uAd (uAb ?_);refine uAa rfl rfl rfl (uAm rfl rfl gU gU rfl) ?_;refine uAf ?_;refine uAd ?_;refine uAo rfl (fun hc=>?_) (fun hc=>?_)
 ·try simp only [nn,uAi,T.rows_len,Gl.rows_len,Fs.rows_len,Sp.rows_len] at hc
  have hlt : k < n.steps.length:=by omega
  have hat:=uGO (f:=chS (srtG n)) (d:=default) hlt
  have hset:=uF2 (f:=chS (srtG n)) (d:=default) hlt
  have hmk:=hm _ (uBz (d:=default) hlt)
  refine uAp ?_;refine uAd ?_;refine uAt ?_;refine uAd (uAb ?_);refine uAa rfl rfl rfl (uAc rfl gU) ?_;refine uAa rfl rfl rfl (uAe rfl gU) ?_;refine uAf ?_;refine awp_drawn' (by kernel_rfl) ?_;refine uAl rfl rfl rfl rfl (uAg rfl gU rfl rfl) ?_;refine uDR 23 rfl rfl rfl rfl rfl rfl rfl gU rfl rfl rfl rfl rfl ?_;refine uAl rfl rfl rfl rfl (uAc rfl gU) ?_;refine uAl rfl rfl rfl rfl (uAg rfl gU rfl rfl) ?_;refine uDR 23 rfl rfl rfl rfl rfl rfl rfl gU rfl rfl rfl rfl rfl ?_;refine uAl rfl rfl rfl rfl (uAc rfl gU) ?_;refine uAl rfl rfl rfl rfl (uBQ rfl rfl gU gU rfl rfl rfl (fun _=>by omega)) ?_;refine uAl rfl rfl rfl rfl (uAg rfl gU rfl rfl) ?_;refine uAG rfl rfl rfl rfl rfl rfl rfl gU rfl rfl rfl (uKe hat) rfl ?_;refine uAl rfl rfl rfl rfl (uAc rfl gU) ?_;refine uIM (.o 0) rfl rfl rfl rfl rfl rfl rfl (uEd n.roles (nmsL n) b _ (n.steps.getD k default).msg (Nat.le_refl _) hmk.2 hmk.1) rfl rfl rfl rfl rfl rfl ?_;refine uAl rfl rfl rfl rfl (uBQ rfl rfl gU gU rfl rfl rfl (fun _=>by omega)) ?_;refine uAl rfl rfl rfl rfl (uAg rfl gU rfl rfl) ?_;refine uAT rfl rfl rfl rfl rfl rfl rfl rfl rfl rfl rfl (Nat.ble_eq_true_of_le (by rw[hfl,hul]; show 0 + k * 7 + 2 + 4≤_; omega)) ?_;refine uA2 (by kernel_rfl) ?_;refine uAk (s:=⟨[(1,_,_),(2,_,_),(4,_,_),(23,_,_),(31,_,_),(32,_,_)],[(.l 2,_),(.l 23,_),(.l 4,_),(.o 0,_)],[],[]⟩) (uAj (⟨sx rfl,sx rfl,sx rfl,sx rfl,sx rfl,sx rfl,trivial⟩) (⟨sx rfl,sx rfl,sx rfl,sx rfl,trivial⟩) trivial) ?_
  refine uAb ?_;refine uAa rfl rfl rfl (uAz rfl rfl gU gU rfl (IntWalk.i64_in _ (by omega))) ?_;refine uAa rfl rfl rfl (uAc rfl gU) ?_;refine uAf ?_;refine ⟨k + 1,?_,?_,uAj (⟨⟨_,rfl,?_⟩,⟨sx rfl,sx rfl,sx rfl,sx rfl,sx rfl,trivial⟩⟩) (⟨⟨_,rfl,?_⟩,⟨sx rfl,sx rfl,sx rfl,trivial⟩⟩) trivial⟩
  all_goals (first|rfl|omega|(rw[Nat.zero_add,uKd hat,← hset]; rfl))
 ·try simp only [nn,uAi,T.rows_len,Gl.rows_len,Fs.rows_len,Sp.rows_len] at hc
  have hke : k=n.steps.length:=by omega
  subst hke
  rw[uE5]
  refine uAL ?_
  repeat(first|refine uAE ?_|refine uAF ?_|refine uAB rfl ?_)
  refine uAd ?_;refine uAd (uAb ?_);refine uAa rfl rfl rfl (uAg rfl gU rfl rfl) ?_;refine uAa rfl rfl rfl (uAh rfl gU rfl rfl rfl rfl) ?_;refine uAI rfl rfl rfl rfl rfl gU rfl rfl ?_ (fun hh=>by simp at hh); intro hlen;refine uAa rfl rfl rfl (uAc rfl gU) ?_;refine uAf ?_;refine uAk (s:=⟨[(1,_,_),(2,_,_),(4,_,_),(23,_,_),(51,_,_),(52,_,_)],[(.l 2,_),(.l 23,_),(.l 4,_),(.o 0,_)],[],[]⟩) (uAj (⟨sx rfl,sx rfl,sx rfl,sx rfl,sx rfl,sx rfl,trivial⟩) (⟨sx rfl,sx rfl,sx rfl,sx rfl,trivial⟩) trivial) ?_;refine uAt ?_;refine uAW (ι:=Nat) { t:=[(1,_,_),(2,_,_),(4,_,_),(23,_,_),(51,_,_)],bx:=[(.l 2,_),(.l 23,_),(.l 4,_),(.o 0,_)],ow:=[] } (fun j=>[(52,true,xi (j : Int))]) (fun j=>[]) (fun j=>j=0) (fun j=>0) (0) (rfl) (uAj (⟨sx rfl,sx rfl,sx rfl,sx rfl,sx rfl,sx rfl,trivial⟩) (⟨sx rfl,sx rfl,sx rfl,sx rfl,trivial⟩) trivial) ?_
  intro j hokb
  dsimp only [List.cons_append,List.nil_append]
  refine uAd (uAb ?_);refine uAa rfl rfl rfl (uAm rfl rfl gU gU rfl) ?_;refine uAf ?_;refine uAd ?_;refine uAo rfl (fun hc2=>?_) (fun hc2=>?_)
  ·exfalso
   simp at hc2
   omega
  ·try simp only [nn,uAi,T.rows_len,Gl.rows_len,Fs.rows_len,Sp.rows_len] at hc2
   refine uAL ?_
   repeat(first|refine uAE ?_|refine uAF ?_|refine uAB rfl ?_)
   refine uGl 23 23 (.l 2) 4 (Sp.rows (n.steps.map (chS (srtG n)))) rfl rfl (by rw[Sp.rows_len,List.length_map]) (by omega) (uMr _) rfl rfl rfl rfl rfl ?_;refine uAd (uAb ?_);refine uAa rfl rfl rfl (uAn rfl gU rfl rfl rfl rfl rfl) ?_;refine uAs rfl (uAw rfl rfl rfl rfl rfl rfl rfl) ?_;refine uAf ?_;refine uAq ?_
   repeat(first|refine tR ?_|refine bR ?_)
   refine uC3 rfl ?_ (⟨⟨_,rfl,?_⟩,trivial⟩) (by kernel_rfl)
   all_goals rfl
def exP : List UInt8:=[112,114,111,116,111,99,111,108,32,112,32,123,32,114,111,108,101,32,65,44,32,66,59,32,102,114,101,115,104,32,65,58,32,110,32,110,111,110,99,101,59,32,109,101,115,115,97,103,101,32,65,32,45,62,32,66,58,32]
def exQ : List UInt8:=[59,32,125]
def exW0 : List UInt8:=[97,101,110,99,40,60,110,44,32,65,62,44,32,112,107,40,115,107,40,66,41,41,41]
def exN0 : Nar:=⟨[112],[[65],[66]],[⟨[65],[110],2⟩],[],[⟨[65],[66],⟨3,[97,101,110,99],0,[⟨3,[112,97,105,114],0,[⟨2,[110],0,[]⟩,⟨2,[65],0,[]⟩]⟩,⟨3,[112,107],0,[⟨3,[115,107],0,[⟨2,[66],0,[]⟩]⟩]⟩]⟩,1⟩],[]⟩
set_option maxRecDepth 100000 in
theorem exR0 : uDS (exP++exW0++exQ)=(exN0,0,0):=by kernel_rfl
def exW1 : List UInt8:=[101,110,99,40,110,44,32,107,41]
def exN1 : Nar:=⟨[112],[[65],[66]],[⟨[65],[110],2⟩],[],[⟨[65],[66],⟨3,[101,110,99],0,[⟨2,[110],0,[]⟩,⟨2,[107],0,[]⟩]⟩,1⟩],[]⟩
set_option maxRecDepth 100000 in
theorem exR1 : uDS (exP++exW1++exQ)=(exN1,0,0):=by kernel_rfl
def exW2 : List UInt8:=[115,105,103,110,40,110,44,32,110,41]
def exN2 : Nar:=⟨[112],[[65],[66]],[⟨[65],[110],2⟩],[],[⟨[65],[66],⟨3,[115,105,103,110],0,[⟨2,[110],0,[]⟩,⟨2,[110],0,[]⟩]⟩,1⟩],[]⟩
set_option maxRecDepth 100000 in
theorem exR2 : uDS (exP++exW2++exQ)=(exN2,0,0):=by kernel_rfl
def exW3 : List UInt8:=[115,107,40,66,41]
def exN3 : Nar:=⟨[112],[[65],[66]],[⟨[65],[110],2⟩],[],[⟨[65],[66],⟨3,[115,107],0,[⟨2,[66],0,[]⟩]⟩,1⟩],[]⟩
set_option maxRecDepth 100000 in
theorem exR3 : uDS (exP++exW3++exQ)=(exN3,0,0):=by kernel_rfl
set_option maxRecDepth 100000 in
theorem exC0 : chkE uAN exN0=(0,0):=by decide +kernel
set_option maxRecDepth 100000 in
theorem exC1 : chkE uAN exN1=(1,13):=by decide +kernel
set_option maxRecDepth 100000 in
theorem exC2 : chkE uAN exN2=(1,10):=by decide +kernel
set_option maxRecDepth 100000 in
theorem exC3 : chkE uAN exN3=(1,10):=by decide +kernel
set_option maxRecDepth 100000 in
theorem exS1 : uLe exN0 [110]=(2,0):=by decide +kernel
set_option maxRecDepth 100000 in
theorem exS2 : uLe exN0 [65]=(1,0):=by decide +kernel
set_option maxRecDepth 100000 in
theorem exU : uMD exN0 [110]=[0]:=by decide +kernel
theorem uDo (s : List UInt8) (h : s.length≤1000) : Ctr sys 35 [xs s] [] (xn (uDS (exP++s++exQ)).1) none []:=by
 refine uAA Tryz.func35 rfl rfl rfl rfl rfl rfl ?_;refine uAd (uAb ?_);refine uAs rfl (uAK rfl rfl rfl) ?_;refine uAf ?_;refine uAd (uAb ?_);refine uAa rfl rfl rfl (uAc rfl gU) ?_;refine uAa rfl rfl rfl (uES rfl rfl gU gU (by simp; omega)) ?_;refine uAa rfl rfl rfl (uES rfl rfl gU gU (by simp; omega)) ?_;refine uAx rfl rfl rfl rfl rfl rfl gU gU (uJI (exP++s++exQ) (by have e1 : exP.length=58:=rfl; have e2 : exQ.length=3:=rfl; rw[List.length_append,List.length_append]; omega)) rfl ?_;refine uAa rfl rfl rfl (uAc rfl gU) ?_;refine uAa rfl rfl rfl (uAv rfl gU rfl) ?_;refine uAa rfl rfl rfl (uAv rfl gU rfl) ?_;refine uAa rfl rfl rfl (uAv rfl gU rfl) ?_;refine uAs rfl (uAK rfl rfl rfl) ?_;refine uAs rfl (uAw rfl rfl rfl rfl rfl rfl rfl) ?_;refine uAa rfl rfl rfl (uAe rfl gU) ?_;refine uAa rfl rfl rfl (uAe rfl gU) ?_;refine uAf ?_;refine uAk (s:=⟨[(2,_,_),(3,_,_)],[(.l 2,_),(.l 3,_)],[],[]⟩) (uAj (⟨sx rfl,sx rfl,trivial⟩) (⟨sx rfl,sx rfl,trivial⟩) trivial) ?_;refine uAd (uAb ?_);refine uAa rfl rfl rfl (uAn rfl gU rfl rfl rfl rfl rfl) ?_;refine uAs rfl (uAw rfl rfl rfl rfl rfl rfl rfl) ?_;refine uAf ?_;refine uAq ?_
 repeat(first|refine tR ?_|refine bR ?_)
 refine uAu rfl ?_ trivial
 rfl
theorem uG4 : Ctr sys 11 [] [] (xb true) none []:=by
 have a0:=uDo exW0 (by decide)
 rw[exR0] at a0
 have c0:=uCw exN0 (by decide) (by decide)
 rw[exC0] at c0
 have a1:=uDo exW1 (by decide)
 rw[exR1] at a1
 have c1:=uCw exN1 (by decide) (by decide)
 rw[exC1] at c1
 have a2:=uDo exW2 (by decide)
 rw[exR2] at a2
 have c2:=uCw exN2 (by decide) (by decide)
 rw[exC2] at c2
 have a3:=uDo exW3 (by decide)
 rw[exR3] at a3
 have c3:=uCw exN3 (by decide) (by decide)
 rw[exC3] at c3
 have s1:=uHp exN0 [110] (by decide) (by decide)
 rw[exS1] at s1
 have s2:=uHp exN0 [65] (by decide) (by decide)
 rw[exS2] at s2
 have u1:=uLE exN0 [110] (by decide) (by decide)
 rw[exU] at u1
 refine uAA Tryz.func11 rfl rfl rfl rfl rfl rfl ?_;refine uAd (uAb ?_);refine uAa rfl rfl rfl (uAe rfl gU) ?_;refine uAf ?_;refine uAd (uAb ?_);refine uAx rfl rfl rfl rfl rfl rfl gU gU (a0) rfl ?_;refine uAs rfl (uAK rfl rfl rfl) ?_;refine uAs rfl (uAw rfl rfl rfl rfl rfl rfl rfl) ?_;refine uAf ?_;refine uAd (uAb ?_);refine uAa rfl rfl rfl (uAn rfl gU rfl rfl rfl rfl rfl) ?_;refine uAx rfl rfl rfl rfl rfl rfl gU gU (c0) rfl ?_;refine uAa rfl rfl rfl (uAc rfl gU) ?_;refine uAa rfl rfl rfl (uAv rfl gU rfl) ?_;refine uAa rfl rfl rfl (uAv rfl gU rfl) ?_;refine uAa rfl rfl rfl (uAe rfl gU) ?_;refine uAa rfl rfl rfl (uAe rfl gU) ?_;refine uAf ?_;refine uAk (s:=⟨[(1,_,_),(2,_,_),(3,_,_)],[(.l 1,_)],[],[]⟩) (uAj (⟨sx rfl,sx rfl,sx rfl,trivial⟩) (⟨sx rfl,trivial⟩) trivial) ?_;refine uAd (uAb ?_);refine uAa rfl rfl rfl (uAn rfl gU rfl rfl rfl rfl rfl) ?_;refine uAx rfl rfl rfl rfl rfl rfl gU gU (s1) rfl ?_;refine uAa rfl rfl rfl (uAc rfl gU) ?_;refine uAa rfl rfl rfl (uAv rfl gU rfl) ?_;refine uAa rfl rfl rfl (uAv rfl gU rfl) ?_;refine uAa rfl rfl rfl (uAe rfl gU) ?_;refine uAa rfl rfl rfl (uAe rfl gU) ?_;refine uAf ?_;refine uAk (s:=⟨[(1,_,_),(2,_,_),(3,_,_),(4,_,_),(5,_,_)],[(.l 1,_)],[],[]⟩) (uAj (⟨sx rfl,sx rfl,sx rfl,sx rfl,sx rfl,trivial⟩) (⟨sx rfl,trivial⟩) trivial) ?_
 refine uAd (uAb ?_);refine uAa rfl rfl rfl (uAn rfl gU rfl rfl rfl rfl rfl) ?_;refine uAx rfl rfl rfl rfl rfl rfl gU gU (s2) rfl ?_;refine uAa rfl rfl rfl (uAc rfl gU) ?_;refine uAa rfl rfl rfl (uAv rfl gU rfl) ?_;refine uAa rfl rfl rfl (uAv rfl gU rfl) ?_;refine uAa rfl rfl rfl (uAe rfl gU) ?_;refine uAa rfl rfl rfl (uAe rfl gU) ?_;refine uAf ?_;refine uAk (s:=⟨[(1,_,_),(2,_,_),(3,_,_),(4,_,_),(5,_,_),(6,_,_),(7,_,_)],[(.l 1,_)],[],[]⟩) (uAj (⟨sx rfl,sx rfl,sx rfl,sx rfl,sx rfl,sx rfl,sx rfl,trivial⟩) (⟨sx rfl,trivial⟩) trivial) ?_;refine uAd (uAb ?_);refine uAx rfl rfl rfl rfl rfl rfl gU gU (a1) rfl ?_;refine uAx rfl rfl rfl rfl rfl rfl gU gU (c1) rfl ?_;refine uAa rfl rfl rfl (uAc rfl gU) ?_;refine uAa rfl rfl rfl (uAv rfl gU rfl) ?_;refine uAa rfl rfl rfl (uAv rfl gU rfl) ?_;refine uAa rfl rfl rfl (uAe rfl gU) ?_;refine uAa rfl rfl rfl (uAe rfl gU) ?_;refine uAf ?_;refine uAk (s:=⟨[(1,_,_),(2,_,_),(3,_,_),(4,_,_),(5,_,_),(6,_,_),(7,_,_),(8,_,_),(9,_,_)],[(.l 1,_)],[],[]⟩) (uAj (⟨sx rfl,sx rfl,sx rfl,sx rfl,sx rfl,sx rfl,sx rfl,sx rfl,sx rfl,trivial⟩) (⟨sx rfl,trivial⟩) trivial) ?_;refine uAd (uAb ?_);refine uAx rfl rfl rfl rfl rfl rfl gU gU (a2) rfl ?_
 refine uAx rfl rfl rfl rfl rfl rfl gU gU (c2) rfl ?_;refine uAa rfl rfl rfl (uAc rfl gU) ?_;refine uAa rfl rfl rfl (uAv rfl gU rfl) ?_;refine uAa rfl rfl rfl (uAv rfl gU rfl) ?_;refine uAa rfl rfl rfl (uAe rfl gU) ?_;refine uAa rfl rfl rfl (uAe rfl gU) ?_;refine uAf ?_;refine uAk (s:=⟨[(1,_,_),(2,_,_),(3,_,_),(4,_,_),(5,_,_),(6,_,_),(7,_,_),(8,_,_),(9,_,_),(11,_,_)],[(.l 1,_)],[],[]⟩) (uAj (⟨sx rfl,sx rfl,sx rfl,sx rfl,sx rfl,sx rfl,sx rfl,sx rfl,sx rfl,sx rfl,trivial⟩) (⟨sx rfl,trivial⟩) trivial) ?_;refine uAd (uAb ?_);refine uAx rfl rfl rfl rfl rfl rfl gU gU (a3) rfl ?_;refine uAx rfl rfl rfl rfl rfl rfl gU gU (c3) rfl ?_;refine uAa rfl rfl rfl (uAc rfl gU) ?_;refine uAa rfl rfl rfl (uAv rfl gU rfl) ?_;refine uAa rfl rfl rfl (uAv rfl gU rfl) ?_;refine uAa rfl rfl rfl (uAe rfl gU) ?_;refine uAa rfl rfl rfl (uAe rfl gU) ?_;refine uAf ?_;refine uAk (s:=⟨[(1,_,_),(2,_,_),(3,_,_),(4,_,_),(5,_,_),(6,_,_),(7,_,_),(8,_,_),(9,_,_),(11,_,_),(13,_,_)],[(.l 1,_)],[],[]⟩) (uAj (⟨sx rfl,sx rfl,sx rfl,sx rfl,sx rfl,sx rfl,sx rfl,sx rfl,sx rfl,sx rfl,sx rfl,trivial⟩) (⟨sx rfl,trivial⟩) trivial) ?_;refine uAd (uAb ?_);refine uAa rfl rfl rfl (uAc rfl gU) ?_
 refine uAa rfl rfl rfl (uAm rfl rfl gU gU rfl) ?_;refine uAa rfl rfl rfl (uAc rfl gU) ?_;refine uAa rfl rfl rfl (uAc rfl gU) ?_;refine uAa rfl rfl rfl (uAm rfl rfl (fun hh=>hh) gU rfl) ?_;refine uAa rfl rfl rfl (uAJ rfl rfl gU (fun _ hi=>gP rfl hi)) ?_;refine uAa rfl rfl rfl (uAc rfl gU) ?_;refine uAa rfl rfl rfl (uAc rfl gU) ?_;refine uAa rfl rfl rfl (uAm rfl rfl (fun hh=>hh) gU rfl) ?_;refine uAa rfl rfl rfl (uAJ rfl rfl gU (fun _ hi=>gP rfl hi)) ?_;refine uAa rfl rfl rfl (uAc rfl gU) ?_;refine uAa rfl rfl rfl (uAc rfl gU) ?_;refine uBd (s:=⟨[(1,_,_),(6,_,_),(7,_,_),(8,_,_),(9,_,_),(11,_,_),(13,_,_),(55,_,_),(56,_,_)],[(.l 1,_)],[],[]⟩) (uAj (⟨sx rfl,sx rfl,sx rfl,sx rfl,sx rfl,sx rfl,sx rfl,sx rfl,sx rfl,trivial⟩) (⟨sx rfl,trivial⟩) trivial) ?_;refine uAa rfl rfl rfl (uAm rfl rfl (fun hh=>hh) gU rfl) ?_;refine uAa rfl rfl rfl (uAJ rfl rfl gU (fun _ hi=>gP rfl hi)) ?_;refine uAa rfl rfl rfl (uAc rfl gU) ?_;refine uAa rfl rfl rfl (uAc rfl gU) ?_;refine uAa rfl rfl rfl (uAm rfl rfl (fun hh=>hh) gU rfl) ?_;refine uAa rfl rfl rfl (uAJ rfl rfl gU (fun _ hi=>gP rfl hi)) ?_;refine uAa rfl rfl rfl (uAc rfl gU) ?_;refine uAa rfl rfl rfl (uAc rfl gU) ?_;refine uAa rfl rfl rfl (uAm rfl rfl (fun hh=>hh) gU rfl) ?_
 refine uAa rfl rfl rfl (uAJ rfl rfl gU (fun _ hi=>gP rfl hi)) ?_;refine uAa rfl rfl rfl (uAc rfl gU) ?_;refine uAa rfl rfl rfl (uAn rfl gU rfl rfl rfl rfl rfl) ?_;refine uBd (s:=⟨[(8,_,_),(9,_,_),(11,_,_),(13,_,_),(67,_,_),(68,_,_)],[],[],[]⟩) (uAj (⟨sx rfl,sx rfl,sx rfl,sx rfl,sx rfl,sx rfl,trivial⟩) trivial trivial) ?_;refine uAx rfl rfl rfl rfl rfl rfl gU (fun hh=>gA ((fun hh=>hh) hh) (gA rfl (rfl))) (u1) rfl ?_;refine uHm (xs:=[_]) rfl rfl rfl rfl rfl rfl rfl rfl rfl (by first|exact fun hh=>hh|exact fun _=>rfl|exact fun hh=>gL hh|exact fun hh=>gL (gL hh)|(intro hh; simp_all)) rfl ?_;refine uAx rfl rfl rfl rfl rfl rfl gU (fun hh=>gA ((fun hh=>hh) hh) (gA ((fun hh=>hh) hh) (rfl))) (uGp [0] [0] rfl) rfl ?_;refine uAa rfl rfl rfl (uAJ rfl rfl gU (fun _ hi=>gP rfl hi)) ?_;refine uAa rfl rfl rfl (uAc rfl gU) ?_;refine uAa rfl rfl rfl (uAc rfl gU) ?_;refine uAa rfl rfl rfl (uAm rfl rfl (fun hh=>hh) gU rfl) ?_;refine uAa rfl rfl rfl (uAJ rfl rfl gU (fun _ hi=>gP rfl hi)) ?_;refine uAa rfl rfl rfl (uAc rfl gU) ?_;refine uAa rfl rfl rfl (uAc rfl gU) ?_;refine uAa rfl rfl rfl (uAm rfl rfl (fun hh=>hh) gU rfl) ?_;refine uAa rfl rfl rfl (uAJ rfl rfl gU (fun _ hi=>gP rfl hi)) ?_;refine uBd (s:=⟨[(11,_,_),(13,_,_),(80,_,_)],[],[],[]⟩) (uAj (⟨sx rfl,sx rfl,sx rfl,trivial⟩) trivial trivial) ?_
 refine uAa rfl rfl rfl (uAc rfl gU) ?_;refine uAa rfl rfl rfl (uAc rfl gU) ?_;refine uAa rfl rfl rfl (uAm rfl rfl (fun hh=>hh) gU rfl) ?_;refine uAa rfl rfl rfl (uAJ rfl rfl gU (fun _ hi=>gP rfl hi)) ?_;refine uAa rfl rfl rfl (uAc rfl gU) ?_;refine uAa rfl rfl rfl (uAc rfl gU) ?_;refine uAa rfl rfl rfl (uAm rfl rfl (fun hh=>hh) gU rfl) ?_;refine uAa rfl rfl rfl (uAJ rfl rfl gU (fun _ hi=>gP rfl hi)) ?_;refine uAa rfl rfl rfl (uAe rfl gU) ?_;refine uAf ?_;refine uAq ?_
 repeat(first|refine tR ?_|refine bR ?_)
 refine uAu rfl ?_ trivial
 rfl
theorem upM {f : FuncId} {args : List X} {res : Nat→X} {es : List (List UInt8 × Value)} (h : CtrM sys f args res es) : CtrM sysO f args res es:=by
 obtain ⟨h1,h4⟩:=h
 exact ⟨h1,fun w G vs a b c d e=>h4 w G vs a b c d fun x hx=>e x hx⟩
theorem uNK (n : Nar) (b : Nat) (h : ChkOk n) : CtrO (zR n b) 56 [xn n, .fn 57 [.ptr (.o 0) 0]] [tbC n.roles b] [] (xn (chN (srtG n) n)) [tbC n.roles b] .box:=by
 have b1:=h.nar.r2
 have b2:=h.nar.f2
 have b3:=h.nar.t2
 have b4:=h.nar.s1
 have b5:=h.nar.s2
 have b6:=h.nar.g2
 have s0 : n.steps≠[]:=fun q=>by rw[q] at b4; simp at b4
 have hm : ∀ s ∈ n.steps,gdB s.msg=true∧s.msg.size≤900000 := fun s hs=>⟨(h.msg s hs).2.1,by have := (h.msg s hs).2.2; omega⟩
 have hd : ∀ g ∈ n.goals,g.data≠[]∧g.data.length≤100 ∧ ∀ t ∈ g.data,gdB t=true∧t.size≤900000:=fun g hg=>by
  have d1:=(h.nar.goals g hg).d1
  have d2:=(h.nar.goals g hg).d2
  exact ⟨fun q=>by rw[q] at d1; simp at d1,by omega,fun t ht=>⟨(h.dat g hg t ht).2.1,by have := (h.dat g hg t ht).2.2; omega⟩⟩
 by_cases hg0 : n.goals=[]
 ·exact uNo n b (by omega) (by omega) (by omega) (by omega) (by omega) s0 hg0 hm hd
 ·exact uN9 n b (by omega) (by omega) (by omega) (by omega) (by omega) s0 hg0 hm hd
theorem uHx (n : Nar) (hs : ∀ s ∈ n.steps,s.msg.size≤900000) (hg : ∀ g ∈ n.goals,T.sizes g.data≤900000) : Ctr sysO 25 [xn n] [] (xnie (resE n)) none []:=by
 refine uAA Tryz.func25 rfl rfl rfl rfl rfl rfl ?_;refine uAd (uAb ?_);refine uAs rfl (uAH rfl rfl rfl rfl) ?_;refine uAs rfl (uAK rfl rfl rfl) ?_;refine uAa rfl rfl rfl (uAe rfl gU) ?_;refine uAa rfl rfl rfl (uAe rfl gU) ?_;refine uAf ?_;refine uAd ?_;refine uAd (uAb ?_);refine uAa rfl rfl rfl (uAn rfl gU rfl rfl rfl rfl rfl) ?_;refine uAx rfl rfl rfl rfl rfl rfl gU gU (up (uCw n hs hg)) rfl ?_;refine uAa rfl rfl rfl (uAc rfl gU) ?_;refine uAa rfl rfl rfl (uAv rfl gU rfl) ?_;refine uAa rfl rfl rfl (uAv rfl gU rfl) ?_;refine uAa rfl rfl rfl (uAe rfl gU) ?_;refine uAa rfl rfl rfl (uAe rfl gU) ?_;refine uAf ?_;refine uAk (s:=⟨[(1,_,_),(2,_,_),(5,_,_),(6,_,_)],[(.l 1,_),(.l 2,_)],[],[]⟩) (uAj (⟨sx rfl,sx rfl,sx rfl,sx rfl,trivial⟩) (⟨sx rfl,sx rfl,trivial⟩) trivial) ?_;refine uAd (uAb ?_);refine uAa rfl rfl rfl (uAc rfl gU) ?_;refine uAa rfl rfl rfl (uAm rfl rfl gU gU rfl) ?_;refine uAf ?_;refine uAo rfl (fun hc=>?_) (fun hc=>?_)
 ·try simp only [nn,uAi,T.rows_len,Gl.rows_len,Fs.rows_len,Sp.rows_len] at hc
  refine uAd (uAb ?_);refine uAa rfl rfl rfl (uBg rfl Tryz.underlying27 rfl gU) ?_;refine uAa rfl rfl rfl (uAc rfl gU) ?_;refine uAa rfl rfl rfl (uAc rfl gU) ?_;refine uAs rfl (uAw rfl rfl rfl rfl rfl rfl rfl) ?_;refine uAa rfl rfl rfl (uAe rfl gU) ?_;refine uAa rfl rfl rfl (uAe rfl gU) ?_;refine uAf ?_;refine uAq ?_
  repeat(first|refine tR ?_|refine bR ?_)
  refine uAu rfl ?_ trivial
  (rw[resE,if_pos hc]; rfl)
 ·try simp only [nn,uAi,T.rows_len,Gl.rows_len,Fs.rows_len,Sp.rows_len] at hc
  have hE : resE n=(chN (srtG n) n,0,0):=by rw[resE,if_neg (by simpa using hc)]
  have hok:=uNQ (n:=n) hc
  rw[hE]
  refine uAp ?_;refine uAd (uAb ?_);refine uAa rfl rfl rfl (uAn rfl gU rfl rfl rfl rfl rfl) ?_;refine uHg rfl rfl rfl rfl rfl rfl (upM (uEO n)) (fun _=>rfl) (fun bm=>?_);refine uAs rfl (uAK rfl rfl rfl) ?_;refine uAs rfl (uAw rfl rfl rfl rfl rfl rfl rfl) ?_;refine uAf ?_;refine uAk (s:={ t:=[(1,_,_),(2,_,_),(7,_,_)],bx:=[(.l 1,_),(.l 2,_),(.l 7,_)],ow:=[],mp:=_ }) (uAj (⟨sx rfl,sx rfl,sx rfl,trivial⟩) (⟨sx rfl,sx rfl,sx rfl,trivial⟩) trivial (.inr rfl)) ?_;refine uAd (uAb ?_);refine uAa rfl rfl rfl (uAn rfl gU rfl rfl rfl rfl rfl) ?_;refine uAa rfl rfl rfl (uDW (ys:=[.ptr (.l 7) 0]) rfl) ?_;refine uNH 0 rfl [⟨.l 7,0,tbC n.roles bm,tbC n.roles bm⟩] [] rfl rfl rfl rfl rfl rfl (ps1 rfl) rfl rfl (uNK n bm hok) rfl rfl rfl ?_;refine uAs rfl (uAw rfl rfl rfl rfl rfl rfl rfl) ?_;refine uAa rfl rfl rfl (uAe rfl gU) ?_;refine uAa rfl rfl rfl (uAe rfl gU) ?_;refine uAf ?_;refine uAq ?_
  repeat(first|refine tR ?_|refine bR ?_)
  refine uAu rfl ?_ trivial
  all_goals rfl
theorem uIb (n : Nar) (hs : ∀ s ∈ n.steps,s.msg.size≤900000) (hg : ∀ g ∈ n.goals,T.sizes g.data≤900000) : Ctr sys 25 [xn n] [] (xnie (resE n)) none []:=(uHx n hs hg).wk rfl fun _ h=>h
theorem uM8 (n : Nar) (h1 : n.steps.length≤16) (h2 : n.goals.length≤16) (hs : ∀ s ∈ n.steps,s.msg.size≤900000) (hg : ∀ g ∈ n.goals,T.sizes g.data≤900000) : (resE n).1.steps.length≤16∧(resE n).1.goals.length≤16∧(∀ s ∈ (resE n).1.steps,s.msg.size≤900000) ∧ ∀ g ∈ (resE n).1.goals,T.sizes g.data≤900000:=by
 unfold resE
 split
 ·refine ⟨Nat.zero_le _,Nat.zero_le _,fun x hx=>?_,fun x hx=>?_⟩ <;> simp [nar0] at hx
 ·refine ⟨by simpa [chN] using h1,by simpa [chN] using h2,fun x hx=>?_,fun x hx=>?_⟩
  ·obtain ⟨y,hy,rfl⟩:=List.mem_map.1 (show x ∈ n.steps.map (chS (srtG n)) from hx)
   show (chT (srtG n) y.msg).size≤900000
   rw[uKh]; exact hs y hy
  ·obtain ⟨y,hy,rfl⟩:=List.mem_map.1 (show x ∈ n.goals.map (chL (srtG n)) from hx)
   show T.sizes (y.data.map (chT (srtG n)))≤900000
   rw[← uHY,uGg]; exact hg y hy
theorem uFk (n : Nar) (hd : ∀ g ∈ n.goals,g.data.length≤2097152) : Ctr sys 7 [xn n] [] (xb true) none []:=by
 refine uAA Tryz.func7 rfl rfl rfl rfl rfl rfl ?_;refine uAd (uAb ?_);refine uAs rfl (uAH rfl rfl rfl rfl) ?_;refine uAa rfl rfl rfl (uAe rfl gU) ?_;refine uAf ?_;refine uAd ?_;refine uAd (uAb ?_);refine uAx rfl rfl rfl rfl rfl rfl gU gU (uG4) rfl ?_;refine uAa rfl rfl rfl (uA1 rfl gU) ?_;refine uAa rfl rfl rfl (uAc rfl gU) ?_;refine uAa rfl rfl rfl (uAn rfl gU rfl rfl rfl rfl rfl) ?_;refine uAx rfl rfl rfl rfl rfl rfl gU (fun hh=>gA ((fun hh=>hh) hh) (rfl)) (uLS n hd) rfl ?_;refine uAa rfl rfl rfl (uA1 rfl (fun hh=>hh)) ?_;refine uAa rfl rfl rfl (uAO rfl rfl gU (fun _ hi=>gP rfl hi)) ?_;refine uAf ?_;refine uAk (s:=⟨[(1,_,_),(15,_,_)],[(.l 1,_)],[],[]⟩) (uAj (⟨sx rfl,sx rfl,trivial⟩) (⟨sx rfl,trivial⟩) trivial) ?_;refine uAo rfl (fun hc=>?_) (fun hc=>?_)
 ·refine uAd (uAb ?_)
  refine uAx rfl rfl rfl rfl rfl rfl gU gU (uG4) rfl ?_;refine uAa rfl rfl rfl (uAe rfl gU) ?_;refine uAf ?_;refine uAq ?_
  repeat(first|refine tR ?_|refine bR ?_)
  refine uAu rfl ?_ trivial
  rfl
 ·try simp only [nn,uAi,T.rows_len,Gl.rows_len,Fs.rows_len,Sp.rows_len] at hc
  obtain ⟨p1,p2,p3,p4⟩:=uPE (n:=n) (by simpa using hc)
  obtain ⟨q1,q2,q3,q4⟩:=uM8 n p1 p2 p3 p4
  refine uAp ?_;refine uAd (uAb ?_);refine uAa rfl rfl rfl (uAn rfl gU rfl rfl rfl rfl rfl) ?_;refine uAx rfl rfl rfl rfl rfl rfl gU gU (uIb n p3 p4) rfl ?_;refine uAa rfl rfl rfl (uAc rfl gU) ?_;refine uAa rfl rfl rfl (uAv rfl gU rfl) ?_;refine uAa rfl rfl rfl (uAv rfl gU rfl) ?_;refine uAa rfl rfl rfl (uAv rfl gU rfl) ?_;refine uAs rfl (uAK rfl rfl rfl) ?_;refine uAs rfl (uAw rfl rfl rfl rfl rfl rfl rfl) ?_;refine uAa rfl rfl rfl (uAe rfl gU) ?_;refine uAa rfl rfl rfl (uAe rfl gU) ?_;refine uAf ?_;refine uAk (s:=⟨[(1,_,_),(3,_,_),(4,_,_),(5,_,_)],[(.l 1,_),(.l 3,_)],[],[]⟩) (uAj (⟨sx rfl,sx rfl,sx rfl,sx rfl,trivial⟩) (⟨sx rfl,sx rfl,trivial⟩) trivial) ?_;refine uAd (uAb ?_);refine uAa rfl rfl rfl (uAn rfl gU rfl rfl rfl rfl rfl) ?_;refine uAx rfl rfl rfl rfl rfl rfl gU gU (uH4 n p3 p4) rfl ?_;refine uAa rfl rfl rfl (uAc rfl gU) ?_;refine uAa rfl rfl rfl (uAv rfl gU rfl) ?_;refine uAa rfl rfl rfl (uAv rfl gU rfl) ?_;refine uAa rfl rfl rfl (uAv rfl gU rfl) ?_;refine uAs rfl (uAK rfl rfl rfl) ?_;refine uAs rfl (uAw rfl rfl rfl rfl rfl rfl rfl) ?_;refine uAa rfl rfl rfl (uAe rfl gU) ?_;refine uAa rfl rfl rfl (uAe rfl gU) ?_;refine uAf ?_;refine uAk (s:=⟨[(3,_,_),(4,_,_),(5,_,_),(6,_,_),(7,_,_),(8,_,_)],[(.l 3,_),(.l 6,_)],[],[]⟩) (uAj (⟨sx rfl,sx rfl,sx rfl,sx rfl,sx rfl,sx rfl,trivial⟩) (⟨sx rfl,sx rfl,trivial⟩) trivial) ?_
  refine uAd ?_;refine awp_drawn' (by kernel_rfl) ?_;refine uAl rfl rfl rfl rfl (uAc rfl gU) ?_;refine uAl rfl rfl rfl rfl (uAc rfl gU) ?_;refine uAl rfl rfl rfl rfl (uAm rfl rfl gU gU rfl) ?_;refine uAl rfl rfl rfl rfl (uAc rfl gU) ?_;refine uAl rfl rfl rfl rfl (uAc rfl gU) ?_;refine uAl rfl rfl rfl rfl (uAc rfl gU) ?_;refine uAl rfl rfl rfl rfl (uAm rfl rfl (fun hh=>hh) (fun hh=>hh) rfl) ?_;refine uAl rfl rfl rfl rfl (uAJ rfl rfl gU (fun _ hi=>gP rfl hi)) ?_;refine uAl rfl rfl rfl rfl (uAc rfl gU) ?_;refine uAG rfl rfl rfl rfl rfl rfl rfl gU rfl rfl rfl rfl rfl ?_;refine uAG rfl rfl rfl rfl rfl rfl rfl gU rfl rfl rfl rfl rfl ?_;refine uAQ rfl rfl rfl rfl rfl rfl rfl gU (fun hh=>gA ((fun hh=>hh) hh) (gA ((fun hh=>hh) hh) (rfl))) (uJM _ _ rfl q3 q4) rfl ?_;refine uAl rfl rfl rfl rfl (uAJ rfl rfl gU (fun _ hi=>gP rfl hi)) ?_;refine uAl rfl rfl rfl rfl (uAc rfl gU) ?_;refine uAG rfl rfl rfl rfl rfl rfl rfl gU rfl rfl rfl rfl rfl ?_;refine uAQ rfl rfl rfl rfl rfl rfl rfl gU (fun hh=>gA ((fun hh=>hh) hh) (rfl)) (uFI _ (by omega) (by omega)) rfl ?_;refine uAG rfl rfl rfl rfl rfl rfl rfl gU rfl rfl rfl rfl rfl ?_;refine uAQ rfl rfl rfl rfl rfl rfl rfl gU (fun hh=>gA ((fun hh=>hh) hh) (rfl)) (uFI _ (by omega) (by omega)) rfl ?_;refine uAQ rfl rfl rfl rfl rfl rfl rfl gU (fun hh=>gA ((fun hh=>hh) hh) (gA ((fun hh=>hh) hh) (rfl))) (uGp _ _ rfl) rfl ?_
  refine uAl rfl rfl rfl rfl (uAJ rfl rfl gU (fun _ hi=>gP rfl hi)) ?_;refine uAl rfl rfl rfl rfl (uAe rfl gU) ?_;refine uA2 (by kernel_rfl) ?_;refine uAq ?_
  repeat(first|refine tR ?_|refine bR ?_)
  refine uAu rfl ?_ trivial;refine uBY ?_
  simp
end Go.Proofs.YteidahabkfgfjaaGreat
namespace Go.Abs
def uBm (P : Program) (M : Nat) : Nat→TypeId→List C→Prop
 | 0,_,_=>False
 | n + 1,t,cs=>match P.underlying t with
  | some .bool=>∃ x,cs=[.b x]
  | some (.int k)=>∃ m,cs=[.i k m]∧(Lit.int k m).wf=true
  | some .string=>∃ l,cs=[.s l]∧l.length≤M
  | some (.slice e)=>∃ es,cs=[.sl (P.cellsOf e) es]∧es.length≤M ∧ ∀ row,row ∈ es→uBm P M n e row
  | some (.struct fs)=>uGA (uBm P M n) fs.toList cs
  | some (.array m e)=>hasN (uBm P M n e) m cs
  | _=>False
section
variable {H : Type} {enc : TypeId × Value→H} {P : Program} {L : List TypeId} {w : World}
structure Bnd (P : Program) (L : List TypeId) (M : Nat) (B : TypeId→DataW H→Prop) : Prop where
 str : ∀ {t : TypeId} {s : List UInt8},P.underlying t=some .string→B t (.lit (.string s))→s.length≤M
 sl : ∀ {t e : TypeId} {es sp : List (DataW H)},t ∈ L→P.underlying t=some (.slice e)→B t (.slice es sp)→es.length≤M ∧ ∀ x ∈ es,B e x
 st : ∀ {t : TypeId} {fs : Array Field} {ps : List (DataW H)},P.underlying t=some (.struct fs)→B t (.agg ps) → ∀ (j : Nat) (f : Field) (x : DataW H),fs.toList[j]? = some f→ps[j]? = some x→B f.type x
 arr : ∀ {t e : TypeId} {n : Nat} {ps : List (DataW H)},P.underlying t=some (.array n e)→B t (.agg ps) → ∀ x ∈ ps,B e x
theorem uIX {M : Nat} {B : TypeId→DataW H→Prop} (hB : Bnd P L M B) (hL : uJn P L=true) : ∀ (fuel : Nat) (t : TypeId) (vs : List Value) (d : DataW H) (p : List MemPlace),t ∈ L→B t d →
  DataW.trod enc P w 0 (fun _=>true) true fuel t vs=some (d,p) → ∃ cs,uBm P M fuel t cs∧All2 (CRep w (topG w).S) cs vs∧cs.length=P.cellsOf t
 | 0,t,vs,d,p,_,_,h=>by simp [DataW.trod] at h
 | fuel + 1,t,vs,d,p,ht,hbd,h=>by
  have IH:=uIX hB hL fuel
  have hc:=List.all_eq_true.1 hL t ht
  unfold DataW.trod at h
  split at h
  ·rename_i b hu
   simp only [hu,beq_iff_eq] at hc
   exact ⟨[.b b],by simp only [uBm,hu]; exact ⟨_,rfl⟩,⟨.b b,trivial⟩,hc.symm⟩
  ·rename_i k k' n hu
   simp only [hu,beq_iff_eq] at hc
   split at h
   ·rename_i hk
    obtain ⟨rfl,hwf⟩:=hk
    exact ⟨[.i k' n],by simp only [uBm,hu]; exact ⟨n,rfl,hwf⟩,⟨.i _ n,trivial⟩,hc.symm⟩
   ·simp at h
  ·rename_i hu; simp only [hu] at hc; simp at hc
  ·rename_i s hu
   simp only [hu,beq_iff_eq] at hc
   split at h
   ·rename_i hs
    have hs' : s.data.toList.length≤9223372036854775807:=by
     have h1 : s.data.toList.length=s.size:=rfl
     have h2 : maxLen=9223372036854775807:=by decide
     omega
    simp only [Option.some.injEq,Prod.mk.injEq] at h
    obtain ⟨rfl,_⟩:=h
    refine ⟨[.s s.data.toList],by simp only [uBm,hu]; exact ⟨_,rfl,hB.str hu hbd⟩,⟨?_,trivial⟩,hc.symm⟩
    have := CRep.s (w := w) (S := (topG w).S) s.data.toList hs'
    rwa [uL7] at this
   ·simp at h
  ·rename_i hu; simp only [hu] at hc; simp at hc
  ·rename_i hu; simp only [hu] at hc; simp at hc
  ·rename_i e hu
   simp only [hu,Bool.and_eq_true,beq_iff_eq] at hc
   exact ⟨[.sl (P.cellsOf e) []],by simp [uBm,hu],⟨.nil _,trivial⟩,hc.1.1.symm⟩
  ·rename_i e a len cap hu
   simp only [hu,Bool.and_eq_true,beq_iff_eq,decide_eq_true_eq,bne_iff_ne] at hc
   obtain ⟨⟨hc1,heL⟩,hsz0⟩:=hc
   simp only at h
   split at h
   ·rename_i hb
    obtain ⟨_,hlc,hcm⟩:=hb
    have hmax : len≤9223372036854775807:=by
     have h2 : maxLen=9223372036854775807:=by decide
     omega
    simp only [Option.bind_eq_some_iff,if_true,Option.map_eq_some_iff] at h
    obtain ⟨elems,h1,rest,h2,hd⟩:=h
    simp only [Prod.mk.injEq] at hd
    obtain ⟨rfl,_⟩:=hd
    have hbs:=hB.sl ht hu hbd
    have hel0 : ∀ i,i < len → ∃ ci y,w.cells? 0 (a.add (i * P.cellsOf e)) (P.cellsOf e)=some ci∧DataW.trod enc P w 0 (fun _=>true) true fuel e ci=some y∧B e y.1:=by
     intro i hil
     obtain ⟨y,hy,hy2⟩:=uGS h1 (i:=i) (x:=i) (by simp [hil])
     simp only [Option.bind_eq_some_iff] at hy
     obtain ⟨ci,q1,q2⟩:=hy
     exact ⟨ci,y,q1,q2,hbs.2 _ (List.mem_map.2 ⟨y,List.mem_of_getElem? hy2,rfl⟩)⟩
    have hlen0 : elems.length=len := by have := Go.mapM_some_length h1; simpa using this
    have hel : ∀ i,i < cap → ∃ ci y,w.cells? 0 (a.add (i * P.cellsOf e)) (P.cellsOf e)=some ci∧DataW.trod enc P w 0 (fun _=>true) true fuel e ci=some y:=by
     intro i hi
     by_cases hil : i < len
     ·obtain ⟨y,hy,_⟩:=uGS h1 (i:=i) (x:=i) (by simp [hil])
      simp only [Option.bind_eq_some_iff] at hy
      obtain ⟨ci,q1,q2⟩:=hy
      exact ⟨ci,y,q1,q2⟩
     ·obtain ⟨y,hy,_⟩:=uGS h2 (i:=i - len) (x:=i - len) (by simp [show i - len < cap - len by omega])
      rw[show len + (i - len)=i by omega] at hy
      simp only [Option.bind_eq_some_iff] at hy
      obtain ⟨ci,q1,q2⟩:=hy
      exact ⟨ci,y,q1,q2⟩
    have hspot : cap≠0→a.spot=none:=by
     intro h0
     obtain ⟨ci,y,q1,_⟩:=hel 0 (by omega)
     obtain ⟨q3,q4⟩:=uKa q1
     have hlt : 0 < ci.length:=by omega
     have := q4 0 _ (List.getElem?_eq_getElem hlt)
     simpa [Addr.add] using World.cell?_spot this
    obtain ⟨es,hesl,hes⟩:=uC5 (R:=fun i row=>uBm P M fuel e row∧row.length=P.cellsOf e∧RowAt w (topG w).S a.block (a.off + i * P.cellsOf e) row) len (by
     intro i hi
     obtain ⟨ci,⟨y1,y2⟩,q1,q2,q3⟩:=hel0 i (by omega)
     obtain ⟨row,r1,r2,r3⟩:=IH e ci y1 y2 heL q3 q2
     refine ⟨row,r1,r3,fun j c hj=>?_⟩
     obtain ⟨v,hv,hrep⟩:=r2.get j c hj
     have hcell:=(uKa q1).2 j v hv
     have hsp:=hspot (by omega)
     obtain ⟨b,o,sp⟩:=a
     simp only at hsp
     subst hsp
     rw[uPt] at hcell
     exact ⟨uQp (World.block_lt_of_cell? w ⟨b,o + i * P.cellsOf e + j,none⟩ hcell),v,hcell,hrep⟩)
    refine ⟨[.sl (P.cellsOf e) es],?_,⟨?_,trivial⟩,hc1.symm⟩
    ·simp only [uBm,hu]
     refine ⟨es,rfl,by have := hbs.1; rw[List.length_map] at this; omega,fun row hr=>?_⟩
     obtain ⟨i,hi⟩:=List.getElem?_of_mem hr
     exact (hes i row hi).1
    ·exact CRep.mk_any hesl hlc hmax hspot fun i row hi=>(hes i row hi).2
   ·simp at h
  ·rename_i vs _ _ fs hu
   simp only [hu,beq_iff_eq] at hc
   split at h
   ·rename_i hlen
    simp only [Option.map_eq_some_iff] at h
    obtain ⟨xs,hxs,hd⟩:=h
    simp only [Prod.mk.injEq] at hd
    obtain ⟨rfl,_⟩:=hd
    have hbs:=hB.st hu hbd
    have key : ∀ (fs : List Field) (off : Nat) (xs : List (DataW H × List MemPlace)),uGx P L fs off=some (P.cellsOf t) →
      (fs.mapM fun f=>DataW.trod enc P w 0 (fun _=>true) true fuel f.type ((vs.drop f.offset).take (P.cellsOf f.type)))=some xs→(∀ (j : Nat) (f : Field) (x : DataW H),fs[j]? = some f→(xs.map (·.1))[j]? = some x→B f.type x) →
      ∃ cs,uGA (uBm P M fuel) fs cs∧All2 (CRep w (topG w).S) cs (vs.drop off)∧cs.length=P.cellsOf t - off:=by
     intro fs
     induction fs with
     | nil =>
      intro off xs hf _ _
      simp only [uGx,Option.some.injEq] at hf
      refine ⟨[],rfl,?_,by simp; omega⟩
      rw[List.drop_eq_nil_of_le (by omega)]
      trivial
     | cons f r ih =>
      intro off xs hf hm hbb
      simp only [uGx] at hf
      split at hf
      ·rename_i hfo
       obtain ⟨rfl,hfL⟩:=hfo
       simp only [List.mapM_cons,Option.bind_eq_bind,Option.bind_eq_some_iff] at hm
       obtain ⟨⟨y1,y2⟩,hy,ys,hys,hxs2⟩:=hm
       have hxs2 : (y1,y2) :: ys=xs:=by simpa using hxs2
       subst hxs2
       obtain ⟨a,a1,a2,a3⟩:=IH _ _ _ _ hfL (hbb 0 f y1 rfl rfl) hy
       obtain ⟨b,b1,b2,b3⟩:=ih _ _ hf hys (fun j f x h1 h2=>hbb (j + 1) f x (by simpa using h1) (by simpa using h2))
       have hle:=uJN hf
       refine ⟨a++b,⟨a,b,rfl,a1,b1⟩,?_,by simp; omega⟩
       have := a2.append b2
       rwa [← List.drop_drop,List.take_append_drop] at this
      ·simp at hf
    obtain ⟨cs,c1,c2,c3⟩:=key fs.toList 0 xs hc hxs hbs
    exact ⟨cs,by simp only [uBm,hu]; exact c1,by simpa using c2,by simpa using c3⟩
   ·simp at h
  ·rename_i vs _ _ n e hu
   simp only [hu,Bool.and_eq_true,beq_iff_eq,decide_eq_true_eq] at hc
   obtain ⟨heL,hct⟩:=hc
   split at h
   ·rename_i hlen
    simp only [Option.map_eq_some_iff] at h
    obtain ⟨xs,hxs,hd⟩:=h
    simp only [Prod.mk.injEq] at hd
    obtain ⟨rfl,_⟩:=hd
    have hbs:=hB.arr hu hbd
    have key : ∀ (m k : Nat),k + m=n → ∃ cs,hasN (uBm P M fuel e) m cs∧All2 (CRep w (topG w).S) cs (vs.drop (k * P.cellsOf e))∧cs.length=m * P.cellsOf e:=by
     intro m
     induction m with
     | zero =>
      intro k hk
      refine ⟨[],rfl,?_,by simp⟩
      have : k=n:=by omega
      subst this
      rw[List.drop_eq_nil_of_le (by omega)]
      trivial
     | succ m ih =>
      intro k hk
      obtain ⟨⟨y1,y2⟩,hy,hy2⟩:=uGS hxs (i:=k) (x:=k) (by simp [show k < n by omega])
      obtain ⟨a,a1,a2,a3⟩:=IH _ _ _ _ heL (hbs _ (List.mem_map.2 ⟨(y1,y2),List.mem_of_getElem? hy2,rfl⟩)) hy
      obtain ⟨b,b1,b2,b3⟩:=ih (k + 1) (by omega)
      refine ⟨a++b,⟨a,b,rfl,a1,b1⟩,?_,by simp [a3,b3,Nat.succ_mul]; omega⟩
      have := a2.append b2
      rwa [Nat.succ_mul,← List.drop_drop,List.take_append_drop] at this
    obtain ⟨cs,c1,c2,c3⟩:=key n 0 (by omega)
    exact ⟨cs,by simp only [uBm,hu]; exact c1,by simpa using c2,by rw[c3,hct]⟩
   ·simp at h
  all_goals first|(rename_i hu; simp only [hu] at hc; simp at hc)|(simp at h)|trace_state
theorem uO6 {M : Nat} {B : TypeId→DataW H→Prop} (hB : Bnd P L M B) (hL : uJn P L=true) {t : TypeId} {v : Value} {base : Nat} {d : TypeDesc} {x : DataW H} {p : List MemPlace} (ht : t ∈ L) (hd : P.underlying t=some d) (hp : rowD d=true) (hok : Value.okWide P w .any base t v)
  (hbd : B t x) (h : DataW.Trod enc P w 0 (fun _=>true) true t v x p) : ∃ n cs,uBm P M n t cs∧XRep w (topG w) (.v (.agg cs)) v:=by
 obtain ⟨n,hn⟩:=h
 obtain ⟨vs,rfl⟩:=uL0 hd hp hok
 obtain ⟨cs,h1,h2,_⟩:=uIX hB hL n t _ _ _ ht hbd hn
 exact ⟨n,cs,h1,vs.toList,by simp,by simpa [Value.cells] using h2⟩
end
end Go.Abs
namespace Go.Proofs.YteidahabkfgfjaaGreat
open Go Go.Abs
theorem uC5 {α : Type} {f : α→List C} {R : List C→Prop} (h : ∀ row,R row → ∃ t : α,row=f t) : ∀ es : List (List C),(∀ row,row ∈ es→R row) → ∃ ts : List α,es=ts.map f
 | [],_=>⟨[],rfl⟩
 | e :: es,he=>by
  obtain ⟨t,ht⟩:=h e (he e (List.mem_cons_self ..))
  obtain ⟨ts,hts⟩:=uC5 h es fun row hr=>he row (List.mem_cons_of_mem _ hr)
  exact ⟨t :: ts,by rw[List.map_cons,← hts,ht]⟩
theorem own : ownKnob Tryz.prog.godebug=none:=by kernel_rfl
theorem uPL : laidOutB Tryz.prog=true:=by kernel_rfl
theorem uQE {H : Type} (d : DataW H) : 1≤Rows.uptoBulk d:=by
 cases d with
 | lit l=>cases l <;> simp [Rows.uptoBulk]
 | nil=>simp [Rows.uptoBulk]
 | ptr d=>simp [Rows.uptoBulk]
 | slice elems spare=>simp [Rows.uptoBulk]
 | agg parts=>simp [Rows.uptoBulk]
 | iface t d=>simp [Rows.uptoBulk]
 | map entries=>simp [Rows.uptoBulk]
 | held h=>simp [Rows.uptoBulk]
theorem uGX {H : Type} {d : DataW H} {l : List (DataW H)} (h : d ∈ l) : Rows.uptoBulk d≤Rows.uptoBulkAll l:=by
 induction l with
 | nil=>cases h
 | cons x r ih =>
  simp only [Rows.uptoBulkAll]
  rcases List.mem_cons.1 h with e | e
  ·subst e; omega
  ·have := ih e; omega
theorem uQm {H : Type} (l : List (DataW H)) : l.length≤Rows.uptoBulkAll l:=by
 induction l with
 | nil=>simp
 | cons x r ih=>have := uQE x; simp only [Rows.uptoBulkAll,List.length_cons]; omega
theorem uOd {H : Type} {L : List TypeId} : Bnd Tryz.prog L 1048576 (fun _ (d : DataW H)=>Rows.uptoBulk d≤1048576) where
 str:=fun _ h=>by simp only [Rows.uptoBulk] at h; omega
 sl:=fun {t e es sp} _ _ h=>by
  simp only [Rows.uptoBulk] at h
  have h1:=uQm es
  exact ⟨by omega,fun x hx=>by have := uGX hx; omega⟩
 st:=fun {t fs ps} _ h j f x _ hx=>by
  simp only [Rows.uptoBulk] at h
  have := uGX (List.mem_of_getElem? hx); omega
 arr:=fun {t e n ps} _ h x hx=>by
  simp only [Rows.uptoBulk] at h
  have := uGX hx; omega
theorem uQh : uJn Tryz.prog [3,9,5,22,47,39,79,23,49,24,51,25,27]=true:=by kernel_rfl
theorem uOg : Tryz.prog.cellsOf 47=4:=by kernel_rfl
theorem uQk : Tryz.prog.cellsOf 9=1:=by kernel_rfl
theorem uPx : Tryz.prog.cellsOf 79=3:=by kernel_rfl
theorem uPV : Tryz.prog.cellsOf 49=7:=by kernel_rfl
theorem uPT : Tryz.prog.cellsOf 51=5:=by kernel_rfl
theorem uEU {M n : Nat} {cs : List C} (h : uBm Tryz.prog M n 3 cs) : ∃ m,cs=[.i .i64 m]:=by
 cases n with
 | zero=>exact h.elim
 | succ n =>
  simp only [uBm,Tryz.underlying3] at h
  obtain ⟨m,h,_⟩:=h
  exact ⟨m,h⟩
theorem uDr {M n : Nat} {cs : List C} (h : uBm Tryz.prog M n 9 cs) : ∃ l,cs=[.s l]:=by
 cases n with
 | zero=>exact h.elim
 | succ n =>
  simp only [uBm,Tryz.underlying9] at h
  obtain ⟨m,h,_⟩:=h
  exact ⟨m,h⟩
theorem uKG {M n : Nat} {cs : List C} (h : uBm Tryz.prog M n 22 cs) : ∃ l : List (List UInt8),cs=[.sl 1 (strR l)]:=by
 cases n with
 | zero=>exact h.elim
 | succ n =>
  simp only [uBm,Tryz.underlying22,uQk] at h
  obtain ⟨es,h1,_,h5⟩:=h
  obtain ⟨ts,rfl⟩:=uC5 (f:=fun s : List UInt8=>[C.s s]) (fun row hr=>uDr hr) es h5
  exact ⟨ts,h1⟩
theorem uK6 {M : Nat} (n : Nat) : ∀ cs : List C,uBm Tryz.prog M n 47 cs → ∃ t : T,cs=t.cells:=by
 induction n using Nat.strongRecOn with
 | ind n IH =>
  intro cs h
  cases n with
  | zero=>exact h.elim
  | succ n =>
   simp only [uBm,Tryz.underlying47,uGA] at h
   obtain ⟨a,b,rfl,h1,c,d,rfl,h2,e,f,rfl,h3,g,k,rfl,h4,rfl⟩:=h
   obtain ⟨m1,rfl⟩:=uEU h1
   obtain ⟨m2,rfl⟩:=uDr h2
   obtain ⟨m3,rfl⟩:=uEU h3
   cases n with
   | zero=>exact h4.elim
   | succ n =>
    simp only [uBm,Tryz.underlying39,uOg] at h4
    obtain ⟨es,rfl,_,h5⟩:=h4
    obtain ⟨ts,rfl⟩:=uC5 (f:=T.cells) (IH n (by omega)) es h5
    exact ⟨.mk m1 m2 m3 ts,by simp [T.cells,T.kind,T.name,T.sort,T.kids,T.rows_eq]⟩
theorem uM2 {M n : Nat} {cs : List C} (h : uBm Tryz.prog M n 39 cs) : ∃ ts : List T,cs=[.sl 4 (T.rows ts)]∧ts.length≤M:=by
 cases n with
 | zero=>exact h.elim
 | succ n =>
  simp only [uBm,Tryz.underlying39,uOg] at h
  obtain ⟨es,h1,h2,h5⟩:=h
  obtain ⟨ts,rfl⟩:=uC5 (f:=T.cells) (uK6 n) es h5
  exact ⟨ts,by rw[h1,T.rows_eq],by simpa using h2⟩
theorem uNG {M n : Nat} {cs : List C} (h : uBm Tryz.prog M n 79 cs) : ∃ f : Fs,cs=f.cells:=by
 cases n with
 | zero=>exact h.elim
 | succ n =>
  simp only [uBm,Tryz.underlying79,uGA] at h
  obtain ⟨a,b,rfl,h1,c,d,rfl,h2,e,f,rfl,h3,rfl⟩:=h
  obtain ⟨m1,rfl⟩:=uDr h1
  obtain ⟨m2,rfl⟩:=uDr h2
  obtain ⟨m3,rfl⟩:=uEU h3
  exact ⟨⟨m1,m2,m3⟩,rfl⟩
theorem uOY {M n : Nat} {cs : List C} (h : uBm Tryz.prog M n 49 cs) : ∃ s : Sp,cs=s.cells:=by
 cases n with
 | zero=>exact h.elim
 | succ n =>
  simp only [uBm,Tryz.underlying49,uGA] at h
  obtain ⟨a,b,rfl,h1,c,d,rfl,h2,e,f,rfl,h3,g,k,rfl,h4,rfl⟩:=h
  obtain ⟨m1,rfl⟩:=uDr h1
  obtain ⟨m2,rfl⟩:=uDr h2
  obtain ⟨m3,rfl⟩:=uK6 _ _ h3
  obtain ⟨m4,rfl⟩:=uEU h4
  exact ⟨⟨m1,m2,m3,m4⟩,by cases m3; rfl⟩
theorem uNR {M n : Nat} {cs : List C} (h : uBm Tryz.prog M n 51 cs) : ∃ g : {g : Gl // g.data.length≤M},cs=g.1.cells:=by
 cases n with
 | zero=>exact h.elim
 | succ n =>
  simp only [uBm,Tryz.underlying51,uGA] at h
  obtain ⟨a,b,rfl,h1,c,d,rfl,h2,e,f,rfl,h3,g,k,rfl,h4,u,v,rfl,h5,rfl⟩:=h
  obtain ⟨m1,rfl⟩:=uEU h1
  obtain ⟨m2,rfl⟩:=uDr h2
  obtain ⟨m3,rfl⟩:=uDr h3
  obtain ⟨m4,rfl,hl⟩:=uM2 h4
  obtain ⟨m5,rfl⟩:=uEU h5
  exact ⟨⟨⟨m1,m2,m3,m4,m5⟩,hl⟩,rfl⟩
theorem uNn {M n : Nat} {cs : List C} (h : uBm Tryz.prog M n 23 cs) : ∃ l : List Fs,cs=[.sl 3 (Fs.rows l)]:=by
 cases n with
 | zero=>exact h.elim
 | succ n =>
  simp only [uBm,Tryz.underlying23,uPx] at h
  obtain ⟨es,h1,_,h5⟩:=h
  obtain ⟨ts,rfl⟩:=uC5 (f:=Fs.cells) (fun row hr=>uNG hr) es h5
  exact ⟨ts,h1⟩
theorem uMX {M n : Nat} {cs : List C} (h : uBm Tryz.prog M n 24 cs) : ∃ l : List Sp,cs=[.sl 7 (Sp.rows l)]:=by
 cases n with
 | zero=>exact h.elim
 | succ n =>
  simp only [uBm,Tryz.underlying24,uPV] at h
  obtain ⟨es,h1,_,h5⟩:=h
  obtain ⟨ts,rfl⟩:=uC5 (f:=Sp.cells) (fun row hr=>uOY hr) es h5
  exact ⟨ts,h1⟩
theorem uNg {M n : Nat} {cs : List C} (h : uBm Tryz.prog M n 25 cs) : ∃ l : List Gl,cs=[.sl 5 (Gl.rows l)] ∧ ∀ g ∈ l,g.data.length≤M:=by
 cases n with
 | zero=>exact h.elim
 | succ n =>
  simp only [uBm,Tryz.underlying25,uPT] at h
  obtain ⟨es,h1,_,h5⟩:=h
  obtain ⟨ts,rfl⟩:=uC5 (f:=fun g : {g : Gl // g.data.length≤M}=>g.1.cells) (fun row hr=>uNR hr) es h5
  refine ⟨ts.map (·.1),by rw[h1,Gl.rows,List.map_map]; rfl,fun g hg=>?_⟩
  obtain ⟨x,_,rfl⟩:=List.mem_map.1 hg
  exact x.2
theorem uQd {n : Nat} {cs : List C} (h : uBm Tryz.prog 1048576 n 27 cs) : ∃ m : {m : Nar // ∀ g ∈ m.goals,g.data.length≤2097152},cs=m.1.cells:=by
 cases n with
 | zero=>exact h.elim
 | succ n =>
  simp only [uBm,Tryz.underlying27,uGA] at h
  obtain ⟨a,b,rfl,h1,c,d,rfl,h2,e,f,rfl,h3,g,k,rfl,h4,u,v,rfl,h5,x,y,rfl,h6,rfl⟩:=h
  obtain ⟨m1,rfl⟩:=uDr h1
  obtain ⟨m2,rfl⟩:=uKG h2
  obtain ⟨m3,rfl⟩:=uNn h3
  obtain ⟨m4,rfl⟩:=uKG h4
  obtain ⟨m5,rfl⟩:=uMX h5
  obtain ⟨m6,rfl,hl⟩:=uNg h6
  exact ⟨⟨⟨m1,m2,m3,m4,m5,m6⟩,fun g hg=>Nat.le_trans (hl g hg) (by omega)⟩,rfl⟩
end Go.Proofs.YteidahabkfgfjaaGreat
