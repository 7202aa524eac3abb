/- Our abstract program logic and contracts of this seat's functions, part 6: no statement of its own (long names of ours are shortened by a program). -/
import Derived.Test.YtnjjdbapadkomaaGreatDoorM5
import Derived.KernelRfl
set_option linter.unusedVariables false
set_option linter.unusedSimpArgs false
namespace Go.Proofs.YtnjjdbapadkomaaGreatDoor
open Go Go.Abs
def strC (L : List (List UInt8)) : List C:=L.map .s
theorem uHW : ∀ L : List (List UInt8),(strR L).flatten=strC L
 | []=>rfl
 | x :: L=>by
  show ([[C.s x]]++strR L).flatten=_
  rw [List.flatten_append,uHW L]; rfl
theorem uFD (L : List (List UInt8)) : (strC L).length=L.length:=by simp [strC]
theorem uGT (a b : List (List UInt8)) : strC (a++b)=strC a++strC b:=by simp [strC]
theorem uNs (L : List (List UInt8)) : ∀ (i : Nat) (row : List C),(strR L)[i]? = some row→row.length=1:=by
 intro i row h
 rw [strR,List.getElem?_map,Option.map_eq_some_iff] at h
 obtain ⟨x,_,rfl⟩:=h
 rfl
theorem uMD (L : List (List UInt8)) (x : List UInt8) {j : Nat} (hj : j=L.length) : (strC (L++[x]))[0 + j * 1]? = some (.s x):=by
 subst hj; simp [strC]
theorem uJL (L : List (List UInt8)) (x y : List UInt8) {j : Nat} (hj : j=L.length) : uBG (strC (L++[x])) (0 + j * 1) [.s y]=strC (L++[y]):=by
 subst hj
 rw [uGT,uGT,Nat.zero_add,Nat.mul_one]
 have := uIu [C.s y] (strC L) [C.s x] [] rfl
 rw [uFD,List.append_nil,List.append_nil] at this
 exact this
theorem uOQ {a b : Nat} (h : a≤b) : Nat.ble a b=true:=Nat.ble_eq_true_of_le h
def Nar.lk (n : Nar) (k : Nat) : List (List UInt8):=[uGZ n,(Itm.roles n.roles).text]++(frI n.fresh k).map Itm.text
theorem uKY (n : Nar) (k : Nat) : (n.lk k).length=2 + (frI n.fresh k).length:=by simp [Nar.lk]; omega
theorem uOB (f : Fs) : fsW f.pr=f.name++[32]++sortW.getD (f.sort - 2).toNat []:=by simp [fsW,Fs.pr,uIh]
theorem uNZ {n : Nar} {k : Nat} (hs : uEw n.fresh k) : ∃ L x,n.lk k=L++[x++[59]]∧n.lk (k + 1)=L++[x++[44,32]++fsW (n.fresh.getD k default).pr++[59]] ∧ ∃ l,(Itm.fresh (n.fresh.getD k default).role l) ∈ frI n.fresh k∧x++[59]=(Itm.fresh (n.fresh.getD k default).role l).text:=by
 obtain ⟨I,l,h1,h2,h3⟩:=uHc hs
 obtain ⟨x,hx⟩:=uML (n.fresh.getD k default).role l
 refine ⟨[uGZ n,(Itm.roles n.roles).text]++I.map Itm.text,x,?_,?_,l,by rw [h2]; simp,hx.symm⟩
 ·rw [Nar.lk,h2,← hx]; simp
 ·rw [Nar.lk,h3,List.map_append,List.map_cons,List.map_nil,uMp _ h1,hx,List.dropLast_concat]; simp
theorem uOD {n : Nar} {k : Nat} (hs : ¬uEw n.fresh k) : n.lk (k + 1)=n.lk k++[hFresh++(n.fresh.getD k default).role++[58,32]++fsW (n.fresh.getD k default).pr++[59]]:=by
 rw [Nar.lk,uIW hs,Nar.lk]
 simp [Itm.text,uJo]
def uFu (n : Nar) : List UInt8 × Int:=if narE uAM n≠0 then ([],narE uAM n) else (n.text,0)
def Nar.rest (n : Nar) (j k : Nat) : List (List UInt8):=n.lk n.fresh.length++((if n.tags=[] then [] else [(Itm.tags n.tags).text])++((n.steps.take j).map (fun s=>(Itm.step s).text)++(n.goals.take k).map fun g=>(Itm.goal g).text))
theorem uJT (n : Nar) : n.rest n.steps.length n.goals.length++[[125]]=n.lines:=by
 simp only [Nar.rest,List.take_length,Nar.lk,Nar.lines,Nar.itms]
 split <;> simp [List.map_map,Function.comp_def]
theorem uHX (n : Nar) {j : Nat} (h : j < n.steps.length) : n.rest (j + 1) 0=n.rest j 0++[(Itm.step (n.steps.getD j default)).text]:=by
 simp only [Nar.rest,map_take (d:=default) (fun s=>(Itm.step s).text) h]
 simp
theorem uIq (n : Nar) {k : Nat} (h : k < n.goals.length) : n.rest n.steps.length (k + 1)=n.rest n.steps.length k++[(Itm.goal (n.goals.getD k default)).text]:=by
 simp only [Nar.rest,map_take (d:=default) (fun g=>(Itm.goal g).text) h]
 simp
theorem uNS (n : Nar) (j k : Nat) : (n.rest j k).length≤2 + n.fresh.length + 1 + n.steps.length + n.goals.length:=by
 have := uFQ n.fresh n.fresh.length
 have := List.length_take_le j n.steps
 have := List.length_take_le k n.goals
 simp only [Nar.rest,List.length_append,List.length_map,uKY]
 split <;> simp <;> omega
theorem uOG {n : Nar} (h : NarOk n) {k : Nat} (hk : k≤n.fresh.length) : (n.lk k).length≤14:=by
 have := uFQ n.fresh k
 have := h.f2
 rw [uKY]; omega
theorem uFt {n : Nar} (h : NarOk n) (j k : Nat) : (n.rest j k).length≤31:=by
 have := uNS n j k
 have := h.f2
 have := h.s2
 have := h.g2
 omega
set_option maxHeartbeats 8000000 in
theorem uJl (n : Nar) (hs : ∀ s ∈ n.steps,s.msg.size≤900000) (hg : ∀ g ∈ n.goals,T.sizes g.data≤900000) : Ctr sys 12 [xn n] [] (xse (uFu n)) none []:=by
 have hr1:=uAh n.roles
 have hr2:=Fs.rows_len n.fresh
 have hr3:=uAh n.tags
 have hr4:=Sp.rows_len n.steps
 have hr5:=Gl.rows_len n.goals
 refine uAA Tryz.func12 rfl rfl rfl rfl rfl rfl ?_;refine uAe (uAb ?_);refine uAr rfl (uAX rfl rfl rfl rfl) ?_;refine uAa rfl rfl rfl (uAd rfl gU) ?_;refine uAa rfl rfl rfl (uAd rfl gU) ?_;refine uAf ?_;refine uAe ?_;refine uAe (uAb ?_);refine uAa rfl rfl rfl (uAo rfl gU rfl rfl rfl rfl rfl) ?_;refine uAw rfl rfl rfl rfl rfl rfl gU gU (uFa n hs hg) rfl ?_;refine uAa rfl rfl rfl (uAd rfl gU) ?_;refine uAf ?_;refine uAk (s:=⟨[(1,_,_),(4,_,_)],[(.l 1,_)],[],[]⟩) (uAj (⟨sx rfl,sx rfl,trivial⟩) (⟨sx rfl,trivial⟩) trivial) ?_;refine uAe (uAb ?_);refine uAa rfl rfl rfl (uAc rfl gU) ?_;refine uAa rfl rfl rfl (uAm rfl rfl gU gU rfl) ?_;refine uAf ?_;refine uAn rfl (fun hc=>?_) (fun hc=>?_)
 ·try simp only [nn,uAh,T.rows_len,Gl.rows_len,Fs.rows_len,Sp.rows_len] at hc
  refine uAe (uAb ?_);refine uAa rfl rfl rfl (uAc rfl gU) ?_;refine uAa rfl rfl rfl (uAd rfl gU) ?_;refine uAa rfl rfl rfl (uAd rfl gU) ?_;refine uAf ?_;refine uAp ?_
  repeat (first | refine tR ?_ | refine bR ?_)
  refine uAv rfl ?_ trivial
  (rw [uFu,if_pos hc]; rfl)
 ·try simp only [nn,uAh,T.rows_len,Gl.rows_len,Fs.rows_len,Sp.rows_len] at hc
  have hE : uFu n=(n.text,0):=by rw [uFu,if_neg (by simpa using hc)]
  have hok:=uMZ (n:=n) (by simpa using hc)
  have b1:=uCL hok.name
  have b2:=uD3 hok.roles
  have b3:=hok.r2
  have b4:=uD3 hok.tags
  have b5:=hok.t2
  have b6:=hok.f2
  have b7:=hok.s2
  have b8:=hok.g2
  rw [hE]
  refine uAq ?_;refine uAe ?_;refine awp_drawn' (by kernel_rfl) ?_;refine uAi rfl rfl rfl rfl (uAg rfl gU rfl rfl) ?_;refine uA3 rfl rfl rfl rfl rfl rfl rfl gU rfl rfl rfl rfl ?_;refine uAi rfl rfl rfl rfl (uAO rfl rfl gU gU (by first | omega | (simp only [List.length_append,List.length_cons,List.length_nil]; omega))) ?_;refine uAi rfl rfl rfl rfl (uAO rfl rfl gU gU (by first | omega | (simp only [List.length_append,List.length_cons,List.length_nil]; omega))) ?_;refine uAi rfl rfl rfl rfl (uAg rfl gU rfl rfl) ?_;refine uA3 rfl rfl rfl rfl rfl rfl rfl gU rfl rfl rfl rfl ?_;refine uAW rfl rfl rfl rfl rfl rfl rfl gU gU (uD0 n.roles [44,32] (by omega) (by decide) (by omega)) rfl ?_;refine uAi rfl rfl rfl rfl (uAO rfl rfl gU gU (by first | omega | (simp only [List.length_append,List.length_cons,List.length_nil]; omega))) ?_;refine uAi rfl rfl rfl rfl (uAO rfl rfl gU gU (by first | omega | (simp only [List.length_append,List.length_cons,List.length_nil]; omega))) ?_;refine uLo 28 (xs:=[_,_]) rfl rfl rfl rfl rfl rfl rfl rfl rfl rfl rfl rfl rfl ?_;refine uDy rfl (.inr rfl) rfl rfl rfl rfl rfl ?_;refine uA2 (by kernel_rfl) ?_;refine uAk (s:=⟨[(1,_,_),(5,_,_)],[(.l 1,_),(.l 28,_)],[(.t 5,_)],[]⟩) (uAj (⟨sx rfl,sx rfl,trivial⟩) (⟨sx rfl,sx rfl,trivial⟩) (⟨rfl,trivial⟩)) ?_;refine uAe ?_;refine uAe (uAb ?_)
  refine uAa rfl rfl rfl (uAg rfl gU rfl rfl) ?_;refine uAa rfl rfl rfl (uAl rfl gU rfl rfl rfl rfl) ?_;refine uAS rfl rfl rfl rfl rfl gU rfl rfl ?_ (fun hh=>by simp at hh); intro hlen;refine uAa rfl rfl rfl (uAc rfl gU) ?_;refine uAf ?_;refine uAx ?_;refine uA6 (ι:=Nat) { t:=[(1,_,_),(30,_,_),(31,_,_)],bx:=[(.l 1,_)],ow:=[(.t 5,_)] } (fun k=>[(32,true,xi (k : Int)),(5,true, .v (.ms (.l 28) 1 0 (n.lk k).length))]) (fun k=>[((.l 28),strC (n.lk k))]) (fun k=>k≤n.fresh.length) (fun k=>n.fresh.length - k) (0) (by simp) (uAj (⟨sx rfl,sx rfl,sx rfl,sx rfl,sx rfl,trivial⟩) (⟨⟨_,rfl,by simp [strC,Nar.lk,frI,uGZ,Itm.text,hProt,hRole]⟩,⟨sx rfl,trivial⟩⟩) (⟨rfl,trivial⟩)) ?_
  intro k hokk
  dsimp only [List.cons_append,List.nil_append]
  have hlm:=uOG hok hokk
  have hll:=uKY n k
  have hcl:=uFD (n.lk k)
  refine uAe (uAb ?_);refine uAa rfl rfl rfl (uAm rfl rfl gU gU rfl) ?_;refine uAf ?_;refine uAe ?_;refine uAn rfl (fun hc2=>?_) (fun hc2=>?_)
  ·try simp only [nn,uAh,T.rows_len,Gl.rows_len,Fs.rows_len,Sp.rows_len] at hc2
   have hlt : k < n.fresh.length:=by omega
   obtain ⟨f1,f2,f3,f4⟩:=hok.fresh _ (uCC (d:=default) hlt)
   have f5:=uCL f1
   have f6:=uCL f2
   have f7:=uMX (n.fresh.getD k default).sort
   have f8:=uOB (n.fresh.getD k default)
   have hsl : sortW.length=3:=rfl
   have hfw : (fsW (n.fresh.getD k default).pr).length≤40:=by
    simp only [fsW,Fs.pr,List.length_append,List.length_cons,List.length_nil]; omega
   have f9 : (sortW.getD ((n.fresh.getD k default).sort - 2).toNat []).length≤5:=f7
   refine uAq ?_;refine uAe ?_;refine uAx ?_;refine uAe (uAb ?_);refine uAa rfl rfl rfl (uAc rfl gU) ?_;refine uAa rfl rfl rfl (uAy rfl rfl gU gU rfl rfl rfl (fun hh=>Fs.rows_at (by first | omega | (simp at hh ⊢; omega)))) ?_;refine uAa rfl rfl rfl (uAP rfl gU rfl rfl rfl rfl) ?_;refine uAr rfl (uAG rfl rfl rfl) ?_;refine uAa rfl rfl rfl (uAd rfl gU) ?_;refine uAr rfl (uAt rfl rfl rfl rfl rfl rfl rfl) ?_;refine uAf ?_;refine uAk (s:=⟨[(1,_,_),(5,_,_),(6,_,_),(7,_,_),(30,_,_),(31,_,_),(32,_,_)],[(.l 1,_),(.l 28,_),(.l 7,_)],[(.t 5,_)],[]⟩) (uAj (⟨sx rfl,sx rfl,sx rfl,sx rfl,sx rfl,sx rfl,sx rfl,trivial⟩) (⟨sx rfl,sx rfl,sx rfl,trivial⟩) (⟨rfl,trivial⟩)) ?_;refine uAe ?_;refine awp_drawn' (by kernel_rfl) ?_;refine uAi rfl rfl rfl rfl (uAg rfl gU rfl rfl) ?_;refine uA3 rfl rfl rfl rfl rfl rfl rfl gU rfl rfl rfl rfl ?_;refine uAi rfl rfl rfl rfl (uAO rfl rfl gU gU (by first | omega | (simp only [List.length_append,List.length_cons,List.length_nil]; omega))) ?_;refine uAW rfl rfl rfl rfl rfl rfl rfl gU gU (uFe) rfl ?_;refine uAi rfl rfl rfl rfl (uAg rfl gU rfl rfl) ?_;refine uA3 rfl rfl rfl rfl rfl rfl rfl gU rfl rfl rfl rfl ?_;refine uAi rfl rfl rfl rfl (uAz rfl rfl gU gU rfl (IntWalk.i64_in _ (by omega))) ?_;refine uAi rfl rfl rfl rfl (uAy (j:=((n.fresh.getD k default).sort - 2).toNat) rfl rfl gU gU rfl rfl (by first | omega | (simp at hh ⊢; omega)) (fun hh=>uC3 (by first | omega | (simp at hh ⊢; omega)))) ?_
   refine uAi rfl rfl rfl rfl (uAR rfl gU rfl rfl rfl) ?_;refine uAi rfl rfl rfl rfl (uAO rfl rfl gU gU (by first | omega | (simp only [List.length_append,List.length_cons,List.length_nil]; omega))) ?_
   rw [← f8]
   refine uAi rfl rfl rfl rfl (uAd rfl gU) ?_;refine uA2 (by kernel_rfl) ?_;refine uAk (s:=⟨[(1,_,_),(5,_,_),(6,_,_),(7,_,_),(8,_,_),(30,_,_),(31,_,_),(32,_,_)],[(.l 1,_),(.l 28,_),(.l 7,_)],[(.t 5,_)],[]⟩) (uAj (⟨sx rfl,sx rfl,sx rfl,sx rfl,sx rfl,sx rfl,sx rfl,sx rfl,trivial⟩) (⟨sx rfl,sx rfl,sx rfl,trivial⟩) (⟨(ak rfl (ak rfl (ak rfl (ak rfl (ak rfl (ak rfl (ak rfl (ak rfl (ak rfl (ak rfl (ak rfl (rfl)))))))))))),trivial⟩)) ?_;refine uAe ?_;refine uAe ?_;refine awp_drawn' (by kernel_rfl) ?_;refine uAi rfl rfl rfl rfl (uAc rfl gU) ?_;refine uAi rfl rfl rfl rfl (uAm rfl rfl gU gU rfl) ?_;refine uAi rfl rfl rfl rfl (uAc rfl gU) ?_;refine uAi rfl rfl rfl rfl (uAg rfl gU rfl rfl) ?_;refine uA3 rfl rfl rfl rfl rfl rfl rfl (fun hh=>hh) rfl rfl rfl rfl ?_;refine uAi rfl rfl rfl rfl (uAc rfl gU) ?_;refine uAi rfl rfl rfl rfl (uAz rfl rfl (fun hh=>hh) gU rfl (IntWalk.i64_in _ (by omega))) ?_;refine uAi rfl rfl rfl rfl (uGE (j:=k - 1) rfl rfl (by first | exact fun hh=>hh | exact fun _=>rfl | exact fun hh=>gL hh | exact fun hh=>gL (gL hh) | (intro hh; simp_all)) (by first | exact fun hh=>hh | exact fun _=>rfl | exact fun hh=>gL hh | exact fun hh=>gL (gL hh) | (intro hh; simp_all)) rfl rfl (fun hh=>by simp at hh; omega) (fun hh=>Fs.rows_at (by simp at hh; omega))) ?_
   refine uAi rfl rfl rfl rfl (uAT rfl (fun hh=>hh) rfl rfl) ?_;refine uAi rfl rfl rfl rfl (uAR rfl (fun hh=>hh) rfl rfl rfl) ?_;refine uAi rfl rfl rfl rfl (uAg rfl gU rfl rfl) ?_;refine uA3 rfl rfl rfl rfl rfl rfl rfl (fun hh=>hh) rfl rfl rfl rfl ?_;refine uAi rfl rfl rfl rfl (uA9 rfl rfl (fun hh=>hh) (fun hh=>hh) rfl) ?_;refine uAi rfl rfl rfl rfl (uAV rfl rfl gU (fun _ hi=>gP rfl hi)) ?_;refine uA2 (by kernel_rfl) ?_;refine uAk (s:=⟨[(1,_,_),(5,_,_),(7,_,_),(8,_,_),(30,_,_),(31,_,_),(32,_,_),(60,_,_)],[(.l 1,_),(.l 28,_),(.l 7,_)],[(.t 5,_)],[]⟩) (uAj (⟨sx rfl,sx rfl,sx rfl,sx rfl,sx rfl,sx rfl,sx rfl,sx rfl,trivial⟩) (⟨sx rfl,sx rfl,sx rfl,trivial⟩) (⟨(ak rfl (ak rfl (ak rfl (ak rfl (ak rfl (ak rfl (ak rfl (ak rfl (ak rfl (ak rfl (ak rfl (ak rfl (ak rfl (ak rfl (rfl))))))))))))))),trivial⟩)) ?_;refine uAn rfl (fun hc3=>?_) (fun hc3=>?_)
   ·try simp only [nn,uAh,T.rows_len,Gl.rows_len,Fs.rows_len,Sp.rows_len] at hc3
    have hsm : uEw n.fresh k:=⟨by omega,hc3.2⟩
    obtain ⟨L,x,e1,e2,l,e3,e4⟩:=uNZ hsm
    have hxl : x.length≤500:=by
     have := uJU hok.fresh (k := k) hokk hok.f2 _ e3
     rw [← e4,List.length_append] at this; omega
    have e5 : (n.lk k).length=L.length + 1:=by rw [e1]; simp
    have e6 : (n.lk (k + 1)).length=L.length + 1:=by rw [e2]; simp
    rw [e5]
    rw [e1]
    refine uAe (uAb ?_);refine uAa rfl rfl rfl (uAc rfl gU) ?_;refine uAa rfl rfl rfl (uAc rfl gU) ?_;refine uAa rfl rfl rfl (uK1 rfl gU rfl rfl) ?_;refine uAa rfl rfl rfl (uAz rfl rfl gU gU rfl (IntWalk.i64_in _ (by omega))) ?_;refine uAa rfl rfl rfl (uIM (j:=L.length) rfl rfl gU gU rfl rfl (by first | rfl | first | omega | (simp at hh ⊢; omega)) (fun hh=>by first | omega | (simp at hh ⊢; omega))) ?_;refine uAa rfl rfl rfl (uAd rfl gU) ?_;refine uAf ?_;refine uAk (s:=⟨[(1,_,_),(5,_,_),(8,_,_),(9,_,_),(30,_,_),(31,_,_),(32,_,_)],[(.l 1,_),(.l 28,_)],[(.t 5,_)],[]⟩) (uAj (⟨sx rfl,sx rfl,sx rfl,sx rfl,sx rfl,sx rfl,sx rfl,trivial⟩) (⟨sx rfl,sx rfl,trivial⟩) (⟨rfl,trivial⟩)) ?_;refine uAe (uAb ?_);refine uAa rfl rfl rfl (uAc rfl gU) ?_;refine uAa rfl rfl rfl (uAc rfl gU) ?_;refine uAa rfl rfl rfl (uAB rfl gU) ?_;refine uAa rfl rfl rfl (uAl rfl gU rfl rfl rfl (uMD L _ rfl)) ?_;refine uAw rfl rfl rfl rfl rfl rfl gU gU (uIJ x 59 (by omega)) rfl ?_;refine uAa rfl rfl rfl (uAO rfl rfl gU gU (by first | omega | (simp only [List.length_append,List.length_cons,List.length_nil]; omega))) ?_;refine uAa rfl rfl rfl (uAc rfl gU) ?_;refine uAa rfl rfl rfl (uAO rfl rfl gU gU (by first | omega | (simp only [List.length_append,List.length_cons,List.length_nil]; omega))) ?_
    refine uAa rfl rfl rfl (uAO rfl rfl gU gU (by first | omega | (simp only [List.length_append,List.length_cons,List.length_nil]; omega))) ?_;refine uAa rfl rfl rfl (uAB rfl gU) ?_;refine uAr rfl (uAt rfl rfl rfl rfl rfl rfl (uOQ (by rw [uFD]; simp))) ?_;refine uAf ?_;refine uAQ ?_
    repeat (first | refine uAE ?_ | refine uAD ?_ | refine uAC rfl ?_)
    refine uAb ?_;refine uAa rfl rfl rfl (uAz rfl rfl gU gU rfl (IntWalk.i64_in _ (by omega))) ?_;refine uAa rfl rfl rfl (uAc rfl gU) ?_;refine uAf ?_;refine ⟨k + 1,?_,?_,uAj (⟨⟨_,rfl,?_⟩,⟨⟨_,rfl,?_⟩,⟨sx rfl,sx rfl,sx rfl,trivial⟩⟩⟩) (⟨⟨_,rfl,?_⟩,⟨sx rfl,trivial⟩⟩) (⟨rfl,trivial⟩)⟩
    all_goals first
     | rfl
     | omega
     | exact tx (by rw [e6])
     | (rw [uJL L _ _ rfl,e2]; done)
     | (rw [uJL L _ _ rfl,e2]; rfl)
   ·try simp only [nn,uAh,T.rows_len,Gl.rows_len,Fs.rows_len,Sp.rows_len] at hc3
    have hsm : ¬uEw n.fresh k:=by
     rintro ⟨q1,q2⟩
     rcases hc3 with q | q
     ·omega
     ·exact q q2
    have e1:=uOD hsm
    have e2 : (n.lk (k + 1)).length=(n.lk k).length + 1:=by rw [e1]; simp
    refine uAq ?_;refine uAb ?_;refine uAr rfl (uAL (.inl rfl) rfl rfl rfl) ?_;refine uAa rfl rfl rfl (uAg rfl gU rfl rfl) ?_;refine uAa rfl rfl rfl (uAl rfl gU rfl rfl rfl rfl) ?_;refine uAa rfl rfl rfl (uAO rfl rfl gU gU (by first | omega | (simp only [List.length_append,List.length_cons,List.length_nil]; omega))) ?_;refine uAa rfl rfl rfl (uAO rfl rfl gU gU (by first | omega | (simp only [List.length_append,List.length_cons,List.length_nil]; omega))) ?_;refine uAa rfl rfl rfl (uAc rfl gU) ?_;refine uAa rfl rfl rfl (uAO rfl rfl gU gU (by first | omega | (simp only [List.length_append,List.length_cons,List.length_nil]; omega))) ?_;refine uAa rfl rfl rfl (uAO rfl rfl gU gU (by first | omega | (simp only [List.length_append,List.length_cons,List.length_nil]; omega))) ?_;refine uAH (xs:=[_]) rfl rfl rfl rfl rfl rfl rfl rfl rfl gU rfl ?_;refine uJB 85 rfl rfl rfl rfl rfl rfl rfl rfl rfl rfl rfl rfl rfl (by rw [uFD,Nat.mul_one]) (by simp) (by simp; omega) (by simp; omega) ?_;refine uAr rfl (uAL (.inr rfl) rfl rfl rfl) ?_;refine uAf ?_;refine uAk (s:=⟨[(1,_,_),(5,_,_),(30,_,_),(31,_,_),(32,_,_)],[(.l 1,_),(.l 85,_)],[(.t 5,_)],[]⟩) (uAj (⟨sx rfl,sx rfl,sx rfl,sx rfl,sx rfl,trivial⟩) (⟨sx rfl,sx rfl,trivial⟩) (⟨rfl,trivial⟩)) ?_;refine uAb ?_;refine uBq (s:=⟨[(1,_,_),(5,_,_),(30,_,_),(31,_,_),(32,_,_)],[(.l 1,_),(.l 85,_)],[(.t 5,_)],[]⟩) (uAj (⟨sx rfl,sx rfl,sx rfl,sx rfl,sx rfl,trivial⟩) (⟨sx rfl,sx rfl,trivial⟩) (⟨rfl,trivial⟩)) ?_
    refine uL2 5 85 28 rfl rfl rfl rfl ?_;refine uBq (s:=⟨[(1,_,_),(5,_,_),(30,_,_),(31,_,_),(32,_,_)],[(.l 1,_),(.l 28,_)],[(.t 5,_)],[]⟩) (uAj (⟨sx rfl,sx rfl,sx rfl,sx rfl,sx rfl,trivial⟩) (⟨sx rfl,sx rfl,trivial⟩) (⟨rfl,trivial⟩)) ?_;refine uAa rfl rfl rfl (uAz rfl rfl gU gU rfl (IntWalk.i64_in _ (by omega))) ?_;refine uAa rfl rfl rfl (uAc rfl gU) ?_;refine uAf ?_;refine ⟨k + 1,?_,?_,uAj (⟨⟨_,rfl,?_⟩,⟨⟨_,rfl,?_⟩,⟨sx rfl,sx rfl,sx rfl,trivial⟩⟩⟩) (⟨⟨_,rfl,?_⟩,⟨sx rfl,trivial⟩⟩) (⟨rfl,trivial⟩)⟩
    all_goals first
     | rfl
     | omega
     | exact tx (by rw [e2]; rfl)
     | (rw [e1,uGT]; rfl)
  ·try simp only [nn,uAh,T.rows_len,Gl.rows_len,Fs.rows_len,Sp.rows_len] at hc2
   have hke : k=n.fresh.length:=by omega
   subst hke
   refine uAQ ?_
   repeat (first | refine uAE ?_ | refine uAD ?_ | refine uAC rfl ?_)
   refine uAe ?_;refine uAe (uAb ?_);refine uMk 5 28 (strR (n.lk n.fresh.length)) rfl (by rw [uHW]; rfl) (uAh _) (by omega) (uNs _) rfl ?_;refine uAa rfl rfl rfl (uAg rfl gU rfl rfl) ?_;refine uAa rfl rfl rfl (uAl rfl gU rfl rfl rfl rfl) ?_;refine uAS rfl rfl rfl rfl rfl gU rfl rfl ?_ (fun hh=>by simp at hh); intro hlen;refine uAa rfl rfl rfl (uAm rfl rfl gU gU rfl) ?_;refine uAf ?_;refine uAk (s:=⟨[(1,_,_),(5,_,_),(90,_,_)],[(.l 1,_)],[(.t 5,_)],[]⟩) (uAj (⟨sx rfl,sx rfl,sx rfl,trivial⟩) (⟨sx rfl,trivial⟩) (⟨rfl,trivial⟩)) ?_;refine uAn rfl (fun hc4=>?_) (fun hc4=>?_)
   ·try simp only [nn,uAh,T.rows_len,Gl.rows_len,Fs.rows_len,Sp.rows_len] at hc4
    have htg : n.tags≠[]:=by intro q; rw [q] at hc4; simp at hc4
    have e0 : n.rest 0 0=n.lk n.fresh.length++[(Itm.tags n.tags).text]:=by simp [Nar.rest,htg]
    refine uAb ?_;refine uAr rfl (uAL (.inl rfl) rfl rfl rfl) ?_;refine uAa rfl rfl rfl (uAg rfl gU rfl rfl) ?_;refine uAa rfl rfl rfl (uAl rfl gU rfl rfl rfl rfl) ?_;refine uAw rfl rfl rfl rfl rfl rfl gU gU (uD0 n.tags [44,32] (by omega) (by decide) (by omega)) rfl ?_;refine uAa rfl rfl rfl (uAO rfl rfl gU gU (by first | omega | (simp only [List.length_append,List.length_cons,List.length_nil]; omega))) ?_;refine uAa rfl rfl rfl (uAO rfl rfl gU gU (by first | omega | (simp only [List.length_append,List.length_cons,List.length_nil]; omega))) ?_;refine uAH (xs:=[_]) rfl rfl rfl rfl rfl rfl rfl rfl rfl gU rfl ?_;refine uAr rfl (uA0 rfl rfl rfl rfl rfl rfl rfl (by first | omega | (simp only [List.length_append,List.length_singleton,uAh]; omega)) (by first | omega | (simp only [List.length_append,List.length_singleton,uAh]; omega))) ?_;refine uAr rfl (uAL (.inr rfl) rfl rfl rfl) ?_;refine uAf ?_;refine uAk (s:=⟨[(1,_,_),(5,_,_)],[(.l 1,_)],[(.t 5,_)],[]⟩) (uAj (⟨sx rfl,sx rfl,trivial⟩) (⟨sx rfl,trivial⟩) (⟨rfl,trivial⟩)) ?_;refine uAe ?_;refine uAe (uAb ?_);refine uAa rfl rfl rfl (uAg rfl gU rfl rfl) ?_;refine uAa rfl rfl rfl (uAl rfl gU rfl rfl rfl rfl) ?_;refine uAS rfl rfl rfl rfl rfl gU rfl rfl ?_ (fun hh=>by simp at hh); intro hlen;refine uAa rfl rfl rfl (uAc rfl gU) ?_
    refine uAf ?_;refine uAx ?_;refine uA6 (ι:=Nat) { t:=[(1,_,_),(100,_,_),(101,_,_)],bx:=[(.l 1,_)],ow:=[(.t 5,_)] } (fun j=>[(102,true,xi (j : Int)),(5,true,xss (n.rest j 0))]) (fun j=>[]) (fun j=>j≤n.steps.length) (fun j=>n.steps.length - j) (0) (by simp) (uAj (⟨sx rfl,⟨⟨_,rfl,by rw [e0]; exact tx ((uCn _ _).trans (by simp [Itm.text,hTag]))⟩,⟨sx rfl,sx rfl,sx rfl,trivial⟩⟩⟩) (⟨sx rfl,trivial⟩) (⟨rfl,trivial⟩)) ?_
    intro j hokj
    dsimp only [List.cons_append,List.nil_append]
    have hm1:=uFt hok j 0
    refine uAe (uAb ?_);refine uAa rfl rfl rfl (uAm rfl rfl gU gU rfl) ?_;refine uAf ?_;refine uAe ?_;refine uAn rfl (fun hc5=>?_) (fun hc5=>?_)
    ·try simp only [nn,uAh,T.rows_len,Gl.rows_len,Fs.rows_len,Sp.rows_len] at hc5
     have hlt : j < n.steps.length:=by omega
     obtain ⟨s1,s2,s3⟩:=hok.steps _ (uCC (d:=default) hlt)
     have s4:=uCL s1
     have s5:=uCL s2
     have s6:=s3.len
     refine uAq ?_;refine uAe ?_;refine uAx ?_;refine uAe (uAb ?_);refine uAa rfl rfl rfl (uAy rfl rfl gU gU rfl rfl rfl (fun hh=>Sp.rows_at (by first | omega | (simp at hh ⊢; omega)))) ?_;refine uAa rfl rfl rfl (uAP rfl gU rfl rfl rfl rfl) ?_;refine uAr rfl (uAG rfl rfl rfl) ?_;refine uAr rfl (uAt rfl rfl rfl rfl rfl rfl rfl) ?_;refine uAf ?_;refine awp_drawn' (by kernel_rfl) ?_;refine uDy rfl (.inl rfl) rfl rfl rfl rfl rfl ?_;refine uAi rfl rfl rfl rfl (uAg rfl gU rfl rfl) ?_;refine uA3 rfl rfl rfl rfl rfl rfl rfl gU rfl rfl rfl rfl ?_;refine uAi rfl rfl rfl rfl (uAO rfl rfl gU gU (by first | omega | (simp only [List.length_append,List.length_cons,List.length_nil]; omega))) ?_;refine uAi rfl rfl rfl rfl (uAO rfl rfl gU gU (by first | omega | (simp only [List.length_append,List.length_cons,List.length_nil]; omega))) ?_;refine uAi rfl rfl rfl rfl (uAg rfl gU rfl rfl) ?_;refine uA3 rfl rfl rfl rfl rfl rfl rfl gU rfl rfl rfl rfl ?_;refine uAi rfl rfl rfl rfl (uAO rfl rfl gU gU (by first | omega | (simp only [List.length_append,List.length_cons,List.length_nil]; omega))) ?_;refine uAi rfl rfl rfl rfl (uAO rfl rfl gU gU (by first | omega | (simp only [List.length_append,List.length_cons,List.length_nil]; omega))) ?_;refine uAi rfl rfl rfl rfl (uAg rfl gU rfl rfl) ?_;refine uAI rfl rfl rfl rfl rfl rfl rfl gU rfl rfl rfl rfl rfl ?_
     refine uAW rfl rfl rfl rfl rfl rfl rfl gU gU (uEf (n.steps.getD j default).msg (by have := s3.size; omega) s3.ok) rfl ?_;refine uAi rfl rfl rfl rfl (uAO rfl rfl gU gU (by first | omega | (simp only [List.length_append,List.length_cons,List.length_nil]; omega))) ?_;refine uAi rfl rfl rfl rfl (uAO rfl rfl gU gU (by first | omega | (simp only [List.length_append,List.length_cons,List.length_nil]; omega))) ?_;refine uCs (xs := [_]) rfl rfl rfl rfl rfl rfl rfl rfl rfl rfl gU rfl ?_;refine uCa rfl rfl rfl rfl rfl (rko (ak2 rfl (ak rfl (ak rfl (ak rfl (ak rfl (ak rfl (ak rfl (ak rfl (ak rfl (ak rfl (ak rfl (ak rfl (ak rfl (ak rfl (rfl)))))))))))))))) rfl rfl rfl rfl rfl (by first | omega | (simp only [List.length_append,List.length_singleton,uAh]; omega)) (by first | omega | (simp only [List.length_append,List.length_singleton,uAh]; omega)) ?_;refine uDy rfl (.inr rfl) rfl rfl rfl rfl rfl ?_;refine uA2 (by kernel_rfl) ?_;refine uAk (s := ⟨[(1,_,_),(5,_,_),(100,_,_),(101,_,_),(102,_,_)],[(.l 1,_)],[(.t 5,_)],[]⟩) (uAj (⟨sx rfl,sx rfl,sx rfl,sx rfl,sx rfl,trivial⟩) (⟨sx rfl,trivial⟩) (⟨rfl,trivial⟩)) ?_;refine uAb ?_;refine uAa rfl rfl rfl (uAz rfl rfl gU gU rfl (IntWalk.i64_in _ (by omega))) ?_;refine uAa rfl rfl rfl (uAc rfl gU) ?_;refine uAf ?_;refine ⟨j + 1,?_,?_,uAj (⟨⟨_,rfl,?_⟩,⟨⟨_,rfl,?_⟩,⟨sx rfl,sx rfl,sx rfl,trivial⟩⟩⟩) (⟨sx rfl,trivial⟩) (⟨rfl,trivial⟩)⟩
     all_goals first
      | rfl
      | omega
      | exact tx ((uCn _ _).trans (by rw [uHX n hlt]; simp [Itm.text,hMsg,arrow]))
    ·try simp only [nn,uAh,T.rows_len,Gl.rows_len,Fs.rows_len,Sp.rows_len] at hc5
     have hje : j=n.steps.length:=by omega
     subst hje
     refine uAQ ?_
     repeat (first | refine uAE ?_ | refine uAD ?_ | refine uAC rfl ?_)
     refine uAe ?_;refine uAe (uAb ?_);refine uAa rfl rfl rfl (uAg rfl gU rfl rfl) ?_;refine uAa rfl rfl rfl (uAl rfl gU rfl rfl rfl rfl) ?_;refine uAS rfl rfl rfl rfl rfl gU rfl rfl ?_ (fun hh=>by simp at hh); intro hlen;refine uAa rfl rfl rfl (uAc rfl gU) ?_;refine uAf ?_;refine uAk (s:=⟨[(5,_,_),(124,_,_),(125,_,_),(126,_,_)],[],[(.t 5,_)],[]⟩) (uAj (⟨sx rfl,sx rfl,sx rfl,sx rfl,trivial⟩) trivial (⟨rfl,trivial⟩)) ?_;refine uAx ?_;refine uA6 (ι:=Nat) { t:=[(124,_,_),(125,_,_)],bx:=[],ow:=[(.t 5,_)] } (fun k=>[(126,true,xi (k : Int)),(5,true,xss (n.rest n.steps.length k))]) (fun k=>[]) (fun k=>k≤n.goals.length) (fun k=>n.goals.length - k) (0) (by simp) (uAj (⟨sx rfl,sx rfl,sx rfl,sx rfl,trivial⟩) trivial (⟨rfl,trivial⟩)) ?_
     intro k hokk2
     dsimp only [List.cons_append,List.nil_append]
     have hm2:=uFt hok n.steps.length k
     refine uAe (uAb ?_);refine uAa rfl rfl rfl (uAm rfl rfl gU gU rfl) ?_;refine uAf ?_;refine uAe ?_;refine uAn rfl (fun hc6=>?_) (fun hc6=>?_)
     ·try simp only [nn,uAh,T.rows_len,Gl.rows_len,Fs.rows_len,Sp.rows_len] at hc6
      have hlt : k < n.goals.length:=by omega
      have hgk:=hok.goals _ (uCC (d:=default) hlt)
      have g1:=uF2 hgk
      have g2:=uHE (n.goals.getD k default)
      have g3 : (uHG (n.goals.getD k default)).length≤4600:=by
       rw [g2] at g1; simp only [List.length_append] at g1; omega
      refine uAq ?_;refine uAe ?_;refine uAx ?_;refine uAe (uAb ?_);refine uAa rfl rfl rfl (uAy rfl rfl gU gU rfl rfl rfl (fun hh=>Gl.rows_at (by first | omega | (simp at hh ⊢; omega)))) ?_;refine uAa rfl rfl rfl (uAP rfl gU rfl rfl rfl rfl) ?_;refine uAr rfl (uAG rfl rfl rfl) ?_;refine uAr rfl (uAt rfl rfl rfl rfl rfl rfl rfl) ?_;refine uAf ?_;refine uAb ?_;refine uAr rfl (uAL (.inl rfl) rfl rfl rfl) ?_;refine uAa rfl rfl rfl (uAo rfl gU rfl rfl rfl rfl rfl) ?_;refine uAw rfl rfl rfl rfl rfl rfl gU gU (uEY _ hgk) rfl ?_;refine uAa rfl rfl rfl (uAO rfl rfl gU gU (by first | omega | (simp only [List.length_append,List.length_cons,List.length_nil]; omega))) ?_;refine uAa rfl rfl rfl (uAO rfl rfl gU gU (by first | omega | (simp only [List.length_append,List.length_cons,List.length_nil]; omega))) ?_;refine uAH (xs:=[_]) rfl rfl rfl rfl rfl rfl rfl rfl rfl gU rfl ?_;refine uAr rfl (uA0 rfl rfl rfl rfl rfl rfl rfl (by first | omega | (simp only [List.length_append,List.length_singleton,uAh]; omega)) (by first | omega | (simp only [List.length_append,List.length_singleton,uAh]; omega))) ?_;refine uAr rfl (uAL (.inr rfl) rfl rfl rfl) ?_;refine uAf ?_;refine uAk (s:=⟨[(5,_,_),(124,_,_),(125,_,_),(126,_,_)],[],[(.t 5,_)],[]⟩) (uAj (⟨sx rfl,sx rfl,sx rfl,sx rfl,trivial⟩) trivial (⟨rfl,trivial⟩)) ?_
      refine uAb ?_;refine uAa rfl rfl rfl (uAz rfl rfl gU gU rfl (IntWalk.i64_in _ (by omega))) ?_;refine uAa rfl rfl rfl (uAc rfl gU) ?_;refine uAf ?_;refine ⟨k + 1,?_,?_,uAj (⟨⟨_,rfl,?_⟩,⟨⟨_,rfl,?_⟩,⟨sx rfl,sx rfl,trivial⟩⟩⟩) trivial (⟨rfl,trivial⟩)⟩
      all_goals first
       | rfl
       | omega
       | exact tx ((uCn _ _).trans (by rw [uIq n hlt,g2]; simp [hGoal]))
     ·try simp only [nn,uAh,T.rows_len,Gl.rows_len,Fs.rows_len,Sp.rows_len] at hc6
      have hke : k=n.goals.length:=by omega
      subst hke
      have hj1:=uJT n
      have hj2 : (Lib.join n.lines [10]).length≤60000:=by
       have := hok.text_len
       simp only [Nar.text,List.length_append] at this; omega
      have hj3 : X.v (.c (.sl 1 (strR (n.rest n.steps.length n.goals.length)++[[C.s [125]]])))=xss n.lines:=by rw [← hj1]; exact uCn _ _
      have hjn : Ctr sys 40 [.v (.c (.sl 1 (strR (n.rest n.steps.length n.goals.length)++[[C.s [125]]]))),xs [10]] [] (xs (Lib.join n.lines [10])) none []:=by
       rw [hj3]; exact uD0 n.lines [10] (by have := hok.lines_len; omega) (by decide) (by omega)
      refine uAQ ?_
      repeat (first | refine uAE ?_ | refine uAD ?_ | refine uAC rfl ?_)
      refine uAe (uAb ?_);refine uAr rfl (uAL (.inl rfl) rfl rfl rfl) ?_;refine uAH (xs:=[_]) rfl rfl rfl rfl rfl rfl rfl rfl rfl gU rfl ?_;refine uAr rfl (uA0 rfl rfl rfl rfl rfl rfl rfl (by first | omega | (simp only [List.length_append,List.length_singleton,uAh]; omega)) (by first | omega | (simp only [List.length_append,List.length_singleton,uAh]; omega))) ?_;refine uAw rfl rfl rfl rfl rfl rfl gU gU (hjn) rfl ?_;refine uAa rfl rfl rfl (uAO rfl rfl gU gU (by first | omega | (simp only [List.length_append,List.length_cons,List.length_nil]; omega))) ?_;refine uAa rfl rfl rfl (uAd rfl gU) ?_;refine uAa rfl rfl rfl (uAd rfl gU) ?_;refine uAf ?_;refine uAp ?_
      repeat (first | refine tR ?_ | refine bR ?_)
      refine uAv rfl ?_ trivial
      rfl
   ·try simp only [nn,uAh,T.rows_len,Gl.rows_len,Fs.rows_len,Sp.rows_len] at hc4
    have htg : n.tags=[]:=List.length_eq_zero_iff.1 (by omega)
    have e0 : n.rest 0 0=n.lk n.fresh.length:=by simp [Nar.rest,htg]
    refine uAq ?_;refine uAe ?_;refine uAe (uAb ?_);refine uAa rfl rfl rfl (uAg rfl gU rfl rfl) ?_;refine uAa rfl rfl rfl (uAl rfl gU rfl rfl rfl rfl) ?_;refine uAS rfl rfl rfl rfl rfl gU rfl rfl ?_ (fun hh=>by simp at hh); intro hlen;refine uAa rfl rfl rfl (uAc rfl gU) ?_;refine uAf ?_;refine uAx ?_;refine uA6 (ι:=Nat) { t:=[(1,_,_),(100,_,_),(101,_,_)],bx:=[(.l 1,_)],ow:=[(.t 5,_)] } (fun j=>[(102,true,xi (j : Int)),(5,true,xss (n.rest j 0))]) (fun j=>[]) (fun j=>j≤n.steps.length) (fun j=>n.steps.length - j) (0) (by simp) (uAj (⟨sx rfl,⟨⟨_,rfl,by rw [e0]⟩,⟨sx rfl,sx rfl,sx rfl,trivial⟩⟩⟩) (⟨sx rfl,trivial⟩) (⟨rfl,trivial⟩)) ?_
    intro j hokj
    dsimp only [List.cons_append,List.nil_append]
    have hm1:=uFt hok j 0
    refine uAe (uAb ?_);refine uAa rfl rfl rfl (uAm rfl rfl gU gU rfl) ?_;refine uAf ?_;refine uAe ?_;refine uAn rfl (fun hc5=>?_) (fun hc5=>?_)
    ·try simp only [nn,uAh,T.rows_len,Gl.rows_len,Fs.rows_len,Sp.rows_len] at hc5
     have hlt : j < n.steps.length:=by omega
     obtain ⟨s1,s2,s3⟩:=hok.steps _ (uCC (d:=default) hlt)
     have s4:=uCL s1
     have s5:=uCL s2
     have s6:=s3.len
     refine uAq ?_;refine uAe ?_;refine uAx ?_;refine uAe (uAb ?_);refine uAa rfl rfl rfl (uAy rfl rfl gU gU rfl rfl rfl (fun hh=>Sp.rows_at (by first | omega | (simp at hh ⊢; omega)))) ?_;refine uAa rfl rfl rfl (uAP rfl gU rfl rfl rfl rfl) ?_;refine uAr rfl (uAG rfl rfl rfl) ?_;refine uAr rfl (uAt rfl rfl rfl rfl rfl rfl rfl) ?_;refine uAf ?_;refine awp_drawn' (by kernel_rfl) ?_;refine uDy rfl (.inl rfl) rfl rfl rfl rfl rfl ?_;refine uAi rfl rfl rfl rfl (uAg rfl gU rfl rfl) ?_;refine uA3 rfl rfl rfl rfl rfl rfl rfl gU rfl rfl rfl rfl ?_;refine uAi rfl rfl rfl rfl (uAO rfl rfl gU gU (by first | omega | (simp only [List.length_append,List.length_cons,List.length_nil]; omega))) ?_;refine uAi rfl rfl rfl rfl (uAO rfl rfl gU gU (by first | omega | (simp only [List.length_append,List.length_cons,List.length_nil]; omega))) ?_;refine uAi rfl rfl rfl rfl (uAg rfl gU rfl rfl) ?_;refine uA3 rfl rfl rfl rfl rfl rfl rfl gU rfl rfl rfl rfl ?_;refine uAi rfl rfl rfl rfl (uAO rfl rfl gU gU (by first | omega | (simp only [List.length_append,List.length_cons,List.length_nil]; omega))) ?_;refine uAi rfl rfl rfl rfl (uAO rfl rfl gU gU (by first | omega | (simp only [List.length_append,List.length_cons,List.length_nil]; omega))) ?_;refine uAi rfl rfl rfl rfl (uAg rfl gU rfl rfl) ?_;refine uAI rfl rfl rfl rfl rfl rfl rfl gU rfl rfl rfl rfl rfl ?_
     refine uAW rfl rfl rfl rfl rfl rfl rfl gU gU (uEf (n.steps.getD j default).msg (by have := s3.size; omega) s3.ok) rfl ?_;refine uAi rfl rfl rfl rfl (uAO rfl rfl gU gU (by first | omega | (simp only [List.length_append,List.length_cons,List.length_nil]; omega))) ?_;refine uAi rfl rfl rfl rfl (uAO rfl rfl gU gU (by first | omega | (simp only [List.length_append,List.length_cons,List.length_nil]; omega))) ?_;refine uCs (xs := [_]) rfl rfl rfl rfl rfl rfl rfl rfl rfl rfl gU rfl ?_;refine uCa rfl rfl rfl rfl rfl (rko (ak2 rfl (ak rfl (ak rfl (ak rfl (ak rfl (ak rfl (ak rfl (ak rfl (ak rfl (ak rfl (ak rfl (ak rfl (ak rfl (ak rfl (rfl)))))))))))))))) rfl rfl rfl rfl rfl (by first | omega | (simp only [List.length_append,List.length_singleton,uAh]; omega)) (by first | omega | (simp only [List.length_append,List.length_singleton,uAh]; omega)) ?_;refine uDy rfl (.inr rfl) rfl rfl rfl rfl rfl ?_;refine uA2 (by kernel_rfl) ?_;refine uAk (s := ⟨[(1,_,_),(5,_,_),(100,_,_),(101,_,_),(102,_,_)],[(.l 1,_)],[(.t 5,_)],[]⟩) (uAj (⟨sx rfl,sx rfl,sx rfl,sx rfl,sx rfl,trivial⟩) (⟨sx rfl,trivial⟩) (⟨rfl,trivial⟩)) ?_;refine uAb ?_;refine uAa rfl rfl rfl (uAz rfl rfl gU gU rfl (IntWalk.i64_in _ (by omega))) ?_;refine uAa rfl rfl rfl (uAc rfl gU) ?_;refine uAf ?_;refine ⟨j + 1,?_,?_,uAj (⟨⟨_,rfl,?_⟩,⟨⟨_,rfl,?_⟩,⟨sx rfl,sx rfl,sx rfl,trivial⟩⟩⟩) (⟨sx rfl,trivial⟩) (⟨rfl,trivial⟩)⟩
     all_goals first
      | rfl
      | omega
      | exact tx ((uCn _ _).trans (by rw [uHX n hlt]; simp [Itm.text,hMsg,arrow]))
    ·try simp only [nn,uAh,T.rows_len,Gl.rows_len,Fs.rows_len,Sp.rows_len] at hc5
     have hje : j=n.steps.length:=by omega
     subst hje
     refine uAQ ?_
     repeat (first | refine uAE ?_ | refine uAD ?_ | refine uAC rfl ?_)
     refine uAe ?_;refine uAe (uAb ?_);refine uAa rfl rfl rfl (uAg rfl gU rfl rfl) ?_;refine uAa rfl rfl rfl (uAl rfl gU rfl rfl rfl rfl) ?_;refine uAS rfl rfl rfl rfl rfl gU rfl rfl ?_ (fun hh=>by simp at hh); intro hlen;refine uAa rfl rfl rfl (uAc rfl gU) ?_;refine uAf ?_;refine uAk (s:=⟨[(5,_,_),(124,_,_),(125,_,_),(126,_,_)],[],[(.t 5,_)],[]⟩) (uAj (⟨sx rfl,sx rfl,sx rfl,sx rfl,trivial⟩) trivial (⟨rfl,trivial⟩)) ?_;refine uAx ?_;refine uA6 (ι:=Nat) { t:=[(124,_,_),(125,_,_)],bx:=[],ow:=[(.t 5,_)] } (fun k=>[(126,true,xi (k : Int)),(5,true,xss (n.rest n.steps.length k))]) (fun k=>[]) (fun k=>k≤n.goals.length) (fun k=>n.goals.length - k) (0) (by simp) (uAj (⟨sx rfl,sx rfl,sx rfl,sx rfl,trivial⟩) trivial (⟨rfl,trivial⟩)) ?_
     intro k hokk2
     dsimp only [List.cons_append,List.nil_append]
     have hm2:=uFt hok n.steps.length k
     refine uAe (uAb ?_);refine uAa rfl rfl rfl (uAm rfl rfl gU gU rfl) ?_;refine uAf ?_;refine uAe ?_;refine uAn rfl (fun hc6=>?_) (fun hc6=>?_)
     ·try simp only [nn,uAh,T.rows_len,Gl.rows_len,Fs.rows_len,Sp.rows_len] at hc6
      have hlt : k < n.goals.length:=by omega
      have hgk:=hok.goals _ (uCC (d:=default) hlt)
      have g1:=uF2 hgk
      have g2:=uHE (n.goals.getD k default)
      have g3 : (uHG (n.goals.getD k default)).length≤4600:=by
       rw [g2] at g1; simp only [List.length_append] at g1; omega
      refine uAq ?_;refine uAe ?_;refine uAx ?_;refine uAe (uAb ?_);refine uAa rfl rfl rfl (uAy rfl rfl gU gU rfl rfl rfl (fun hh=>Gl.rows_at (by first | omega | (simp at hh ⊢; omega)))) ?_;refine uAa rfl rfl rfl (uAP rfl gU rfl rfl rfl rfl) ?_;refine uAr rfl (uAG rfl rfl rfl) ?_;refine uAr rfl (uAt rfl rfl rfl rfl rfl rfl rfl) ?_;refine uAf ?_;refine uAb ?_;refine uAr rfl (uAL (.inl rfl) rfl rfl rfl) ?_;refine uAa rfl rfl rfl (uAo rfl gU rfl rfl rfl rfl rfl) ?_;refine uAw rfl rfl rfl rfl rfl rfl gU gU (uEY _ hgk) rfl ?_;refine uAa rfl rfl rfl (uAO rfl rfl gU gU (by first | omega | (simp only [List.length_append,List.length_cons,List.length_nil]; omega))) ?_;refine uAa rfl rfl rfl (uAO rfl rfl gU gU (by first | omega | (simp only [List.length_append,List.length_cons,List.length_nil]; omega))) ?_;refine uAH (xs:=[_]) rfl rfl rfl rfl rfl rfl rfl rfl rfl gU rfl ?_;refine uAr rfl (uA0 rfl rfl rfl rfl rfl rfl rfl (by first | omega | (simp only [List.length_append,List.length_singleton,uAh]; omega)) (by first | omega | (simp only [List.length_append,List.length_singleton,uAh]; omega))) ?_;refine uAr rfl (uAL (.inr rfl) rfl rfl rfl) ?_;refine uAf ?_;refine uAk (s:=⟨[(5,_,_),(124,_,_),(125,_,_),(126,_,_)],[],[(.t 5,_)],[]⟩) (uAj (⟨sx rfl,sx rfl,sx rfl,sx rfl,trivial⟩) trivial (⟨rfl,trivial⟩)) ?_
      refine uAb ?_;refine uAa rfl rfl rfl (uAz rfl rfl gU gU rfl (IntWalk.i64_in _ (by omega))) ?_;refine uAa rfl rfl rfl (uAc rfl gU) ?_;refine uAf ?_;refine ⟨k + 1,?_,?_,uAj (⟨⟨_,rfl,?_⟩,⟨⟨_,rfl,?_⟩,⟨sx rfl,sx rfl,trivial⟩⟩⟩) trivial (⟨rfl,trivial⟩)⟩
      all_goals first
       | rfl
       | omega
       | exact tx ((uCn _ _).trans (by rw [uIq n hlt,g2]; simp [hGoal]))
     ·try simp only [nn,uAh,T.rows_len,Gl.rows_len,Fs.rows_len,Sp.rows_len] at hc6
      have hke : k=n.goals.length:=by omega
      subst hke
      have hj1:=uJT n
      have hj2 : (Lib.join n.lines [10]).length≤60000:=by
       have := hok.text_len
       simp only [Nar.text,List.length_append] at this; omega
      have hj3 : X.v (.c (.sl 1 (strR (n.rest n.steps.length n.goals.length)++[[C.s [125]]])))=xss n.lines:=by rw [← hj1]; exact uCn _ _
      have hjn : Ctr sys 40 [.v (.c (.sl 1 (strR (n.rest n.steps.length n.goals.length)++[[C.s [125]]]))),xs [10]] [] (xs (Lib.join n.lines [10])) none []:=by
       rw [hj3]; exact uD0 n.lines [10] (by have := hok.lines_len; omega) (by decide) (by omega)
      refine uAQ ?_
      repeat (first | refine uAE ?_ | refine uAD ?_ | refine uAC rfl ?_)
      refine uAe (uAb ?_);refine uAr rfl (uAL (.inl rfl) rfl rfl rfl) ?_;refine uAH (xs:=[_]) rfl rfl rfl rfl rfl rfl rfl rfl rfl gU rfl ?_;refine uAr rfl (uA0 rfl rfl rfl rfl rfl rfl rfl (by first | omega | (simp only [List.length_append,List.length_singleton,uAh]; omega)) (by first | omega | (simp only [List.length_append,List.length_singleton,uAh]; omega))) ?_;refine uAw rfl rfl rfl rfl rfl rfl gU gU (hjn) rfl ?_;refine uAa rfl rfl rfl (uAO rfl rfl gU gU (by first | omega | (simp only [List.length_append,List.length_cons,List.length_nil]; omega))) ?_;refine uAa rfl rfl rfl (uAd rfl gU) ?_;refine uAa rfl rfl rfl (uAd rfl gU) ?_;refine uAf ?_;refine uAp ?_
      repeat (first | refine tR ?_ | refine bR ?_)
      refine uAv rfl ?_ trivial
      rfl
end Go.Proofs.YtnjjdbapadkomaaGreatDoor
namespace Go.Proofs.YtnjjdbapadkomaaGreatDoor
open Go Go.Abs
theorem uDi (s : List UInt8) : Ctr sys 53 [xs s] [] (xb (uAM s)) none []:=by rw [← uO4 s]; exact uKO s
theorem uMn : ∀ (n : Nat) (t : T),t.size≤n→n≤2000000→Ctr sys 122 [xm t] [] (xi (rawE uAM t)) none []:=by
 intro n
 induction n with
 | zero=>intro t h; have := t.size_pos; omega
 | succ n ih =>
  intro t ht hn
  have hse:=t.size_eq
  have hrl:=T.rows_len t.kids
  have hls:=T.len_sizes t.kids
  have he:=uLI uAM t
  rw [uFb] at he
  refine uAA Tryz.func122 rfl rfl rfl rfl rfl rfl ?_;refine uAe (uAb ?_);refine uAr rfl (uAX rfl rfl rfl rfl) ?_;refine uAa rfl rfl rfl (uAd rfl gU) ?_;refine uAf ?_;refine uAe ?_;refine uAe (uAb ?_);refine uAa rfl rfl rfl (uAg rfl gU rfl rfl) ?_;refine uAa rfl rfl rfl (uAl rfl gU rfl rfl rfl rfl) ?_;refine uAa rfl rfl rfl (uAm rfl rfl gU gU rfl) ?_;refine uAa rfl rfl rfl (uAc rfl gU) ?_;refine uAa rfl rfl rfl (uAg rfl gU rfl rfl) ?_;refine uAa rfl rfl rfl (uAl rfl (fun hh=>hh) rfl rfl rfl rfl) ?_;refine uAa rfl rfl rfl (uAm rfl rfl (fun hh=>hh) gU rfl) ?_;refine uAa rfl rfl rfl (uAJ rfl rfl gU (fun _ hi=>gP rfl hi)) ?_;refine uAf ?_;refine uAk (s:=⟨[(1,_,_),(12,_,_)],[(.l 1,_)],[],[]⟩) (uAj (⟨sx rfl,sx rfl,trivial⟩) (⟨sx rfl,trivial⟩) trivial) ?_;refine uAn rfl (fun hc=>?_) (fun hc=>?_)
  ·try simp only [nn,uAh,T.rows_len,Fs.rows_len,Sp.rows_len,Gl.rows_len] at hc
   refine uAe (uAb ?_);refine uAa rfl rfl rfl (uAd rfl gU) ?_;refine uAf ?_;refine uAp ?_
   repeat (first | refine tR ?_ | refine bR ?_)
   refine uAv rfl ?_ trivial
   (rw [he,if_pos (by grind)]; rfl)
  ·try simp only [nn,uAh,T.rows_len,Fs.rows_len,Sp.rows_len,Gl.rows_len] at hc
   rw [if_neg (by grind)] at he
   refine uAq ?_;refine uAe ?_;refine uAe (uAb ?_);refine uAa rfl rfl rfl (uAg rfl gU rfl rfl) ?_;refine uAa rfl rfl rfl (uAl rfl gU rfl rfl rfl rfl) ?_;refine uAw rfl rfl rfl rfl rfl rfl gU gU (uDi _) rfl ?_;refine uAa rfl rfl rfl (uAZ rfl gU) ?_;refine uAf ?_;refine uAn rfl (fun hc2=>?_) (fun hc2=>?_)
   ·try simp only [nn,uAh,T.rows_len,Fs.rows_len,Sp.rows_len,Gl.rows_len] at hc2
    refine uAe (uAb ?_);refine uAa rfl rfl rfl (uAd rfl gU) ?_;refine uAf ?_;refine uAp ?_
    repeat (first | refine tR ?_ | refine bR ?_)
    refine uAv rfl ?_ trivial
    (rw [he,if_pos hc2]; rfl)
   ·try simp only [nn,uAh,T.rows_len,Fs.rows_len,Sp.rows_len,Gl.rows_len] at hc2
    rw [if_neg (by rw [hc2]; simp)] at he
    refine uAq ?_;refine uAe ?_;refine uAe (uAb ?_);refine uAa rfl rfl rfl (uAd rfl gU) ?_;refine uAf ?_;refine uAk (s:=⟨[(1,_,_),(3,_,_)],[(.l 1,_)],[],[]⟩) (uAj (⟨sx rfl,sx rfl,trivial⟩) (⟨sx rfl,trivial⟩) trivial) ?_;refine uAx ?_;refine uA6 (ι:=Nat) { t:=[(1,_,_)],bx:=[(.l 1,_)],ow:=[] } (fun k=>[(3,true,xi (k : Int))]) (fun k=>[]) (fun k=>k≤t.kids.length∧errs (rawE uAM) (t.kids.drop k)=rawE uAM t) (fun k=>t.kids.length - k) (0) (⟨by simp,by rw [he]; rfl⟩) (uAj (⟨sx rfl,sx rfl,trivial⟩) (⟨sx rfl,trivial⟩) trivial) ?_
    intro k hok
    dsimp only [List.cons_append,List.nil_append]
    obtain ⟨hk,hi⟩:=hok
    refine uAe ?_;refine uAe (uAb ?_);refine uAa rfl rfl rfl (uAc rfl gU) ?_;refine uAa rfl rfl rfl (uAg rfl gU rfl rfl) ?_;refine uAa rfl rfl rfl (uAl rfl gU rfl rfl rfl rfl) ?_;refine uAS rfl rfl rfl rfl rfl gU rfl rfl ?_ (fun hh=>by simp at hh); intro hlen;refine uAa rfl rfl rfl (uAm rfl rfl gU gU rfl) ?_;refine uAf ?_;refine uAk (s:=⟨[(1,_,_),(3,_,_),(21,_,_)],[(.l 1,_)],[],[]⟩) (uAj (⟨sx rfl,sx rfl,sx rfl,trivial⟩) (⟨sx rfl,trivial⟩) trivial) ?_;refine uAn rfl (fun hc3=>?_) (fun hc3=>?_)
    ·try simp only [nn,uAh,T.rows_len,Fs.rows_len,Sp.rows_len,Gl.rows_len] at hc3
     have hlt : k < t.kids.length:=by omega
     have h2:=T.getD_size hlt
     have hd:=uCy (d:=default) hlt hi
     refine uAq ?_;refine uAe ?_;refine uAx ?_;refine uAe (uAb ?_);refine uAa rfl rfl rfl (uAg rfl gU rfl rfl) ?_;refine uAa rfl rfl rfl (uAl rfl gU rfl rfl rfl rfl) ?_;refine uAa rfl rfl rfl (uAc rfl gU) ?_;refine uAa rfl rfl rfl (uAy rfl rfl gU gU rfl rfl rfl (fun hh=>T.rows_at (by first | omega | (simp at hh ⊢; omega)))) ?_;refine uAa rfl rfl rfl (uAP rfl gU rfl rfl rfl rfl) ?_;refine uAw rfl rfl rfl rfl rfl rfl gU gU (ih (t.kids.getD k default) (by omega) (by omega)) rfl ?_;refine uAa rfl rfl rfl (uAd rfl gU) ?_;refine uAf ?_;refine uAk (s:=⟨[(1,_,_),(3,_,_),(4,_,_)],[(.l 1,_)],[],[]⟩) (uAj (⟨sx rfl,sx rfl,sx rfl,trivial⟩) (⟨sx rfl,trivial⟩) trivial) ?_;refine uAe (uAb ?_);refine uAa rfl rfl rfl (uAc rfl gU) ?_;refine uAa rfl rfl rfl (uAm rfl rfl gU gU rfl) ?_;refine uAf ?_;refine uAn rfl (fun hc1=>?_) (fun hc1=>?_)
     ·try simp only [nn,uAh,T.rows_len,Fs.rows_len,Sp.rows_len,Gl.rows_len] at hc1
      refine uAe (uAb ?_);refine uAa rfl rfl rfl (uAc rfl gU) ?_;refine uAa rfl rfl rfl (uAd rfl gU) ?_;refine uAf ?_;refine uAp ?_
      repeat (first | refine tR ?_ | refine bR ?_)
      refine uAv rfl ?_ trivial;exact uBj (hd.1 (by assumption)).symm
     ·try simp only [nn,uAh,T.rows_len,Fs.rows_len,Sp.rows_len,Gl.rows_len] at hc1
      refine uAq ?_;refine uAb ?_;refine uAa rfl rfl rfl (uAc rfl gU) ?_;refine uAa rfl rfl rfl (uAz rfl rfl gU gU rfl (IntWalk.i64_in _ (by omega))) ?_;refine uAa rfl rfl rfl (uAd rfl gU) ?_;refine uAf ?_;refine ⟨k + 1,?_,?_,uAj (⟨⟨_,rfl,?_⟩,⟨sx rfl,trivial⟩⟩) (⟨sx rfl,trivial⟩) trivial⟩
      all_goals (first | rfl | omega | exact ⟨by omega,hd.2 (by assumption)⟩)
    ·try simp only [nn,uAh,T.rows_len,Fs.rows_len,Sp.rows_len,Gl.rows_len] at hc3
     refine uAQ ?_
     repeat (first | refine uAE ?_ | refine uAD ?_ | refine uAC rfl ?_)
     refine uAe (uAb ?_);refine uAa rfl rfl rfl (uAd rfl gU) ?_;refine uAf ?_;refine uAp ?_
     repeat (first | refine tR ?_ | refine bR ?_)
     refine uAv rfl ?_ trivial;exact uBj (uDI (by omega) hi).symm
theorem uMl (t : T) (ht : t.size≤900000) : Ctr sys 70 [xm t] [] (xi (uDG uAM t)) none []:=by
 refine uAA Tryz.func70 rfl rfl rfl rfl rfl rfl ?_;refine uAe (uAb ?_);refine uAr rfl (uAX rfl rfl rfl rfl) ?_;refine uAa rfl rfl rfl (uAd rfl gU) ?_;refine uAf ?_;refine uAe ?_;refine uAe (uAb ?_);refine uAa rfl rfl rfl (uAo rfl gU rfl rfl rfl rfl rfl) ?_;refine uAw rfl rfl rfl rfl rfl rfl gU gU (uKP _ (by omega)) rfl ?_;refine uAa rfl rfl rfl (uAd rfl gU) ?_;refine uAf ?_;refine uAk (s:=⟨[(1,_,_),(3,_,_)],[(.l 1,_)],[],[]⟩) (uAj (⟨sx rfl,sx rfl,trivial⟩) (⟨sx rfl,trivial⟩) trivial) ?_;refine uAe (uAb ?_);refine uAa rfl rfl rfl (uAc rfl gU) ?_;refine uAa rfl rfl rfl (uAm rfl rfl gU gU rfl) ?_;refine uAf ?_;refine uAn rfl (fun hc=>?_) (fun hc=>?_)
 ·try simp only [nn,uAh,T.rows_len,Fs.rows_len,Sp.rows_len,Gl.rows_len] at hc
  refine uAe (uAb ?_);refine uAa rfl rfl rfl (uAc rfl gU) ?_;refine uAa rfl rfl rfl (uAd rfl gU) ?_;refine uAf ?_;refine uAp ?_
  repeat (first | refine tR ?_ | refine bR ?_)
  refine uAv rfl ?_ trivial
  (rw [uDG,if_pos hc]; rfl)
 ·try simp only [nn,uAh,T.rows_len,Fs.rows_len,Sp.rows_len,Gl.rows_len] at hc
  refine uAq ?_;refine uAe (uAb ?_);refine uAa rfl rfl rfl (uAo rfl gU rfl rfl rfl rfl rfl) ?_;refine uAw rfl rfl rfl rfl rfl rfl gU gU (uMn _ _ (Nat.le_refl _) (by omega)) rfl ?_;refine uAa rfl rfl rfl (uAd rfl gU) ?_;refine uAf ?_;refine uAp ?_
  repeat (first | refine tR ?_ | refine bR ?_)
  refine uAv rfl ?_ trivial
  (rw [uDG,if_neg (by simpa using hc)]; rfl)
theorem uE6 (t : T) (ht : t.size≤900000) : Ctr sys 56 [xm t] [] (xi (msgE uAM t)) none []:=by
 refine uAA Tryz.func56 rfl rfl rfl rfl rfl rfl ?_;refine uAe (uAb ?_);refine uAr rfl (uAX rfl rfl rfl rfl) ?_;refine uAa rfl rfl rfl (uAd rfl gU) ?_;refine uAf ?_;refine uAe ?_;refine uAe (uAb ?_);refine uAa rfl rfl rfl (uAo rfl gU rfl rfl rfl rfl rfl) ?_;refine uAw rfl rfl rfl rfl rfl rfl gU gU (uMl _ (by omega)) rfl ?_;refine uAa rfl rfl rfl (uAd rfl gU) ?_;refine uAf ?_;refine uAk (s:=⟨[(1,_,_),(3,_,_)],[(.l 1,_)],[],[]⟩) (uAj (⟨sx rfl,sx rfl,trivial⟩) (⟨sx rfl,trivial⟩) trivial) ?_;refine uAe (uAb ?_);refine uAa rfl rfl rfl (uAc rfl gU) ?_;refine uAa rfl rfl rfl (uAm rfl rfl gU gU rfl) ?_;refine uAf ?_;refine uAn rfl (fun hc=>?_) (fun hc=>?_)
 ·try simp only [nn,uAh,T.rows_len,Fs.rows_len,Sp.rows_len,Gl.rows_len] at hc
  refine uAe (uAb ?_);refine uAa rfl rfl rfl (uAc rfl gU) ?_;refine uAa rfl rfl rfl (uAd rfl gU) ?_;refine uAf ?_;refine uAp ?_
  repeat (first | refine tR ?_ | refine bR ?_)
  refine uAv rfl ?_ trivial
  (rw [msgE,if_pos hc]; rfl)
 ·try simp only [nn,uAh,T.rows_len,Fs.rows_len,Sp.rows_len,Gl.rows_len] at hc
  refine uAq ?_;refine uAe ?_;refine uAe (uAb ?_);refine uAa rfl rfl rfl (uAo rfl gU rfl rfl rfl rfl rfl) ?_;refine uAw rfl rfl rfl rfl rfl rfl gU gU (uEN _ _ (Nat.le_refl _) (by omega)) rfl ?_;refine uAa rfl rfl rfl (uAm rfl rfl gU gU rfl) ?_;refine uAf ?_;refine uAk (s:=⟨[(11,_,_)],[],[],[]⟩) (uAj (⟨sx rfl,trivial⟩) trivial trivial) ?_;refine uAn rfl (fun hc2=>?_) (fun hc2=>?_)
  ·try simp only [nn,uAh,T.rows_len,Fs.rows_len,Sp.rows_len,Gl.rows_len] at hc2
   refine uAe (uAb ?_);refine uAa rfl rfl rfl (uAd rfl gU) ?_;refine uAf ?_;refine uAp ?_
   repeat (first | refine tR ?_ | refine bR ?_)
   refine uAv rfl ?_ trivial
   (rw [msgE,if_neg (by simpa using hc),if_pos (by omega)]; rfl)
  ·try simp only [nn,uAh,T.rows_len,Fs.rows_len,Sp.rows_len,Gl.rows_len] at hc2
   refine uAq ?_;refine uAe (uAb ?_);refine uAa rfl rfl rfl (uAd rfl gU) ?_;refine uAf ?_;refine uAp ?_
   repeat (first | refine tR ?_ | refine bR ?_)
   refine uAv rfl ?_ trivial
   (rw [msgE,if_neg (by simpa using hc),if_neg (by omega)]; rfl)
theorem uCP (g : Gl) : Ctr sys 101 [xg g] [] (xb (uBE g.kind)) none []:=by
 refine uAA Tryz.func101 rfl rfl rfl rfl rfl rfl ?_;refine uAe (uAb ?_);refine uAr rfl (uAX rfl rfl rfl rfl) ?_;refine uAa rfl rfl rfl (uAd rfl gU) ?_;refine uAf ?_;refine uAe (uAb ?_);refine uAa rfl rfl rfl (uAg rfl gU rfl rfl) ?_;refine uAa rfl rfl rfl (uAl rfl gU rfl rfl rfl rfl) ?_;refine uAa rfl rfl rfl (uAm rfl rfl gU gU rfl) ?_;refine uAa rfl rfl rfl (uAc rfl gU) ?_;refine uAa rfl rfl rfl (uAg rfl gU rfl rfl) ?_;refine uAa rfl rfl rfl (uAl rfl (fun hh=>hh) rfl rfl rfl rfl) ?_;refine uAa rfl rfl rfl (uAm rfl rfl (fun hh=>hh) gU rfl) ?_;refine uAa rfl rfl rfl (uAJ rfl rfl gU (fun _ hi=>gP rfl hi)) ?_;refine uAa rfl rfl rfl (uAd rfl gU) ?_;refine uAf ?_;refine uAp ?_
 repeat (first | refine tR ?_ | refine bR ?_)
 refine uAv rfl ?_ trivial
 rfl
theorem uM9 {f : List UInt8→Bool} {l : List (List UInt8)} {k : Nat} {e : Bool} (h : k < l.length) (hi : (l.drop k).all f=e) : (f (l.getD k [])=false→e=false)∧(f (l.getD k [])=true→(l.drop (k + 1)).all f=e):=by
 rw [uG0 (d:=[]) h,List.all_cons] at hi
 refine ⟨fun q=>?_,fun q=>?_⟩
 ·rw [q] at hi; exact hi.symm
 ·rw [q] at hi; exact hi
theorem uDO (l : List (List UInt8)) : Ctr sys 55 [xss l] [] (xb (l.all uAM)) none []:=by
 have hrl:=uAh l
 refine uAA Tryz.func55 rfl rfl rfl rfl rfl rfl ?_;refine uAe (uAb ?_);refine uAa rfl rfl rfl (uAd rfl gU) ?_;refine uAf ?_;refine uAe ?_;refine uAe (uAb ?_);refine uAa rfl rfl rfl (uAd rfl gU) ?_;refine uAf ?_;refine uAx ?_;refine uA6 (ι:=Nat) { t:=[(0,_,_)],bx:=[],ow:=[] } (fun k=>[(3,true,xi (k : Int))]) (fun k=>[]) (fun k=>k≤l.length∧(l.drop k).all uAM=l.all uAM) (fun k=>l.length - k) (0) (⟨by simp,rfl⟩) (uAj (⟨sx rfl,sx rfl,trivial⟩) trivial trivial) ?_
 intro k hok
 dsimp only [List.cons_append,List.nil_append]
 obtain ⟨hk,hi⟩:=hok
 refine uAe ?_;refine uAe (uAb ?_);refine uAa rfl rfl rfl (uAc rfl gU) ?_;refine uAa rfl rfl rfl (uAc rfl gU) ?_;refine uAS rfl rfl rfl rfl rfl gU rfl rfl ?_ (fun hh=>by simp at hh); intro hlen;refine uAa rfl rfl rfl (uAm rfl rfl gU gU rfl) ?_;refine uAf ?_;refine uAn rfl (fun hc=>?_) (fun hc=>?_)
 ·try simp only [nn,uAh,T.rows_len,Fs.rows_len,Sp.rows_len,Gl.rows_len] at hc
  have hlt : k < l.length:=by omega
  have hd:=uM9 hlt hi
  refine uAq ?_;refine uAe ?_;refine uAx ?_;refine uAe (uAb ?_);refine uAa rfl rfl rfl (uAc rfl gU) ?_;refine uAa rfl rfl rfl (uAc rfl gU) ?_;refine uAa rfl rfl rfl (uAy rfl rfl gU gU rfl rfl rfl (fun hh=>uC3 (by first | omega | (simp at hh ⊢; omega)))) ?_;refine uAa rfl rfl rfl (uAR rfl gU rfl rfl rfl) ?_;refine uAw rfl rfl rfl rfl rfl rfl gU gU (uDi _) rfl ?_;refine uAa rfl rfl rfl (uAZ rfl gU) ?_;refine uAf ?_;refine uAk (s:=⟨[(0,_,_),(3,_,_),(15,_,_)],[],[],[]⟩) (uAj (⟨sx rfl,sx rfl,sx rfl,trivial⟩) trivial trivial) ?_;refine uAn rfl (fun hc1=>?_) (fun hc1=>?_)
  ·try simp only [nn,uAh,T.rows_len,Fs.rows_len,Sp.rows_len,Gl.rows_len] at hc1
   refine uAe (uAb ?_);refine uAa rfl rfl rfl (uAd rfl gU) ?_;refine uAf ?_;refine uAp ?_
   repeat (first | refine tR ?_ | refine bR ?_)
   refine uAv rfl ?_ trivial;exact uCG (hd.1 (by assumption)).symm
  ·try simp only [nn,uAh,T.rows_len,Fs.rows_len,Sp.rows_len,Gl.rows_len] at hc1
   refine uAq ?_;refine uAb ?_;refine uAa rfl rfl rfl (uAc rfl gU) ?_;refine uAa rfl rfl rfl (uAz rfl rfl gU gU rfl (IntWalk.i64_in _ (by omega))) ?_;refine uAa rfl rfl rfl (uAd rfl gU) ?_;refine uAf ?_;refine ⟨k + 1,?_,?_,uAj (⟨⟨_,rfl,?_⟩,⟨sx rfl,trivial⟩⟩) trivial trivial⟩
   all_goals (first | rfl | omega | exact ⟨by omega,hd.2 (by assumption)⟩)
 ·try simp only [nn,uAh,T.rows_len,Fs.rows_len,Sp.rows_len,Gl.rows_len] at hc
  rw [List.drop_of_length_le (by omega)] at hi
  refine uAQ ?_
  repeat (first | refine uAE ?_ | refine uAD ?_ | refine uAC rfl ?_)
  refine uAe (uAb ?_);refine uAa rfl rfl rfl (uAd rfl gU) ?_;refine uAf ?_;refine uAp ?_
  repeat (first | refine tR ?_ | refine bR ?_)
  refine uAv rfl ?_ trivial;exact uCG hi
theorem uIR (n : Nar) : Ctr sys 54 [xn n] [] (xi (cntE n)) none []:=by
 have hr1:=uAh n.roles
 have hr2:=Fs.rows_len n.fresh
 have hr3:=uAh n.tags
 have hr4:=Sp.rows_len n.steps
 have hr5:=Gl.rows_len n.goals
 refine uAA Tryz.func54 rfl rfl rfl rfl rfl rfl ?_;refine uAe (uAb ?_);refine uAr rfl (uAX rfl rfl rfl rfl) ?_;refine uAa rfl rfl rfl (uAd rfl gU) ?_;refine uAf ?_;refine uAe ?_;refine uAe (uAb ?_);refine uAa rfl rfl rfl (uAg rfl gU rfl rfl) ?_;refine uAa rfl rfl rfl (uAl rfl gU rfl rfl rfl rfl) ?_;refine uAS rfl rfl rfl rfl rfl gU rfl rfl ?_ (fun hh=>by simp at hh); intro hlen;refine uAa rfl rfl rfl (uAm rfl rfl gU gU rfl) ?_;refine uAf ?_;refine uAk (s:=⟨[(1,_,_),(6,_,_)],[(.l 1,_)],[],[]⟩) (uAj (⟨sx rfl,sx rfl,trivial⟩) (⟨sx rfl,trivial⟩) trivial) ?_;refine uAn rfl (fun hc1=>?_) (fun hc1=>?_)
 ·try simp only [nn,uAh,T.rows_len,Fs.rows_len,Sp.rows_len,Gl.rows_len] at hc1
  refine uAe (uAb ?_);refine uAa rfl rfl rfl (uAd rfl gU) ?_;refine uAf ?_;refine uAp ?_
  repeat (first | refine tR ?_ | refine bR ?_)
  refine uAv rfl ?_ trivial
  (refine uBj ?_; unfold cntE; (repeat' split) <;> omega)
 ·try simp only [nn,uAh,T.rows_len,Fs.rows_len,Sp.rows_len,Gl.rows_len] at hc1
  refine uAq ?_;refine uAe ?_;refine uAe (uAb ?_);refine uAa rfl rfl rfl (uAg rfl gU rfl rfl) ?_;refine uAa rfl rfl rfl (uAl rfl gU rfl rfl rfl rfl) ?_;refine uAS rfl rfl rfl rfl rfl gU rfl rfl ?_ (fun hh=>by simp at hh); intro hlen;refine uAa rfl rfl rfl (uAm rfl rfl gU gU rfl) ?_;refine uAa rfl rfl rfl (uAc rfl gU) ?_;refine uAa rfl rfl rfl (uAg rfl gU rfl rfl) ?_;refine uAa rfl rfl rfl (uAl rfl (fun hh=>hh) rfl rfl rfl rfl) ?_;refine uAa rfl rfl rfl (uBa rfl (fun hh=>hh) rfl rfl) ?_;refine uAa rfl rfl rfl (uAm rfl rfl (fun hh=>hh) gU rfl) ?_;refine uAa rfl rfl rfl (uAJ rfl rfl gU (fun _ hi=>gP rfl hi)) ?_;refine uAa rfl rfl rfl (uAc rfl gU) ?_;refine uAa rfl rfl rfl (uAg rfl gU rfl rfl) ?_;refine uBq (s:=⟨[(1,_,_),(17,_,_),(18,_,_)],[(.l 1,_)],[],[]⟩) (uAj (⟨sx rfl,sx rfl,sx rfl,trivial⟩) (⟨sx rfl,trivial⟩) trivial) ?_;refine uAa rfl rfl rfl (uAl rfl (fun hh=>hh) rfl rfl rfl rfl) ?_;refine uAa rfl rfl rfl (uBa rfl (fun hh=>hh) rfl rfl) ?_;refine uAa rfl rfl rfl (uAm rfl rfl (fun hh=>hh) gU rfl) ?_;refine uAa rfl rfl rfl (uAJ rfl rfl gU (fun _ hi=>gP rfl hi)) ?_;refine uAf ?_;refine uAn rfl (fun hc2=>?_) (fun hc2=>?_)
  ·try simp only [nn,uAh,T.rows_len,Fs.rows_len,Sp.rows_len,Gl.rows_len] at hc2
   refine uAe (uAb ?_);refine uAa rfl rfl rfl (uAd rfl gU) ?_;refine uAf ?_;refine uAp ?_
   repeat (first | refine tR ?_ | refine bR ?_)
   refine uAv rfl ?_ trivial
   (refine uBj ?_; unfold cntE; (repeat' split) <;> omega)
  ·try simp only [nn,uAh,T.rows_len,Fs.rows_len,Sp.rows_len,Gl.rows_len] at hc2
   refine uAq ?_;refine uAe ?_;refine uAe (uAb ?_);refine uAa rfl rfl rfl (uAg rfl gU rfl rfl) ?_;refine uAa rfl rfl rfl (uAl rfl gU rfl rfl rfl rfl) ?_;refine uAS rfl rfl rfl rfl rfl gU rfl rfl ?_ (fun hh=>by simp at hh); intro hlen;refine uAa rfl rfl rfl (uAm rfl rfl gU gU rfl) ?_;refine uAf ?_;refine uAk (s:=⟨[(1,_,_),(26,_,_)],[(.l 1,_)],[],[]⟩) (uAj (⟨sx rfl,sx rfl,trivial⟩) (⟨sx rfl,trivial⟩) trivial) ?_;refine uAn rfl (fun hc3=>?_) (fun hc3=>?_)
   ·try simp only [nn,uAh,T.rows_len,Fs.rows_len,Sp.rows_len,Gl.rows_len] at hc3
    refine uAe (uAb ?_);refine uAa rfl rfl rfl (uAd rfl gU) ?_;refine uAf ?_;refine uAp ?_
    repeat (first | refine tR ?_ | refine bR ?_)
    refine uAv rfl ?_ trivial
    (refine uBj ?_; unfold cntE; (repeat' split) <;> omega)
   ·try simp only [nn,uAh,T.rows_len,Fs.rows_len,Sp.rows_len,Gl.rows_len] at hc3
    refine uAq ?_;refine uAe ?_;refine uAe (uAb ?_);refine uAa rfl rfl rfl (uAg rfl gU rfl rfl) ?_;refine uAa rfl rfl rfl (uAl rfl gU rfl rfl rfl rfl) ?_;refine uAS rfl rfl rfl rfl rfl gU rfl rfl ?_ (fun hh=>by simp at hh); intro hlen;refine uAa rfl rfl rfl (uAm rfl rfl gU gU rfl) ?_;refine uAa rfl rfl rfl (uAc rfl gU) ?_;refine uAa rfl rfl rfl (uAg rfl gU rfl rfl) ?_;refine uAa rfl rfl rfl (uAl rfl (fun hh=>hh) rfl rfl rfl rfl) ?_;refine uAa rfl rfl rfl (uBa rfl (fun hh=>hh) rfl rfl) ?_;refine uAa rfl rfl rfl (uAm rfl rfl (fun hh=>hh) gU rfl) ?_;refine uAa rfl rfl rfl (uAJ rfl rfl gU (fun _ hi=>gP rfl hi)) ?_;refine uAf ?_;refine uAk (s:=⟨[(36,_,_)],[],[],[]⟩) (uAj (⟨sx rfl,trivial⟩) trivial trivial) ?_;refine uAn rfl (fun hc4=>?_) (fun hc4=>?_)
    ·try simp only [nn,uAh,T.rows_len,Fs.rows_len,Sp.rows_len,Gl.rows_len] at hc4
     refine uAe (uAb ?_);refine uAa rfl rfl rfl (uAd rfl gU) ?_;refine uAf ?_;refine uAp ?_
     repeat (first | refine tR ?_ | refine bR ?_)
     refine uAv rfl ?_ trivial
     (refine uBj ?_; unfold cntE; (repeat' split) <;> omega)
    ·try simp only [nn,uAh,T.rows_len,Fs.rows_len,Sp.rows_len,Gl.rows_len] at hc4
     refine uAq ?_;refine uAe (uAb ?_);refine uAa rfl rfl rfl (uAd rfl gU) ?_;refine uAf ?_;refine uAp ?_
     repeat (first | refine tR ?_ | refine bR ?_)
     refine uAv rfl ?_ trivial
     (refine uBj ?_; unfold cntE; (repeat' split) <;> omega)
theorem uKN (g : Gl) (hg : T.sizes g.data≤900000) : Ctr sys 57 [xg g] [] (xi (uCr uAM g)) none []:=by
 have hls:=T.len_sizes g.data
 have hrl:=T.rows_len g.data
 refine uAA Tryz.func57 rfl rfl rfl rfl rfl rfl ?_;refine uAe (uAb ?_);refine uAr rfl (uAX rfl rfl rfl rfl) ?_;refine uAa rfl rfl rfl (uAd rfl gU) ?_;refine uAf ?_;refine uAe ?_;refine uAe (uAb ?_);refine uAa rfl rfl rfl (uAg rfl gU rfl rfl) ?_;refine uAa rfl rfl rfl (uAl rfl gU rfl rfl rfl rfl) ?_;refine uAa rfl rfl rfl (uAm rfl rfl gU gU rfl) ?_;refine uAa rfl rfl rfl (uAc rfl gU) ?_;refine uAa rfl rfl rfl (uAg rfl gU rfl rfl) ?_;refine uAa rfl rfl rfl (uAl rfl (fun hh=>hh) rfl rfl rfl rfl) ?_;refine uAa rfl rfl rfl (uAm rfl rfl (fun hh=>hh) gU rfl) ?_;refine uAa rfl rfl rfl (uAJ rfl rfl gU (fun _ hi=>gP rfl hi)) ?_;refine uAf ?_;refine uAk (s:=⟨[(1,_,_),(12,_,_)],[(.l 1,_)],[],[]⟩) (uAj (⟨sx rfl,sx rfl,trivial⟩) (⟨sx rfl,trivial⟩) trivial) ?_;refine uAn rfl (fun hc=>?_) (fun hc=>?_)
 ·try simp only [nn,uAh,T.rows_len,Fs.rows_len,Sp.rows_len,Gl.rows_len] at hc
  refine uAe (uAb ?_);refine uAa rfl rfl rfl (uAd rfl gU) ?_;refine uAf ?_;refine uAp ?_
  repeat (first | refine tR ?_ | refine bR ?_)
  refine uAv rfl ?_ trivial
  (rw [uCr,if_pos (by grind)]; rfl)
 ·try simp only [nn,uAh,T.rows_len,Fs.rows_len,Sp.rows_len,Gl.rows_len] at hc
  refine uAq ?_;refine uAe ?_;refine uAe (uAb ?_);refine uAa rfl rfl rfl (uAg rfl gU rfl rfl) ?_;refine uAa rfl rfl rfl (uAl rfl gU rfl rfl rfl rfl) ?_;refine uAw rfl rfl rfl rfl rfl rfl gU gU (uDi _) rfl ?_;refine uAa rfl rfl rfl (uAZ rfl gU) ?_;refine uAa rfl rfl rfl (uAc rfl gU) ?_;refine uAa rfl rfl rfl (uAo rfl gU rfl rfl rfl rfl rfl) ?_;refine uAw rfl rfl rfl rfl rfl rfl gU (fun hh=>gA ((fun hh=>hh) hh) (rfl)) (uCP _) rfl ?_;refine uAa rfl rfl rfl (uAc rfl (fun hh=>hh)) ?_;refine uAa rfl rfl rfl (uAg rfl gU rfl rfl) ?_;refine uAa rfl rfl rfl (uAl rfl (fun hh=>hh) rfl rfl rfl rfl) ?_;refine uAw rfl rfl rfl rfl rfl rfl gU (fun hh=>gA ((fun hh=>hh) hh) (rfl)) (uDi _) rfl ?_;refine uAa rfl rfl rfl (uAZ rfl (fun hh=>hh)) ?_;refine uBq (s:=⟨[(1,_,_),(17,_,_),(20,_,_),(24,_,_)],[(.l 1,_)],[],[]⟩) (uAj (⟨sx rfl,sx rfl,sx rfl,sx rfl,trivial⟩) (⟨sx rfl,trivial⟩) trivial) ?_;refine uAa rfl rfl rfl (uAV rfl rfl (fun hh=>hh) (fun hh hi=>gP hh hi)) ?_;refine uAa rfl rfl rfl (uAJ rfl rfl gU (fun _ hi=>gP rfl hi)) ?_;refine uAf ?_;refine uAn rfl (fun hc2=>?_) (fun hc2=>?_)
  ·try simp only [nn,uAh,T.rows_len,Fs.rows_len,Sp.rows_len,Gl.rows_len] at hc2
   refine uAe (uAb ?_);refine uAa rfl rfl rfl (uAd rfl gU) ?_;refine uAf ?_;refine uAp ?_
   repeat (first | refine tR ?_ | refine bR ?_)
   refine uAv rfl ?_ trivial
   (rw [uCr,if_neg (by omega),if_pos (by grind)]; rfl)
  ·try simp only [nn,uAh,T.rows_len,Fs.rows_len,Sp.rows_len,Gl.rows_len] at hc2
   refine uAq ?_;refine uAe ?_;refine uAe (uAb ?_);refine uAa rfl rfl rfl (uAo rfl gU rfl rfl rfl rfl rfl) ?_;refine uAw rfl rfl rfl rfl rfl rfl gU gU (uCP _) rfl ?_;refine uAa rfl rfl rfl (uAZ rfl gU) ?_;refine uAa rfl rfl rfl (uAc rfl gU) ?_;refine uAa rfl rfl rfl (uAg rfl gU rfl rfl) ?_;refine uAa rfl rfl rfl (uAl rfl (fun hh=>hh) rfl rfl rfl rfl) ?_;refine uAa rfl rfl rfl (uA9 rfl rfl (fun hh=>hh) gU rfl) ?_;refine uAa rfl rfl rfl (uAV rfl rfl gU (fun _ hi=>gP rfl hi)) ?_;refine uAf ?_;refine uAk (s:=⟨[(1,_,_),(34,_,_)],[(.l 1,_)],[],[]⟩) (uAj (⟨sx rfl,sx rfl,trivial⟩) (⟨sx rfl,trivial⟩) trivial) ?_;refine uAn rfl (fun hc3=>?_) (fun hc3=>?_)
   ·try simp only [nn,uAh,T.rows_len,Fs.rows_len,Sp.rows_len,Gl.rows_len] at hc3
    refine uAe (uAb ?_);refine uAa rfl rfl rfl (uAd rfl gU) ?_;refine uAf ?_;refine uAp ?_
    repeat (first | refine tR ?_ | refine bR ?_)
    refine uAv rfl ?_ trivial
    (rw [uCr,if_neg (by omega),if_neg (by grind),if_pos (by grind)]; rfl)
   ·try simp only [nn,uAh,T.rows_len,Fs.rows_len,Sp.rows_len,Gl.rows_len] at hc3
    refine uAq ?_;refine uAe ?_;refine uAe (uAb ?_);refine uAa rfl rfl rfl (uAg rfl gU rfl rfl) ?_;refine uAa rfl rfl rfl (uAl rfl gU rfl rfl rfl rfl) ?_;refine uAS rfl rfl rfl rfl rfl gU rfl rfl ?_ (fun hh=>by simp at hh); intro hlen;refine uAa rfl rfl rfl (uAm rfl rfl gU gU rfl) ?_;refine uAa rfl rfl rfl (uAc rfl gU) ?_;refine uAa rfl rfl rfl (uAg rfl gU rfl rfl) ?_;refine uAa rfl rfl rfl (uAl rfl (fun hh=>hh) rfl rfl rfl rfl) ?_;refine uAa rfl rfl rfl (uBa rfl (fun hh=>hh) rfl rfl) ?_;refine uAa rfl rfl rfl (uAm rfl rfl (fun hh=>hh) gU rfl) ?_;refine uAa rfl rfl rfl (uAJ rfl rfl gU (fun _ hi=>gP rfl hi)) ?_;refine uAa rfl rfl rfl (uAc rfl gU) ?_;refine uAa rfl rfl rfl (uAo rfl gU rfl rfl rfl rfl rfl) ?_;refine uBq (s:=⟨[(1,_,_),(45,_,_),(46,_,_)],[(.l 1,_)],[],[]⟩) (uAj (⟨sx rfl,sx rfl,sx rfl,trivial⟩) (⟨sx rfl,trivial⟩) trivial) ?_;refine uAw rfl rfl rfl rfl rfl rfl gU (fun hh=>gA ((fun hh=>hh) hh) (rfl)) (uCP _) rfl ?_;refine uAa rfl rfl rfl (uAZ rfl (fun hh=>hh)) ?_;refine uAa rfl rfl rfl (uAc rfl (fun hh=>hh)) ?_;refine uAa rfl rfl rfl (uAg rfl gU rfl rfl) ?_;refine uAa rfl rfl rfl (uAl rfl (fun hh=>hh) rfl rfl rfl rfl) ?_;refine uAa rfl rfl rfl (uBa rfl (fun hh=>hh) rfl rfl) ?_;refine uAa rfl rfl rfl (uAm rfl rfl (fun hh=>hh) gU rfl) ?_
    refine uAa rfl rfl rfl (uAV rfl rfl (fun hh=>hh) (fun hh hi=>gP hh hi)) ?_;refine uAa rfl rfl rfl (uAJ rfl rfl gU (fun _ hi=>gP rfl hi)) ?_;refine uAf ?_;refine uAk (s:=⟨[(1,_,_),(55,_,_)],[(.l 1,_)],[],[]⟩) (uAj (⟨sx rfl,sx rfl,trivial⟩) (⟨sx rfl,trivial⟩) trivial) ?_;refine uAn rfl (fun hc4=>?_) (fun hc4=>?_)
    ·try simp only [nn,uAh,T.rows_len,Fs.rows_len,Sp.rows_len,Gl.rows_len] at hc4
     refine uAe (uAb ?_);refine uAa rfl rfl rfl (uAd rfl gU) ?_;refine uAf ?_;refine uAp ?_
     repeat (first | refine tR ?_ | refine bR ?_)
     refine uAv rfl ?_ trivial
     (rw [uCr,if_neg (by omega),if_neg (by grind),if_neg (by grind),if_pos (by cases ha : uBE g.kind <;> simp only [ha,Bool.true_eq_false,Bool.false_eq_true,false_and,true_and,and_true,or_false,false_or,not_true_eq_false,not_false_eq_true,ne_eq,reduceCtorEq,and_false] at hc4 ⊢ <;> omega)]; rfl)
    ·try simp only [nn,uAh,T.rows_len,Fs.rows_len,Sp.rows_len,Gl.rows_len] at hc4
     have he : uCr uAM g=errs (msgE uAM) g.data:=by
      rw [uCr,if_neg (by omega),if_neg (by grind),if_neg (by grind),if_neg (by cases ha : uBE g.kind <;> simp only [ha,Bool.true_eq_false,Bool.false_eq_true,false_and,true_and,and_true,or_false,false_or,not_true_eq_false,not_false_eq_true,ne_eq,reduceCtorEq,and_false] at hc4 ⊢ <;> omega)]
     refine uAq ?_;refine uAe ?_;refine uAe (uAb ?_);refine uAa rfl rfl rfl (uAd rfl gU) ?_;refine uAf ?_;refine uAx ?_;refine uA6 (ι:=Nat) { t:=[(1,_,_)],bx:=[(.l 1,_)],ow:=[] } (fun k=>[(3,true,xi (k : Int))]) (fun k=>[]) (fun k=>k≤g.data.length∧errs (msgE uAM) (g.data.drop k)=uCr uAM g) (fun k=>g.data.length - k) (0) (⟨by simp,by rw [he]; rfl⟩) (uAj (⟨sx rfl,sx rfl,trivial⟩) (⟨sx rfl,trivial⟩) trivial) ?_
     intro k hok
     dsimp only [List.cons_append,List.nil_append]
     obtain ⟨hk,hi⟩:=hok
     refine uAe ?_;refine uAe (uAb ?_);refine uAa rfl rfl rfl (uAc rfl gU) ?_;refine uAa rfl rfl rfl (uAg rfl gU rfl rfl) ?_;refine uAa rfl rfl rfl (uAl rfl gU rfl rfl rfl rfl) ?_;refine uAS rfl rfl rfl rfl rfl gU rfl rfl ?_ (fun hh=>by simp at hh); intro hlen;refine uAa rfl rfl rfl (uAm rfl rfl gU gU rfl) ?_;refine uAf ?_;refine uAk (s:=⟨[(1,_,_),(3,_,_),(60,_,_)],[(.l 1,_)],[],[]⟩) (uAj (⟨sx rfl,sx rfl,sx rfl,trivial⟩) (⟨sx rfl,trivial⟩) trivial) ?_;refine uAn rfl (fun hc5=>?_) (fun hc5=>?_)
     ·try simp only [nn,uAh,T.rows_len,Fs.rows_len,Sp.rows_len,Gl.rows_len] at hc5
      have hlt : k < g.data.length:=by omega
      have h2:=T.getD_size hlt
      have hd:=uCy (d:=default) hlt hi
      refine uAq ?_;refine uAe ?_;refine uAx ?_;refine uAe (uAb ?_);refine uAa rfl rfl rfl (uAg rfl gU rfl rfl) ?_;refine uAa rfl rfl rfl (uAl rfl gU rfl rfl rfl rfl) ?_;refine uAa rfl rfl rfl (uAc rfl gU) ?_;refine uAa rfl rfl rfl (uAy rfl rfl gU gU rfl rfl rfl (fun hh=>T.rows_at (by first | omega | (simp at hh ⊢; omega)))) ?_;refine uAa rfl rfl rfl (uAP rfl gU rfl rfl rfl rfl) ?_;refine uAw rfl rfl rfl rfl rfl rfl gU gU (uE6 _ (by omega)) rfl ?_;refine uAa rfl rfl rfl (uAd rfl gU) ?_;refine uAf ?_;refine uAk (s:=⟨[(1,_,_),(3,_,_),(4,_,_)],[(.l 1,_)],[],[]⟩) (uAj (⟨sx rfl,sx rfl,sx rfl,trivial⟩) (⟨sx rfl,trivial⟩) trivial) ?_;refine uAe (uAb ?_);refine uAa rfl rfl rfl (uAc rfl gU) ?_;refine uAa rfl rfl rfl (uAm rfl rfl gU gU rfl) ?_;refine uAf ?_;refine uAn rfl (fun hc1=>?_) (fun hc1=>?_)
      ·try simp only [nn,uAh,T.rows_len,Fs.rows_len,Sp.rows_len,Gl.rows_len] at hc1
       refine uAe (uAb ?_);refine uAa rfl rfl rfl (uAc rfl gU) ?_;refine uAa rfl rfl rfl (uAd rfl gU) ?_;refine uAf ?_;refine uAp ?_
       repeat (first | refine tR ?_ | refine bR ?_)
       refine uAv rfl ?_ trivial;exact uBj (hd.1 (by assumption)).symm
      ·try simp only [nn,uAh,T.rows_len,Fs.rows_len,Sp.rows_len,Gl.rows_len] at hc1
       refine uAq ?_;refine uAb ?_;refine uAa rfl rfl rfl (uAc rfl gU) ?_;refine uAa rfl rfl rfl (uAz rfl rfl gU gU rfl (IntWalk.i64_in _ (by omega))) ?_;refine uAa rfl rfl rfl (uAd rfl gU) ?_;refine uAf ?_;refine ⟨k + 1,?_,?_,uAj (⟨⟨_,rfl,?_⟩,⟨sx rfl,trivial⟩⟩) (⟨sx rfl,trivial⟩) trivial⟩
       all_goals (first | rfl | omega | exact ⟨by omega,hd.2 (by assumption)⟩)
     ·try simp only [nn,uAh,T.rows_len,Fs.rows_len,Sp.rows_len,Gl.rows_len] at hc5
      refine uAQ ?_
      repeat (first | refine uAE ?_ | refine uAD ?_ | refine uAC rfl ?_)
      refine uAe (uAb ?_);refine uAa rfl rfl rfl (uAd rfl gU) ?_;refine uAf ?_;refine uAp ?_
      repeat (first | refine tR ?_ | refine bR ?_)
      refine uAv rfl ?_ trivial;exact uBj (uDI (by omega) hi).symm
theorem uHk {α : Type} {f : α→Int} {l : List α} {k : Nat} (h : l.length≤k) : errs f (l.drop k)=0:=by rw [List.drop_of_length_le h]; rfl
set_option maxHeartbeats 4000000 in
theorem uKs (n : Nar) (hs : ∀ s ∈ n.steps,s.msg.size≤900000) (hg : ∀ g ∈ n.goals,T.sizes g.data≤900000) : Ctr sys 15 [xn n] [] (xi (narE uAM n)) none []:=by
 have hr1:=uAh n.roles
 have hr2:=Fs.rows_len n.fresh
 have hr3:=uAh n.tags
 have hr4:=Sp.rows_len n.steps
 have hr5:=Gl.rows_len n.goals
 refine uAA Tryz.func15 rfl rfl rfl rfl rfl rfl ?_;refine uAe (uAb ?_);refine uAr rfl (uAX rfl rfl rfl rfl) ?_;refine uAa rfl rfl rfl (uAd rfl gU) ?_;refine uAf ?_;refine uAe ?_;refine uAe (uAb ?_);refine uAa rfl rfl rfl (uAg rfl gU rfl rfl) ?_;refine uAa rfl rfl rfl (uAl rfl gU rfl rfl rfl rfl) ?_;refine uAw rfl rfl rfl rfl rfl rfl gU gU (uDi _) rfl ?_;refine uAa rfl rfl rfl (uAZ rfl gU) ?_;refine uAf ?_;refine uAk (s:=⟨[(1,_,_),(13,_,_)],[(.l 1,_)],[],[]⟩) (uAj (⟨sx rfl,sx rfl,trivial⟩) (⟨sx rfl,trivial⟩) trivial) ?_;refine uAn rfl (fun hc=>?_) (fun hc=>?_)
 ·try simp only [nn,uAh,T.rows_len,Fs.rows_len,Sp.rows_len,Gl.rows_len] at hc
  refine uAe (uAb ?_);refine uAa rfl rfl rfl (uAd rfl gU) ?_;refine uAf ?_;refine uAp ?_
  repeat (first | refine tR ?_ | refine bR ?_)
  refine uAv rfl ?_ trivial
  (rw [narE,if_pos (by rw [uDY,if_pos hc]; simp),uDY,if_pos hc]; rfl)
 ·try simp only [nn,uAh,T.rows_len,Fs.rows_len,Sp.rows_len,Gl.rows_len] at hc
  refine uAq ?_;refine uAe ?_;refine uAe (uAb ?_);refine uAa rfl rfl rfl (uAo rfl gU rfl rfl rfl rfl rfl) ?_;refine uAw rfl rfl rfl rfl rfl rfl gU gU (uIR _) rfl ?_;refine uAa rfl rfl rfl (uAd rfl gU) ?_;refine uAf ?_;refine uAe (uAb ?_);refine uAa rfl rfl rfl (uAc rfl gU) ?_;refine uAa rfl rfl rfl (uAm rfl rfl gU gU rfl) ?_;refine uAf ?_;refine uAk (s:=⟨[(1,_,_),(3,_,_),(17,_,_)],[(.l 1,_)],[],[]⟩) (uAj (⟨sx rfl,sx rfl,sx rfl,trivial⟩) (⟨sx rfl,trivial⟩) trivial) ?_;refine uAn rfl (fun hc2=>?_) (fun hc2=>?_)
  ·try simp only [nn,uAh,T.rows_len,Fs.rows_len,Sp.rows_len,Gl.rows_len] at hc2
   have hh : uDY uAM n=cntE n:=by rw [uDY,if_neg (by rw [hc]; simp),if_pos hc2]
   refine uAe (uAb ?_);refine uAa rfl rfl rfl (uAc rfl gU) ?_;refine uAa rfl rfl rfl (uAd rfl gU) ?_;refine uAf ?_;refine uAp ?_
   repeat (first | refine tR ?_ | refine bR ?_)
   refine uAv rfl ?_ trivial
   (rw [narE,if_pos (by rw [hh]; exact hc2),hh]; rfl)
  ·try simp only [nn,uAh,T.rows_len,Fs.rows_len,Sp.rows_len,Gl.rows_len] at hc2
   have hh : uDY uAM n=(if n.roles.all uAM=false then 2 else if errs (frE uAM) n.fresh≠0 then errs (frE uAM) n.fresh else if n.tags.all uAM=false then 2 else 0):=by rw [uDY,if_neg (by rw [hc]; simp),if_neg (by rw [hc2]; simp)]
   refine uAq ?_;refine uAe ?_;refine uAe (uAb ?_);refine uAa rfl rfl rfl (uAg rfl gU rfl rfl) ?_;refine uAa rfl rfl rfl (uAl rfl gU rfl rfl rfl rfl) ?_;refine uAw rfl rfl rfl rfl rfl rfl gU gU (uDO _) rfl ?_;refine uAa rfl rfl rfl (uAZ rfl gU) ?_;refine uAf ?_;refine uAn rfl (fun hc3=>?_) (fun hc3=>?_)
   ·try simp only [nn,uAh,T.rows_len,Fs.rows_len,Sp.rows_len,Gl.rows_len] at hc3
    rw [if_pos hc3] at hh
    refine uAe (uAb ?_);refine uAa rfl rfl rfl (uAd rfl gU) ?_;refine uAf ?_;refine uAp ?_
    repeat (first | refine tR ?_ | refine bR ?_)
    refine uAv rfl ?_ trivial
    (rw [narE,if_pos (by rw [hh]; simp),hh]; rfl)
   ·try simp only [nn,uAh,T.rows_len,Fs.rows_len,Sp.rows_len,Gl.rows_len] at hc3
    rw [if_neg (by rw [hc3]; simp)] at hh
    refine uAq ?_;refine uAe ?_;refine uAe (uAb ?_);refine uAa rfl rfl rfl (uAd rfl gU) ?_;refine uAf ?_;refine uAk (s:=⟨[(1,_,_),(4,_,_)],[(.l 1,_)],[],[]⟩) (uAj (⟨sx rfl,sx rfl,trivial⟩) (⟨sx rfl,trivial⟩) trivial) ?_;refine uAx ?_;refine uA6 (ι:=Nat) { t:=[(1,_,_)],bx:=[(.l 1,_)],ow:=[] } (fun k=>[(4,true,xi (k : Int))]) (fun k=>[]) (fun k=>k≤n.fresh.length∧errs (frE uAM) (n.fresh.drop k)=errs (frE uAM) n.fresh) (fun k=>n.fresh.length - k) (0) (⟨by simp,rfl⟩) (uAj (⟨sx rfl,sx rfl,trivial⟩) (⟨sx rfl,trivial⟩) trivial) ?_
    intro k hokk
    dsimp only [List.cons_append,List.nil_append]
    obtain ⟨hk,hi⟩:=hokk
    refine uAe ?_;refine uAe (uAb ?_);refine uAa rfl rfl rfl (uAc rfl gU) ?_;refine uAa rfl rfl rfl (uAg rfl gU rfl rfl) ?_;refine uAa rfl rfl rfl (uAl rfl gU rfl rfl rfl rfl) ?_;refine uAS rfl rfl rfl rfl rfl gU rfl rfl ?_ (fun hh=>by simp at hh); intro hlen;refine uAa rfl rfl rfl (uAm rfl rfl gU gU rfl) ?_;refine uAf ?_;refine uAk (s:=⟨[(1,_,_),(4,_,_),(27,_,_)],[(.l 1,_)],[],[]⟩) (uAj (⟨sx rfl,sx rfl,sx rfl,trivial⟩) (⟨sx rfl,trivial⟩) trivial) ?_;refine uAn rfl (fun hc4=>?_) (fun hc4=>?_)
    ·try simp only [nn,uAh,T.rows_len,Fs.rows_len,Sp.rows_len,Gl.rows_len] at hc4
     have hlt : k < n.fresh.length:=by omega
     have hd:=uCy (d:=default) hlt hi
     have hn2:=uDO [(n.fresh.getD k default).role,(n.fresh.getD k default).name]
     refine uAq ?_;refine uAe ?_;refine uAx ?_;refine uAe (uAb ?_);refine uAa rfl rfl rfl (uAg rfl gU rfl rfl) ?_;refine uAa rfl rfl rfl (uAl rfl gU rfl rfl rfl rfl) ?_;refine uAa rfl rfl rfl (uAc rfl gU) ?_;refine uAa rfl rfl rfl (uAy rfl rfl gU gU rfl rfl rfl (fun hh=>Fs.rows_at (by first | omega | (simp at hh ⊢; omega)))) ?_;refine uAa rfl rfl rfl (uAP rfl gU rfl rfl rfl rfl) ?_;refine uAr rfl (uAG rfl rfl rfl) ?_;refine uAr rfl (uAt rfl rfl rfl rfl rfl rfl rfl) ?_;refine uAf ?_;refine uAk (s:=⟨[(1,_,_),(4,_,_),(5,_,_)],[(.l 1,_),(.l 5,_)],[],[]⟩) (uAj (⟨sx rfl,sx rfl,sx rfl,trivial⟩) (⟨sx rfl,sx rfl,trivial⟩) trivial) ?_;refine uAe ?_;refine uAe (uAb ?_);refine uAa rfl rfl rfl (uAg rfl gU rfl rfl) ?_;refine uAa rfl rfl rfl (uAl rfl gU rfl rfl rfl rfl) ?_;refine uAa rfl rfl rfl (uAg rfl gU rfl rfl) ?_;refine uAa rfl rfl rfl (uAl rfl gU rfl rfl rfl rfl) ?_;refine uAH (xs:=[_,_]) rfl rfl rfl rfl rfl rfl rfl rfl rfl gU rfl ?_;refine uAw rfl rfl rfl rfl rfl rfl gU gU (hn2) rfl ?_;refine uAa rfl rfl rfl (uAZ rfl gU) ?_;refine uAf ?_;refine uAk (s:=⟨[(1,_,_),(4,_,_),(5,_,_),(41,_,_)],[(.l 1,_),(.l 5,_)],[],[]⟩) (uAj (⟨sx rfl,sx rfl,sx rfl,sx rfl,trivial⟩) (⟨sx rfl,sx rfl,trivial⟩) trivial) ?_
     refine uAn rfl (fun hc5=>?_) (fun hc5=>?_)
     ·try simp only [nn,uAh,T.rows_len,Fs.rows_len,Sp.rows_len,Gl.rows_len] at hc5
      have hf : frE uAM (n.fresh.getD k default)=2:=by rw [frE,if_pos (by simpa [Decidable.or_iff_not_imp_left] using hc5)]
      have he:=hd.1 (by rw [hf]; simp)
      rw [he,hf] at hh
      rw [if_pos (by simp)] at hh
      refine uAe (uAb ?_);refine uAa rfl rfl rfl (uAd rfl gU) ?_;refine uAf ?_;refine uAp ?_
      repeat (first | refine tR ?_ | refine bR ?_)
      refine uAv rfl ?_ trivial
      (rw [narE,if_pos (by rw [hh]; simp),hh]; rfl)
     ·try simp only [nn,uAh,T.rows_len,Fs.rows_len,Sp.rows_len,Gl.rows_len] at hc5
      have hnn : ¬(uAM (n.fresh.getD k default).role=false∨uAM (n.fresh.getD k default).name=false):=by
       simp at hc5 ⊢; simp [hc5]
      refine uAq ?_;refine uAe (uAb ?_);refine uAa rfl rfl rfl (uAg rfl gU rfl rfl) ?_;refine uAa rfl rfl rfl (uAl rfl gU rfl rfl rfl rfl) ?_;refine uAa rfl rfl rfl (uAm rfl rfl gU gU rfl) ?_;refine uAa rfl rfl rfl (uAc rfl gU) ?_;refine uAa rfl rfl rfl (uAg rfl gU rfl rfl) ?_;refine uAa rfl rfl rfl (uAl rfl (fun hh=>hh) rfl rfl rfl rfl) ?_;refine uAa rfl rfl rfl (uAm rfl rfl (fun hh=>hh) gU rfl) ?_;refine uAa rfl rfl rfl (uAV rfl rfl gU (fun _ hi=>gP rfl hi)) ?_;refine uAa rfl rfl rfl (uAc rfl gU) ?_;refine uAa rfl rfl rfl (uAg rfl gU rfl rfl) ?_;refine uAa rfl rfl rfl (uAl rfl (fun hh=>hh) rfl rfl rfl rfl) ?_;refine uAa rfl rfl rfl (uAm rfl rfl (fun hh=>hh) gU rfl) ?_;refine uBq (s:=⟨[(1,_,_),(4,_,_),(50,_,_),(53,_,_)],[(.l 1,_)],[],[]⟩) (uAj (⟨sx rfl,sx rfl,sx rfl,sx rfl,trivial⟩) (⟨sx rfl,trivial⟩) trivial) ?_;refine uAa rfl rfl rfl (uAV rfl rfl gU (fun _ hi=>gP rfl hi)) ?_;refine uAf ?_;refine uAn rfl (fun hc6=>?_) (fun hc6=>?_)
      ·try simp only [nn,uAh,T.rows_len,Fs.rows_len,Sp.rows_len,Gl.rows_len] at hc6
       have hf : frE uAM (n.fresh.getD k default)=10:=by rw [frE,if_neg hnn,if_pos (by omega)]
       have he:=hd.1 (by rw [hf]; simp)
       rw [he,hf] at hh
       rw [if_pos (by simp)] at hh
       refine uAe (uAb ?_);refine uAa rfl rfl rfl (uAd rfl gU) ?_;refine uAf ?_;refine uAp ?_
       repeat (first | refine tR ?_ | refine bR ?_)
       refine uAv rfl ?_ trivial
       (rw [narE,if_pos (by rw [hh]; simp),hh]; rfl)
      ·try simp only [nn,uAh,T.rows_len,Fs.rows_len,Sp.rows_len,Gl.rows_len] at hc6
       have hf : frE uAM (n.fresh.getD k default)=0:=by rw [frE,if_neg hnn,if_neg (by omega)]
       refine uAq ?_;refine uAb ?_;refine uAa rfl rfl rfl (uAc rfl gU) ?_;refine uAa rfl rfl rfl (uAz rfl rfl gU gU rfl (IntWalk.i64_in _ (by omega))) ?_;refine uAa rfl rfl rfl (uAd rfl gU) ?_;refine uAf ?_;refine ⟨k + 1,?_,?_,uAj (⟨⟨_,rfl,?_⟩,⟨sx rfl,trivial⟩⟩) (⟨sx rfl,trivial⟩) trivial⟩
       all_goals first | rfl | omega | exact ⟨by omega,hd.2 hf⟩
    ·try simp only [nn,uAh,T.rows_len,Fs.rows_len,Sp.rows_len,Gl.rows_len] at hc4
     rw [uHk (by omega)] at hi
     rw [← hi,if_neg (by simp)] at hh
     refine uAQ ?_
     repeat (first | refine uAE ?_ | refine uAD ?_ | refine uAC rfl ?_)
     refine uAe ?_;refine uAe (uAb ?_);refine uAa rfl rfl rfl (uAg rfl gU rfl rfl) ?_;refine uAa rfl rfl rfl (uAl rfl gU rfl rfl rfl rfl) ?_;refine uAw rfl rfl rfl rfl rfl rfl gU gU (uDO _) rfl ?_;refine uAa rfl rfl rfl (uAZ rfl gU) ?_;refine uAf ?_;refine uAn rfl (fun hc5=>?_) (fun hc5=>?_)
     ·try simp only [nn,uAh,T.rows_len,Fs.rows_len,Sp.rows_len,Gl.rows_len] at hc5
      rw [if_pos hc5] at hh
      refine uAe (uAb ?_);refine uAa rfl rfl rfl (uAd rfl gU) ?_;refine uAf ?_;refine uAp ?_
      repeat (first | refine tR ?_ | refine bR ?_)
      refine uAv rfl ?_ trivial
      (rw [narE,if_pos (by rw [hh]; simp),hh]; rfl)
     ·try simp only [nn,uAh,T.rows_len,Fs.rows_len,Sp.rows_len,Gl.rows_len] at hc5
      rw [if_neg (by rw [hc5]; simp)] at hh
      have hN : narE uAM n=(if errs (spE uAM) n.steps≠0 then errs (spE uAM) n.steps else errs (uCr uAM) n.goals):=by rw [narE,if_neg (by rw [hh]; simp)]
      refine uAq ?_;refine uAe ?_;refine uAe (uAb ?_);refine uAa rfl rfl rfl (uAd rfl gU) ?_;refine uAf ?_;refine uAk (s:=⟨[(1,_,_),(6,_,_)],[(.l 1,_)],[],[]⟩) (uAj (⟨sx rfl,sx rfl,trivial⟩) (⟨sx rfl,trivial⟩) trivial) ?_;refine uAx ?_;refine uA6 (ι:=Nat) { t:=[(1,_,_)],bx:=[(.l 1,_)],ow:=[] } (fun j=>[(6,true,xi (j : Int))]) (fun j=>[]) (fun j=>j≤n.steps.length∧errs (spE uAM) (n.steps.drop j)=errs (spE uAM) n.steps) (fun j=>n.steps.length - j) (0) (⟨by simp,rfl⟩) (uAj (⟨sx rfl,sx rfl,trivial⟩) (⟨sx rfl,trivial⟩) trivial) ?_
      intro j hokj
      dsimp only [List.cons_append,List.nil_append]
      obtain ⟨hj,hij⟩:=hokj
      refine uAe ?_;refine uAe (uAb ?_);refine uAa rfl rfl rfl (uAc rfl gU) ?_;refine uAa rfl rfl rfl (uAg rfl gU rfl rfl) ?_;refine uAa rfl rfl rfl (uAl rfl gU rfl rfl rfl rfl) ?_;refine uAS rfl rfl rfl rfl rfl gU rfl rfl ?_ (fun hh=>by simp at hh); intro hlen;refine uAa rfl rfl rfl (uAm rfl rfl gU gU rfl) ?_;refine uAf ?_;refine uAk (s:=⟨[(1,_,_),(6,_,_),(63,_,_)],[(.l 1,_)],[],[]⟩) (uAj (⟨sx rfl,sx rfl,sx rfl,trivial⟩) (⟨sx rfl,trivial⟩) trivial) ?_;refine uAn rfl (fun hc6=>?_) (fun hc6=>?_)
      ·try simp only [nn,uAh,T.rows_len,Fs.rows_len,Sp.rows_len,Gl.rows_len] at hc6
       have hlt : j < n.steps.length:=by omega
       have hd:=uCy (d:=default) hlt hij
       have hmem:=hs _ (uCC (d:=default) hlt)
       have hn2:=uDO [(n.steps.getD j default).frm,(n.steps.getD j default).dst]
       refine uAq ?_;refine uAe ?_;refine uAx ?_;refine uAe ?_;refine uAe ?_;refine awp_drawn' (by kernel_rfl) ?_;refine uAi rfl rfl rfl rfl (uAg rfl gU rfl rfl) ?_;refine uA3 rfl rfl rfl rfl rfl rfl rfl gU rfl rfl rfl rfl ?_;refine uAi rfl rfl rfl rfl (uAc rfl gU) ?_;refine uAi rfl rfl rfl rfl (uAy rfl rfl gU gU rfl rfl rfl (fun hh=>Sp.rows_at (by first | omega | (simp at hh ⊢; omega)))) ?_;refine uAi rfl rfl rfl rfl (uAT rfl gU rfl rfl) ?_;refine uAi rfl rfl rfl rfl (uAR rfl gU rfl rfl rfl) ?_;refine uAi rfl rfl rfl rfl (uAg rfl gU rfl rfl) ?_;refine uA3 rfl rfl rfl rfl rfl rfl rfl gU rfl rfl rfl rfl ?_;refine uAi rfl rfl rfl rfl (uAc rfl gU) ?_;refine uAi rfl rfl rfl rfl (uAy rfl rfl gU gU rfl rfl rfl (fun hh=>Sp.rows_at (by first | omega | (simp at hh ⊢; omega)))) ?_;refine uAi rfl rfl rfl rfl (uAT rfl gU rfl rfl) ?_;refine uAi rfl rfl rfl rfl (uAR rfl gU rfl rfl rfl) ?_;refine uCs (xs:=[_,_]) rfl rfl rfl rfl rfl rfl rfl rfl rfl rfl gU rfl ?_;refine uAW rfl rfl rfl rfl rfl rfl rfl gU gU (hn2) rfl ?_;refine uAi rfl rfl rfl rfl (uAZ rfl gU) ?_;refine uA2 (by kernel_rfl) ?_;refine uAk (s:=⟨[(1,_,_),(6,_,_),(80,_,_)],[(.l 1,_)],[],[]⟩) (uAj (⟨sx rfl,sx rfl,sx rfl,trivial⟩) (⟨sx rfl,trivial⟩) trivial) ?_;refine uAn rfl (fun hc7=>?_) (fun hc7=>?_)
       ·try simp only [nn,uAh,T.rows_len,Fs.rows_len,Sp.rows_len,Gl.rows_len] at hc7
        have hf : spE uAM (n.steps.getD j default)=2:=by rw [spE,if_pos (by simpa [Decidable.or_iff_not_imp_left] using hc7)]
        have he:=hd.1 (by rw [hf]; simp)
        rw [he,hf,if_pos (by simp)] at hN
        refine uAe (uAb ?_);refine uAa rfl rfl rfl (uAd rfl gU) ?_;refine uAf ?_;refine uAp ?_
        repeat (first | refine tR ?_ | refine bR ?_)
        refine uAv rfl ?_ trivial
        (rw [hN]; rfl)
       ·try simp only [nn,uAh,T.rows_len,Fs.rows_len,Sp.rows_len,Gl.rows_len] at hc7
        have hnn : ¬(uAM (n.steps.getD j default).frm=false∨uAM (n.steps.getD j default).dst=false):=by
         simp at hc7 ⊢; simp [hc7]
        have hf : spE uAM (n.steps.getD j default)=msgE uAM (n.steps.getD j default).msg:=by rw [spE,if_neg hnn]
        rw [hf] at hd
        refine uAq ?_;refine uAe (uAb ?_);refine uAa rfl rfl rfl (uAg rfl gU rfl rfl) ?_;refine uAa rfl rfl rfl (uAl rfl gU rfl rfl rfl rfl) ?_;refine uAa rfl rfl rfl (uAc rfl gU) ?_;refine uAa rfl rfl rfl (uAy rfl rfl gU gU rfl rfl rfl (fun hh=>Sp.rows_at (by first | omega | (simp at hh ⊢; omega)))) ?_;refine uAa rfl rfl rfl (uAT rfl gU rfl rfl) ?_;refine uAa rfl rfl rfl (uAP rfl gU rfl rfl rfl rfl) ?_;refine uAw rfl rfl rfl rfl rfl rfl gU gU (uE6 _ hmem) rfl ?_;refine uAa rfl rfl rfl (uAd rfl gU) ?_;refine uAf ?_;refine uAk (s:=⟨[(1,_,_),(6,_,_),(7,_,_)],[(.l 1,_)],[],[]⟩) (uAj (⟨sx rfl,sx rfl,sx rfl,trivial⟩) (⟨sx rfl,trivial⟩) trivial) ?_;refine uAe (uAb ?_);refine uAa rfl rfl rfl (uAc rfl gU) ?_;refine uAa rfl rfl rfl (uAm rfl rfl gU gU rfl) ?_;refine uAf ?_;refine uAn rfl (fun hc8=>?_) (fun hc8=>?_)
        ·try simp only [nn,uAh,T.rows_len,Fs.rows_len,Sp.rows_len,Gl.rows_len] at hc8
         have he:=hd.1 hc8
         rw [he,if_pos hc8] at hN
         refine uAe (uAb ?_);refine uAa rfl rfl rfl (uAc rfl gU) ?_;refine uAa rfl rfl rfl (uAd rfl gU) ?_;refine uAf ?_;refine uAp ?_
         repeat (first | refine tR ?_ | refine bR ?_)
         refine uAv rfl ?_ trivial
         (rw [hN]; rfl)
        ·try simp only [nn,uAh,T.rows_len,Fs.rows_len,Sp.rows_len,Gl.rows_len] at hc8
         refine uAq ?_;refine uAb ?_;refine uAa rfl rfl rfl (uAc rfl gU) ?_;refine uAa rfl rfl rfl (uAz rfl rfl gU gU rfl (IntWalk.i64_in _ (by omega))) ?_;refine uAa rfl rfl rfl (uAd rfl gU) ?_;refine uAf ?_;refine ⟨j + 1,?_,?_,uAj (⟨⟨_,rfl,?_⟩,⟨sx rfl,trivial⟩⟩) (⟨sx rfl,trivial⟩) trivial⟩
         all_goals first | rfl | omega | exact ⟨by omega,hd.2 hc8⟩
      ·try simp only [nn,uAh,T.rows_len,Fs.rows_len,Sp.rows_len,Gl.rows_len] at hc6
       rw [uHk (by omega)] at hij
       rw [← hij,if_neg (by simp)] at hN
       refine uAQ ?_
       repeat (first | refine uAE ?_ | refine uAD ?_ | refine uAC rfl ?_)
       refine uAe ?_;refine uAe (uAb ?_);refine uAa rfl rfl rfl (uAd rfl gU) ?_;refine uAf ?_;refine uAx ?_;refine uA6 (ι:=Nat) { t:=[(1,_,_)],bx:=[(.l 1,_)],ow:=[] } (fun i=>[(8,true,xi (i : Int))]) (fun i=>[]) (fun i=>i≤n.goals.length∧errs (uCr uAM) (n.goals.drop i)=errs (uCr uAM) n.goals) (fun i=>n.goals.length - i) (0) (⟨by simp,rfl⟩) (uAj (⟨sx rfl,sx rfl,trivial⟩) (⟨sx rfl,trivial⟩) trivial) ?_
       intro i hoki
       dsimp only [List.cons_append,List.nil_append]
       obtain ⟨hi2,hii⟩:=hoki
       refine uAe ?_;refine uAe (uAb ?_);refine uAa rfl rfl rfl (uAc rfl gU) ?_;refine uAa rfl rfl rfl (uAg rfl gU rfl rfl) ?_;refine uAa rfl rfl rfl (uAl rfl gU rfl rfl rfl rfl) ?_;refine uAS rfl rfl rfl rfl rfl gU rfl rfl ?_ (fun hh=>by simp at hh); intro hlen;refine uAa rfl rfl rfl (uAm rfl rfl gU gU rfl) ?_;refine uAf ?_;refine uAk (s:=⟨[(1,_,_),(8,_,_),(95,_,_)],[(.l 1,_)],[],[]⟩) (uAj (⟨sx rfl,sx rfl,sx rfl,trivial⟩) (⟨sx rfl,trivial⟩) trivial) ?_;refine uAn rfl (fun hc7=>?_) (fun hc7=>?_)
       ·try simp only [nn,uAh,T.rows_len,Fs.rows_len,Sp.rows_len,Gl.rows_len] at hc7
        have hlt : i < n.goals.length:=by omega
        have hd:=uCy (d:=default) hlt hii
        have hmem:=hg _ (uCC (d:=default) hlt)
        refine uAq ?_;refine uAe ?_;refine uAx ?_;refine uAe (uAb ?_);refine uAa rfl rfl rfl (uAg rfl gU rfl rfl) ?_;refine uAa rfl rfl rfl (uAl rfl gU rfl rfl rfl rfl) ?_;refine uAa rfl rfl rfl (uAc rfl gU) ?_;refine uAa rfl rfl rfl (uAy rfl rfl gU gU rfl rfl rfl (fun hh=>Gl.rows_at (by first | omega | (simp at hh ⊢; omega)))) ?_;refine uAa rfl rfl rfl (uAP rfl gU rfl rfl rfl rfl) ?_;refine uAw rfl rfl rfl rfl rfl rfl gU gU (uKN _ hmem) rfl ?_;refine uAa rfl rfl rfl (uAd rfl gU) ?_;refine uAf ?_;refine uAk (s:=⟨[(1,_,_),(8,_,_),(9,_,_)],[(.l 1,_)],[],[]⟩) (uAj (⟨sx rfl,sx rfl,sx rfl,trivial⟩) (⟨sx rfl,trivial⟩) trivial) ?_;refine uAe (uAb ?_);refine uAa rfl rfl rfl (uAc rfl gU) ?_;refine uAa rfl rfl rfl (uAm rfl rfl gU gU rfl) ?_;refine uAf ?_;refine uAn rfl (fun hc1=>?_) (fun hc1=>?_)
        ·try simp only [nn,uAh,T.rows_len,Fs.rows_len,Sp.rows_len,Gl.rows_len] at hc1
         refine uAe (uAb ?_);refine uAa rfl rfl rfl (uAc rfl gU) ?_;refine uAa rfl rfl rfl (uAd rfl gU) ?_;refine uAf ?_;refine uAp ?_
         repeat (first | refine tR ?_ | refine bR ?_)
         refine uAv rfl ?_ trivial
         (rw [hN,hd.1 (by assumption)]; rfl)
        ·try simp only [nn,uAh,T.rows_len,Fs.rows_len,Sp.rows_len,Gl.rows_len] at hc1
         refine uAq ?_;refine uAb ?_;refine uAa rfl rfl rfl (uAc rfl gU) ?_;refine uAa rfl rfl rfl (uAz rfl rfl gU gU rfl (IntWalk.i64_in _ (by omega))) ?_;refine uAa rfl rfl rfl (uAd rfl gU) ?_;refine uAf ?_;refine ⟨i + 1,?_,?_,uAj (⟨⟨_,rfl,?_⟩,⟨sx rfl,trivial⟩⟩) (⟨sx rfl,trivial⟩) trivial⟩
         all_goals (first | rfl | omega | exact ⟨by omega,hd.2 (by assumption)⟩)
       ·try simp only [nn,uAh,T.rows_len,Fs.rows_len,Sp.rows_len,Gl.rows_len] at hc7
        rw [uHk (by omega)] at hii
        refine uAQ ?_
        repeat (first | refine uAE ?_ | refine uAD ?_ | refine uAC rfl ?_)
        refine uAe (uAb ?_);refine uAa rfl rfl rfl (uAd rfl gU) ?_;refine uAf ?_;refine uAp ?_
        repeat (first | refine tR ?_ | refine bR ?_)
        refine uAv rfl ?_ trivial
        (rw [hN,← hii]; rfl)
end Go.Proofs.YtnjjdbapadkomaaGreatDoor
namespace Go.Proofs.YtnjjdbapadkomaaGreatDoor
open Go Go.Abs
theorem uKQ : Ctr sys 100 [] [] (xss uBJ) none []:=by
 refine uAA Tryz.func100 rfl rfl rfl rfl rfl rfl ?_;refine uAe (uAb ?_);refine uAa rfl rfl rfl (uAd rfl gU) ?_;refine uAf ?_;refine uAe (uAb ?_);refine uAH (xs:=[_,_,_,_,_,_]) rfl rfl rfl rfl rfl rfl rfl rfl rfl gU rfl ?_;refine uAa rfl rfl rfl (uAd rfl gU) ?_;refine uAf ?_;refine uAp ?_
 repeat (first | refine tR ?_ | refine bR ?_)
 refine uAv rfl ?_ trivial
 rfl
theorem uGv : Ctr sys 97 [] [] (xss uBx) none []:=by
 refine uAA Tryz.func97 rfl rfl rfl rfl rfl rfl ?_;refine uAe (uAb ?_);refine uAa rfl rfl rfl (uAd rfl gU) ?_;refine uAf ?_;refine uAe (uAb ?_);refine uAH (xs:=[_,_,_,_,_]) rfl rfl rfl rfl rfl rfl rfl rfl rfl gU rfl ?_;refine uAa rfl rfl rfl (uAd rfl gU) ?_;refine uAf ?_;refine uAp ?_
 repeat (first | refine tR ?_ | refine bR ?_)
 refine uAv rfl ?_ trivial
 rfl
end Go.Proofs.YtnjjdbapadkomaaGreatDoor
namespace Go.Proofs.YtnjjdbapadkomaaGreatDoor
open Go Go.Abs
end Go.Proofs.YtnjjdbapadkomaaGreatDoor
namespace Go.Proofs.YtnjjdbapadkomaaGreatDoor
open Go Go.Abs
abbrev xr (l : List Tk) (p : PS) : X:=.v (.agg (pbx l p))
theorem uIc (s : List UInt8) (k : Int) : Ctr sys 38 [xs s,xi k] [] (xm ⟨2,s,k,[]⟩) none []:=by
 refine uAA Tryz.func38 rfl rfl rfl rfl rfl rfl ?_;refine uAe (uAb ?_);refine uAr rfl (uAG rfl rfl rfl) ?_;refine uAf ?_;refine uAe (uAb ?_);refine uAa rfl rfl rfl (uAc rfl gU) ?_;refine uAa rfl rfl rfl (uAc rfl gU) ?_;refine uAa rfl rfl rfl (uAY rfl Tryz.underlying39 rfl gU) ?_;refine uAr rfl (uAt rfl rfl rfl rfl rfl rfl rfl) ?_;refine uAf ?_;refine uAp ?_
 repeat (first | refine tR ?_ | refine bR ?_)
 refine uAv rfl ?_ trivial
 rfl
theorem uNC (s : List UInt8) (ks : List T) (hk : ks.length≤3000000) : Ctr sys 39 [xs s,xl ks] [] (xm ⟨3,s,0,ks⟩) none []:=by
 have hrl:=T.rows_len ks
 refine uAA Tryz.func39 rfl rfl rfl rfl rfl rfl ?_;refine uAe (uAb ?_);refine uAr rfl (uAG rfl rfl rfl) ?_;refine uAf ?_;refine uAe (uAb ?_);refine uAa rfl rfl rfl (uAc rfl gU) ?_;refine uAH (xs:=[]) rfl rfl rfl rfl rfl rfl rfl rfl rfl gU rfl ?_;refine uAa rfl rfl rfl (uAc rfl gU) ?_;refine uAr rfl (uA0 rfl rfl rfl rfl rfl rfl rfl (by first | omega | (simp only [List.length_nil]; omega)) (by first | omega | (simp only [List.length_nil]; omega))) ?_;refine uAa rfl rfl rfl (uAY rfl Tryz.underlying39 rfl gU) ?_;refine uAr rfl (uAt rfl rfl rfl rfl rfl rfl rfl) ?_;refine uAf ?_;refine uAp ?_
 repeat (first | refine tR ?_ | refine bR ?_)
 refine uAv rfl ?_ trivial
 rfl
theorem uDz (s : List UInt8) (rs : List (List C)) (ks : List T) (h : rs=T.rows ks) (hk : ks.length≤3000000) : Ctr sys 39 [xs s, .v (.c (.sl 4 rs))] [] (xm ⟨3,s,0,ks⟩) none []:=by
 subst h; exact uNC s ks hk
theorem uA1 (l : List Tk) (p : PS) (c : List UInt8) (hl : l.length≤2000000) (hp : p.at'≤3000000) : Ctr sys 80 [xr l p,xs c] [] (xr l (uAK l c p)) none []:=by
 have hrl:=Tk.rows_len l
 refine uAA Tryz.func80 rfl rfl rfl rfl rfl rfl ?_;refine uAe (uAb ?_);refine uAr rfl (uAX rfl rfl rfl rfl) ?_;refine uAr rfl (uAG rfl rfl rfl) ?_;refine uAf ?_;refine uAe ?_;refine uAe (uAb ?_);refine uAa rfl rfl rfl (uAg rfl gU rfl rfl) ?_;refine uAa rfl rfl rfl (uAl rfl gU rfl rfl rfl rfl) ?_;refine uAa rfl rfl rfl (uAc rfl gU) ?_;refine uAa rfl rfl rfl (uAg rfl gU rfl rfl) ?_;refine uAa rfl rfl rfl (uAl rfl (fun hh=>hh) rfl rfl rfl rfl) ?_;refine uAa rfl rfl rfl (uAg rfl gU rfl rfl) ?_;refine uAa rfl rfl rfl (uAl rfl (fun hh=>hh) rfl rfl rfl rfl) ?_;refine uAa rfl rfl rfl (uBa rfl (fun hh=>hh) rfl rfl) ?_;refine uAa rfl rfl rfl (uAm rfl rfl (fun hh=>hh) (fun hh=>hh) rfl) ?_;refine uAa rfl rfl rfl (uAJ rfl rfl gU (fun _ hi=>gP rfl hi)) ?_;refine uBq (s:=⟨[(1,_,_),(2,_,_),(4,_,_),(14,_,_)],[(.l 2,_),(.l 4,_)],[],[]⟩) (uAj (⟨sx rfl,sx rfl,sx rfl,sx rfl,trivial⟩) (⟨sx rfl,sx rfl,trivial⟩) trivial) ?_;refine uAa rfl rfl rfl (uAc rfl gU) ?_;refine uAa rfl rfl rfl (uAg rfl gU rfl rfl) ?_;refine uAa rfl rfl rfl (uAl rfl (fun hh=>hh) rfl rfl rfl rfl) ?_;refine uAa rfl rfl rfl (uAg rfl gU rfl rfl) ?_;refine uAa rfl rfl rfl (uAl rfl (fun hh=>hh) rfl rfl rfl rfl) ?_;refine uAa rfl rfl rfl (uAy (j:=p.at') rfl rfl (fun hh=>hh) (fun hh=>hh) rfl rfl (by first | omega | (simp at hh ⊢; omega)) (fun hh=>Tk.rows_at (by first | omega | (simp at hh ⊢; omega)))) ?_
 refine uAa rfl rfl rfl (uAT rfl (fun hh=>hh) rfl rfl) ?_;refine uAa rfl rfl rfl (uAR rfl (fun hh=>hh) rfl rfl rfl) ?_;refine uAa rfl rfl rfl (uAm rfl rfl (fun hh=>hh) gU rfl) ?_;refine uAa rfl rfl rfl (uAJ rfl rfl gU (fun _ hi=>gP rfl hi)) ?_;refine uAa rfl rfl rfl (uAc rfl gU) ?_;refine uAa rfl rfl rfl (uAg rfl gU rfl rfl) ?_;refine uBq (s:=⟨[(1,_,_),(2,_,_),(4,_,_),(25,_,_),(26,_,_)],[(.l 2,_),(.l 4,_)],[],[]⟩) (uAj (⟨sx rfl,sx rfl,sx rfl,sx rfl,sx rfl,trivial⟩) (⟨sx rfl,sx rfl,trivial⟩) trivial) ?_;refine uAa rfl rfl rfl (uAl rfl (fun hh=>hh) rfl rfl rfl rfl) ?_;refine uAa rfl rfl rfl (uAg rfl gU rfl rfl) ?_;refine uAa rfl rfl rfl (uAl rfl (fun hh=>hh) rfl rfl rfl rfl) ?_;refine uAa rfl rfl rfl (uAy (j:=p.at') rfl rfl (fun hh=>hh) (fun hh=>hh) rfl rfl (by first | omega | (simp at hh ⊢; omega)) (fun hh=>Tk.rows_at (by first | omega | (simp at hh ⊢; omega)))) ?_;refine uAa rfl rfl rfl (uAT rfl (fun hh=>hh) rfl rfl) ?_;refine uAa rfl rfl rfl (uAR rfl (fun hh=>hh) rfl rfl rfl) ?_;refine uAa rfl rfl rfl (uAc rfl gU) ?_;refine uAa rfl rfl rfl (uA9 rfl rfl (fun hh=>hh) (fun hh=>hh) rfl) ?_;refine uAa rfl rfl rfl (uAJ rfl rfl gU (fun _ hi=>gP rfl hi)) ?_;refine uAf ?_;refine uAk (s:=⟨[(2,_,_),(4,_,_),(35,_,_)],[(.l 2,_),(.l 4,_)],[],[]⟩) (uAj (⟨sx rfl,sx rfl,sx rfl,trivial⟩) (⟨sx rfl,sx rfl,trivial⟩) trivial) ?_
 refine uAn rfl (fun hc=>?_) (fun hc=>?_)
 ·try simp only [nn,uAh,T.rows_len,Tk.rows_len] at hc
  have h : symQ l p c=false:=by simp only [symQ]; grind
  have h2 : uAK l c p=p.off:=by rw [uAK,h]; rfl
  rw [h2]
  refine uAe (uAb ?_);refine uAa rfl rfl rfl (uAg rfl gU rfl rfl) ?_;refine uAr rfl (uAt rfl rfl rfl rfl rfl rfl rfl) ?_;refine uAf ?_;refine uAe (uAb ?_);refine uAa rfl rfl rfl (uAo rfl gU rfl rfl rfl rfl rfl) ?_;refine uAr rfl (uAt rfl rfl rfl rfl rfl rfl rfl) ?_;refine uAf ?_;refine uAp ?_
  repeat (first | refine tR ?_ | refine bR ?_)
  refine uAv rfl ?_ trivial
  rfl
 ·try simp only [nn,uAh,T.rows_len,Tk.rows_len] at hc
  have h : symQ l p c=true:=by simp only [symQ]; grind
  have h2 : uAK l c p=p.go:=by rw [uAK,if_pos h]
  rw [h2]
  refine uAq ?_;refine uAe (uAb ?_);refine uAa rfl rfl rfl (uAg rfl gU rfl rfl) ?_;refine uAa rfl rfl rfl (uAl rfl gU rfl rfl rfl rfl) ?_;refine uAa rfl rfl rfl (uAz rfl rfl gU gU rfl (IntWalk.i64_in _ (by omega))) ?_;refine uAa rfl rfl rfl (uAg rfl gU rfl rfl) ?_;refine uAr rfl (uAt rfl rfl rfl rfl rfl rfl rfl) ?_;refine uAf ?_;refine uAe (uAb ?_);refine uAa rfl rfl rfl (uAo rfl gU rfl rfl rfl rfl rfl) ?_;refine uAr rfl (uAt rfl rfl rfl rfl rfl rfl rfl) ?_;refine uAf ?_;refine uAp ?_
  repeat (first | refine tR ?_ | refine bR ?_)
  refine uAv rfl ?_ trivial
  (first | rfl | exact congrArg (fun z=>X.v (.agg z)) (uII (by simp [PS.go]) rfl))
theorem uMS (l : List Tk) (c : List UInt8) (p : PS) : (uAK l c p).bad = !symQ l p c:=by
 unfold uAK
 split
 ·rename_i h
  rw [h]; exact (uBL h).2
 ·rename_i h
  have : symQ l p c=false:=by simpa using h
  rw [this]; rfl
theorem uCJ (l : List Tk) (p : PS) (c : List UInt8) (hl : l.length≤2000000) (hp : p.at'≤3000000) : Ctr sys 81 [xr l p,xs c] [] (xb (symQ l p c)) none []:=by
 refine uAA Tryz.func81 rfl rfl rfl rfl rfl rfl ?_;refine uAe (uAb ?_);refine uAr rfl (uAX rfl rfl rfl rfl) ?_;refine uAa rfl rfl rfl (uAd rfl gU) ?_;refine uAf ?_;refine uAe (uAb ?_);refine uAa rfl rfl rfl (uAo rfl gU rfl rfl rfl rfl rfl) ?_;refine uAa rfl rfl rfl (uAc rfl gU) ?_;refine uAw rfl rfl rfl rfl rfl rfl gU gU (uA1 _ _ _ (by omega) (by omega)) rfl ?_;refine uAa rfl rfl rfl (uKV rfl gU (Tryz.underlying96) rfl rfl rfl rfl rfl rfl) ?_;refine uAa rfl rfl rfl (uAZ rfl gU) ?_;refine uAa rfl rfl rfl (uAd rfl gU) ?_;refine uAf ?_;refine uAp ?_
 repeat (first | refine tR ?_ | refine bR ?_)
 refine uAv rfl ?_ trivial;exact uCG (by rw [uMS]; simp)
theorem uBI (l : List Tk) (p : PS) (hl : l.length≤2000000) (hp : p.at'≤3000000) : Ctr sys 79 [xr l p] [] (.tup [.c (.s (uAs l [] p).1), .agg (pbx l (uAs l [] p).2)]) none []:=by
 have hrl:=Tk.rows_len l
 refine uAA Tryz.func79 rfl rfl rfl rfl rfl rfl ?_;refine uAe (uAb ?_);refine uAr rfl (uAX rfl rfl rfl rfl) ?_;refine uAa rfl rfl rfl (uAd rfl gU) ?_;refine uAr rfl (uAG rfl rfl rfl) ?_;refine uAf ?_;refine uAe ?_;refine uAe (uAb ?_);refine uAa rfl rfl rfl (uAg rfl gU rfl rfl) ?_;refine uAa rfl rfl rfl (uAl rfl gU rfl rfl rfl rfl) ?_;refine uAa rfl rfl rfl (uAc rfl gU) ?_;refine uAa rfl rfl rfl (uAg rfl gU rfl rfl) ?_;refine uAa rfl rfl rfl (uAl rfl (fun hh=>hh) rfl rfl rfl rfl) ?_;refine uAa rfl rfl rfl (uAg rfl gU rfl rfl) ?_;refine uAa rfl rfl rfl (uAl rfl (fun hh=>hh) rfl rfl rfl rfl) ?_;refine uAa rfl rfl rfl (uBa rfl (fun hh=>hh) rfl rfl) ?_;refine uAa rfl rfl rfl (uAm rfl rfl (fun hh=>hh) (fun hh=>hh) rfl) ?_;refine uBq (s:=⟨[(1,_,_),(3,_,_),(6,_,_),(12,_,_)],[(.l 1,_),(.l 3,_)],[],[]⟩) (uAj (⟨sx rfl,sx rfl,sx rfl,sx rfl,trivial⟩) (⟨sx rfl,sx rfl,trivial⟩) trivial) ?_;refine uAa rfl rfl rfl (uAJ rfl rfl gU (fun _ hi=>gP rfl hi)) ?_;refine uAa rfl rfl rfl (uAc rfl gU) ?_;refine uAa rfl rfl rfl (uAg rfl gU rfl rfl) ?_;refine uAa rfl rfl rfl (uAl rfl (fun hh=>hh) rfl rfl rfl rfl) ?_;refine uAa rfl rfl rfl (uAg rfl gU rfl rfl) ?_;refine uAa rfl rfl rfl (uAl rfl (fun hh=>hh) rfl rfl rfl rfl) ?_
 refine uAa rfl rfl rfl (uAy (j:=p.at') rfl rfl (fun hh=>hh) (fun hh=>hh) rfl rfl (by first | omega | (simp at hh ⊢; omega)) (fun hh=>Tk.rows_at (by first | omega | (simp at hh ⊢; omega)))) ?_;refine uAa rfl rfl rfl (uAT rfl (fun hh=>hh) rfl rfl) ?_;refine uAa rfl rfl rfl (uAR rfl (fun hh=>hh) rfl rfl rfl) ?_;refine uAa rfl rfl rfl (uAm rfl rfl (fun hh=>hh) gU rfl) ?_;refine uAa rfl rfl rfl (uAJ rfl rfl gU (fun _ hi=>gP rfl hi)) ?_;refine uAf ?_;refine uAk (s:=⟨[(1,_,_),(3,_,_),(23,_,_)],[(.l 1,_),(.l 3,_)],[],[]⟩) (uAj (⟨sx rfl,sx rfl,sx rfl,trivial⟩) (⟨sx rfl,sx rfl,trivial⟩) trivial) ?_;refine uAn rfl (fun hc=>?_) (fun hc=>?_)
 ·try simp only [nn,uAh,T.rows_len,Tk.rows_len] at hc
  have h : namQ l p []=false:=by simp only [namQ]; grind
  have h2 : uAs l [] p=([],p.off):=by rw [uAs,h]; rfl
  rw [h2]
  refine uAe (uAb ?_);refine uAa rfl rfl rfl (uAg rfl gU rfl rfl) ?_;refine uAr rfl (uAt rfl rfl rfl rfl rfl rfl rfl) ?_;refine uAf ?_;refine uAe ?_;refine awp_drawn' (by kernel_rfl) ?_;refine uAI rfl rfl rfl rfl rfl rfl rfl gU rfl rfl rfl rfl rfl ?_;refine uAi rfl rfl rfl rfl (uAd rfl gU) ?_;refine uAU rfl rfl rfl rfl rfl rfl rfl rfl rfl rfl rfl rfl ?_;refine uA2 (by kernel_rfl) ?_;refine uAp ?_
  repeat (first | refine tR ?_ | refine bR ?_)
  refine uAv rfl ?_ trivial
  rfl
 ·try simp only [nn,uAh,T.rows_len,Tk.rows_len] at hc
  have h : namQ l p []=true:=by simp only [namQ]; grind
  have h2 : uAs l [] p=((l.getD p.at' tk0).text,p.go):=by rw [uAs,if_pos h]
  rw [h2]
  refine uAq ?_;refine uAe (uAb ?_);refine uAa rfl rfl rfl (uAg rfl gU rfl rfl) ?_;refine uAa rfl rfl rfl (uAl rfl gU rfl rfl rfl rfl) ?_;refine uAa rfl rfl rfl (uAz rfl rfl gU gU rfl (IntWalk.i64_in _ (by omega))) ?_;refine uAa rfl rfl rfl (uAg rfl gU rfl rfl) ?_;refine uAr rfl (uAt rfl rfl rfl rfl rfl rfl rfl) ?_;refine uAf ?_;refine uAe ?_;refine awp_drawn' (by kernel_rfl) ?_;refine uAi rfl rfl rfl rfl (uAg rfl gU rfl rfl) ?_;refine uA3 rfl rfl rfl rfl rfl rfl rfl gU rfl rfl rfl rfl ?_;refine uAi rfl rfl rfl rfl (uAg rfl gU rfl rfl) ?_;refine uA3 rfl rfl rfl rfl rfl rfl rfl gU rfl rfl rfl rfl ?_;refine uAi rfl rfl rfl rfl (uAz rfl rfl gU gU rfl (IntWalk.i64_in _ (by omega))) ?_;refine uAi rfl rfl rfl rfl (uAy (j:=p.at') rfl rfl gU gU rfl rfl (by first | omega | (simp at hh ⊢; omega)) (fun hh=>Tk.rows_at (by first | omega | (simp at hh ⊢; omega)))) ?_;refine uAi rfl rfl rfl rfl (uAT rfl gU rfl rfl) ?_;refine uAi rfl rfl rfl rfl (uAR rfl gU rfl rfl rfl) ?_;refine uAI rfl rfl rfl rfl rfl rfl rfl gU rfl rfl rfl rfl rfl ?_;refine uAi rfl rfl rfl rfl (uAd rfl gU) ?_;refine uAU rfl rfl rfl rfl rfl rfl rfl rfl rfl rfl rfl rfl ?_;refine uA2 (by kernel_rfl) ?_;refine uAp ?_
  repeat (first | refine tR ?_ | refine bR ?_)
  refine uAv rfl ?_ trivial
  (first | rfl | exact congrArg (fun z=>X.tup [.c (.s (l.getD p.at' tk0).text), .agg z]) (uII (by simp [PS.go]) rfl))
theorem uKM (l : List Tk) (p : PS) (hl : l.length≤2000000) : Ctr sys 69 [xr l p] [] (xi (uFv l p)) none []:=by
 have hrl:=Tk.rows_len l
 refine uAA Tryz.func69 rfl rfl rfl rfl rfl rfl ?_;refine uAe (uAb ?_);refine uAr rfl (uAX rfl rfl rfl rfl) ?_;refine uAa rfl rfl rfl (uAd rfl gU) ?_;refine uAf ?_;refine uAe ?_;refine uAe (uAb ?_);refine uAa rfl rfl rfl (uAg rfl gU rfl rfl) ?_;refine uAa rfl rfl rfl (uAl rfl gU rfl rfl rfl rfl) ?_;refine uAS rfl rfl rfl rfl rfl gU rfl rfl ?_ (fun hh=>by simp at hh); intro hlen;refine uAa rfl rfl rfl (uAm rfl rfl gU gU rfl) ?_;refine uAf ?_;refine uAk (s:=⟨[(1,_,_),(6,_,_)],[(.l 1,_)],[],[]⟩) (uAj (⟨sx rfl,sx rfl,trivial⟩) (⟨sx rfl,trivial⟩) trivial) ?_;refine uAn rfl (fun hc=>?_) (fun hc=>?_)
 ·try simp only [nn,uAh,T.rows_len,Tk.rows_len] at hc
  refine uAe (uAb ?_);refine uAa rfl rfl rfl (uAd rfl gU) ?_;refine uAf ?_;refine uAp ?_
  repeat (first | refine tR ?_ | refine bR ?_)
  refine uAv rfl ?_ trivial
  (rw [uFv,if_pos (by omega)]; rfl)
 ·try simp only [nn,uAh,T.rows_len,Tk.rows_len] at hc
  refine uAq ?_;refine uAe (uAb ?_);refine uAa rfl rfl rfl (uAg rfl gU rfl rfl) ?_;refine uAa rfl rfl rfl (uAl rfl gU rfl rfl rfl rfl) ?_;refine uAa rfl rfl rfl (uAg rfl gU rfl rfl) ?_;refine uAa rfl rfl rfl (uAl rfl gU rfl rfl rfl rfl) ?_;refine uAa rfl rfl rfl (uAg rfl gU rfl rfl) ?_;refine uAa rfl rfl rfl (uAl rfl gU rfl rfl rfl rfl) ?_;refine uAS rfl rfl rfl rfl rfl gU rfl rfl ?_ (fun hh=>by simp at hh); intro hlen;refine uAa rfl rfl rfl (uAz rfl rfl gU gU rfl (IntWalk.i64_in _ (by omega))) ?_;refine uAa rfl rfl rfl (uNi rfl rfl gU gU) ?_;refine uAa rfl rfl rfl (uAy (j:=(min p.at' (l.length - 1))) rfl rfl gU gU rfl rfl (by first | omega | (simp at hh ⊢; omega)) (fun hh=>Tk.rows_at (by first | omega | (simp at hh ⊢; omega)))) ?_;refine uAa rfl rfl rfl (uAT rfl gU rfl rfl) ?_;refine uAa rfl rfl rfl (uAR rfl gU rfl rfl rfl) ?_;refine uBq (s:=⟨[(18,_,_)],[],[],[]⟩) (uAj (⟨sx rfl,trivial⟩) trivial trivial) ?_;refine uAa rfl rfl rfl (uAd rfl gU) ?_;refine uAf ?_;refine uAp ?_
  repeat (first | refine tR ?_ | refine bR ?_)
  refine uAv rfl ?_ trivial
  rw [uFv,if_neg (by omega)]
  split
  ·rename_i h
   exact uBj (by rw [show min p.at' (l.length - 1)=l.length - 1 by omega])
  ·rename_i h
   exact uBj (by rw [show min p.at' (l.length - 1)=p.at' by omega])
theorem uMi {l : List (List UInt8)} {s : List UInt8} {k : Nat} {e : Int} (h : k < l.length) (hi : (if idxF (fun x=>decide (x=s) && decide (s≠[])) (l.drop k) < 0 then 0 else idxF (fun x=>decide (x=s) && decide (s≠[])) (l.drop k) + k)=e) :
  ((l.getD k []=s∧s≠[])→e=k)∧(¬(l.getD k []=s∧s≠[])→(if idxF (fun x=>decide (x=s) && decide (s≠[])) (l.drop (k + 1)) < 0 then 0 else idxF (fun x=>decide (x=s) && decide (s≠[])) (l.drop (k + 1)) + (k + 1 : Nat))=e):=by
 rw [uG0 (d:=[]) h,idxF] at hi
 refine ⟨fun q=>?_,fun q=>?_⟩
 ·have e1 : (decide (l.getD k []=s) && decide (s≠[]))=true:=by simp only [Bool.and_eq_true,decide_eq_true_eq]; exact q
  rw [e1] at hi
  simp at hi; omega
 ·have e1 : (decide (l.getD k []=s) && decide (s≠[]))=false:=by
   rw [Bool.eq_false_iff]; simp only [ne_eq,Bool.and_eq_true,decide_eq_true_eq]; exact q
  rw [e1] at hi
  simp only [Bool.false_eq_true,if_false] at hi
  have hg:=uIV (fun x=>decide (x=s) && decide (s≠[])) (l.drop (k + 1))
  generalize idxF (fun x=>decide (x=s) && decide (s≠[])) (List.drop (k + 1) l)=x at hi hg ⊢
  rw [← hi]
  by_cases hx : x < 0
  ·rw [if_pos hx,if_pos hx]; simp
  ·rw [if_neg hx,if_neg hx,if_neg (by omega)]; push_cast; omega
theorem uGk (l : List (List UInt8)) (s : List UInt8) : Ctr sys 127 [xss l,xs s] [] (xi (idx0 l s)) none []:=by
 have hrl:=uAh l
 refine uAA Tryz.func127 rfl rfl rfl rfl rfl rfl ?_;refine uAe (uAb ?_);refine uAa rfl rfl rfl (uAd rfl gU) ?_;refine uAf ?_;refine uAe ?_;refine uAe (uAb ?_);refine uAa rfl rfl rfl (uAd rfl gU) ?_;refine uAf ?_;refine uAx ?_;refine uA6 (ι:=Nat) { t:=[(0,_,_),(1,_,_)],bx:=[],ow:=[] } (fun k=>[(5,true,xi (k : Int))]) (fun k=>[]) (fun k=>k≤l.length∧(if idxF (fun x=>decide (x=s) && decide (s≠[])) (l.drop k) < 0 then 0 else idxF (fun x=>decide (x=s) && decide (s≠[])) (l.drop k) + k)=idx0 l s) (fun k=>l.length - k) (0) (⟨by simp,by simp [idx0]⟩) (uAj (⟨sx rfl,sx rfl,sx rfl,trivial⟩) trivial trivial) ?_
 intro k hok
 dsimp only [List.cons_append,List.nil_append]
 obtain ⟨hk,hi⟩:=hok
 refine uAe ?_;refine uAe (uAb ?_);refine uAa rfl rfl rfl (uAc rfl gU) ?_;refine uAa rfl rfl rfl (uAc rfl gU) ?_;refine uAS rfl rfl rfl rfl rfl gU rfl rfl ?_ (fun hh=>by simp at hh); intro hlen;refine uAa rfl rfl rfl (uAm rfl rfl gU gU rfl) ?_;refine uAf ?_;refine uAn rfl (fun hc=>?_) (fun hc=>?_)
 ·try simp only [nn,uAh,T.rows_len,Tk.rows_len] at hc
  have hlt : k < l.length:=by omega
  have hd:=uMi hlt hi
  refine uAq ?_;refine uAe ?_;refine uAx ?_;refine uAe (uAb ?_);refine uAa rfl rfl rfl (uAc rfl gU) ?_;refine uAa rfl rfl rfl (uAc rfl gU) ?_;refine uAa rfl rfl rfl (uAy rfl rfl gU gU rfl rfl rfl (fun hh=>uC3 (by first | omega | (simp at hh ⊢; omega)))) ?_;refine uAa rfl rfl rfl (uAR rfl gU rfl rfl rfl) ?_;refine uAa rfl rfl rfl (uAc rfl gU) ?_;refine uAa rfl rfl rfl (uA9 rfl rfl gU gU rfl) ?_;refine uAa rfl rfl rfl (uAc rfl gU) ?_;refine uAa rfl rfl rfl (uAc rfl gU) ?_;refine uBq (s:=⟨[(0,_,_),(1,_,_),(5,_,_),(18,_,_),(19,_,_)],[],[],[]⟩) (uAj (⟨sx rfl,sx rfl,sx rfl,sx rfl,sx rfl,trivial⟩) trivial trivial) ?_;refine uAa rfl rfl rfl (uA9 rfl rfl (fun hh=>hh) gU rfl) ?_;refine uAa rfl rfl rfl (uAV rfl rfl gU (fun _ hi=>gP rfl hi)) ?_;refine uAf ?_;refine uAn rfl (fun hc2=>?_) (fun hc2=>?_)
  ·try simp only [nn,uAh,T.rows_len,Tk.rows_len] at hc2
   refine uAe (uAb ?_);refine uAa rfl rfl rfl (uAc rfl gU) ?_;refine uAa rfl rfl rfl (uAd rfl gU) ?_;refine uAf ?_;refine uAp ?_
   repeat (first | refine tR ?_ | refine bR ?_)
   refine uAv rfl ?_ trivial;exact uBj (hd.1 hc2).symm
  ·try simp only [nn,uAh,T.rows_len,Tk.rows_len] at hc2
   refine uAq ?_;refine uAb ?_;refine uAa rfl rfl rfl (uAc rfl gU) ?_;refine uAa rfl rfl rfl (uAz rfl rfl gU gU rfl (IntWalk.i64_in _ (by omega))) ?_;refine uAa rfl rfl rfl (uAd rfl gU) ?_;refine uAf ?_;refine ⟨k + 1,?_,?_,uAj (⟨⟨_,rfl,?_⟩,⟨sx rfl,sx rfl,trivial⟩⟩) trivial trivial⟩
   all_goals (first | rfl | omega | exact ⟨by omega,hd.2 (by rintro ⟨q1,q2⟩; rcases hc2 with q | q; exact q q1; exact q2 (by simpa using q))⟩)
 ·try simp only [nn,uAh,T.rows_len,Tk.rows_len] at hc
  rw [List.drop_of_length_le (by omega)] at hi
  refine uAQ ?_
  repeat (first | refine uAE ?_ | refine uAD ?_ | refine uAC rfl ?_)
  refine uAe (uAb ?_);refine uAa rfl rfl rfl (uAd rfl gU) ?_;refine uAf ?_;refine uAp ?_
  repeat (first | refine tR ?_ | refine bR ?_)
  refine uAv rfl ?_ trivial;exact uBj hi
theorem uDh (l : List Tk) (p : PS) (ws : List (List UInt8)) (hl : l.length≤2000000) (hp : p.at'≤3000000) : Ctr sys 78 [xr l p,xss ws] [] (.tup [.c (.i .i64 (chR l ws p).1), .agg (pbx l (chR l ws p).2)]) none []:=by
 refine uAA Tryz.func78 rfl rfl rfl rfl rfl rfl ?_;refine uAe (uAb ?_);refine uAr rfl (uAX rfl rfl rfl rfl) ?_;refine uAa rfl rfl rfl (uAd rfl gU) ?_;refine uAr rfl (uAG rfl rfl rfl) ?_;refine uAf ?_;refine uAe (uAb ?_);refine uAa rfl rfl rfl (uAo rfl gU rfl rfl rfl rfl rfl) ?_;refine uAw rfl rfl rfl rfl rfl rfl gU gU (uBI _ _ (by omega) (by omega)) rfl ?_;refine uAa rfl rfl rfl (uAc rfl gU) ?_;refine uAa rfl rfl rfl (uAu rfl gU rfl) ?_;refine uAa rfl rfl rfl (uAu rfl gU rfl) ?_;refine uAr rfl (uAG rfl rfl rfl) ?_;refine uAa rfl rfl rfl (uAd rfl gU) ?_;refine uAr rfl (uAt rfl rfl rfl rfl rfl rfl rfl) ?_;refine uAf ?_;refine uAk (s:=⟨[(1,_,_),(2,_,_),(5,_,_),(6,_,_),(7,_,_)],[(.l 2,_),(.l 5,_),(.l 7,_)],[],[]⟩) (uAj (⟨sx rfl,sx rfl,sx rfl,sx rfl,sx rfl,trivial⟩) (⟨sx rfl,sx rfl,sx rfl,trivial⟩) trivial) ?_;refine uAe ?_;refine uAe (uAb ?_);refine uAa rfl rfl rfl (uAg rfl gU rfl rfl) ?_;refine uAa rfl rfl rfl (uAl rfl gU rfl rfl rfl rfl) ?_;refine uAa rfl rfl rfl (uAc rfl gU) ?_;refine uAa rfl rfl rfl (uAc rfl gU) ?_;refine uAa rfl rfl rfl (uAc rfl gU) ?_;refine uAw rfl rfl rfl rfl rfl rfl gU (fun hh=>gA ((fun hh=>hh) hh) (gA ((fun hh=>hh) hh) (rfl))) (uGk _ _) rfl ?_
 refine uAa rfl rfl rfl (uAm rfl rfl (fun hh=>hh) gU rfl) ?_;refine uAa rfl rfl rfl (uAJ rfl rfl gU (fun _ hi=>gP rfl hi)) ?_;refine uAf ?_;refine uAk (s:=⟨[(1,_,_),(2,_,_),(5,_,_),(6,_,_),(7,_,_),(20,_,_)],[(.l 2,_),(.l 5,_),(.l 7,_)],[],[]⟩) (uAj (⟨sx rfl,sx rfl,sx rfl,sx rfl,sx rfl,sx rfl,trivial⟩) (⟨sx rfl,sx rfl,sx rfl,trivial⟩) trivial) ?_;refine uAn rfl (fun hc=>?_) (fun hc=>?_)
 ·try simp only [nn,uAh,T.rows_len,Tk.rows_len] at hc
  have h : chR l ws p=(0,p.off):=by rw [chR,if_pos hc]
  rw [h]
  refine uAe (uAb ?_);refine uAa rfl rfl rfl (uAg rfl gU rfl rfl) ?_;refine uAr rfl (uAt rfl rfl rfl rfl rfl rfl rfl) ?_;refine uAf ?_;refine uAe ?_;refine awp_drawn' (by kernel_rfl) ?_;refine uAI rfl rfl rfl rfl rfl rfl rfl gU rfl rfl rfl rfl rfl ?_;refine uAi rfl rfl rfl rfl (uAd rfl gU) ?_;refine uAU rfl rfl rfl rfl rfl rfl rfl rfl rfl rfl rfl rfl ?_;refine uA2 (by kernel_rfl) ?_;refine uAp ?_
  repeat (first | refine tR ?_ | refine bR ?_)
  refine uAv rfl ?_ trivial
  rfl
 ·try simp only [nn,uAh,T.rows_len,Tk.rows_len] at hc
  have h : chR l ws p=(idx0 ws (uAs l [] p).1,(uAs l [] p).2):=by rw [chR,if_neg (by rintro (q | q); { rw [hc.1] at q; cases q }; { exact hc.2 q })]
  rw [h]
  refine uAq ?_;refine uAe ?_;refine awp_drawn' (by kernel_rfl) ?_;refine uAi rfl rfl rfl rfl (uAc rfl gU) ?_;refine uAi rfl rfl rfl rfl (uAc rfl gU) ?_;refine uAW rfl rfl rfl rfl rfl rfl rfl gU gU (uGk _ _) rfl ?_;refine uAI rfl rfl rfl rfl rfl rfl rfl gU rfl rfl rfl rfl rfl ?_;refine uAi rfl rfl rfl rfl (uAd rfl gU) ?_;refine uAU rfl rfl rfl rfl rfl rfl rfl rfl rfl rfl rfl rfl ?_;refine uA2 (by kernel_rfl) ?_;refine uAp ?_
  repeat (first | refine tR ?_ | refine bR ?_)
  refine uAv rfl ?_ trivial
  rfl
theorem uDc (l : List Tk) (p : PS) (hl : l.length≤2000000) (hp : p.at'≤l.length) : Ctr sys 128 [xr l p] [] (.tup [.c (.sl 1 (strR (uBm l p).1)), .agg (pbx l (uBm l p).2)]) none []:=by
 have hrl:=Tk.rows_len l
 have h0:=uA4 l [] p
 refine uAA Tryz.func128 rfl rfl rfl rfl rfl rfl ?_;refine uAe (uAb ?_);refine uAr rfl (uAX rfl rfl rfl rfl) ?_;refine uAr rfl (uBy (.inr rfl) rfl rfl) ?_;refine uAr rfl (uAG rfl rfl rfl) ?_;refine uAf ?_;refine uAe (uAb ?_);refine uAa rfl rfl rfl (uAo rfl gU rfl rfl rfl rfl rfl) ?_;refine uAw rfl rfl rfl rfl rfl rfl gU gU (uBI _ _ (by omega) (by omega)) rfl ?_;refine uAa rfl rfl rfl (uAc rfl gU) ?_;refine uAa rfl rfl rfl (uAu rfl gU rfl) ?_;refine uAa rfl rfl rfl (uAu rfl gU rfl) ?_;refine uAa rfl rfl rfl (uAd rfl gU) ?_;refine uAr rfl (uAt rfl rfl rfl rfl rfl rfl rfl) ?_;refine uAf ?_;refine uAk (s:=⟨[(1,_,_),(3,_,_),(4,_,_)],[(.l 1,_),(.l 3,_)],[],[]⟩) (uAj (⟨sx rfl,sx rfl,sx rfl,trivial⟩) (⟨sx rfl,sx rfl,trivial⟩) trivial) ?_;refine uAe (uAb ?_);refine uAa rfl rfl rfl (uAc rfl gU) ?_;refine uAH (xs:=[_]) rfl rfl rfl rfl rfl rfl rfl rfl rfl gU rfl ?_;refine uAr rfl (uAL (.inr rfl) rfl rfl rfl) ?_;refine uAf ?_;refine uAe ?_;refine uAx ?_;refine uA6 (ι:=PS × List (List UInt8) × List UInt8) { t:=[(1,_,_),(3,_,_)],bx:=[(.l 3,_)],ow:=[(.t 5,_)] } (fun q=>[(4,true,xs q.2.2),(5,true,xss q.2.1)]) (fun q=>[((.l 1),pbx l q.1)]) (fun q=>q.1.at'≤l.length∧q.2.1.length≤q.1.at' + 1 ∧ ∃ n,l.length + 1≤n + q.1.at'∧uBP l (uAs l []) n q.1 q.2.1=uBm l p) (fun q=>l.length - q.1.at') (((uAs l [] p).2,[(uAs l [] p).1],(uAs l [] p).1)) (⟨h0.2 hp,by simp,_,by dsimp only; omega,rfl⟩) (uAj (⟨sx rfl,sx rfl,sx rfl,sx rfl,trivial⟩) (⟨sx rfl,sx rfl,trivial⟩) (⟨rfl,trivial⟩)) ?_
 intro q hok
 dsimp only [List.cons_append,List.nil_append] at *
 obtain ⟨q,out,x⟩:=q
 dsimp only at hok ⊢
 obtain ⟨hq,ho,n,hn,hi⟩:=hok
 have hro:=uAh out
 refine uAe ?_;refine uAe (uAb ?_);refine uAa rfl rfl rfl (uAo rfl gU rfl rfl rfl rfl rfl) ?_;refine uAw rfl rfl rfl rfl rfl rfl gU gU (uCJ _ _ _ (by omega) (by omega)) rfl ?_;refine uAf ?_;refine uAn rfl (fun hc=>?_) (fun hc=>?_)
 ·try simp only [nn,uAh,T.rows_len,Tk.rows_len] at hc
  have hlt:=(uBL hc).1
  have hs : uAK l [44] q=q.go:=by rw [uAK,if_pos hc]
  have h1:=uA4 l [] q.go
  have hg : q.go.at'=q.at' + 1:=rfl
  obtain ⟨n,rfl⟩ : ∃ k,n=k + 1:=⟨n - 1,by omega⟩
  rw [uEC hc] at hi
  have hsy:=uA1 l q [44] (by omega) (by omega)
  rw [hs] at hsy
  refine uAq ?_;refine uAx ?_;refine uAe (uAb ?_);refine uAa rfl rfl rfl (uAo rfl gU rfl rfl rfl rfl rfl) ?_;refine uAw rfl rfl rfl rfl rfl rfl gU gU (hsy) rfl ?_;refine uAw rfl rfl rfl rfl rfl rfl gU gU (uBI l q.go (by omega) (by omega)) rfl ?_;refine uAa rfl rfl rfl (uAc rfl gU) ?_;refine uAa rfl rfl rfl (uAu rfl gU rfl) ?_;refine uAa rfl rfl rfl (uAu rfl gU rfl) ?_;refine uAa rfl rfl rfl (uAd rfl gU) ?_;refine uAr rfl (uAt rfl rfl rfl rfl rfl rfl rfl) ?_;refine uAf ?_;refine uAk (s:=⟨[(1,_,_),(3,_,_),(4,_,_),(5,_,_)],[(.l 1,_),(.l 3,_)],[(.t 5,_)],[]⟩) (uAj (⟨sx rfl,sx rfl,sx rfl,sx rfl,trivial⟩) (⟨sx rfl,sx rfl,trivial⟩) (⟨rfl,trivial⟩)) ?_;refine uAb ?_;refine uAr rfl (uAL (.inl rfl) rfl rfl rfl) ?_;refine uAa rfl rfl rfl (uAc rfl gU) ?_;refine uAH (xs:=[_]) rfl rfl rfl rfl rfl rfl rfl rfl rfl gU rfl ?_;refine uAr rfl (uA0 rfl rfl rfl rfl rfl rfl rfl (by first | omega | (simp only [List.length_append,List.length_singleton,uAh]; omega)) (by first | omega | (simp only [List.length_append,List.length_singleton,uAh]; omega))) ?_;refine uAr rfl (uAL (.inr rfl) rfl rfl rfl) ?_;refine uAf ?_;refine ⟨((uAs l [] q.go).2,out++[(uAs l [] q.go).1],(uAs l [] q.go).1),?_,?_,uAj (⟨⟨_,rfl,?_⟩,⟨⟨_,rfl,?_⟩,⟨sx rfl,sx rfl,trivial⟩⟩⟩) (⟨⟨_,rfl,?_⟩,⟨sx rfl,trivial⟩⟩) (⟨rfl,trivial⟩)⟩
  ·exact ⟨h1.2 (by omega),by simp only [List.length_append,List.length_singleton]; omega,n,by dsimp only; omega,hi⟩
  ·dsimp only; omega
  ·rfl
  ·exact tx (uCn _ _)
  all_goals rfl
 ·try simp only [nn,uAh,T.rows_len,Tk.rows_len] at hc
  rw [uCU hc] at hi
  refine uAQ ?_
  repeat (first | refine uAE ?_ | refine uAD ?_ | refine uAC rfl ?_)
  refine uAe ?_;refine awp_drawn' (by kernel_rfl) ?_;refine uDy rfl (.inl rfl) rfl rfl rfl rfl rfl ?_;refine uAI rfl rfl rfl rfl rfl rfl rfl gU rfl rfl rfl rfl rfl ?_;refine uDy rfl (.inr rfl) rfl rfl rfl rfl rfl ?_;refine uAU rfl rfl rfl rfl rfl rfl rfl rfl rfl rfl rfl rfl ?_;refine uA2 (by kernel_rfl) ?_;refine uAp ?_
  repeat (first | refine tR ?_ | refine bR ?_)
  refine uAv rfl ?_ trivial
  (rw [← hi]; rfl)
theorem uME : ∀ (n : Nat) (ts : List T),ts.length≤n→n≤3000000→0 < ts.length→Ctr sys 120 [xl ts] [] (xm (tupT ts)) none []:=by
 intro n
 induction n with
 | zero=>intro ts h _ h0; omega
 | succ n ih =>
  intro ts hts hn h0
  have hrl:=T.rows_len ts
  refine uAA Tryz.func120 rfl rfl rfl rfl rfl rfl ?_;refine uAe (uAb ?_);refine uAr rfl (uAG rfl rfl rfl) ?_;refine uAf ?_;refine uAe ?_;refine uAe (uAb ?_);refine uAa rfl rfl rfl (uAc rfl gU) ?_;refine uAS rfl rfl rfl rfl rfl gU rfl rfl ?_ (fun hh=>by simp at hh); intro hlen;refine uAa rfl rfl rfl (uAm rfl rfl gU gU rfl) ?_;refine uAf ?_;refine uAn rfl (fun hc=>?_) (fun hc=>?_)
  ·try simp only [nn,uAh,T.rows_len,Tk.rows_len] at hc
   obtain ⟨t,rfl⟩ : ∃ t,ts=[t]:=by
    match ts,hc with
    | [t],_=>exact ⟨t,rfl⟩
    | [],h=>simp at h
    | _ :: _ :: _,h=>simp at h; omega
   refine uAe (uAb ?_);refine uAa rfl rfl rfl (uAc rfl gU) ?_;refine uAa rfl rfl rfl (uAy (j:=0) rfl rfl gU gU rfl rfl (by first | omega | (simp at hh ⊢; omega)) (fun hh=>T.rows_at (by first | omega | (simp at hh ⊢; omega)))) ?_;refine uAa rfl rfl rfl (uAP rfl gU rfl rfl rfl rfl) ?_;refine uAr rfl (uAt rfl rfl rfl rfl rfl rfl rfl) ?_;refine uAf ?_;refine uAp ?_
   repeat (first | refine tR ?_ | refine bR ?_)
   refine uAv rfl ?_ trivial
   rfl
  ·try simp only [nn,uAh,T.rows_len,Tk.rows_len] at hc
   obtain ⟨t,u,r,rfl⟩ : ∃ t u r,ts=t :: u :: r:=by
    match ts,hc,h0 with
    | [t],h,_=>exact absurd rfl h
    | [],_,h=>simp at h
    | t :: u :: r,_,_=>exact ⟨t,u,r,rfl⟩
   simp only [List.length_cons] at hts hrl
   have htu:=ih (u :: r) (by simp only [List.length_cons]; omega) (by omega) (by simp)
   have htu2 : ∀ rs : List (List C),rs=T.rows (u :: r)→Ctr sys 120 [.v (.c (.sl 4 rs))] [] (xm (tupT (u :: r))) none []:=by
    intro rs h; subst h; exact htu
   refine uAq ?_;refine uAe ?_;refine awp_drawn' (by kernel_rfl) ?_;refine uAi rfl rfl rfl rfl (uAc rfl gU) ?_;refine uAi rfl rfl rfl rfl (uAy (j:=0) rfl rfl gU gU rfl rfl (by first | omega | (simp at hh ⊢; omega)) (fun hh=>T.rows_at (by first | omega | (simp at hh ⊢; omega)))) ?_;refine uAi rfl rfl rfl rfl (uAP rfl gU rfl rfl rfl rfl) ?_;refine uAi rfl rfl rfl rfl (uAc rfl gU) ?_;refine uAi rfl rfl rfl rfl (uHh (l:=1) rfl gU rfl rfl (fun _=>⟨_,_,_,rfl,gU,by first | omega | (simp at hh ⊢; omega)⟩) (fun _=>rfl) (fun hh=>by first | omega | (simp at hh ⊢; omega)) (fun hh=>by first | omega | (simp at hh ⊢; omega))) ?_;refine uAW rfl rfl rfl rfl rfl rfl rfl gU gU (htu2 _ (by simp [T.rows_eq,List.take_of_length_le])) rfl ?_;refine uCs (xs:=[_,_]) rfl rfl rfl rfl rfl rfl rfl rfl rfl rfl gU rfl ?_;refine uAW rfl rfl rfl rfl rfl rfl rfl gU gU (uDz _ _ [t,tupT (u :: r)] (by simp [T.rows_eq,T.cells]) (by simp)) rfl ?_;refine uAU rfl rfl rfl rfl rfl rfl rfl rfl rfl rfl rfl rfl ?_;refine uA2 (by kernel_rfl) ?_;refine uAp ?_
   repeat (first | refine tR ?_ | refine bR ?_)
   refine uAv rfl ?_ trivial
   rfl
theorem uJi (ts : List T) (rs : List (List C)) (h : rs=T.rows ts) (hts : ts.length≤3000000) (h0 : 0 < ts.length) : Ctr sys 120 [.v (.c (.sl 4 rs))] [] (xm (tupT ts)) none []:=by
 subst h; exact uME _ ts hts (Nat.le_refl _) h0
theorem uEH (l : List Tk) (n : Nat) (hl : l.length≤2000000) (ih : ∀ p : PS,p.at'≤l.length→l.length - p.at' < n→Ctr sys 68 [xr l p] [] (.tup [.agg (uA8 l n p).1.cells, .agg (pbx l (uA8 l n p).2)]) none []) (hf : Fwd l (uA8 l n)) (p : PS) (hp : p.at'≤l.length) (hn : l.length - p.at' < n) :
  Ctr sys 119 [xr l p] [] (.tup [.c (.sl 4 (T.rows (uBc l (uA8 l n) p).1)), .agg (pbx l (uBc l (uA8 l n) p).2)]) none []:=by
 have hrl:=Tk.rows_len l
 have h0:=hf p
 refine uAA Tryz.func119 rfl rfl rfl rfl rfl rfl ?_;refine uAe (uAb ?_);refine uAr rfl (uAX rfl rfl rfl rfl) ?_;refine uAr rfl (uBy (.inr rfl) rfl rfl) ?_;refine uAr rfl (uAG rfl rfl rfl) ?_;refine uAf ?_;refine uAe (uAb ?_);refine uAa rfl rfl rfl (uAo rfl gU rfl rfl rfl rfl rfl) ?_;refine uAw rfl rfl rfl rfl rfl rfl gU gU (ih p hp hn) rfl ?_;refine uAa rfl rfl rfl (uAc rfl gU) ?_;refine uAa rfl rfl rfl (uAu rfl gU rfl) ?_;refine uAa rfl rfl rfl (uAu rfl gU rfl) ?_;refine uAr rfl (uAG rfl rfl rfl) ?_;refine uAr rfl (uAt rfl rfl rfl rfl rfl rfl rfl) ?_;refine uAr rfl (uAt rfl rfl rfl rfl rfl rfl rfl) ?_;refine uAf ?_;refine uAk (s:=⟨[(1,_,_),(3,_,_),(4,_,_)],[(.l 1,_),(.l 3,_),(.l 4,_)],[],[]⟩) (uAj (⟨sx rfl,sx rfl,sx rfl,trivial⟩) (⟨sx rfl,sx rfl,sx rfl,trivial⟩) trivial) ?_;refine uAe (uAb ?_);refine uAa rfl rfl rfl (uAo rfl gU rfl rfl rfl rfl rfl) ?_;refine uAH (xs:=[_]) rfl rfl rfl rfl rfl rfl rfl rfl rfl gU rfl ?_;refine uAr rfl (uAL (.inr rfl) rfl rfl rfl) ?_;refine uAf ?_;refine uAe ?_;refine uAx ?_;refine uA6 (ι:=PS × List T × T) { t:=[(1,_,_),(3,_,_),(4,_,_)],bx:=[(.l 3,_)],ow:=[(.t 5,_)] } (fun q=>[(5,true,xl q.2.1)]) (fun q=>[((.l 4),q.2.2.cells),((.l 1),pbx l q.1)]) (fun q=>p.at'≤q.1.at'∧q.1.at'≤l.length∧q.2.1.length≤q.1.at' + 1 ∧ ∃ k,l.length + 1≤k + q.1.at'∧uBP l (uA8 l n) k q.1 q.2.1=uBc l (uA8 l n) p) (fun q=>l.length - q.1.at') (((uA8 l n p).2,[(uA8 l n p).1],(uA8 l n p).1)) (⟨h0.1,h0.2 hp,by simp,_,by dsimp only; omega,rfl⟩) (uAj (⟨⟨_,rfl,by exact tx (uEO [] (uA8 l n p).1)⟩,⟨sx rfl,sx rfl,sx rfl,trivial⟩⟩) (⟨sx rfl,sx rfl,sx rfl,trivial⟩) (⟨rfl,trivial⟩)) ?_
 intro q hok
 dsimp only [List.cons_append,List.nil_append] at *
 obtain ⟨q,out,x⟩:=q
 dsimp only at hok ⊢
 obtain ⟨hq0,hq,ho,k,hk,hi⟩:=hok
 have hro:=T.rows_len out
 refine uAe ?_;refine uAe (uAb ?_);refine uAa rfl rfl rfl (uAo rfl gU rfl rfl rfl rfl rfl) ?_;refine uAw rfl rfl rfl rfl rfl rfl gU gU (uCJ _ _ _ (by omega) (by omega)) rfl ?_;refine uAf ?_;refine uAn rfl (fun hc=>?_) (fun hc=>?_)
 ·try simp only [nn,uAh,T.rows_len,Tk.rows_len] at hc
  have hlt:=(uBL hc).1
  have hs : uAK l [44] q=q.go:=by rw [uAK,if_pos hc]
  have hg : q.go.at'=q.at' + 1:=rfl
  have h1:=hf q.go
  obtain ⟨k,rfl⟩ : ∃ j,k=j + 1:=⟨k - 1,by omega⟩
  rw [uEC hc] at hi
  have hsy:=uA1 l q [44] (by omega) (by omega)
  rw [hs] at hsy
  refine uAq ?_;refine uAx ?_;refine uAe (uAb ?_);refine uAa rfl rfl rfl (uAo rfl gU rfl rfl rfl rfl rfl) ?_;refine uAw rfl rfl rfl rfl rfl rfl gU gU (hsy) rfl ?_;refine uAw rfl rfl rfl rfl rfl rfl gU gU (ih q.go (by omega) (by omega)) rfl ?_;refine uAa rfl rfl rfl (uAc rfl gU) ?_;refine uAa rfl rfl rfl (uAu rfl gU rfl) ?_;refine uAa rfl rfl rfl (uAu rfl gU rfl) ?_;refine uAr rfl (uAt rfl rfl rfl rfl rfl rfl rfl) ?_;refine uAr rfl (uAt rfl rfl rfl rfl rfl rfl rfl) ?_;refine uAf ?_;refine uAk (s:=⟨[(1,_,_),(3,_,_),(4,_,_),(5,_,_)],[(.l 1,_),(.l 3,_),(.l 4,_)],[(.t 5,_)],[]⟩) (uAj (⟨sx rfl,sx rfl,sx rfl,sx rfl,trivial⟩) (⟨sx rfl,sx rfl,sx rfl,trivial⟩) (⟨rfl,trivial⟩)) ?_;refine uAb ?_;refine uAr rfl (uAL (.inl rfl) rfl rfl rfl) ?_;refine uAa rfl rfl rfl (uAo rfl gU rfl rfl rfl rfl rfl) ?_;refine uAH (xs:=[_]) rfl rfl rfl rfl rfl rfl rfl rfl rfl gU rfl ?_;refine uAr rfl (uA0 rfl rfl rfl rfl rfl rfl rfl (by first | omega | (simp only [List.length_append,List.length_singleton,T.rows_len]; omega)) (by first | omega | (simp only [List.length_append,List.length_singleton,T.rows_len]; omega))) ?_;refine uAr rfl (uAL (.inr rfl) rfl rfl rfl) ?_;refine uAf ?_;refine ⟨((uA8 l n q.go).2,out++[(uA8 l n q.go).1],(uA8 l n q.go).1),?_,?_,uAj (⟨⟨_,rfl,?_⟩,⟨sx rfl,sx rfl,sx rfl,trivial⟩⟩) (⟨⟨_,rfl,?_⟩,⟨⟨_,rfl,?_⟩,⟨sx rfl,trivial⟩⟩⟩) (⟨rfl,trivial⟩)⟩
  ·exact ⟨by dsimp only; omega,h1.2 (by omega),by simp only [List.length_append,List.length_singleton]; omega,k,by dsimp only; omega,hi⟩
  ·dsimp only; omega
  all_goals first
   | rfl
   | exact tx (uEO out (uA8 l n q.go).1)
 ·try simp only [nn,uAh,T.rows_len,Tk.rows_len] at hc
  rw [uCU hc] at hi
  refine uAQ ?_
  repeat (first | refine uAE ?_ | refine uAD ?_ | refine uAC rfl ?_)
  refine uAe ?_;refine awp_drawn' (by kernel_rfl) ?_;refine uDy rfl (.inl rfl) rfl rfl rfl rfl rfl ?_;refine uAI rfl rfl rfl rfl rfl rfl rfl gU rfl rfl rfl rfl rfl ?_;refine uDy rfl (.inr rfl) rfl rfl rfl rfl rfl ?_;refine uAU rfl rfl rfl rfl rfl rfl rfl rfl rfl rfl rfl rfl ?_;refine uA2 (by kernel_rfl) ?_;refine uAp ?_
  repeat (first | refine tR ?_ | refine bR ?_)
  refine uAv rfl ?_ trivial
  (rw [← hi]; rfl)
theorem uDm (l : List Tk) (n : Nat) : Fwd l (uA8 l n):=fun p=>by rw [(uFy l n p).1]; exact uCH l n p
theorem uIg (l : List Tk) (n : Nat) (p : PS) : (uBc l (uA8 l n) p).1.length + p.at'≤1 + (uBc l (uA8 l n) p).2.at':=uDZ (uDm l n) p
theorem uNK {l : List Tk} {n : Nat} {p : PS} (h : symQ l p [60]=true) (hb : (uAK l [62] (uBc l (uA8 l n) (uAK l [44] (uA8 l n p.go).2)).2).bad=true) : uA8 l (n + 1) p=(T0,uAK l [62] (uBc l (uA8 l n) (uAK l [44] (uA8 l n p.go).2)).2):=by
 rw [uA8,if_pos h,if_pos hb]
theorem uNg {l : List Tk} {n : Nat} {p : PS} (h : symQ l p [60]=true) (hb : (uAK l [62] (uBc l (uA8 l n) (uAK l [44] (uA8 l n p.go).2)).2).bad=false) :
  uA8 l (n + 1) p=(tupT ((uA8 l n p.go).1 :: (uBc l (uA8 l n) (uAK l [44] (uA8 l n p.go).2)).1),uAK l [62] (uBc l (uA8 l n) (uAK l [44] (uA8 l n p.go).2)).2):=by
 rw [uA8,if_pos h,if_neg (by rw [hb]; simp)]
theorem uN1 {l : List Tk} {n : Nat} {p : PS} (h : symQ l p [60]=false) (h2 : symQ l (uAs l [] p).2 [40]=false) : uA8 l (n + 1) p=(⟨2,(uAs l [] p).1,0,[]⟩,(uAs l [] p).2):=by
 rw [uA8,if_neg (by rw [h]; simp),if_neg (by rw [h2]; simp)]
theorem uOt {l : List Tk} {n : Nat} {p : PS} (h : symQ l p [60]=false) (h2 : symQ l (uAs l [] p).2 [40]=true) (h3 : symQ l (uAs l [] p).2.go [41]=true) : uA8 l (n + 1) p=(⟨3,(uAs l [] p).1,0,[]⟩,(uAs l [] p).2.go.go):=by
 rw [uA8,if_neg (by rw [h]; simp),if_pos h2,if_pos h3]
theorem uOe {l : List Tk} {n : Nat} {p : PS} (h : symQ l p [60]=false) (h2 : symQ l (uAs l [] p).2 [40]=true) (h3 : symQ l (uAs l [] p).2.go [41]=false) :
  uA8 l (n + 1) p=(⟨3,(uAs l [] p).1,0,(uBc l (uA8 l n) (uAs l [] p).2.go).1⟩,uAK l [41] (uBc l (uA8 l n) (uAs l [] p).2.go).2):=by
 rw [uA8,if_neg (by rw [h]; simp),if_pos h2,if_neg (by rw [h3]; simp)]
set_option maxHeartbeats 4000000 in
theorem uDV (l : List Tk) (hl : l.length≤2000000) : ∀ (n : Nat) (p : PS),p.at'≤l.length→l.length - p.at' < n→Ctr sys 68 [xr l p] [] (.tup [.agg (uA8 l n p).1.cells, .agg (pbx l (uA8 l n p).2)]) none []:=by
 intro n
 induction n with
 | zero=>intro p _ h; omega
 | succ n ih =>
  intro p hp hn
  have hrl:=Tk.rows_len l
  have hg : ∀ q : PS,q.go.at'=q.at' + 1:=fun _=>rfl
  have hml : ∀ q : PS,(T.rows (uBc l (uA8 l n) q).1).length=(uBc l (uA8 l n) q).1.length:=fun q=>T.rows_len _
  refine uAA Tryz.func68 rfl rfl rfl rfl rfl rfl ?_;refine uAe (uAb ?_);refine uAr rfl (uAX rfl rfl rfl rfl) ?_;refine uAr rfl (uAG rfl rfl rfl) ?_;refine uAr rfl (uAG rfl rfl rfl) ?_;refine uAf ?_;refine uAe ?_;refine uAe (uAb ?_);refine uAa rfl rfl rfl (uAo rfl gU rfl rfl rfl rfl rfl) ?_;refine uAw rfl rfl rfl rfl rfl rfl gU gU (uCJ _ _ _ (by omega) (by omega)) rfl ?_;refine uAf ?_;refine uAk (s:=⟨[(1,_,_),(2,_,_),(3,_,_),(10,_,_)],[(.l 1,_),(.l 2,_),(.l 3,_)],[],[]⟩) (uAj (⟨sx rfl,sx rfl,sx rfl,sx rfl,trivial⟩) (⟨sx rfl,sx rfl,sx rfl,trivial⟩) trivial) ?_;refine uAn rfl (fun hc=>?_) (fun hc=>?_)
  ·try simp only [nn,uAh,T.rows_len,Tk.rows_len] at hc
   have hlt:=(uBL hc).1
   have hs : uAK l [60] p=p.go:=by rw [uAK,if_pos hc]
   have hgp:=hg p
   have a1:=uDm l n p.go
   have a2:=uBu l [44] (uA8 l n p.go).2
   have a3:=uCv (uDm l n) (uAK l [44] (uA8 l n p.go).2)
   have a4:=uBu l [62] (uBc l (uA8 l n) (uAK l [44] (uA8 l n p.go).2)).2
   have a5:=uIg l n (uAK l [44] (uA8 l n p.go).2)
   have a6:=hml (uAK l [44] (uA8 l n p.go).2)
   have hsy:=uA1 l p [60] (by omega) (by omega)
   rw [hs] at hsy
   refine uAe (uAb ?_);refine uAa rfl rfl rfl (uAo rfl gU rfl rfl rfl rfl rfl) ?_;refine uAw rfl rfl rfl rfl rfl rfl gU gU (hsy) rfl ?_;refine uAw rfl rfl rfl rfl rfl rfl gU gU (ih p.go (by omega) (by omega)) rfl ?_;refine uAa rfl rfl rfl (uAc rfl gU) ?_;refine uAa rfl rfl rfl (uAu rfl gU rfl) ?_;refine uAa rfl rfl rfl (uAu rfl gU rfl) ?_;refine uAr rfl (uAG rfl rfl rfl) ?_;refine uAr rfl (uAG rfl rfl rfl) ?_;refine uAr rfl (uAt rfl rfl rfl rfl rfl rfl rfl) ?_;refine uAr rfl (uAt rfl rfl rfl rfl rfl rfl rfl) ?_;refine uAf ?_;refine uAk (s:=⟨[(2,_,_),(3,_,_),(4,_,_),(5,_,_)],[(.l 2,_),(.l 3,_),(.l 4,_),(.l 5,_)],[],[]⟩) (uAj (⟨sx rfl,sx rfl,sx rfl,sx rfl,trivial⟩) (⟨sx rfl,sx rfl,sx rfl,sx rfl,trivial⟩) trivial) ?_;refine uAe (uAb ?_);refine uAa rfl rfl rfl (uAo rfl gU rfl rfl rfl rfl rfl) ?_;refine uAw rfl rfl rfl rfl rfl rfl gU gU (uA1 l (uA8 l n p.go).2 [44] (by omega) (by omega)) rfl ?_;refine uAw rfl rfl rfl rfl rfl rfl gU gU (uEH l n hl ih (uDm l n) (uAK l [44] (uA8 l n p.go).2) (by omega) (by omega)) rfl ?_;refine uAa rfl rfl rfl (uAc rfl gU) ?_;refine uAa rfl rfl rfl (uAu rfl gU rfl) ?_;refine uAa rfl rfl rfl (uAu rfl gU rfl) ?_;refine uAa rfl rfl rfl (uAd rfl gU) ?_;refine uAr rfl (uAt rfl rfl rfl rfl rfl rfl rfl) ?_
   refine uAf ?_;refine uAk (s:=⟨[(2,_,_),(3,_,_),(4,_,_),(5,_,_),(6,_,_)],[(.l 2,_),(.l 3,_),(.l 4,_),(.l 5,_)],[],[]⟩) (uAj (⟨sx rfl,sx rfl,sx rfl,sx rfl,sx rfl,trivial⟩) (⟨sx rfl,sx rfl,sx rfl,sx rfl,trivial⟩) trivial) ?_;refine uAe (uAb ?_);refine uAa rfl rfl rfl (uAo rfl gU rfl rfl rfl rfl rfl) ?_;refine uAw rfl rfl rfl rfl rfl rfl gU gU (uA1 l (uBc l (uA8 l n) (uAK l [44] (uA8 l n p.go).2)).2 [62] (by omega) (by omega)) rfl ?_;refine uAr rfl (uAt rfl rfl rfl rfl rfl rfl rfl) ?_;refine uAf ?_;refine uAe ?_;refine uAe (uAb ?_);refine uAa rfl rfl rfl (uAg rfl gU rfl rfl) ?_;refine uAa rfl rfl rfl (uAl rfl gU rfl rfl rfl rfl) ?_;refine uAf ?_;refine uAn rfl (fun hc2=>?_) (fun hc2=>?_)
   ·try simp only [nn,uAh,T.rows_len,Tk.rows_len] at hc2
    rw [uNK hc hc2]
    refine uAe ?_;refine awp_drawn' (by kernel_rfl) ?_;refine uAi rfl rfl rfl rfl (uAY rfl Tryz.underlying39 rfl gU) ?_;refine uAI rfl rfl rfl rfl rfl rfl rfl gU rfl rfl rfl rfl rfl ?_;refine uAU rfl rfl rfl rfl rfl rfl rfl rfl rfl rfl rfl rfl ?_;refine uAU rfl rfl rfl rfl rfl rfl rfl rfl rfl rfl rfl rfl ?_;refine uA2 (by kernel_rfl) ?_;refine uAp ?_
    repeat (first | refine tR ?_ | refine bR ?_)
    refine uAv rfl ?_ trivial
    rfl
   ·try simp only [nn,uAh,T.rows_len,Tk.rows_len] at hc2
    rw [uNg hc hc2]
    refine uAq ?_;refine uAe ?_;refine awp_drawn' (by kernel_rfl) ?_;refine uAI rfl rfl rfl rfl rfl rfl rfl gU rfl rfl rfl rfl rfl ?_;refine uCs (xs:=[_]) rfl rfl rfl rfl rfl rfl rfl rfl rfl rfl gU rfl ?_;refine uAi rfl rfl rfl rfl (uAc rfl gU) ?_;refine uCa rfl rfl rfl rfl rfl rfl rfl rfl rfl rfl rfl (by first | omega | (simp only [List.length_append,List.length_singleton,T.rows_len]; omega)) (by first | omega | (simp only [List.length_append,List.length_singleton,T.rows_len]; omega)) ?_;refine uAW rfl rfl rfl rfl rfl rfl rfl gU gU (uJi ((uA8 l n p.go).1 :: (uBc l (uA8 l n) (uAK l [44] (uA8 l n p.go).2)).1) _ (by rw [T.rows_eq,T.rows_eq]; rfl) (by simp only [List.length_cons]; omega) (by simp)) rfl ?_;refine uAI rfl rfl rfl rfl rfl rfl rfl gU rfl rfl rfl rfl rfl ?_;refine uAU rfl rfl rfl rfl rfl rfl rfl rfl rfl rfl rfl rfl ?_;refine uAU rfl rfl rfl rfl rfl rfl rfl rfl rfl rfl rfl rfl ?_;refine uA2 (by kernel_rfl) ?_;refine uAp ?_
    repeat (first | refine tR ?_ | refine bR ?_)
    refine uAv rfl ?_ trivial
    rfl
  ·try simp only [nn,uAh,T.rows_len,Tk.rows_len] at hc
   have a1:=uA4 l [] p
   refine uAq ?_;refine uAe (uAb ?_);refine uAa rfl rfl rfl (uAo rfl gU rfl rfl rfl rfl rfl) ?_;refine uAw rfl rfl rfl rfl rfl rfl gU gU (uBI l p (by omega) (by omega)) rfl ?_;refine uAa rfl rfl rfl (uAc rfl gU) ?_;refine uAa rfl rfl rfl (uAu rfl gU rfl) ?_;refine uAa rfl rfl rfl (uAu rfl gU rfl) ?_;refine uAa rfl rfl rfl (uAd rfl gU) ?_;refine uAr rfl (uAt rfl rfl rfl rfl rfl rfl rfl) ?_;refine uAf ?_;refine uAk (s:=⟨[(1,_,_),(2,_,_),(3,_,_),(7,_,_)],[(.l 1,_),(.l 2,_),(.l 3,_)],[],[]⟩) (uAj (⟨sx rfl,sx rfl,sx rfl,sx rfl,trivial⟩) (⟨sx rfl,sx rfl,sx rfl,trivial⟩) trivial) ?_;refine uAe ?_;refine uAe (uAb ?_);refine uAa rfl rfl rfl (uAg rfl gU rfl rfl) ?_;refine uAa rfl rfl rfl (uAl rfl gU rfl rfl rfl rfl) ?_;refine uAa rfl rfl rfl (uAc rfl gU) ?_;refine uAa rfl rfl rfl (uAo rfl gU rfl rfl rfl rfl rfl) ?_;refine uAw rfl rfl rfl rfl rfl rfl gU (fun hh=>gA ((fun hh=>hh) hh) (gA rfl (rfl))) (uCJ _ _ _ (by omega) (by omega)) rfl ?_;refine uAa rfl rfl rfl (uAZ rfl (fun hh=>hh)) ?_;refine uAa rfl rfl rfl (uAJ rfl rfl gU (fun _ hi=>gP rfl hi)) ?_;refine uAf ?_;refine uAk (s:=⟨[(1,_,_),(2,_,_),(3,_,_),(7,_,_),(46,_,_)],[(.l 1,_),(.l 2,_),(.l 3,_)],[],[]⟩) (uAj (⟨sx rfl,sx rfl,sx rfl,sx rfl,sx rfl,trivial⟩) (⟨sx rfl,sx rfl,sx rfl,trivial⟩) trivial) ?_
   refine uAn rfl (fun hc2=>?_) (fun hc2=>?_)
   ·try simp only [nn,uAh,T.rows_len,Tk.rows_len] at hc2
    have h2 : symQ l (uAs l [] p).2 [40]=false:=by
     rcases hc2 with q | q
     ·exact uCV q
     ·exact q
    rw [uN1 hc h2]
    refine uAe ?_;refine awp_drawn' (by kernel_rfl) ?_;refine uAi rfl rfl rfl rfl (uAc rfl gU) ?_;refine uAW rfl rfl rfl rfl rfl rfl rfl gU gU (uIc _ _) rfl ?_;refine uAI rfl rfl rfl rfl rfl rfl rfl gU rfl rfl rfl rfl rfl ?_;refine uAU rfl rfl rfl rfl rfl rfl rfl rfl rfl rfl rfl rfl ?_;refine uAU rfl rfl rfl rfl rfl rfl rfl rfl rfl rfl rfl rfl ?_;refine uA2 (by kernel_rfl) ?_;refine uAp ?_
    repeat (first | refine tR ?_ | refine bR ?_)
    refine uAv rfl ?_ trivial
    rfl
   ·try simp only [nn,uAh,T.rows_len,Tk.rows_len] at hc2
    have h2:=hc2.2
    have hlt:=(uBL h2).1
    have hg2:=hg (uAs l [] p).2
    have hs2 : uAK l [40] (uAs l [] p).2=(uAs l [] p).2.go:=by rw [uAK,if_pos h2]
    have hsy:=uA1 l (uAs l [] p).2 [40] (by omega) (by omega)
    rw [hs2] at hsy
    refine uAq ?_;refine uAe (uAb ?_);refine uAa rfl rfl rfl (uAo rfl gU rfl rfl rfl rfl rfl) ?_;refine uAw rfl rfl rfl rfl rfl rfl gU gU (hsy) rfl ?_;refine uAr rfl (uAt rfl rfl rfl rfl rfl rfl rfl) ?_;refine uAf ?_;refine uAe ?_;refine uAe (uAb ?_);refine uAa rfl rfl rfl (uAo rfl gU rfl rfl rfl rfl rfl) ?_;refine uAw rfl rfl rfl rfl rfl rfl gU gU (uCJ _ _ _ (by omega) (by omega)) rfl ?_;refine uAf ?_;refine uAn rfl (fun hc3=>?_) (fun hc3=>?_)
    ·try simp only [nn,uAh,T.rows_len,Tk.rows_len] at hc3
     have hlt3:=(uBL hc3).1
     rw [uOt hc h2 hc3]
     have hs3 : uAK l [41] (uAs l [] p).2.go=(uAs l [] p).2.go.go:=by rw [uAK,if_pos hc3]
     have hsy3:=uA1 l (uAs l [] p).2.go [41] (by omega) (by omega)
     rw [hs3] at hsy3
     refine uAe ?_;refine awp_drawn' (by kernel_rfl) ?_;refine uAi rfl rfl rfl rfl (uAc rfl gU) ?_;refine uAW rfl rfl rfl rfl rfl rfl rfl gU gU (uDz _ _ [] rfl (by simp)) rfl ?_;refine uAI rfl rfl rfl rfl rfl rfl rfl gU rfl rfl rfl rfl rfl ?_;refine uAW rfl rfl rfl rfl rfl rfl rfl gU gU (hsy3) rfl ?_;refine uAU rfl rfl rfl rfl rfl rfl rfl rfl rfl rfl rfl rfl ?_;refine uAU rfl rfl rfl rfl rfl rfl rfl rfl rfl rfl rfl rfl ?_;refine uA2 (by kernel_rfl) ?_;refine uAp ?_
     repeat (first | refine tR ?_ | refine bR ?_)
     refine uAv rfl ?_ trivial
     rfl
    ·try simp only [nn,uAh,T.rows_len,Tk.rows_len] at hc3
     rw [uOe hc h2 hc3]
     have a3:=uCv (uDm l n) (uAs l [] p).2.go
     have a5:=uIg l n (uAs l [] p).2.go
     refine uAq ?_;refine uAe (uAb ?_);refine uAa rfl rfl rfl (uAo rfl gU rfl rfl rfl rfl rfl) ?_;refine uAw rfl rfl rfl rfl rfl rfl gU gU (uEH l n hl ih (uDm l n) (uAs l [] p).2.go (by omega) (by omega)) rfl ?_;refine uAa rfl rfl rfl (uAc rfl gU) ?_;refine uAa rfl rfl rfl (uAu rfl gU rfl) ?_;refine uAa rfl rfl rfl (uAu rfl gU rfl) ?_;refine uAa rfl rfl rfl (uAd rfl gU) ?_;refine uAr rfl (uAt rfl rfl rfl rfl rfl rfl rfl) ?_;refine uAf ?_;refine uAk (s:=⟨[(1,_,_),(2,_,_),(3,_,_),(7,_,_),(8,_,_)],[(.l 1,_),(.l 2,_),(.l 3,_)],[],[]⟩) (uAj (⟨sx rfl,sx rfl,sx rfl,sx rfl,sx rfl,trivial⟩) (⟨sx rfl,sx rfl,sx rfl,trivial⟩) trivial) ?_;refine uAe ?_;refine awp_drawn' (by kernel_rfl) ?_;refine uAi rfl rfl rfl rfl (uAc rfl gU) ?_;refine uAi rfl rfl rfl rfl (uAc rfl gU) ?_;refine uAW rfl rfl rfl rfl rfl rfl rfl gU gU (uDz _ _ (uBc l (uA8 l n) (uAs l [] p).2.go).1 rfl (by omega)) rfl ?_;refine uAI rfl rfl rfl rfl rfl rfl rfl gU rfl rfl rfl rfl rfl ?_;refine uAW rfl rfl rfl rfl rfl rfl rfl gU gU (uA1 l (uBc l (uA8 l n) (uAs l [] p).2.go).2 [41] (by omega) (by omega)) rfl ?_;refine uAU rfl rfl rfl rfl rfl rfl rfl rfl rfl rfl rfl rfl ?_;refine uAU rfl rfl rfl rfl rfl rfl rfl rfl rfl rfl rfl rfl ?_;refine uA2 (by kernel_rfl) ?_;refine uAp ?_
     repeat (first | refine tR ?_ | refine bR ?_)
     refine uAv rfl ?_ trivial
     rfl
end Go.Proofs.YtnjjdbapadkomaaGreatDoor
namespace Go.Proofs.YtnjjdbapadkomaaGreatDoor
open Go Go.Abs
theorem uEI (s : List UInt8) : Ctr sys 37 [xs s] [] (xm ⟨2,s,0,[]⟩) none []:=by
 refine uAA Tryz.func37 rfl rfl rfl rfl rfl rfl ?_;refine uAe (uAb ?_);refine uAr rfl (uAG rfl rfl rfl) ?_;refine uAf ?_;refine uAe (uAb ?_);refine uAa rfl rfl rfl (uAc rfl gU) ?_;refine uAw rfl rfl rfl rfl rfl rfl gU gU (uIc _ _) rfl ?_;refine uAr rfl (uAt rfl rfl rfl rfl rfl rfl rfl) ?_;refine uAf ?_;refine uAp ?_
 repeat (first | refine tR ?_ | refine bR ?_)
 refine uAv rfl ?_ trivial
 rfl
def exS : List UInt8:=[112,114,111,116,111,99,111,108,32,80,32,123,32,114,111,108,101,32,65,44,32,66,59,32,102,114,101,115,104,32,65,58,32,110,97,32,110,111,110,99,101,59,32,109,101,115,115,97,103,101,32,65,32,45,62,32,66,58,32,101,110,99,40,60,110,97,44,32,65,62,44,32,115,104,107,40,65,44,32,66,41,41,59,32,103,111,97,108,32,115,101,99,114,101,116,32,66,58,32,110,97,59,32,125]
def exM : T:=⟨3,[101,110,99],0,[⟨3,wPair,0,[⟨2,[110,97],0,[]⟩,⟨2,[65],0,[]⟩]⟩,⟨3,[115,104,107],0,[⟨2,[65],0,[]⟩,⟨2,[66],0,[]⟩]⟩]⟩
def exN : Nar:=⟨[80],[[65],[66]],[⟨[65],[110,97],2⟩],[],[⟨[65],[66],exM,1⟩],[⟨1,[66],[],[⟨2,[110,97],0,[]⟩],1⟩]⟩
def exV : List UInt8:=[60,97,44,32,60,98,44,32,99,62,62]
def exT : T:=⟨3,wPair,0,[⟨2,[97],0,[]⟩,⟨3,wPair,0,[⟨2,[98],0,[]⟩,⟨2,[99],0,[]⟩]⟩]⟩
set_option maxRecDepth 100000 in
theorem ex1 : uCN exS=(exN,0,0):=by kernel_rfl
set_option maxRecDepth 100000 in
theorem ex2 : narE uAM exN=0:=by decide +kernel
set_option maxRecDepth 100000 in
theorem ex3 : (lnsP exN.text).length=6∧exN.text.length≤1000:=by decide +kernel
set_option maxRecDepth 100000 in
theorem ex4 : uIo exV=(exT,0,0):=by kernel_rfl
set_option maxRecDepth 100000 in
theorem ex5 : ftE exT=([60,97,44,32,98,44,32,99,62],0):=by decide +kernel
theorem uHy : Ctr sys 10 [] [] (xb true) none []:=by
 have h1:=uG6 exS (by decide)
 rw [ex1] at h1
 have h2:=uJl exN (by decide) (by decide)
 rw [uFu,if_neg (by rw [ex2]; simp)] at h2
 have h3:=uMq exV (by decide)
 rw [ex4] at h3
 have h4:=uGC exT (by decide)
 rw [ex5] at h4
 obtain ⟨x1,x2⟩:=ex3
 have h5:=uJ0 exN.text (by omega)
 have l5:=uAh (lnsP exN.text)
 have h6 : Ctr sys 20 [xm exM,xm exM] [] (xb true) none []:=by
  have := uGc exM exM (by decide) (by decide)
  rwa [T.cmp_self] at this
 refine uAA Tryz.func10 rfl rfl rfl rfl rfl rfl ?_;refine uAe (uAb ?_);refine uAa rfl rfl rfl (uAd rfl gU) ?_;refine uAf ?_;refine uAe (uAb ?_);refine uAw rfl rfl rfl rfl rfl rfl gU gU (h1) rfl ?_;refine uAa rfl rfl rfl (uAc rfl gU) ?_;refine uAa rfl rfl rfl (uAu rfl gU rfl) ?_;refine uAa rfl rfl rfl (uAu rfl gU rfl) ?_;refine uAa rfl rfl rfl (uAu rfl gU rfl) ?_;refine uAr rfl (uAG rfl rfl rfl) ?_;refine uAr rfl (uAt rfl rfl rfl rfl rfl rfl rfl) ?_;refine uAa rfl rfl rfl (uAd rfl gU) ?_;refine uAa rfl rfl rfl (uAd rfl gU) ?_;refine uAf ?_;refine uAk (s:=⟨[(1,_,_),(3,_,_)],[(.l 1,_)],[],[]⟩) (uAj (⟨sx rfl,sx rfl,trivial⟩) (⟨sx rfl,trivial⟩) trivial) ?_;refine uAe (uAb ?_);refine uAa rfl rfl rfl (uAo rfl gU rfl rfl rfl rfl rfl) ?_;refine uAw rfl rfl rfl rfl rfl rfl gU gU (h2) rfl ?_;refine uAa rfl rfl rfl (uAc rfl gU) ?_;refine uAa rfl rfl rfl (uAu rfl gU rfl) ?_;refine uAa rfl rfl rfl (uAu rfl gU rfl) ?_;refine uAa rfl rfl rfl (uAd rfl gU) ?_;refine uAa rfl rfl rfl (uAd rfl gU) ?_;refine uAf ?_;refine uAk (s:=⟨[(1,_,_),(3,_,_),(4,_,_),(5,_,_)],[(.l 1,_)],[],[]⟩) (uAj (⟨sx rfl,sx rfl,sx rfl,sx rfl,trivial⟩) (⟨sx rfl,trivial⟩) trivial) ?_;refine uAe (uAb ?_)
 refine uAw rfl rfl rfl rfl rfl rfl gU gU (h3) rfl ?_;refine uAa rfl rfl rfl (uAc rfl gU) ?_;refine uAa rfl rfl rfl (uAu rfl gU rfl) ?_;refine uAa rfl rfl rfl (uAu rfl gU rfl) ?_;refine uAa rfl rfl rfl (uAu rfl gU rfl) ?_;refine uAr rfl (uAG rfl rfl rfl) ?_;refine uAr rfl (uAt rfl rfl rfl rfl rfl rfl rfl) ?_;refine uAa rfl rfl rfl (uAd rfl gU) ?_;refine uAa rfl rfl rfl (uAd rfl gU) ?_;refine uAf ?_;refine uAk (s:=⟨[(1,_,_),(3,_,_),(4,_,_),(5,_,_),(6,_,_),(8,_,_)],[(.l 1,_),(.l 6,_)],[],[]⟩) (uAj (⟨sx rfl,sx rfl,sx rfl,sx rfl,sx rfl,sx rfl,trivial⟩) (⟨sx rfl,sx rfl,trivial⟩) trivial) ?_;refine uAe (uAb ?_);refine uAa rfl rfl rfl (uAo rfl gU rfl rfl rfl rfl rfl) ?_;refine uAw rfl rfl rfl rfl rfl rfl gU gU (h4) rfl ?_;refine uAa rfl rfl rfl (uAc rfl gU) ?_;refine uAa rfl rfl rfl (uAu rfl gU rfl) ?_;refine uAa rfl rfl rfl (uAu rfl gU rfl) ?_;refine uAa rfl rfl rfl (uAd rfl gU) ?_;refine uAa rfl rfl rfl (uAd rfl gU) ?_;refine uAf ?_;refine uAk (s:=⟨[(1,_,_),(3,_,_),(4,_,_),(5,_,_),(8,_,_),(9,_,_),(10,_,_)],[(.l 1,_)],[],[]⟩) (uAj (⟨sx rfl,sx rfl,sx rfl,sx rfl,sx rfl,sx rfl,sx rfl,trivial⟩) (⟨sx rfl,trivial⟩) trivial) ?_;refine uAe ?_;refine uAe (uAb ?_)
 refine uAa rfl rfl rfl (uAc rfl gU) ?_;refine uAa rfl rfl rfl (uAm rfl rfl gU gU rfl) ?_;refine uAa rfl rfl rfl (uAc rfl gU) ?_;refine uAa rfl rfl rfl (uAc rfl gU) ?_;refine uAa rfl rfl rfl (uAm rfl rfl (fun hh=>hh) gU rfl) ?_;refine uAa rfl rfl rfl (uAJ rfl rfl gU (fun _ hi=>gP rfl hi)) ?_;refine uAa rfl rfl rfl (uAc rfl gU) ?_;refine uAa rfl rfl rfl (uAc rfl gU) ?_;refine uAa rfl rfl rfl (uAm rfl rfl (fun hh=>hh) gU rfl) ?_;refine uAa rfl rfl rfl (uAJ rfl rfl gU (fun _ hi=>gP rfl hi)) ?_;refine uAa rfl rfl rfl (uAc rfl gU) ?_;refine uAa rfl rfl rfl (uAc rfl gU) ?_;refine uBq (s:=⟨[(1,_,_),(4,_,_),(9,_,_),(42,_,_),(43,_,_)],[(.l 1,_)],[],[]⟩) (uAj (⟨sx rfl,sx rfl,sx rfl,sx rfl,sx rfl,trivial⟩) (⟨sx rfl,trivial⟩) trivial) ?_;refine uAa rfl rfl rfl (uAm rfl rfl (fun hh=>hh) gU rfl) ?_;refine uAa rfl rfl rfl (uAJ rfl rfl gU (fun _ hi=>gP rfl hi)) ?_;refine uAa rfl rfl rfl (uAc rfl gU) ?_;refine uAa rfl rfl rfl (uAc rfl gU) ?_;refine uAa rfl rfl rfl (uA9 rfl rfl (fun hh=>hh) gU rfl) ?_;refine uAa rfl rfl rfl (uAJ rfl rfl gU (fun _ hi=>gP rfl hi)) ?_;refine uAa rfl rfl rfl (uAc rfl gU) ?_;refine uAa rfl rfl rfl (uAg rfl gU rfl rfl) ?_;refine uAa rfl rfl rfl (uAl rfl (fun hh=>hh) rfl rfl rfl rfl) ?_;refine uAa rfl rfl rfl (uBa rfl (fun hh=>hh) rfl rfl) ?_
 refine uAa rfl rfl rfl (uAm rfl rfl (fun hh=>hh) gU rfl) ?_;refine uAa rfl rfl rfl (uAJ rfl rfl gU (fun _ hi=>gP rfl hi)) ?_;refine uBq (s:=⟨[(1,_,_),(4,_,_),(55,_,_)],[(.l 1,_)],[],[]⟩) (uAj (⟨sx rfl,sx rfl,sx rfl,trivial⟩) (⟨sx rfl,trivial⟩) trivial) ?_;refine uAa rfl rfl rfl (uAc rfl gU) ?_;refine uAa rfl rfl rfl (uAc rfl gU) ?_;refine uAw rfl rfl rfl rfl rfl rfl gU (fun hh=>gA ((fun hh=>hh) hh) (rfl)) (h5) rfl ?_;refine uAa rfl rfl rfl (uBa rfl (fun hh=>hh) rfl rfl) ?_;refine uAa rfl rfl rfl (uAm rfl rfl (fun hh=>hh) gU rfl) ?_;refine uAa rfl rfl rfl (uAJ rfl rfl gU (fun _ hi=>gP rfl hi)) ?_;refine uAf ?_;refine uAk (s:=⟨[(1,_,_),(61,_,_)],[(.l 1,_)],[],[]⟩) (uAj (⟨sx rfl,sx rfl,trivial⟩) (⟨sx rfl,trivial⟩) trivial) ?_;refine uAn rfl (fun hc=>?_) (fun hc=>?_)
 ·exfalso
  rw [l5,x1] at hc
  simp [exN,Sp.rows] at hc
 ·refine uAq ?_
  refine uAe (uAb ?_);refine uAa rfl rfl rfl (uAd rfl gU) ?_;refine uAf ?_;refine uAe ?_;refine awp_drawn' (by kernel_rfl) ?_;refine uAi rfl rfl rfl rfl (uAg rfl gU rfl rfl) ?_;refine uA3 rfl rfl rfl rfl rfl rfl rfl gU rfl rfl rfl rfl ?_;refine uAi rfl rfl rfl rfl (uAy (j:=0) rfl rfl gU gU rfl rfl (by first | omega | (simp at hh ⊢; omega) | decide) (fun hh=>Sp.rows_at (by first | omega | (simp at hh ⊢; omega) | decide))) ?_;refine uAi rfl rfl rfl rfl (uAT rfl gU rfl rfl) ?_;refine uAi rfl rfl rfl rfl (uAP rfl gU rfl rfl rfl rfl) ?_;refine uAi rfl rfl rfl rfl (uAc rfl gU) ?_;refine uAW rfl rfl rfl rfl rfl rfl rfl gU gU (uEI [110,97]) rfl ?_;refine uAi rfl rfl rfl rfl (uAc rfl gU) ?_;refine uAW rfl rfl rfl rfl rfl rfl rfl gU gU (uEI [65]) rfl ?_;refine uCs (xs:=[_,_]) rfl rfl rfl rfl rfl rfl rfl rfl rfl rfl gU rfl ?_;refine uAW rfl rfl rfl rfl rfl rfl rfl gU gU (uDz _ _ [⟨2,[110,97],0,[]⟩,⟨2,[65],0,[]⟩] (by simp [T.rows_eq,T.cells]) (by simp)) rfl ?_;refine uAi rfl rfl rfl rfl (uAc rfl gU) ?_;refine uAW rfl rfl rfl rfl rfl rfl rfl gU gU (uEI [65]) rfl ?_;refine uAi rfl rfl rfl rfl (uAc rfl gU) ?_;refine uAW rfl rfl rfl rfl rfl rfl rfl gU gU (uEI [66]) rfl ?_;refine uCs (xs:=[_,_]) rfl rfl rfl rfl rfl rfl rfl rfl rfl rfl gU rfl ?_;refine uAW rfl rfl rfl rfl rfl rfl rfl gU gU (uDz _ _ [⟨2,[65],0,[]⟩,⟨2,[66],0,[]⟩] (by simp [T.rows_eq,T.cells]) (by simp)) rfl ?_
  refine uCs (xs:=[_,_]) rfl rfl rfl rfl rfl rfl rfl rfl rfl rfl gU rfl ?_;refine uAW rfl rfl rfl rfl rfl rfl rfl gU gU (uDz _ _ exM.kids (by rfl) (by decide)) rfl ?_;refine uAW rfl rfl rfl rfl rfl rfl rfl gU gU (h6) rfl ?_;refine uAi rfl rfl rfl rfl (uAd rfl gU) ?_;refine uA2 (by kernel_rfl) ?_;refine uAp ?_
  repeat (first | refine tR ?_ | refine bR ?_)
  refine uAv rfl ?_ trivial
  rfl
end Go.Proofs.YtnjjdbapadkomaaGreatDoor
namespace Go.Proofs.YtnjjdbapadkomaaGreatDoor
open Go Go.Abs
namespace T
end T
end Go.Proofs.YtnjjdbapadkomaaGreatDoor
namespace Go.Proofs.YtnjjdbapadkomaaGreatDoor
open Go Go.Abs
namespace T
mutual
def all : T→List T
 | mk k n s ks=>mk k n s ks :: alls ks
def alls : List T→List T
 | []=>[]
 | t :: ts=>all t++alls ts
end
end T
end Go.Proofs.YtnjjdbapadkomaaGreatDoor
namespace Go.Abs
def uO9 (s : St) (n : Nm) (L : Nat) (os : OS) : Bool:=os.all fun e=>Nat.beq e.1 0 && Nat.blt e.2.1 L && match s.own (.b n e.2.1) with
 | some z=>Nat.beq z e.2.2
 | none=>false
theorem uBz {T : List (Option TyI)} {res x : X} {bs' : List (List C)} {os : OS} {s : St} {b t : Nat} {r : List ResultVar} {n : Nm} {cs : List C} {ti : TyI} (h : resX T s (.cell b t :: r)=some x) (hx : x=res) (hb : subB s (uDq 0 bs')) (hne : r≠[])
  (hg : s.get b=some (true, .v (.ptr n 0))) (hbn : s.box n=some cs) (ht : tyAt T t=some ti) (hagg : ti.agg=true) (hln : Nat.beq cs.length ti.n=true) (ho : uO9 s n cs.length os=true) : retO T (.cell b t :: r) res bs' os .res .ret s:=by
 have h1 : retS T (.cell b t :: r) res none bs' .ret s:=uAv h hx hb
 refine ⟨h1.1,h1.2.2,b,t,r,n,cs,ti,rfl,hne,hg,hbn,ht,hagg,hln,fun e he=>?_⟩
 have := List.all_eq_true.1 ho e he
 rw [Bool.and_eq_true,Bool.and_eq_true] at this
 obtain ⟨⟨h2,h3⟩,h4⟩:=this
 refine ⟨Nat.eq_of_beq_eq_true h2,?_,?_⟩
 ·split at h4
  ·rename_i z hz; rw [hz,Nat.eq_of_beq_eq_true h4]
  ·simp at h4
 ·have := Nat.le_of_ble_eq_true h3; omega
end Go.Abs
namespace Go.Proofs.YtnjjdbapadkomaaGreatDoor
open Go Go.Abs
def soC (n : Nar) (u1 u2 u3 u4 u5 : Value) : List C:=[.s n.name, .so u1 1 (strR n.roles), .so u2 3 (Fs.rows n.fresh), .so u3 1 (strR n.tags), .so u4 7 (Sp.rows n.steps), .so u5 5 (Gl.rows n.goals)]
abbrev narC (a : List UInt8) (r1 r2 r3 r4 r5 : List (List C)) : List C:=[.s a, .sl 1 r1, .sl 3 r2, .sl 1 r3, .sl 7 r4, .sl 5 r5]
abbrev uMT (a : List UInt8) (r1 r2 r3 r4 r5 : List (List C)) (u1 u2 u3 u4 u5 : Value) : List C:=[.s a, .so u1 1 r1, .so u2 3 r2, .so u3 1 r3, .so u4 7 r4, .so u5 5 r5]
theorem uOp {st st' : St} {n : Nm} {cs : List C} (hb : st'.box n=some cs) (hbx : ∀ m,m≠n→st'.box m=st.box m) (ht : st'.t=st.t) (ho : st'.ow=st.ow) (hm : st'.mp=st.mp) : Sub { st with bx:=(n,cs) :: st.bx } st' where
 t:=fun k e h=>by
  show getT st'.t k=some e
  rw [ht]; exact h
 bx:=fun m ds h=>by
  have h2 : getB ((n,cs) :: st.bx) m=some ds:=h
  rw [uBb] at h2
  split at h2
  ·rename_i he; subst he; rw [hb]; exact h2
  ·rename_i he; rw [hbx m fun q=>he q.symm]; exact h2
 ow:=fun p sz h=>by
  show getO st'.ow p=some sz
  rw [ho]; exact h
 mp:=.inr hm.symm
theorem uDe (st : St) (n : Nm) (cs : List C) (m : Nm) : ({ st with bx:=(n,cs) :: st.bx } : St).box m=if n=m then some cs else st.box m:=uBb _ _ _ _
theorem uBl {N : Nat} {c : Code} {Q : Exit→St→Prop} {st : St} (n : Nm) {a : List UInt8} {r1 r2 r3 r4 r5 : List (List C)} (hb : st.box n=some (narC a r1 r2 r3 r4 r5))
  (h : ∀ u1 u2 u3 u4 u5,AWP sysO N c Q { st with bx:=(n,uMT a r1 r2 r3 r4 r5 u1 u2 u3 u4 u5) :: st.bx }) : AWP sysO N c Q st:=by
 refine uEx n 1 hb rfl fun u1=>?_
 refine uEx n 2 ((uDe _ _ _ _).trans (if_pos rfl)) rfl fun u2=>?_
 refine uEx n 3 ((uDe _ _ _ _).trans (if_pos rfl)) rfl fun u3=>?_
 refine uEx n 4 ((uDe _ _ _ _).trans (if_pos rfl)) rfl fun u4=>?_
 refine uEx n 5 ((uDe _ _ _ _).trans (if_pos rfl)) rfl fun u5=>?_
 have hn : ∀ {m : Nm},m≠n → ¬n=m:=fun h q=>h q.symm
 exact uAk (uOp ((uDe _ _ _ _).trans (if_pos rfl)) (fun m hm=>(uDe _ _ _ _).trans ((if_neg (hn hm)).trans ((uDe _ _ _ _).trans ((if_neg (hn hm)).trans ((uDe _ _ _ _).trans ((if_neg (hn hm)).trans ((uDe _ _ _ _).trans ((if_neg (hn hm)).trans ((uDe _ _ _ _).trans (if_neg (hn hm)))))))))) ) rfl rfl rfl) (h u1 u2 u3 u4 u5)
theorem uNG (st : St) (n m : Nm) (k sz : Nat) (cs : List C) (x : Nm) : ((({ st with bx:=(n,cs) :: st.bx } : St).unown (.b m k)).addOwn (.b n k) sz).box x=if n=x then some cs else st.box x:=uBb _ _ _ _
theorem uM7 (st : St) (n m : Nm) (k sz : Nat) (cs : List C) (p : Pl) : ((({ st with bx:=(n,cs) :: st.bx } : St).unown (.b m k)).addOwn (.b n k) sz).own p=if .b n k=p then some sz else if p = .b m k then none else st.own p:=by
 rw [St.addOwn_own,St.unown_own]; rfl
def uNO (st : St) (m : Nm) : Bool:=decide (st.own (.b m 1)=some 1) && decide (st.own (.b m 2)=some 3) && decide (st.own (.b m 3)=some 1) && decide (st.own (.b m 4)=some 7) && decide (st.own (.b m 5)=some 5)
theorem uBp {N : Nat} {c : Code} {Q : Exit→St→Prop} {st : St} (n m : Nm) {a : List UInt8} {r1 r2 r3 r4 r5 : List (List C)} {u1 u2 u3 u4 u5 : Value} (hb : st.box n=some (uMT a r1 r2 r3 r4 r5 u1 u2 u3 u4 u5)) (hbm : st.box m=some (uMT a r1 r2 r3 r4 r5 u1 u2 u3 u4 u5))
  (ho : uNO st m=true) (hnb : n.isBd=false) (hne : Nm.beq m n=false)
  (h : AWP sysO N c Q { st with bx:=(n,narC a r1 r2 r3 r4 r5) :: st.bx,ow:=(.b n 1,1) :: (.b n 2,3) :: (.b n 3,1) :: (.b n 4,7) :: (.b n 5,5) :: st.ow.filter fun q=>!Pl.inBox m q.1 }) : AWP sysO N c Q st:=by
 have hmn : ¬n=m:=fun q=>by subst q; rw [Nm.beq_self] at hne; cases hne
 simp only [uNO,Bool.and_eq_true,decide_eq_true_eq] at ho
 obtain ⟨⟨⟨⟨o1,o2⟩,o3⟩,o4⟩,o5⟩:=ho
 have hpb : ∀ i j,Pl.beq (.b m i) (.b n j)=false:=fun i j=>by simp [Pl.beq,hne]
 have bn : ∀ (s : St) (k sz : Nat) (cs : List C),((({ s with bx:=(n,cs) :: s.bx } : St).unown (.b m k)).addOwn (.b n k) sz).box n=some cs:=fun s k sz cs=>(uNG s n m k sz cs n).trans (if_pos rfl)
 have bm : ∀ (s : St) (k sz : Nat) (cs : List C) {x : Nm},¬n=x→((({ s with bx:=(n,cs) :: s.bx } : St).unown (.b m k)).addOwn (.b n k) sz).box x=s.box x:=fun s k sz cs x hx=>(uNG s n m k sz cs x).trans (if_neg hx)
 have ow : ∀ (s : St) (k sz : Nat) (cs : List C) {p : Pl},¬Pl.b n k=p → ¬p=Pl.b m k→((({ s with bx:=(n,cs) :: s.bx } : St).unown (.b m k)).addOwn (.b n k) sz).own p=s.own p:=fun s k sz cs p h1 h2=>(uM7 s n m k sz cs p).trans ((if_neg h1).trans (if_neg h2))
 have os : ∀ (s : St) (k sz : Nat) (cs : List C),((({ s with bx:=(n,cs) :: s.bx } : St).unown (.b m k)).addOwn (.b n k) sz).own (.b n k)=some sz:=fun s k sz cs=>(uM7 s n m k sz cs _).trans (if_pos rfl)
 have dn : ∀ {i j : Nat} {x y : Nm},i≠j → ¬Pl.b x i=Pl.b y j:=fun h q=>by simp at q; exact h q.2
 have hnm : ∀ {i j : Nat},¬Pl.b n i=Pl.b m j:=fun q=>by simp at q; exact hmn q.1
 refine uEp n 1 m 1 hb rfl hbm rfl o1 hnb (hpb _ _) ?_;refine uEp n 2 m 2 (bn _ _ _ _) rfl ((bm _ _ _ _ hmn).trans hbm) rfl ((ow _ _ _ _ (dn (by decide)) (dn (by decide))).trans o2) hnb (hpb _ _) ?_;refine uEp n 3 m 3 (bn _ _ _ _) rfl ((bm _ _ _ _ hmn).trans ((bm _ _ _ _ hmn).trans hbm)) rfl ((ow _ _ _ _ (dn (by decide)) (dn (by decide))).trans ((ow _ _ _ _ (dn (by decide)) (dn (by decide))).trans o3)) hnb (hpb _ _) ?_;refine uEp n 4 m 4 (bn _ _ _ _) rfl ((bm _ _ _ _ hmn).trans ((bm _ _ _ _ hmn).trans ((bm _ _ _ _ hmn).trans hbm))) rfl
  ((ow _ _ _ _ (dn (by decide)) (dn (by decide))).trans ((ow _ _ _ _ (dn (by decide)) (dn (by decide))).trans ((ow _ _ _ _ (dn (by decide)) (dn (by decide))).trans o4))) hnb (hpb _ _) ?_
 refine uEp n 5 m 5 (bn _ _ _ _) rfl ((bm _ _ _ _ hmn).trans ((bm _ _ _ _ hmn).trans ((bm _ _ _ _ hmn).trans ((bm _ _ _ _ hmn).trans hbm)))) rfl
  ((ow _ _ _ _ (dn (by decide)) (dn (by decide))).trans ((ow _ _ _ _ (dn (by decide)) (dn (by decide))).trans ((ow _ _ _ _ (dn (by decide)) (dn (by decide))).trans ((ow _ _ _ _ (dn (by decide)) (dn (by decide))).trans o5)))) hnb (hpb _ _) ?_
 refine uAk ?_ h;refine ⟨fun k e q=>q,fun x cs q=>?_,fun p sz q=>?_, .inr rfl⟩
 ·have q2 : getB ((n,narC a r1 r2 r3 r4 r5) :: st.bx) x=some cs:=q
  clear q
  rw [uBb] at q2
  split at q2
  ·rename_i he; subst he; exact (bn _ _ _ _).trans q2
  ·rename_i he
   have q:=q2
   exact (bm _ _ _ _ he).trans ((bm _ _ _ _ he).trans ((bm _ _ _ _ he).trans ((bm _ _ _ _ he).trans ((bm _ _ _ _ he).trans q))))
 ·have q3 : getO ((Pl.b n 1,1) :: (.b n 2,3) :: (.b n 3,1) :: (.b n 4,7) :: (.b n 5,5) :: st.ow.filter fun q=>!Pl.inBox m q.1) p=some sz:=q
  clear q
  have q:=q3
  clear q3
  simp only [uBZ] at q
  split at q
  ·rename_i he; subst he
   exact (ow _ _ _ _ (dn (by decide)) hnm).trans ((ow _ _ _ _ (dn (by decide)) hnm).trans ((ow _ _ _ _ (dn (by decide)) hnm).trans ((ow _ _ _ _ (dn (by decide)) hnm).trans ((os _ _ _ _).trans q))))
  rename_i p1
  split at q
  ·rename_i he; subst he
   exact (ow _ _ _ _ (dn (by decide)) hnm).trans ((ow _ _ _ _ (dn (by decide)) hnm).trans ((ow _ _ _ _ (dn (by decide)) hnm).trans ((os _ _ _ _).trans q)))
  rename_i p2
  split at q
  ·rename_i he; subst he
   exact (ow _ _ _ _ (dn (by decide)) hnm).trans ((ow _ _ _ _ (dn (by decide)) hnm).trans ((os _ _ _ _).trans q))
  rename_i p3
  split at q
  ·rename_i he; subst he
   exact (ow _ _ _ _ (dn (by decide)) hnm).trans ((os _ _ _ _).trans q)
  rename_i p4
  split at q
  ·rename_i he; subst he
   exact (os _ _ _ _).trans q
  rename_i p5
  rw [uBT (fun r=>!Pl.inBox m r)] at q
  split at q
  ·rename_i hin
   have hpm : ∀ {j : Nat},¬p=Pl.b m j:=fun e=>by subst e; simp [Pl.inBox,Nm.beq_self] at hin
   exact (ow _ _ _ _ p5 hpm).trans ((ow _ _ _ _ p4 hpm).trans ((ow _ _ _ _ p3 hpm).trans ((ow _ _ _ _ p2 hpm).trans ((ow _ _ _ _ p1 hpm).trans q))))
  ·cases q
def osR : OS:=[(0,1,1),(0,2,3),(0,3,1),(0,4,7),(0,5,5)]
abbrev xnr (l : List Tk) (r : Nar × PS) : X:=.tup [.agg r.1.cells, .agg (pbx l r.2)]
set_option maxHeartbeats 4000000 in
theorem uE7 (l : List Tk) (p : PS) (n : Nar) (line : Int) (u1 u2 u3 u4 u5 : Value) (hl : l.length≤2000000) (hp : p.at'≤l.length) (hn : n.steps.length≤3000000) :
  CtrO sysO 130 [.v (.agg (soC n u1 u2 u3 u4 u5)),xr l p,xi line] [soC n u1 u2 u3 u4 u5] osR (xnr l ({ n with steps:=n.steps++[(uEs l line p).1] },(uEs l line p).2)) [soC n u1 u2 u3 u4 u5] .res:=by
 have hrs:=Sp.rows_len n.steps
 have hrl:=Tk.rows_len l
 refine uCg Tryz.func130 rfl rfl rfl rfl rfl rfl rfl ?_;refine uAe (uAb ?_);refine uAr rfl (uAX rfl rfl rfl rfl) ?_;refine uAr rfl (uAX rfl rfl rfl rfl) ?_;refine uAr rfl (uAG rfl rfl rfl) ?_;refine uAr rfl (uAG rfl rfl rfl) ?_;refine uAf ?_;refine uAk (s:=⟨[(2,_,_),(3,_,_),(4,_,_),(6,_,_),(7,_,_)],[(.l 3,_),(.l 4,_),(.l 6,_),(.l 7,_),(.o 0,_)],[(.b (.o 0) 1,_),(.b (.o 0) 2,_),(.b (.o 0) 3,_),(.b (.o 0) 4,_),(.b (.o 0) 5,_)],[]⟩) (uAj (⟨sx rfl,sx rfl,sx rfl,sx rfl,sx rfl,trivial⟩) (⟨sx rfl,sx rfl,sx rfl,sx rfl,sx rfl,trivial⟩) (⟨rfl,rfl,rfl,rfl,rfl,trivial⟩)) ?_;refine uBp (.l 3) (.o 0) rfl rfl rfl rfl rfl ?_;refine uAk (s:=⟨[(2,_,_),(3,_,_),(4,_,_),(6,_,_),(7,_,_)],[(.l 3,_),(.l 4,_),(.l 6,_),(.l 7,_),(.o 0,_)],[(.b (.l 3) 1,_),(.b (.l 3) 2,_),(.b (.l 3) 3,_),(.b (.l 3) 4,_),(.b (.l 3) 5,_)],[]⟩) (uAj (⟨sx rfl,sx rfl,sx rfl,sx rfl,sx rfl,trivial⟩) (⟨sx rfl,sx rfl,sx rfl,sx rfl,sx rfl,trivial⟩) (⟨rfl,rfl,rfl,rfl,rfl,trivial⟩)) ?_;refine uAe (uAb ?_);refine uAa rfl rfl rfl (uAc rfl gU) ?_;refine uAa rfl rfl rfl (uAY rfl Tryz.underlying67 rfl gU) ?_;refine uAr rfl (uAG rfl rfl rfl) ?_;refine uAr rfl (uAt rfl rfl rfl rfl rfl rfl rfl) ?_;refine uAf ?_
 refine uAe (uAb ?_);refine uAa rfl rfl rfl (uAo rfl gU rfl rfl rfl rfl rfl) ?_;refine uAw rfl rfl rfl rfl rfl rfl gU gU (up (uBI l _ (by omega) (le3 hl (by repeat (first | exact hp | refine uBf ?_ | refine uBd ?_))))) rfl ?_;refine uAa rfl rfl rfl (uAc rfl gU) ?_;refine uAa rfl rfl rfl (uAu rfl gU rfl) ?_;refine uAa rfl rfl rfl (uAu rfl gU rfl) ?_;refine uAa rfl rfl rfl (uAg rfl gU rfl rfl) ?_;refine uAr rfl (uAt rfl rfl rfl rfl rfl rfl rfl) ?_;refine uAr rfl (uAt rfl rfl rfl rfl rfl rfl rfl) ?_;refine uAf ?_;refine uAk (s:=⟨[(3,_,_),(4,_,_),(6,_,_),(7,_,_),(8,_,_)],[(.l 3,_),(.l 4,_),(.l 6,_),(.l 7,_),(.l 8,_),(.o 0,_)],[(.b (.l 3) 1,_),(.b (.l 3) 2,_),(.b (.l 3) 3,_),(.b (.l 3) 4,_),(.b (.l 3) 5,_)],[]⟩) (uAj (⟨sx rfl,sx rfl,sx rfl,sx rfl,sx rfl,trivial⟩) (⟨sx rfl,sx rfl,sx rfl,sx rfl,sx rfl,sx rfl,trivial⟩) (⟨rfl,rfl,rfl,rfl,rfl,trivial⟩)) ?_;refine uAe (uAb ?_);refine uAa rfl rfl rfl (uAo rfl gU rfl rfl rfl rfl rfl) ?_;refine uAw rfl rfl rfl rfl rfl rfl gU gU (up (uA1 l _ _ (by omega) (le3 hl (by repeat (first | exact hp | refine uBf ?_ | refine uBd ?_))))) rfl ?_;refine uAw rfl rfl rfl rfl rfl rfl gU gU (up (uA1 l _ _ (by omega) (le3 hl (by repeat (first | exact hp | refine uBf ?_ | refine uBd ?_))))) rfl ?_
 refine uAr rfl (uAt rfl rfl rfl rfl rfl rfl rfl) ?_;refine uAf ?_;refine uAe (uAb ?_);refine uAa rfl rfl rfl (uAo rfl gU rfl rfl rfl rfl rfl) ?_;refine uAw rfl rfl rfl rfl rfl rfl gU gU (up (uBI l _ (by omega) (le3 hl (by repeat (first | exact hp | refine uBf ?_ | refine uBd ?_))))) rfl ?_;refine uAa rfl rfl rfl (uAc rfl gU) ?_;refine uAa rfl rfl rfl (uAu rfl gU rfl) ?_;refine uAa rfl rfl rfl (uAu rfl gU rfl) ?_;refine uAa rfl rfl rfl (uAg rfl gU rfl rfl) ?_;refine uAr rfl (uAt rfl rfl rfl rfl rfl rfl rfl) ?_;refine uAr rfl (uAt rfl rfl rfl rfl rfl rfl rfl) ?_;refine uAf ?_;refine uAk (s:=⟨[(3,_,_),(4,_,_),(6,_,_),(7,_,_),(8,_,_)],[(.l 3,_),(.l 4,_),(.l 6,_),(.l 7,_),(.l 8,_),(.o 0,_)],[(.b (.l 3) 1,_),(.b (.l 3) 2,_),(.b (.l 3) 3,_),(.b (.l 3) 4,_),(.b (.l 3) 5,_)],[]⟩) (uAj (⟨sx rfl,sx rfl,sx rfl,sx rfl,sx rfl,trivial⟩) (⟨sx rfl,sx rfl,sx rfl,sx rfl,sx rfl,sx rfl,trivial⟩) (⟨rfl,rfl,rfl,rfl,rfl,trivial⟩)) ?_;refine uAe (uAb ?_);refine uAa rfl rfl rfl (uAo rfl gU rfl rfl rfl rfl rfl) ?_;refine uAw rfl rfl rfl rfl rfl rfl gU gU (up (uA1 l _ _ (by omega) (le3 hl (by repeat (first | exact hp | refine uBf ?_ | refine uBd ?_))))) rfl ?_;refine uAw rfl rfl rfl rfl rfl rfl gU gU (up (uDV l (by omega) (l.length + 1) _ (by repeat (first | exact hp | refine uBf ?_ | refine uBd ?_)) (by omega))) rfl ?_
 refine uAa rfl rfl rfl (uAc rfl gU) ?_;refine uAa rfl rfl rfl (uAu rfl gU rfl) ?_;refine uAa rfl rfl rfl (uAu rfl gU rfl) ?_;refine uAa rfl rfl rfl (uAg rfl gU rfl rfl) ?_;refine uAr rfl (uAt rfl rfl rfl rfl rfl rfl rfl) ?_;refine uAr rfl (uAt rfl rfl rfl rfl rfl rfl rfl) ?_;refine uAf ?_;refine uAk (s:=⟨[(3,_,_),(4,_,_),(6,_,_),(7,_,_),(8,_,_)],[(.l 3,_),(.l 4,_),(.l 6,_),(.l 7,_),(.l 8,_),(.o 0,_)],[(.b (.l 3) 1,_),(.b (.l 3) 2,_),(.b (.l 3) 3,_),(.b (.l 3) 4,_),(.b (.l 3) 5,_)],[]⟩) (uAj (⟨sx rfl,sx rfl,sx rfl,sx rfl,sx rfl,trivial⟩) (⟨sx rfl,sx rfl,sx rfl,sx rfl,sx rfl,sx rfl,trivial⟩) (⟨rfl,rfl,rfl,rfl,rfl,trivial⟩)) ?_;refine uAe (uAb ?_);refine uAa rfl rfl rfl (uAg rfl gU rfl rfl) ?_;refine uAr rfl (uBA rfl rfl rfl rfl rfl rfl rfl) ?_;refine uAa rfl rfl rfl (uAo rfl gU rfl rfl rfl rfl rfl) ?_;refine uAH (xs:=[_]) rfl rfl rfl rfl rfl rfl rfl rfl rfl gU rfl ?_;refine uAr rfl (uA0 rfl rfl rfl rfl rfl rfl rfl (by first | omega | (simp only [List.length_append,List.length_singleton,Sp.rows_len]; omega)) (by first | omega | (simp only [List.length_append,List.length_singleton,Sp.rows_len]; omega))) ?_;refine uAa rfl rfl rfl (uAg rfl gU rfl rfl) ?_;refine uAr rfl (uBB rfl rfl rfl rfl rfl rfl rfl) ?_
 refine uAf ?_;refine uAk (s:=⟨[(3,_,_),(4,_,_),(6,_,_),(7,_,_)],[(.l 3,_),(.l 4,_),(.l 6,_),(.l 7,_),(.o 0,_)],[(.b (.l 3) 1,_),(.b (.l 3) 2,_),(.b (.l 3) 3,_),(.b (.l 3) 4,_),(.b (.l 3) 5,_)],[]⟩) (uAj (⟨sx rfl,sx rfl,sx rfl,sx rfl,trivial⟩) (⟨sx rfl,sx rfl,sx rfl,sx rfl,sx rfl,trivial⟩) (⟨rfl,rfl,rfl,rfl,rfl,trivial⟩)) ?_;refine uAk (s:=⟨[(3,_,_),(4,_,_),(6,_,_),(7,_,_)],[(.l 3,_),(.l 4,_),(.l 6,_),(.l 7,_),(.o 0,_)],[(.b (.l 3) 1,_),(.b (.l 3) 2,_),(.b (.l 3) 3,_),(.b (.l 3) 4,_),(.b (.l 3) 5,_)],[]⟩) (uAj (⟨sx rfl,sx rfl,sx rfl,sx rfl,trivial⟩) (⟨sx rfl,sx rfl,sx rfl,sx rfl,sx rfl,trivial⟩) (⟨rfl,rfl,rfl,rfl,rfl,trivial⟩)) ?_;refine uBl (.l 3) rfl (fun w1 w2 w3 w4 w5=>?_);refine uAk (s:=⟨[(3,_,_),(4,_,_),(6,_,_),(7,_,_)],[(.l 3,_),(.l 4,_),(.l 6,_),(.l 7,_),(.o 0,_)],[(.b (.l 3) 1,_),(.b (.l 3) 2,_),(.b (.l 3) 3,_),(.b (.l 3) 4,_),(.b (.l 3) 5,_)],[]⟩) (uAj (⟨sx rfl,sx rfl,sx rfl,sx rfl,trivial⟩) (⟨sx rfl,sx rfl,sx rfl,sx rfl,sx rfl,trivial⟩) (⟨rfl,rfl,rfl,rfl,rfl,trivial⟩)) ?_;refine uAe ?_;refine awp_drawn' (by kernel_rfl) ?_;refine uAI rfl rfl rfl rfl rfl rfl rfl gU rfl rfl rfl rfl rfl ?_;refine uAI rfl rfl rfl rfl rfl rfl rfl gU rfl rfl rfl rfl rfl ?_
 refine uAU rfl rfl rfl rfl rfl rfl rfl rfl rfl rfl rfl rfl ?_;refine uAU rfl rfl rfl rfl rfl rfl rfl rfl rfl rfl rfl rfl ?_;refine uA2 (by kernel_rfl) ?_;refine uAk (s:=⟨[(3,_,_),(6,_,_),(7,_,_)],[(.l 3,_),(.l 6,_),(.l 7,_),(.o 0,_)],[(.b (.l 3) 1,_),(.b (.l 3) 2,_),(.b (.l 3) 3,_),(.b (.l 3) 4,_),(.b (.l 3) 5,_)],[]⟩) (uAj (⟨sx rfl,sx rfl,sx rfl,trivial⟩) (⟨sx rfl,sx rfl,sx rfl,sx rfl,trivial⟩) (⟨(ak rfl (ak rfl (ak rfl (ak rfl (rfl))))),(ak rfl (ak rfl (ak rfl (ak rfl (rfl))))),(ak rfl (ak rfl (ak rfl (ak rfl (rfl))))),(ak rfl (ak rfl (ak rfl (ak rfl (rfl))))),(ak rfl (ak rfl (ak rfl (ak rfl (rfl))))),trivial⟩)) ?_;refine uBp (.l 6) (.l 3) rfl rfl rfl rfl rfl ?_;refine uAk (s:=⟨[(3,_,_),(6,_,_),(7,_,_)],[(.l 3,_),(.l 6,_),(.l 7,_),(.o 0,_)],[(.b (.l 6) 1,_),(.b (.l 6) 2,_),(.b (.l 6) 3,_),(.b (.l 6) 4,_),(.b (.l 6) 5,_)],[]⟩) (uAj (⟨sx rfl,sx rfl,sx rfl,trivial⟩) (⟨sx rfl,sx rfl,sx rfl,sx rfl,trivial⟩) (⟨rfl,rfl,rfl,rfl,rfl,trivial⟩)) ?_;refine uAp ?_
 repeat (first | refine tR ?_ | refine bR ?_)
 refine uBz rfl ?_ ⟨⟨_,rfl,rfl⟩,trivial⟩ (by simp) rfl rfl rfl rfl rfl rfl;exact congrArg (fun z=>X.tup [.agg (narC n.name (strR n.roles) (Fs.rows n.fresh) (strR n.tags) z (Gl.rows n.goals)), .agg (pbx l (uEs l line p).2)]) (Sp.rows_app n.steps [(uEs l line p).1]).symm
end Go.Proofs.YtnjjdbapadkomaaGreatDoor
namespace Go.Proofs.YtnjjdbapadkomaaGreatDoor
open Go Go.Abs
theorem uIX (l : List Tk) (ws : List (List UInt8)) : Fwd l (chR l ws):=fun p=>by
 have h:=uA4 l [] p
 unfold chR
 split
 ·simp [PS.off]
 ·exact h
theorem uEe {l : List Tk} {ws : List (List UInt8)} {p : PS} (h : p.at'≤l.length) : (chR l ws p).2.at'≤l.length:=(uIX l ws p).2 h
set_option maxHeartbeats 4000000 in
theorem uE1 (l : List Tk) (p : PS) (n : Nar) (line : Int) (u1 u2 u3 u4 u5 : Value) (hl : l.length≤2000000) (hp : p.at'≤l.length) (hn : n.goals.length≤3000000) :
  CtrO sysO 131 [.v (.agg (soC n u1 u2 u3 u4 u5)),xr l p,xi line] [soC n u1 u2 u3 u4 u5] osR (xnr l ({ n with goals:=n.goals++[(uDN l line p).1] },(uDN l line p).2)) [soC n u1 u2 u3 u4 u5] .res:=by
 have hrs:=Gl.rows_len n.goals
 have hrl:=Tk.rows_len l
 refine uCg Tryz.func131 rfl rfl rfl rfl rfl rfl rfl ?_;refine uAe (uAb ?_);refine uAr rfl (uAX rfl rfl rfl rfl) ?_;refine uAr rfl (uAX rfl rfl rfl rfl) ?_;refine uAr rfl (uAG rfl rfl rfl) ?_;refine uAr rfl (uAG rfl rfl rfl) ?_;refine uAf ?_;refine uAk (s:=⟨[(2,_,_),(3,_,_),(4,_,_),(6,_,_),(7,_,_)],[(.l 3,_),(.l 4,_),(.l 6,_),(.l 7,_),(.o 0,_)],[(.b (.o 0) 1,_),(.b (.o 0) 2,_),(.b (.o 0) 3,_),(.b (.o 0) 4,_),(.b (.o 0) 5,_)],[]⟩) (uAj (⟨sx rfl,sx rfl,sx rfl,sx rfl,sx rfl,trivial⟩) (⟨sx rfl,sx rfl,sx rfl,sx rfl,sx rfl,trivial⟩) (⟨rfl,rfl,rfl,rfl,rfl,trivial⟩)) ?_;refine uBp (.l 3) (.o 0) rfl rfl rfl rfl rfl ?_;refine uAk (s:=⟨[(2,_,_),(3,_,_),(4,_,_),(6,_,_),(7,_,_)],[(.l 3,_),(.l 4,_),(.l 6,_),(.l 7,_),(.o 0,_)],[(.b (.l 3) 1,_),(.b (.l 3) 2,_),(.b (.l 3) 3,_),(.b (.l 3) 4,_),(.b (.l 3) 5,_)],[]⟩) (uAj (⟨sx rfl,sx rfl,sx rfl,sx rfl,sx rfl,trivial⟩) (⟨sx rfl,sx rfl,sx rfl,sx rfl,sx rfl,trivial⟩) (⟨rfl,rfl,rfl,rfl,rfl,trivial⟩)) ?_;refine uAe (uAb ?_);refine uAa rfl rfl rfl (uAc rfl gU) ?_;refine uAa rfl rfl rfl (uAY rfl Tryz.underlying70 rfl gU) ?_;refine uAr rfl (uAG rfl rfl rfl) ?_;refine uAr rfl (uAt rfl rfl rfl rfl rfl rfl rfl) ?_;refine uAf ?_
 refine uAe ?_;refine awp_drawn' (by kernel_rfl) ?_;refine uAI rfl rfl rfl rfl rfl rfl rfl gU rfl rfl rfl rfl rfl ?_;refine uAW rfl rfl rfl rfl rfl rfl rfl gU gU (up uKQ) rfl ?_;refine uAW rfl rfl rfl rfl rfl rfl rfl gU gU (up (uDh l p uBJ (by omega) (by omega))) rfl ?_;refine uAi rfl rfl rfl rfl (uAc rfl gU) ?_;refine uAi rfl rfl rfl rfl (uAu rfl gU rfl) ?_;refine uAi rfl rfl rfl rfl (uAu rfl gU rfl) ?_;refine uAi rfl rfl rfl rfl (uAg rfl gU rfl rfl) ?_;refine uAU rfl rfl rfl rfl rfl rfl rfl rfl rfl rfl rfl rfl ?_;refine uAU rfl rfl rfl rfl rfl rfl rfl rfl rfl rfl rfl rfl ?_;refine uA2 (by kernel_rfl) ?_;refine uAk (s:=⟨[(3,_,_),(4,_,_),(6,_,_),(7,_,_),(8,_,_)],[(.l 3,_),(.l 4,_),(.l 6,_),(.l 7,_),(.l 8,_),(.o 0,_)],[(.b (.l 3) 1,_),(.b (.l 3) 2,_),(.b (.l 3) 3,_),(.b (.l 3) 4,_),(.b (.l 3) 5,_)],[]⟩) (uAj (⟨sx rfl,sx rfl,sx rfl,sx rfl,sx rfl,trivial⟩) (⟨sx rfl,sx rfl,sx rfl,sx rfl,sx rfl,sx rfl,trivial⟩) (⟨(ak rfl (ak rfl (ak rfl (ak rfl (ak rfl (ak rfl (ak rfl (ak rfl (ak rfl (rfl)))))))))),(ak rfl (ak rfl (ak rfl (ak rfl (ak rfl (ak rfl (ak rfl (ak rfl (ak rfl (rfl)))))))))),(ak rfl (ak rfl (ak rfl (ak rfl (ak rfl (ak rfl (ak rfl (ak rfl (ak rfl (rfl)))))))))),(ak rfl (ak rfl (ak rfl (ak rfl (ak rfl (ak rfl (ak rfl (ak rfl (ak rfl (rfl)))))))))),(ak rfl (ak rfl (ak rfl (ak rfl (ak rfl (ak rfl (ak rfl (ak rfl (ak rfl (rfl)))))))))),trivial⟩)) ?_
 refine uAe (uAb ?_);refine uAa rfl rfl rfl (uAo rfl gU rfl rfl rfl rfl rfl) ?_;refine uAw rfl rfl rfl rfl rfl rfl gU gU (up (uBI l _ (by omega) (le3 hl (by repeat (first | exact hp | refine uBf ?_ | refine uBd ?_ | refine uEe ?_))))) rfl ?_;refine uAa rfl rfl rfl (uAc rfl gU) ?_;refine uAa rfl rfl rfl (uAu rfl gU rfl) ?_;refine uAa rfl rfl rfl (uAu rfl gU rfl) ?_;refine uAa rfl rfl rfl (uAg rfl gU rfl rfl) ?_;refine uAr rfl (uAt rfl rfl rfl rfl rfl rfl rfl) ?_;refine uAr rfl (uAt rfl rfl rfl rfl rfl rfl rfl) ?_;refine uAf ?_;refine uAk (s:=⟨[(3,_,_),(4,_,_),(6,_,_),(7,_,_),(8,_,_)],[(.l 3,_),(.l 4,_),(.l 6,_),(.l 7,_),(.l 8,_),(.o 0,_)],[(.b (.l 3) 1,_),(.b (.l 3) 2,_),(.b (.l 3) 3,_),(.b (.l 3) 4,_),(.b (.l 3) 5,_)],[]⟩) (uAj (⟨sx rfl,sx rfl,sx rfl,sx rfl,sx rfl,trivial⟩) (⟨sx rfl,sx rfl,sx rfl,sx rfl,sx rfl,sx rfl,trivial⟩) (⟨rfl,rfl,rfl,rfl,rfl,trivial⟩)) ?_;refine uAe ?_;refine uAe (uAb ?_);refine uAa rfl rfl rfl (uAo rfl gU rfl rfl rfl rfl rfl) ?_;refine uAw rfl rfl rfl rfl rfl rfl gU gU (up (uCP ⟨(chR l uBJ p).1,(uAs l [] (chR l uBJ p).2).1,[],[],line⟩)) rfl ?_;refine uAf ?_;refine uAn rfl (fun hc=>?_) (fun hc=>?_)
 ·have h : uBE (chR l uBJ p).1=true:=hc
  have hg : uDN l line p=(⟨(chR l uBJ p).1,(uAs l [] (chR l uBJ p).2).1,(uAs l [] (uAs l [] (chR l uBJ p).2).2).1,(uBc l (uA8 l (l.length + 1)) (uAK l [58] (uAs l [] (uAs l [] (chR l uBJ p).2).2).2)).1,line⟩,(uBc l (uA8 l (l.length + 1)) (uAK l [58] (uAs l [] (uAs l [] (chR l uBJ p).2).2).2)).2):=by
   simp only [uDN,h,if_true]
  rw [hg]
  refine uAb ?_;refine uAa rfl rfl rfl (uAo rfl gU rfl rfl rfl rfl rfl) ?_;refine uAw rfl rfl rfl rfl rfl rfl gU gU (up (uBI l _ (by omega) (le3 hl (by repeat (first | exact hp | refine uBf ?_ | refine uBd ?_ | refine uEe ?_))))) rfl ?_;refine uAa rfl rfl rfl (uAc rfl gU) ?_;refine uAa rfl rfl rfl (uAu rfl gU rfl) ?_;refine uAa rfl rfl rfl (uAu rfl gU rfl) ?_;refine uAa rfl rfl rfl (uAg rfl gU rfl rfl) ?_;refine uAr rfl (uAt rfl rfl rfl rfl rfl rfl rfl) ?_;refine uAr rfl (uAt rfl rfl rfl rfl rfl rfl rfl) ?_;refine uAf ?_;refine uAk (s:=⟨[(3,_,_),(4,_,_),(6,_,_),(7,_,_),(8,_,_)],[(.l 3,_),(.l 4,_),(.l 6,_),(.l 7,_),(.l 8,_),(.o 0,_)],[(.b (.l 3) 1,_),(.b (.l 3) 2,_),(.b (.l 3) 3,_),(.b (.l 3) 4,_),(.b (.l 3) 5,_)],[]⟩) (uAj (⟨sx rfl,sx rfl,sx rfl,sx rfl,sx rfl,trivial⟩) (⟨sx rfl,sx rfl,sx rfl,sx rfl,sx rfl,sx rfl,trivial⟩) (⟨rfl,rfl,rfl,rfl,rfl,trivial⟩)) ?_;refine uAe (uAb ?_);refine uAa rfl rfl rfl (uAo rfl gU rfl rfl rfl rfl rfl) ?_;refine uAw rfl rfl rfl rfl rfl rfl gU gU (up (uA1 l _ _ (by omega) (le3 hl (by repeat (first | exact hp | refine uBf ?_ | refine uBd ?_ | refine uEe ?_))))) rfl ?_;refine uAw rfl rfl rfl rfl rfl rfl gU gU (up (uEH l (l.length + 1) hl (fun q h1 h2=>uDV l hl _ q h1 h2) (uDm l _) _ (by repeat (first | exact hp | refine uBf ?_ | refine uBd ?_ | refine uEe ?_)) (by omega))) rfl ?_
  refine uAa rfl rfl rfl (uAc rfl gU) ?_;refine uAa rfl rfl rfl (uAu rfl gU rfl) ?_;refine uAa rfl rfl rfl (uAu rfl gU rfl) ?_;refine uAa rfl rfl rfl (uAg rfl gU rfl rfl) ?_;refine uAr rfl (uAt rfl rfl rfl rfl rfl rfl rfl) ?_;refine uAr rfl (uAt rfl rfl rfl rfl rfl rfl rfl) ?_;refine uAf ?_;refine uAk (s:=⟨[(3,_,_),(4,_,_),(6,_,_),(7,_,_),(8,_,_)],[(.l 3,_),(.l 4,_),(.l 6,_),(.l 7,_),(.l 8,_),(.o 0,_)],[(.b (.l 3) 1,_),(.b (.l 3) 2,_),(.b (.l 3) 3,_),(.b (.l 3) 4,_),(.b (.l 3) 5,_)],[]⟩) (uAj (⟨sx rfl,sx rfl,sx rfl,sx rfl,sx rfl,trivial⟩) (⟨sx rfl,sx rfl,sx rfl,sx rfl,sx rfl,sx rfl,trivial⟩) (⟨rfl,rfl,rfl,rfl,rfl,trivial⟩)) ?_;refine uAe (uAb ?_);refine uAa rfl rfl rfl (uAg rfl gU rfl rfl) ?_;refine uAr rfl (uBA rfl rfl rfl rfl rfl rfl rfl) ?_;refine uAa rfl rfl rfl (uAo rfl gU rfl rfl rfl rfl rfl) ?_;refine uAH (xs:=[_]) rfl rfl rfl rfl rfl rfl rfl rfl rfl gU rfl ?_;refine uAr rfl (uA0 rfl rfl rfl rfl rfl rfl rfl (by first | omega | (simp only [List.length_append,List.length_singleton,Gl.rows_len]; omega)) (by first | omega | (simp only [List.length_append,List.length_singleton,Gl.rows_len]; omega))) ?_;refine uAa rfl rfl rfl (uAg rfl gU rfl rfl) ?_;refine uAr rfl (uBB rfl rfl rfl rfl rfl rfl rfl) ?_
  refine uAf ?_;refine uAk (s:=⟨[(3,_,_),(4,_,_),(6,_,_),(7,_,_)],[(.l 3,_),(.l 4,_),(.l 6,_),(.l 7,_),(.o 0,_)],[(.b (.l 3) 1,_),(.b (.l 3) 2,_),(.b (.l 3) 3,_),(.b (.l 3) 4,_),(.b (.l 3) 5,_)],[]⟩) (uAj (⟨sx rfl,sx rfl,sx rfl,sx rfl,trivial⟩) (⟨sx rfl,sx rfl,sx rfl,sx rfl,sx rfl,trivial⟩) (⟨rfl,rfl,rfl,rfl,rfl,trivial⟩)) ?_;refine uAk (s:=⟨[(3,_,_),(4,_,_),(6,_,_),(7,_,_)],[(.l 3,_),(.l 4,_),(.l 6,_),(.l 7,_),(.o 0,_)],[(.b (.l 3) 1,_),(.b (.l 3) 2,_),(.b (.l 3) 3,_),(.b (.l 3) 4,_),(.b (.l 3) 5,_)],[]⟩) (uAj (⟨sx rfl,sx rfl,sx rfl,sx rfl,trivial⟩) (⟨sx rfl,sx rfl,sx rfl,sx rfl,sx rfl,trivial⟩) (⟨rfl,rfl,rfl,rfl,rfl,trivial⟩)) ?_;refine uBl (.l 3) rfl (fun w1 w2 w3 w4 w5=>?_);refine uAk (s:=⟨[(3,_,_),(4,_,_),(6,_,_),(7,_,_)],[(.l 3,_),(.l 4,_),(.l 6,_),(.l 7,_),(.o 0,_)],[(.b (.l 3) 1,_),(.b (.l 3) 2,_),(.b (.l 3) 3,_),(.b (.l 3) 4,_),(.b (.l 3) 5,_)],[]⟩) (uAj (⟨sx rfl,sx rfl,sx rfl,sx rfl,trivial⟩) (⟨sx rfl,sx rfl,sx rfl,sx rfl,sx rfl,trivial⟩) (⟨rfl,rfl,rfl,rfl,rfl,trivial⟩)) ?_;refine uAe ?_;refine awp_drawn' (by kernel_rfl) ?_;refine uAI rfl rfl rfl rfl rfl rfl rfl gU rfl rfl rfl rfl rfl ?_;refine uAI rfl rfl rfl rfl rfl rfl rfl gU rfl rfl rfl rfl rfl ?_
  refine uAU rfl rfl rfl rfl rfl rfl rfl rfl rfl rfl rfl rfl ?_;refine uAU rfl rfl rfl rfl rfl rfl rfl rfl rfl rfl rfl rfl ?_;refine uA2 (by kernel_rfl) ?_;refine uAk (s:=⟨[(3,_,_),(6,_,_),(7,_,_)],[(.l 3,_),(.l 6,_),(.l 7,_),(.o 0,_)],[(.b (.l 3) 1,_),(.b (.l 3) 2,_),(.b (.l 3) 3,_),(.b (.l 3) 4,_),(.b (.l 3) 5,_)],[]⟩) (uAj (⟨sx rfl,sx rfl,sx rfl,trivial⟩) (⟨sx rfl,sx rfl,sx rfl,sx rfl,trivial⟩) (⟨(ak rfl (ak rfl (ak rfl (ak rfl (rfl))))),(ak rfl (ak rfl (ak rfl (ak rfl (rfl))))),(ak rfl (ak rfl (ak rfl (ak rfl (rfl))))),(ak rfl (ak rfl (ak rfl (ak rfl (rfl))))),(ak rfl (ak rfl (ak rfl (ak rfl (rfl))))),trivial⟩)) ?_;refine uBp (.l 6) (.l 3) rfl rfl rfl rfl rfl ?_;refine uAk (s:=⟨[(3,_,_),(6,_,_),(7,_,_)],[(.l 3,_),(.l 6,_),(.l 7,_),(.o 0,_)],[(.b (.l 6) 1,_),(.b (.l 6) 2,_),(.b (.l 6) 3,_),(.b (.l 6) 4,_),(.b (.l 6) 5,_)],[]⟩) (uAj (⟨sx rfl,sx rfl,sx rfl,trivial⟩) (⟨sx rfl,sx rfl,sx rfl,sx rfl,trivial⟩) (⟨rfl,rfl,rfl,rfl,rfl,trivial⟩)) ?_;refine uAp ?_
  repeat (first | refine tR ?_ | refine bR ?_)
  refine uBz rfl ?_ ⟨⟨_,rfl,rfl⟩,trivial⟩ (by simp) rfl rfl rfl rfl rfl rfl;exact congrArg (fun z=>X.tup [.agg (narC n.name (strR n.roles) (Fs.rows n.fresh) (strR n.tags) (Sp.rows n.steps) z), .agg (pbx l (uBc l (uA8 l (l.length + 1)) (uAK l [58] (uAs l [] (uAs l [] (chR l uBJ p).2).2).2)).2)]) (Gl.rows_app n.goals [⟨(chR l uBJ p).1,(uAs l [] (chR l uBJ p).2).1,(uAs l [] (uAs l [] (chR l uBJ p).2).2).1,(uBc l (uA8 l (l.length + 1)) (uAK l [58] (uAs l [] (uAs l [] (chR l uBJ p).2).2).2)).1,line⟩]).symm
 ·have h : uBE (chR l uBJ p).1=false:=hc
  have hg : uDN l line p=(⟨(chR l uBJ p).1,(uAs l [] (chR l uBJ p).2).1,[],(uBc l (uA8 l (l.length + 1)) (uAK l [58] (uAs l [] (chR l uBJ p).2).2)).1,line⟩,(uBc l (uA8 l (l.length + 1)) (uAK l [58] (uAs l [] (chR l uBJ p).2).2)).2):=by
   simp only [uDN,h,Bool.false_eq_true,if_false]
  rw [hg]
  refine uAq ?_;refine uAe (uAb ?_);refine uAa rfl rfl rfl (uAo rfl gU rfl rfl rfl rfl rfl) ?_;refine uAw rfl rfl rfl rfl rfl rfl gU gU (up (uA1 l _ _ (by omega) (le3 hl (by repeat (first | exact hp | refine uBf ?_ | refine uBd ?_ | refine uEe ?_))))) rfl ?_;refine uAw rfl rfl rfl rfl rfl rfl gU gU (up (uEH l (l.length + 1) hl (fun q h1 h2=>uDV l hl _ q h1 h2) (uDm l _) _ (by repeat (first | exact hp | refine uBf ?_ | refine uBd ?_ | refine uEe ?_)) (by omega))) rfl ?_;refine uAa rfl rfl rfl (uAc rfl gU) ?_;refine uAa rfl rfl rfl (uAu rfl gU rfl) ?_;refine uAa rfl rfl rfl (uAu rfl gU rfl) ?_;refine uAa rfl rfl rfl (uAg rfl gU rfl rfl) ?_;refine uAr rfl (uAt rfl rfl rfl rfl rfl rfl rfl) ?_;refine uAr rfl (uAt rfl rfl rfl rfl rfl rfl rfl) ?_;refine uAf ?_;refine uAk (s:=⟨[(3,_,_),(4,_,_),(6,_,_),(7,_,_),(8,_,_)],[(.l 3,_),(.l 4,_),(.l 6,_),(.l 7,_),(.l 8,_),(.o 0,_)],[(.b (.l 3) 1,_),(.b (.l 3) 2,_),(.b (.l 3) 3,_),(.b (.l 3) 4,_),(.b (.l 3) 5,_)],[]⟩) (uAj (⟨sx rfl,sx rfl,sx rfl,sx rfl,sx rfl,trivial⟩) (⟨sx rfl,sx rfl,sx rfl,sx rfl,sx rfl,sx rfl,trivial⟩) (⟨rfl,rfl,rfl,rfl,rfl,trivial⟩)) ?_;refine uAe (uAb ?_);refine uAa rfl rfl rfl (uAg rfl gU rfl rfl) ?_;refine uAr rfl (uBA rfl rfl rfl rfl rfl rfl rfl) ?_
  refine uAa rfl rfl rfl (uAo rfl gU rfl rfl rfl rfl rfl) ?_;refine uAH (xs:=[_]) rfl rfl rfl rfl rfl rfl rfl rfl rfl gU rfl ?_;refine uAr rfl (uA0 rfl rfl rfl rfl rfl rfl rfl (by first | omega | (simp only [List.length_append,List.length_singleton,Gl.rows_len]; omega)) (by first | omega | (simp only [List.length_append,List.length_singleton,Gl.rows_len]; omega))) ?_;refine uAa rfl rfl rfl (uAg rfl gU rfl rfl) ?_;refine uAr rfl (uBB rfl rfl rfl rfl rfl rfl rfl) ?_;refine uAf ?_;refine uAk (s:=⟨[(3,_,_),(4,_,_),(6,_,_),(7,_,_)],[(.l 3,_),(.l 4,_),(.l 6,_),(.l 7,_),(.o 0,_)],[(.b (.l 3) 1,_),(.b (.l 3) 2,_),(.b (.l 3) 3,_),(.b (.l 3) 4,_),(.b (.l 3) 5,_)],[]⟩) (uAj (⟨sx rfl,sx rfl,sx rfl,sx rfl,trivial⟩) (⟨sx rfl,sx rfl,sx rfl,sx rfl,sx rfl,trivial⟩) (⟨rfl,rfl,rfl,rfl,rfl,trivial⟩)) ?_;refine uAk (s:=⟨[(3,_,_),(4,_,_),(6,_,_),(7,_,_)],[(.l 3,_),(.l 4,_),(.l 6,_),(.l 7,_),(.o 0,_)],[(.b (.l 3) 1,_),(.b (.l 3) 2,_),(.b (.l 3) 3,_),(.b (.l 3) 4,_),(.b (.l 3) 5,_)],[]⟩) (uAj (⟨sx rfl,sx rfl,sx rfl,sx rfl,trivial⟩) (⟨sx rfl,sx rfl,sx rfl,sx rfl,sx rfl,trivial⟩) (⟨rfl,rfl,rfl,rfl,rfl,trivial⟩)) ?_;refine uBl (.l 3) rfl (fun w1 w2 w3 w4 w5=>?_);refine uAk (s:=⟨[(3,_,_),(4,_,_),(6,_,_),(7,_,_)],[(.l 3,_),(.l 4,_),(.l 6,_),(.l 7,_),(.o 0,_)],[(.b (.l 3) 1,_),(.b (.l 3) 2,_),(.b (.l 3) 3,_),(.b (.l 3) 4,_),(.b (.l 3) 5,_)],[]⟩) (uAj (⟨sx rfl,sx rfl,sx rfl,sx rfl,trivial⟩) (⟨sx rfl,sx rfl,sx rfl,sx rfl,sx rfl,trivial⟩) (⟨rfl,rfl,rfl,rfl,rfl,trivial⟩)) ?_
  refine uAe ?_;refine awp_drawn' (by kernel_rfl) ?_;refine uAI rfl rfl rfl rfl rfl rfl rfl gU rfl rfl rfl rfl rfl ?_;refine uAI rfl rfl rfl rfl rfl rfl rfl gU rfl rfl rfl rfl rfl ?_;refine uAU rfl rfl rfl rfl rfl rfl rfl rfl rfl rfl rfl rfl ?_;refine uAU rfl rfl rfl rfl rfl rfl rfl rfl rfl rfl rfl rfl ?_;refine uA2 (by kernel_rfl) ?_;refine uAk (s:=⟨[(3,_,_),(6,_,_),(7,_,_)],[(.l 3,_),(.l 6,_),(.l 7,_),(.o 0,_)],[(.b (.l 3) 1,_),(.b (.l 3) 2,_),(.b (.l 3) 3,_),(.b (.l 3) 4,_),(.b (.l 3) 5,_)],[]⟩) (uAj (⟨sx rfl,sx rfl,sx rfl,trivial⟩) (⟨sx rfl,sx rfl,sx rfl,sx rfl,trivial⟩) (⟨(ak rfl (ak rfl (ak rfl (ak rfl (rfl))))),(ak rfl (ak rfl (ak rfl (ak rfl (rfl))))),(ak rfl (ak rfl (ak rfl (ak rfl (rfl))))),(ak rfl (ak rfl (ak rfl (ak rfl (rfl))))),(ak rfl (ak rfl (ak rfl (ak rfl (rfl))))),trivial⟩)) ?_;refine uBp (.l 6) (.l 3) rfl rfl rfl rfl rfl ?_;refine uAk (s:=⟨[(3,_,_),(6,_,_),(7,_,_)],[(.l 3,_),(.l 6,_),(.l 7,_),(.o 0,_)],[(.b (.l 6) 1,_),(.b (.l 6) 2,_),(.b (.l 6) 3,_),(.b (.l 6) 4,_),(.b (.l 6) 5,_)],[]⟩) (uAj (⟨sx rfl,sx rfl,sx rfl,trivial⟩) (⟨sx rfl,sx rfl,sx rfl,sx rfl,trivial⟩) (⟨rfl,rfl,rfl,rfl,rfl,trivial⟩)) ?_;refine uAp ?_
  repeat (first | refine tR ?_ | refine bR ?_)
  refine uBz rfl ?_ ⟨⟨_,rfl,rfl⟩,trivial⟩ (by simp) rfl rfl rfl rfl rfl rfl;exact congrArg (fun z=>X.tup [.agg (narC n.name (strR n.roles) (Fs.rows n.fresh) (strR n.tags) (Sp.rows n.steps) z), .agg (pbx l (uBc l (uA8 l (l.length + 1)) (uAK l [58] (uAs l [] (chR l uBJ p).2).2)).2)]) (Gl.rows_app n.goals [⟨(chR l uBJ p).1,(uAs l [] (chR l uBJ p).2).1,[],(uBc l (uA8 l (l.length + 1)) (uAK l [58] (uAs l [] (chR l uBJ p).2).2)).1,line⟩]).symm
end Go.Proofs.YtnjjdbapadkomaaGreatDoor
namespace Go.Proofs.YtnjjdbapadkomaaGreatDoor
open Go Go.Abs
theorem uLA {l : List Tk} {p : PS} (h : (chR l uBx p).2.bad=false) : (chR l uBx p).2.at'=p.at' + 1:=by
 rw [(uLG l p).1] at h ⊢
 have hq:=uFV h
 rw [uAs,if_pos hq]; rfl
abbrev frC (n : Nar) (o : List Fs) : List C:=narC n.name (strR n.roles) (Fs.rows o) (strR n.tags) (Sp.rows n.steps) (Gl.rows n.goals)
set_option maxHeartbeats 8000000 in
theorem uEE (l : List Tk) (p : PS) (n : Nar) (u1 u2 u3 u4 u5 : Value) (hl : l.length≤2000000) (hp : p.at'≤l.length) (hn : n.fresh.length≤3000000) :
  CtrO sysO 129 [.v (.agg (soC n u1 u2 u3 u4 u5)),xr l p] [soC n u1 u2 u3 u4 u5] osR (xnr l ({ n with fresh:=(frRd l p n.fresh).1 },(frRd l p n.fresh).2)) [soC n u1 u2 u3 u4 u5] .res:=by
 have hrl:=Tk.rows_len l
 have a3 : (uAK l [58] (uAs l [] p).2).at'≤l.length:=uBf (uBd hp)
 obtain ⟨role,hrole⟩ : ∃ r,(uAs l [] p).1=r:=⟨_,rfl⟩
 refine uCg Tryz.func129 rfl rfl rfl rfl rfl rfl rfl ?_;refine uAe (uAb ?_);refine uAr rfl (uAX rfl rfl rfl rfl) ?_;refine uAr rfl (uAX rfl rfl rfl rfl) ?_;refine uAr rfl (uAG rfl rfl rfl) ?_;refine uAr rfl (uAG rfl rfl rfl) ?_;refine uAf ?_;refine uAk (s:=⟨[(2,_,_),(3,_,_),(4,_,_),(5,_,_)],[(.l 2,_),(.l 3,_),(.l 4,_),(.l 5,_),(.o 0,_)],[(.b (.o 0) 1,_),(.b (.o 0) 2,_),(.b (.o 0) 3,_),(.b (.o 0) 4,_),(.b (.o 0) 5,_)],[]⟩) (uAj (⟨sx rfl,sx rfl,sx rfl,sx rfl,trivial⟩) (⟨sx rfl,sx rfl,sx rfl,sx rfl,sx rfl,trivial⟩) (⟨rfl,rfl,rfl,rfl,rfl,trivial⟩)) ?_;refine uBp (.l 2) (.o 0) rfl rfl rfl rfl rfl ?_;refine uAk (s:=⟨[(2,_,_),(3,_,_),(4,_,_),(5,_,_)],[(.l 2,_),(.l 3,_),(.l 4,_),(.l 5,_),(.o 0,_)],[(.b (.l 2) 1,_),(.b (.l 2) 2,_),(.b (.l 2) 3,_),(.b (.l 2) 4,_),(.b (.l 2) 5,_)],[]⟩) (uAj (⟨sx rfl,sx rfl,sx rfl,sx rfl,trivial⟩) (⟨sx rfl,sx rfl,sx rfl,sx rfl,sx rfl,trivial⟩) (⟨rfl,rfl,rfl,rfl,rfl,trivial⟩)) ?_;refine uAe (uAb ?_);refine uAa rfl rfl rfl (uAo rfl gU rfl rfl rfl rfl rfl) ?_;refine uAw rfl rfl rfl rfl rfl rfl gU gU (up (uBI l p (by omega) (le3 hl hp))) rfl ?_;refine uAa rfl rfl rfl (uAc rfl gU) ?_;refine uAa rfl rfl rfl (uAu rfl gU rfl) ?_
 refine uAa rfl rfl rfl (uAu rfl gU rfl) ?_;refine uAa rfl rfl rfl (uAd rfl gU) ?_;refine uAr rfl (uAt rfl rfl rfl rfl rfl rfl rfl) ?_;refine uAf ?_;refine uAk (s:=⟨[(2,_,_),(3,_,_),(4,_,_),(5,_,_),(6,_,_)],[(.l 2,_),(.l 3,_),(.l 4,_),(.l 5,_),(.o 0,_)],[(.b (.l 2) 1,_),(.b (.l 2) 2,_),(.b (.l 2) 3,_),(.b (.l 2) 4,_),(.b (.l 2) 5,_)],[]⟩) (uAj (⟨sx rfl,sx rfl,sx rfl,sx rfl,sx rfl,trivial⟩) (⟨sx rfl,sx rfl,sx rfl,sx rfl,sx rfl,trivial⟩) (⟨rfl,rfl,rfl,rfl,rfl,trivial⟩)) ?_;refine uAe (uAb ?_);refine uAa rfl rfl rfl (uAo rfl gU rfl rfl rfl rfl rfl) ?_;refine uAw rfl rfl rfl rfl rfl rfl gU gU (up (uA1 l (uAs l [] p).2 _ (by omega) (le3 hl (uBd hp)))) rfl ?_;refine uAr rfl (uAt rfl rfl rfl rfl rfl rfl rfl) ?_;refine uAf ?_;refine uAe ?_;refine uAe (uAb ?_);refine uAa rfl rfl rfl (uAd rfl gU) ?_;refine uAf ?_;refine uAx ?_
 rw [hrole]
 refine uA6 (ι:=PS × Bool × List Fs) { t:=[(2,_,_),(3,_,_),(4,_,_),(5,_,_),(6,_,_)],bx:=[(.l 4,_),(.l 5,_),(.o 0,_)],ow:=[(.b (.l 2) 1,_),(.b (.l 2) 2,_),(.b (.l 2) 3,_),(.b (.l 2) 4,_),(.b (.l 2) 5,_)] } (fun q=>[(7,true,xb q.2.1)]) (fun q=>[((.l 3),pbx l q.1),((.l 2),frC n q.2.2)]) (fun q=>q.1.at'≤l.length∧q.2.2.length≤n.fresh.length + q.1.at' + (if q.2.1=true then 0 else 1) ∧ ∃ k,l.length + 1≤k + q.1.at'∧(if q.2.1=true then frRA l role k q.1 q.2.2 else if symQ l q.1 [44]=true then frRA l role k q.1.go q.2.2 else (q.2.2,q.1))=frRd l p n.fresh) (fun q=>(if q.2.1=true then 1 else 0) + (l.length - q.1.at')) ((uAK l [58] (uAs l [] p).2,true,n.fresh)) (⟨a3,by simp,l.length + 1,by dsimp only; omega,by dsimp only; rw [if_pos rfl,← hrole]; rfl⟩) (uAj (⟨sx rfl,sx rfl,sx rfl,sx rfl,sx rfl,sx rfl,trivial⟩) (⟨sx rfl,sx rfl,sx rfl,sx rfl,sx rfl,trivial⟩) (⟨rfl,rfl,rfl,rfl,rfl,trivial⟩)) ?_
 intro q hok
 dsimp only [List.cons_append,List.nil_append] at *
 obtain ⟨q,first,out⟩:=q
 dsimp only at hok ⊢
 obtain ⟨hq,ho,k,hk,hi⟩:=hok
 have hro:=Fs.rows_len out
 cases first
 ·rw [if_neg (by simp)] at hi
  simp only [Bool.false_eq_true,if_false] at ho
  refine uAe ?_;refine uAe (uAb ?_);refine uAa rfl rfl rfl (uAc rfl gU) ?_;refine uAa rfl rfl rfl (uAc rfl gU) ?_;refine uAa rfl rfl rfl (uAo rfl gU rfl rfl rfl rfl rfl) ?_;refine uAw rfl rfl rfl rfl rfl rfl gU (fun hh=>gA ((fun hh=>hh) hh) (gA rfl (rfl))) (up (uCJ l q _ (by omega) (le3 hl hq))) rfl ?_;refine uAa rfl rfl rfl (uAJ rfl rfl gU (fun _ hi=>gP rfl hi)) ?_;refine uAf ?_;refine uAk (s:=⟨[(2,_,_),(3,_,_),(4,_,_),(5,_,_),(6,_,_),(7,_,_),(20,_,_)],[(.l 2,_),(.l 3,_),(.l 4,_),(.l 5,_),(.o 0,_)],[(.b (.l 2) 1,_),(.b (.l 2) 2,_),(.b (.l 2) 3,_),(.b (.l 2) 4,_),(.b (.l 2) 5,_)],[]⟩) (uAj (⟨sx rfl,sx rfl,sx rfl,sx rfl,sx rfl,sx rfl,sx rfl,trivial⟩) (⟨sx rfl,sx rfl,sx rfl,sx rfl,sx rfl,trivial⟩) (⟨rfl,rfl,rfl,rfl,rfl,trivial⟩)) ?_;refine uAn rfl (fun hc1=>?_) (fun hc1=>?_)
  ·try simp only [nn,uAh,T.rows_len,Tk.rows_len] at hc1
   have hc1:=hc1.resolve_left (by simp)
   have hlt:=(uBL hc1).1
   have hs : uAK l [44] q=q.go:=by rw [uAK,if_pos hc1]
   have hg : q.go.at'=q.at' + 1:=rfl
   have hq2 : q.go.at'≤l.length:=by omega
   rw [if_pos hc1] at hi
   obtain ⟨k,rfl⟩ : ∃ j,k=j + 1:=⟨k - 1,by omega⟩
   have hsy:=uA1 l q [44] (by omega) (le3 hl hq)
   rw [hs] at hsy
   refine uAq ?_;refine uAe ?_;refine uAx ?_;refine uAe ?_;refine uAe (uAb ?_);refine uAa rfl rfl rfl (uAc rfl gU) ?_;refine uAa rfl rfl rfl (uAZ rfl gU) ?_;refine uAf ?_;refine uAn rfl (fun hc2=>?_) (fun hc2=>?_)
   ·refine uAb ?_
    refine uAa rfl rfl rfl (uAo rfl gU rfl rfl rfl rfl rfl) ?_;refine uAw rfl rfl rfl rfl rfl rfl gU gU (up hsy) rfl ?_;refine uAr rfl (uAt rfl rfl rfl rfl rfl rfl rfl) ?_;refine uAf ?_;refine uAe (uAb ?_);refine uAa rfl rfl rfl (uAc rfl gU) ?_;refine uAa rfl rfl rfl (uAY rfl Tryz.underlying73 rfl gU) ?_;refine uAr rfl (uAG rfl rfl rfl) ?_;refine uAr rfl (uAt rfl rfl rfl rfl rfl rfl rfl) ?_;refine uAf ?_;refine uAk (s:=⟨[(2,_,_),(3,_,_),(4,_,_),(5,_,_),(6,_,_),(8,_,_)],[(.l 2,_),(.l 3,_),(.l 4,_),(.l 5,_),(.l 8,_),(.o 0,_)],[(.b (.l 2) 1,_),(.b (.l 2) 2,_),(.b (.l 2) 3,_),(.b (.l 2) 4,_),(.b (.l 2) 5,_)],[]⟩) (uAj (⟨sx rfl,sx rfl,sx rfl,sx rfl,sx rfl,sx rfl,trivial⟩) (⟨sx rfl,sx rfl,sx rfl,sx rfl,sx rfl,sx rfl,trivial⟩) (⟨rfl,rfl,rfl,rfl,rfl,trivial⟩)) ?_;refine uAe (uAb ?_)
    have b1:=(uA4 l [] q.go).1
    have b2:=(uIX l uBx (uAs l [] q.go).2).1
    have b3 : (chR l uBx (uAs l [] q.go).2).2.at'≤l.length:=uEe (uBd hq2)
    refine uAa rfl rfl rfl (uAo rfl gU rfl rfl rfl rfl rfl) ?_;refine uAw rfl rfl rfl rfl rfl rfl gU gU (up (uBI l q.go (by omega) (le3 hl hq2))) rfl ?_;refine uAa rfl rfl rfl (uAc rfl gU) ?_;refine uAa rfl rfl rfl (uAu rfl gU rfl) ?_;refine uAa rfl rfl rfl (uAu rfl gU rfl) ?_;refine uAa rfl rfl rfl (uAg rfl gU rfl rfl) ?_;refine uAr rfl (uAt rfl rfl rfl rfl rfl rfl rfl) ?_;refine uAr rfl (uAt rfl rfl rfl rfl rfl rfl rfl) ?_;refine uAf ?_;refine uAk (s:=⟨[(2,_,_),(3,_,_),(4,_,_),(5,_,_),(6,_,_),(8,_,_)],[(.l 2,_),(.l 3,_),(.l 4,_),(.l 5,_),(.l 8,_),(.o 0,_)],[(.b (.l 2) 1,_),(.b (.l 2) 2,_),(.b (.l 2) 3,_),(.b (.l 2) 4,_),(.b (.l 2) 5,_)],[]⟩) (uAj (⟨sx rfl,sx rfl,sx rfl,sx rfl,sx rfl,sx rfl,trivial⟩) (⟨sx rfl,sx rfl,sx rfl,sx rfl,sx rfl,sx rfl,trivial⟩) (⟨rfl,rfl,rfl,rfl,rfl,trivial⟩)) ?_;refine uAe ?_;refine awp_drawn' (by kernel_rfl) ?_;refine uAI rfl rfl rfl rfl rfl rfl rfl gU rfl rfl rfl rfl rfl ?_;refine uAW rfl rfl rfl rfl rfl rfl rfl gU gU (up uGv) rfl ?_;refine uAW rfl rfl rfl rfl rfl rfl rfl gU gU (up (uDh l (uAs l [] q.go).2 uBx (by omega) (le3 hl (uBd hq2)))) rfl ?_;refine uAi rfl rfl rfl rfl (uAc rfl gU) ?_;refine uAi rfl rfl rfl rfl (uAu rfl gU rfl) ?_;refine uAi rfl rfl rfl rfl (uAu rfl gU rfl) ?_
    refine uAi rfl rfl rfl rfl (uAg rfl gU rfl rfl) ?_;refine uAU rfl rfl rfl rfl rfl rfl rfl rfl rfl rfl rfl rfl ?_;refine uAU rfl rfl rfl rfl rfl rfl rfl rfl rfl rfl rfl rfl ?_;refine uA2 (by kernel_rfl) ?_;refine uAk (s:=⟨[(2,_,_),(3,_,_),(4,_,_),(5,_,_),(6,_,_),(8,_,_)],[(.l 2,_),(.l 3,_),(.l 4,_),(.l 5,_),(.l 8,_),(.o 0,_)],[(.b (.l 2) 1,_),(.b (.l 2) 2,_),(.b (.l 2) 3,_),(.b (.l 2) 4,_),(.b (.l 2) 5,_)],[]⟩) (uAj (⟨sx rfl,sx rfl,sx rfl,sx rfl,sx rfl,sx rfl,trivial⟩) (⟨sx rfl,sx rfl,sx rfl,sx rfl,sx rfl,sx rfl,trivial⟩) (⟨(ak rfl (ak rfl (ak rfl (ak rfl (ak rfl (ak rfl (ak rfl (ak rfl (ak rfl (rfl)))))))))),(ak rfl (ak rfl (ak rfl (ak rfl (ak rfl (ak rfl (ak rfl (ak rfl (ak rfl (rfl)))))))))),(ak rfl (ak rfl (ak rfl (ak rfl (ak rfl (ak rfl (ak rfl (ak rfl (ak rfl (rfl)))))))))),(ak rfl (ak rfl (ak rfl (ak rfl (ak rfl (ak rfl (ak rfl (ak rfl (ak rfl (rfl)))))))))),(ak rfl (ak rfl (ak rfl (ak rfl (ak rfl (ak rfl (ak rfl (ak rfl (ak rfl (rfl)))))))))),trivial⟩)) ?_;refine uAe (uAb ?_);refine uAa rfl rfl rfl (uAg rfl gU rfl rfl) ?_;refine uAr rfl (uBA rfl rfl rfl rfl rfl rfl rfl) ?_;refine uAa rfl rfl rfl (uAo rfl gU rfl rfl rfl rfl rfl) ?_;refine uAH (xs:=[_]) rfl rfl rfl rfl rfl rfl rfl rfl rfl gU rfl ?_;refine uAr rfl (uA0 rfl rfl rfl rfl rfl rfl rfl (by first | omega | (simp only [List.length_append,List.length_singleton,Fs.rows_len]; omega)) (by first | omega | (simp only [List.length_append,List.length_singleton,Fs.rows_len]; omega))) ?_
    refine uAa rfl rfl rfl (uAg rfl gU rfl rfl) ?_;refine uAr rfl (uBB rfl rfl rfl rfl rfl rfl rfl) ?_;refine uAf ?_;refine uAk (s:=⟨[(2,_,_),(3,_,_),(4,_,_),(5,_,_),(6,_,_)],[(.l 2,_),(.l 3,_),(.l 4,_),(.l 5,_),(.o 0,_)],[(.b (.l 2) 1,_),(.b (.l 2) 2,_),(.b (.l 2) 3,_),(.b (.l 2) 4,_),(.b (.l 2) 5,_)],[]⟩) (uAj (⟨sx rfl,sx rfl,sx rfl,sx rfl,sx rfl,trivial⟩) (⟨sx rfl,sx rfl,sx rfl,sx rfl,sx rfl,trivial⟩) (⟨rfl,rfl,rfl,rfl,rfl,trivial⟩)) ?_;refine uAe (uAb ?_);refine uAa rfl rfl rfl (uAg rfl gU rfl rfl) ?_;refine uAa rfl rfl rfl (uAl rfl gU rfl rfl rfl rfl) ?_;refine uAf ?_;refine uAn rfl (fun hc3=>?_) (fun hc3=>?_)
    ·try simp only [nn,uAh,T.rows_len,Tk.rows_len] at hc3
     rw [frRA,if_pos hc3] at hi
     rw [← hi]
     refine uAk (s:=⟨[(2,_,_),(3,_,_),(4,_,_),(5,_,_)],[(.l 2,_),(.l 3,_),(.l 4,_),(.l 5,_),(.o 0,_)],[(.b (.l 2) 1,_),(.b (.l 2) 2,_),(.b (.l 2) 3,_),(.b (.l 2) 4,_),(.b (.l 2) 5,_)],[]⟩) (uAj (⟨sx rfl,sx rfl,sx rfl,sx rfl,trivial⟩) (⟨sx rfl,sx rfl,sx rfl,sx rfl,sx rfl,trivial⟩) (⟨rfl,rfl,rfl,rfl,rfl,trivial⟩)) ?_;refine uBl (.l 2) rfl (fun w1 w2 w3 w4 w5=>?_);refine uAk (s:=⟨[(2,_,_),(3,_,_),(4,_,_),(5,_,_)],[(.l 2,_),(.l 3,_),(.l 4,_),(.l 5,_),(.o 0,_)],[(.b (.l 2) 1,_),(.b (.l 2) 2,_),(.b (.l 2) 3,_),(.b (.l 2) 4,_),(.b (.l 2) 5,_)],[]⟩) (uAj (⟨sx rfl,sx rfl,sx rfl,sx rfl,trivial⟩) (⟨sx rfl,sx rfl,sx rfl,sx rfl,sx rfl,trivial⟩) (⟨rfl,rfl,rfl,rfl,rfl,trivial⟩)) ?_;refine uAe ?_;refine awp_drawn' (by kernel_rfl) ?_;refine uAI rfl rfl rfl rfl rfl rfl rfl gU rfl rfl rfl rfl rfl ?_;refine uAI rfl rfl rfl rfl rfl rfl rfl gU rfl rfl rfl rfl rfl ?_;refine uAU rfl rfl rfl rfl rfl rfl rfl rfl rfl rfl rfl rfl ?_;refine uAU rfl rfl rfl rfl rfl rfl rfl rfl rfl rfl rfl rfl ?_;refine uA2 (by kernel_rfl) ?_;refine uAk (s:=⟨[(2,_,_),(4,_,_),(5,_,_)],[(.l 2,_),(.l 4,_),(.l 5,_),(.o 0,_)],[(.b (.l 2) 1,_),(.b (.l 2) 2,_),(.b (.l 2) 3,_),(.b (.l 2) 4,_),(.b (.l 2) 5,_)],[]⟩) (uAj (⟨sx rfl,sx rfl,sx rfl,trivial⟩) (⟨sx rfl,sx rfl,sx rfl,sx rfl,trivial⟩) (⟨(ak rfl (ak rfl (ak rfl (ak rfl (rfl))))),(ak rfl (ak rfl (ak rfl (ak rfl (rfl))))),(ak rfl (ak rfl (ak rfl (ak rfl (rfl))))),(ak rfl (ak rfl (ak rfl (ak rfl (rfl))))),(ak rfl (ak rfl (ak rfl (ak rfl (rfl))))),trivial⟩)) ?_
     refine uBp (.l 4) (.l 2) rfl rfl rfl rfl rfl ?_;refine uAk (s:=⟨[(2,_,_),(4,_,_),(5,_,_)],[(.l 2,_),(.l 4,_),(.l 5,_),(.o 0,_)],[(.b (.l 4) 1,_),(.b (.l 4) 2,_),(.b (.l 4) 3,_),(.b (.l 4) 4,_),(.b (.l 4) 5,_)],[]⟩) (uAj (⟨sx rfl,sx rfl,sx rfl,trivial⟩) (⟨sx rfl,sx rfl,sx rfl,sx rfl,trivial⟩) (⟨rfl,rfl,rfl,rfl,rfl,trivial⟩)) ?_;refine uAp ?_
     repeat (first | refine tR ?_ | refine bR ?_)
     refine uBz rfl ?_ ⟨⟨_,rfl,rfl⟩,trivial⟩ (by simp) rfl rfl rfl rfl rfl rfl;exact congrArg (fun z=>X.tup [.agg (narC n.name (strR n.roles) z (strR n.tags) (Sp.rows n.steps) (Gl.rows n.goals)), .agg (pbx l (chR l uBx (uAs l [] q.go).2).2)]) (Fs.rows_app out [⟨role,(uAs l [] q.go).1,(chR l uBx (uAs l [] q.go).2).1⟩]).symm
    ·try simp only [nn,uAh,T.rows_len,Tk.rows_len] at hc3
     rw [frRA,if_neg (by rw [hc3]; simp)] at hi
     have b4:=uLA hc3
     refine uAq ?_;refine uAb ?_;refine uAa rfl rfl rfl (uAd rfl gU) ?_;refine uAf ?_;refine ⟨((chR l uBx (uAs l [] q.go).2).2,false,out++[⟨role,(uAs l [] q.go).1,(chR l uBx (uAs l [] q.go).2).1⟩]),?_,?_,uAj (⟨⟨_,rfl,?_⟩,⟨sx rfl,sx rfl,sx rfl,sx rfl,sx rfl,trivial⟩⟩) (⟨⟨_,rfl,?_⟩,⟨⟨_,rfl,?_⟩,⟨sx rfl,sx rfl,sx rfl,trivial⟩⟩⟩) (⟨rfl,rfl,rfl,rfl,rfl,trivial⟩)⟩
     ·refine ⟨b3,by dsimp only; simp only [List.length_append,List.length_singleton,Bool.false_eq_true,if_false]; omega,k,by dsimp only; omega,?_⟩
      rw [if_neg (by simp)]; exact hi
     ·dsimp only
      simp only [Bool.false_eq_true,if_false,if_true]
      omega
     all_goals first | rfl | exact congrArg (fun z=>some (narC n.name (strR n.roles) z (strR n.tags) (Sp.rows n.steps) (Gl.rows n.goals))) (Fs.rows_app out [⟨role,(uAs l [] q.go).1,(chR l uBx (uAs l [] q.go).2).1⟩]).symm | exact congrArg (fun z=>narC n.name (strR n.roles) z (strR n.tags) (Sp.rows n.steps) (Gl.rows n.goals)) (Fs.rows_app out [⟨role,(uAs l [] q.go).1,(chR l uBx (uAs l [] q.go).2).1⟩]).symm
   ·exfalso
    simp at hc2
  ·try simp only [nn,uAh,T.rows_len,Tk.rows_len] at hc1
   have hc1:=hc1.2
   rw [if_neg (by rw [hc1]; simp)] at hi
   rw [← hi]
   refine uAQ ?_
   repeat (first | refine uAE ?_ | refine uAD ?_ | refine uAC rfl ?_)
   refine uAk (s:=⟨[(2,_,_),(3,_,_),(4,_,_),(5,_,_)],[(.l 2,_),(.l 3,_),(.l 4,_),(.l 5,_),(.o 0,_)],[(.b (.l 2) 1,_),(.b (.l 2) 2,_),(.b (.l 2) 3,_),(.b (.l 2) 4,_),(.b (.l 2) 5,_)],[]⟩) (uAj (⟨sx rfl,sx rfl,sx rfl,sx rfl,trivial⟩) (⟨sx rfl,sx rfl,sx rfl,sx rfl,sx rfl,trivial⟩) (⟨rfl,rfl,rfl,rfl,rfl,trivial⟩)) ?_;refine uBl (.l 2) rfl (fun w1 w2 w3 w4 w5=>?_);refine uAk (s:=⟨[(2,_,_),(3,_,_),(4,_,_),(5,_,_)],[(.l 2,_),(.l 3,_),(.l 4,_),(.l 5,_),(.o 0,_)],[(.b (.l 2) 1,_),(.b (.l 2) 2,_),(.b (.l 2) 3,_),(.b (.l 2) 4,_),(.b (.l 2) 5,_)],[]⟩) (uAj (⟨sx rfl,sx rfl,sx rfl,sx rfl,trivial⟩) (⟨sx rfl,sx rfl,sx rfl,sx rfl,sx rfl,trivial⟩) (⟨rfl,rfl,rfl,rfl,rfl,trivial⟩)) ?_;refine uAe ?_;refine awp_drawn' (by kernel_rfl) ?_;refine uAI rfl rfl rfl rfl rfl rfl rfl gU rfl rfl rfl rfl rfl ?_;refine uAI rfl rfl rfl rfl rfl rfl rfl gU rfl rfl rfl rfl rfl ?_;refine uAU rfl rfl rfl rfl rfl rfl rfl rfl rfl rfl rfl rfl ?_;refine uAU rfl rfl rfl rfl rfl rfl rfl rfl rfl rfl rfl rfl ?_;refine uA2 (by kernel_rfl) ?_;refine uAk (s:=⟨[(2,_,_),(4,_,_),(5,_,_)],[(.l 2,_),(.l 4,_),(.l 5,_),(.o 0,_)],[(.b (.l 2) 1,_),(.b (.l 2) 2,_),(.b (.l 2) 3,_),(.b (.l 2) 4,_),(.b (.l 2) 5,_)],[]⟩) (uAj (⟨sx rfl,sx rfl,sx rfl,trivial⟩) (⟨sx rfl,sx rfl,sx rfl,sx rfl,trivial⟩) (⟨(ak rfl (ak rfl (ak rfl (ak rfl (rfl))))),(ak rfl (ak rfl (ak rfl (ak rfl (rfl))))),(ak rfl (ak rfl (ak rfl (ak rfl (rfl))))),(ak rfl (ak rfl (ak rfl (ak rfl (rfl))))),(ak rfl (ak rfl (ak rfl (ak rfl (rfl))))),trivial⟩)) ?_
   refine uBp (.l 4) (.l 2) rfl rfl rfl rfl rfl ?_;refine uAk (s:=⟨[(2,_,_),(4,_,_),(5,_,_)],[(.l 2,_),(.l 4,_),(.l 5,_),(.o 0,_)],[(.b (.l 4) 1,_),(.b (.l 4) 2,_),(.b (.l 4) 3,_),(.b (.l 4) 4,_),(.b (.l 4) 5,_)],[]⟩) (uAj (⟨sx rfl,sx rfl,sx rfl,trivial⟩) (⟨sx rfl,sx rfl,sx rfl,sx rfl,trivial⟩) (⟨rfl,rfl,rfl,rfl,rfl,trivial⟩)) ?_;refine uAp ?_
   repeat (first | refine tR ?_ | refine bR ?_)
   refine uBz rfl ?_ ⟨⟨_,rfl,rfl⟩,trivial⟩ (by simp) rfl rfl rfl rfl rfl rfl
   rfl
 ·rw [if_pos rfl] at hi
  simp only [if_true] at ho
  have hq2:=hq
  obtain ⟨k,rfl⟩ : ∃ j,k=j + 1:=⟨k - 1,by omega⟩
  refine uAe ?_;refine uAe (uAb ?_);refine uAa rfl rfl rfl (uAc rfl gU) ?_;refine uAa rfl rfl rfl (uAc rfl gU) ?_;refine uAa rfl rfl rfl (uAo rfl gU rfl rfl rfl rfl rfl) ?_;refine uAw rfl rfl rfl rfl rfl rfl gU (fun hh=>gA ((fun hh=>hh) hh) (gA rfl (rfl))) (up (uCJ l q _ (by omega) (le3 hl hq))) rfl ?_;refine uAa rfl rfl rfl (uAJ rfl rfl gU (fun _ hi=>gP rfl hi)) ?_;refine uAf ?_;refine uAk (s:=⟨[(2,_,_),(3,_,_),(4,_,_),(5,_,_),(6,_,_),(7,_,_),(20,_,_)],[(.l 2,_),(.l 3,_),(.l 4,_),(.l 5,_),(.o 0,_)],[(.b (.l 2) 1,_),(.b (.l 2) 2,_),(.b (.l 2) 3,_),(.b (.l 2) 4,_),(.b (.l 2) 5,_)],[]⟩) (uAj (⟨sx rfl,sx rfl,sx rfl,sx rfl,sx rfl,sx rfl,sx rfl,trivial⟩) (⟨sx rfl,sx rfl,sx rfl,sx rfl,sx rfl,trivial⟩) (⟨rfl,rfl,rfl,rfl,rfl,trivial⟩)) ?_;refine uAn rfl (fun hc1=>?_) (fun hc1=>?_)
  ·refine uAq ?_
   refine uAe ?_;refine uAx ?_;refine uAe ?_;refine uAe (uAb ?_);refine uAa rfl rfl rfl (uAc rfl gU) ?_;refine uAa rfl rfl rfl (uAZ rfl gU) ?_;refine uAf ?_;refine uAn rfl (fun hc2=>?_) (fun hc2=>?_)
   ·exfalso
    simp at hc2
   ·refine uAq ?_
    refine uAe (uAb ?_);refine uAa rfl rfl rfl (uAc rfl gU) ?_;refine uAa rfl rfl rfl (uAY rfl Tryz.underlying73 rfl gU) ?_;refine uAr rfl (uAG rfl rfl rfl) ?_;refine uAr rfl (uAt rfl rfl rfl rfl rfl rfl rfl) ?_;refine uAf ?_;refine uAk (s:=⟨[(2,_,_),(3,_,_),(4,_,_),(5,_,_),(6,_,_),(8,_,_)],[(.l 2,_),(.l 3,_),(.l 4,_),(.l 5,_),(.l 8,_),(.o 0,_)],[(.b (.l 2) 1,_),(.b (.l 2) 2,_),(.b (.l 2) 3,_),(.b (.l 2) 4,_),(.b (.l 2) 5,_)],[]⟩) (uAj (⟨sx rfl,sx rfl,sx rfl,sx rfl,sx rfl,sx rfl,trivial⟩) (⟨sx rfl,sx rfl,sx rfl,sx rfl,sx rfl,sx rfl,trivial⟩) (⟨rfl,rfl,rfl,rfl,rfl,trivial⟩)) ?_;refine uAe (uAb ?_)
    have b1:=(uA4 l [] q).1
    have b2:=(uIX l uBx (uAs l [] q).2).1
    have b3 : (chR l uBx (uAs l [] q).2).2.at'≤l.length:=uEe (uBd hq2)
    refine uAa rfl rfl rfl (uAo rfl gU rfl rfl rfl rfl rfl) ?_;refine uAw rfl rfl rfl rfl rfl rfl gU gU (up (uBI l q (by omega) (le3 hl hq2))) rfl ?_;refine uAa rfl rfl rfl (uAc rfl gU) ?_;refine uAa rfl rfl rfl (uAu rfl gU rfl) ?_;refine uAa rfl rfl rfl (uAu rfl gU rfl) ?_;refine uAa rfl rfl rfl (uAg rfl gU rfl rfl) ?_;refine uAr rfl (uAt rfl rfl rfl rfl rfl rfl rfl) ?_;refine uAr rfl (uAt rfl rfl rfl rfl rfl rfl rfl) ?_;refine uAf ?_;refine uAk (s:=⟨[(2,_,_),(3,_,_),(4,_,_),(5,_,_),(6,_,_),(8,_,_)],[(.l 2,_),(.l 3,_),(.l 4,_),(.l 5,_),(.l 8,_),(.o 0,_)],[(.b (.l 2) 1,_),(.b (.l 2) 2,_),(.b (.l 2) 3,_),(.b (.l 2) 4,_),(.b (.l 2) 5,_)],[]⟩) (uAj (⟨sx rfl,sx rfl,sx rfl,sx rfl,sx rfl,sx rfl,trivial⟩) (⟨sx rfl,sx rfl,sx rfl,sx rfl,sx rfl,sx rfl,trivial⟩) (⟨rfl,rfl,rfl,rfl,rfl,trivial⟩)) ?_;refine uAe ?_;refine awp_drawn' (by kernel_rfl) ?_;refine uAI rfl rfl rfl rfl rfl rfl rfl gU rfl rfl rfl rfl rfl ?_;refine uAW rfl rfl rfl rfl rfl rfl rfl gU gU (up uGv) rfl ?_;refine uAW rfl rfl rfl rfl rfl rfl rfl gU gU (up (uDh l (uAs l [] q).2 uBx (by omega) (le3 hl (uBd hq2)))) rfl ?_;refine uAi rfl rfl rfl rfl (uAc rfl gU) ?_;refine uAi rfl rfl rfl rfl (uAu rfl gU rfl) ?_;refine uAi rfl rfl rfl rfl (uAu rfl gU rfl) ?_
    refine uAi rfl rfl rfl rfl (uAg rfl gU rfl rfl) ?_;refine uAU rfl rfl rfl rfl rfl rfl rfl rfl rfl rfl rfl rfl ?_;refine uAU rfl rfl rfl rfl rfl rfl rfl rfl rfl rfl rfl rfl ?_;refine uA2 (by kernel_rfl) ?_;refine uAk (s:=⟨[(2,_,_),(3,_,_),(4,_,_),(5,_,_),(6,_,_),(8,_,_)],[(.l 2,_),(.l 3,_),(.l 4,_),(.l 5,_),(.l 8,_),(.o 0,_)],[(.b (.l 2) 1,_),(.b (.l 2) 2,_),(.b (.l 2) 3,_),(.b (.l 2) 4,_),(.b (.l 2) 5,_)],[]⟩) (uAj (⟨sx rfl,sx rfl,sx rfl,sx rfl,sx rfl,sx rfl,trivial⟩) (⟨sx rfl,sx rfl,sx rfl,sx rfl,sx rfl,sx rfl,trivial⟩) (⟨(ak rfl (ak rfl (ak rfl (ak rfl (ak rfl (ak rfl (ak rfl (ak rfl (ak rfl (rfl)))))))))),(ak rfl (ak rfl (ak rfl (ak rfl (ak rfl (ak rfl (ak rfl (ak rfl (ak rfl (rfl)))))))))),(ak rfl (ak rfl (ak rfl (ak rfl (ak rfl (ak rfl (ak rfl (ak rfl (ak rfl (rfl)))))))))),(ak rfl (ak rfl (ak rfl (ak rfl (ak rfl (ak rfl (ak rfl (ak rfl (ak rfl (rfl)))))))))),(ak rfl (ak rfl (ak rfl (ak rfl (ak rfl (ak rfl (ak rfl (ak rfl (ak rfl (rfl)))))))))),trivial⟩)) ?_;refine uAe (uAb ?_);refine uAa rfl rfl rfl (uAg rfl gU rfl rfl) ?_;refine uAr rfl (uBA rfl rfl rfl rfl rfl rfl rfl) ?_;refine uAa rfl rfl rfl (uAo rfl gU rfl rfl rfl rfl rfl) ?_;refine uAH (xs:=[_]) rfl rfl rfl rfl rfl rfl rfl rfl rfl gU rfl ?_;refine uAr rfl (uA0 rfl rfl rfl rfl rfl rfl rfl (by first | omega | (simp only [List.length_append,List.length_singleton,Fs.rows_len]; omega)) (by first | omega | (simp only [List.length_append,List.length_singleton,Fs.rows_len]; omega))) ?_
    refine uAa rfl rfl rfl (uAg rfl gU rfl rfl) ?_;refine uAr rfl (uBB rfl rfl rfl rfl rfl rfl rfl) ?_;refine uAf ?_;refine uAk (s:=⟨[(2,_,_),(3,_,_),(4,_,_),(5,_,_),(6,_,_)],[(.l 2,_),(.l 3,_),(.l 4,_),(.l 5,_),(.o 0,_)],[(.b (.l 2) 1,_),(.b (.l 2) 2,_),(.b (.l 2) 3,_),(.b (.l 2) 4,_),(.b (.l 2) 5,_)],[]⟩) (uAj (⟨sx rfl,sx rfl,sx rfl,sx rfl,sx rfl,trivial⟩) (⟨sx rfl,sx rfl,sx rfl,sx rfl,sx rfl,trivial⟩) (⟨rfl,rfl,rfl,rfl,rfl,trivial⟩)) ?_;refine uAe (uAb ?_);refine uAa rfl rfl rfl (uAg rfl gU rfl rfl) ?_;refine uAa rfl rfl rfl (uAl rfl gU rfl rfl rfl rfl) ?_;refine uAf ?_;refine uAn rfl (fun hc3=>?_) (fun hc3=>?_)
    ·try simp only [nn,uAh,T.rows_len,Tk.rows_len] at hc3
     rw [frRA,if_pos hc3] at hi
     rw [← hi]
     refine uAk (s:=⟨[(2,_,_),(3,_,_),(4,_,_),(5,_,_)],[(.l 2,_),(.l 3,_),(.l 4,_),(.l 5,_),(.o 0,_)],[(.b (.l 2) 1,_),(.b (.l 2) 2,_),(.b (.l 2) 3,_),(.b (.l 2) 4,_),(.b (.l 2) 5,_)],[]⟩) (uAj (⟨sx rfl,sx rfl,sx rfl,sx rfl,trivial⟩) (⟨sx rfl,sx rfl,sx rfl,sx rfl,sx rfl,trivial⟩) (⟨rfl,rfl,rfl,rfl,rfl,trivial⟩)) ?_;refine uBl (.l 2) rfl (fun w1 w2 w3 w4 w5=>?_);refine uAk (s:=⟨[(2,_,_),(3,_,_),(4,_,_),(5,_,_)],[(.l 2,_),(.l 3,_),(.l 4,_),(.l 5,_),(.o 0,_)],[(.b (.l 2) 1,_),(.b (.l 2) 2,_),(.b (.l 2) 3,_),(.b (.l 2) 4,_),(.b (.l 2) 5,_)],[]⟩) (uAj (⟨sx rfl,sx rfl,sx rfl,sx rfl,trivial⟩) (⟨sx rfl,sx rfl,sx rfl,sx rfl,sx rfl,trivial⟩) (⟨rfl,rfl,rfl,rfl,rfl,trivial⟩)) ?_;refine uAe ?_;refine awp_drawn' (by kernel_rfl) ?_;refine uAI rfl rfl rfl rfl rfl rfl rfl gU rfl rfl rfl rfl rfl ?_;refine uAI rfl rfl rfl rfl rfl rfl rfl gU rfl rfl rfl rfl rfl ?_;refine uAU rfl rfl rfl rfl rfl rfl rfl rfl rfl rfl rfl rfl ?_;refine uAU rfl rfl rfl rfl rfl rfl rfl rfl rfl rfl rfl rfl ?_;refine uA2 (by kernel_rfl) ?_;refine uAk (s:=⟨[(2,_,_),(4,_,_),(5,_,_)],[(.l 2,_),(.l 4,_),(.l 5,_),(.o 0,_)],[(.b (.l 2) 1,_),(.b (.l 2) 2,_),(.b (.l 2) 3,_),(.b (.l 2) 4,_),(.b (.l 2) 5,_)],[]⟩) (uAj (⟨sx rfl,sx rfl,sx rfl,trivial⟩) (⟨sx rfl,sx rfl,sx rfl,sx rfl,trivial⟩) (⟨(ak rfl (ak rfl (ak rfl (ak rfl (rfl))))),(ak rfl (ak rfl (ak rfl (ak rfl (rfl))))),(ak rfl (ak rfl (ak rfl (ak rfl (rfl))))),(ak rfl (ak rfl (ak rfl (ak rfl (rfl))))),(ak rfl (ak rfl (ak rfl (ak rfl (rfl))))),trivial⟩)) ?_
     refine uBp (.l 4) (.l 2) rfl rfl rfl rfl rfl ?_;refine uAk (s:=⟨[(2,_,_),(4,_,_),(5,_,_)],[(.l 2,_),(.l 4,_),(.l 5,_),(.o 0,_)],[(.b (.l 4) 1,_),(.b (.l 4) 2,_),(.b (.l 4) 3,_),(.b (.l 4) 4,_),(.b (.l 4) 5,_)],[]⟩) (uAj (⟨sx rfl,sx rfl,sx rfl,trivial⟩) (⟨sx rfl,sx rfl,sx rfl,sx rfl,trivial⟩) (⟨rfl,rfl,rfl,rfl,rfl,trivial⟩)) ?_;refine uAp ?_
     repeat (first | refine tR ?_ | refine bR ?_)
     refine uBz rfl ?_ ⟨⟨_,rfl,rfl⟩,trivial⟩ (by simp) rfl rfl rfl rfl rfl rfl;exact congrArg (fun z=>X.tup [.agg (narC n.name (strR n.roles) z (strR n.tags) (Sp.rows n.steps) (Gl.rows n.goals)), .agg (pbx l (chR l uBx (uAs l [] q).2).2)]) (Fs.rows_app out [⟨role,(uAs l [] q).1,(chR l uBx (uAs l [] q).2).1⟩]).symm
    ·try simp only [nn,uAh,T.rows_len,Tk.rows_len] at hc3
     rw [frRA,if_neg (by rw [hc3]; simp)] at hi
     have b4:=uLA hc3
     refine uAq ?_;refine uAb ?_;refine uAa rfl rfl rfl (uAd rfl gU) ?_;refine uAf ?_;refine ⟨((chR l uBx (uAs l [] q).2).2,false,out++[⟨role,(uAs l [] q).1,(chR l uBx (uAs l [] q).2).1⟩]),?_,?_,uAj (⟨⟨_,rfl,?_⟩,⟨sx rfl,sx rfl,sx rfl,sx rfl,sx rfl,trivial⟩⟩) (⟨⟨_,rfl,?_⟩,⟨⟨_,rfl,?_⟩,⟨sx rfl,sx rfl,sx rfl,trivial⟩⟩⟩) (⟨rfl,rfl,rfl,rfl,rfl,trivial⟩)⟩
     ·refine ⟨b3,by dsimp only; simp only [List.length_append,List.length_singleton,Bool.false_eq_true,if_false]; omega,k,by dsimp only; omega,?_⟩
      rw [if_neg (by simp)]; exact hi
     ·dsimp only
      simp only [Bool.false_eq_true,if_false,if_true]
      omega
     all_goals first | rfl | exact congrArg (fun z=>some (narC n.name (strR n.roles) z (strR n.tags) (Sp.rows n.steps) (Gl.rows n.goals))) (Fs.rows_app out [⟨role,(uAs l [] q).1,(chR l uBx (uAs l [] q).2).1⟩]).symm | exact congrArg (fun z=>narC n.name (strR n.roles) z (strR n.tags) (Sp.rows n.steps) (Gl.rows n.goals)) (Fs.rows_app out [⟨role,(uAs l [] q).1,(chR l uBx (uAs l [] q).2).1⟩]).symm
  ·exfalso
   simp at hc1
end Go.Proofs.YtnjjdbapadkomaaGreatDoor
