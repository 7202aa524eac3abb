/- Our abstract program logic and contracts of this seat's functions, part 5: no statement of its own (long names of ours are shortened by a program). -/
import Derived.Test.YteidahabkfgfjaaGreatM4
set_option linter.unusedVariables false
set_option linter.unusedSimpArgs false
namespace Go.Proofs.YteidahabkfgfjaaGreat
open Go Go.Abs
namespace T
mutual
def bud : T→Int→Int
 | mk _ nm _ ks,m=>if m≤0∨40 < nm.length then -1 else buds ks (m - 1)
def buds : List T→Int→Int
 | [],m=>m
 | t :: ts,m=>if bud t m < 0 then -1 else buds ts (bud t m)
end
theorem bud_eq (t : T) (m : Int) : t.bud m=if m≤0∨40 < t.name.length then -1 else buds t.kids (m - 1):=by cases t; rw[bud]; rfl
mutual
theorem uB7 : ∀ (t : T) (m : Int),0≤t.bud m→t.bud m + t.size≤m
 | mk _ nm _ ks,m,h=>by
  rw[bud] at h ⊢
  rw[size]
  split at h
  ·omega
  ·rename_i hn
   rw[if_neg hn]
   have := buds_le ks (m - 1) h
   omega
theorem buds_le : ∀ (ts : List T) (m : Int),0≤buds ts m→buds ts m + sizes ts≤m
 | [],m,_=>by rw[buds,sizes]; omega
 | t :: ts,m,h=>by
  rw[buds] at h ⊢
  rw[sizes]
  split at h
  ·omega
  ·rename_i hn
   rw[if_neg hn]
   have h1:=uB7 t m (by omega)
   have h2:=buds_le ts (t.bud m) h
   omega
end
theorem buds_step : ∀ (ts : List T) (k : Nat) (x : T) (m : Int),ts[k]? = some x→0≤buds (ts.take k) m→0≤x.bud (buds (ts.take k) m)→buds (ts.take (k + 1)) m=x.bud (buds (ts.take k) m)
 | [],k,x,m,h,_,_=>by simp at h
 | t :: ts,0,x,m,h,h0,hx=>by
  simp at h; subst h
  simp only [List.take_zero,buds] at hx ⊢
  simp only [List.take_succ_cons,List.take_zero,buds]
  rw[if_neg (by omega)]
 | t :: ts,k + 1,x,m,h,h0,hx=>by
  rw[List.take_succ_cons,buds] at h0 hx ⊢
  rw[List.take_succ_cons,buds]
  split at h0
  ·omega
  ·rename_i hn
   rw[if_neg hn] at hx ⊢
   rw[if_neg hn]
   exact buds_step ts k x _ (by simpa using h) h0 hx
theorem buds_hit : ∀ (ts : List T) (k : Nat) (x : T) (m : Int),ts[k]? = some x→0≤buds (ts.take k) m→x.bud (buds (ts.take k) m) < 0→buds ts m = -1
 | [],k,x,m,h,_,_=>by simp at h
 | t :: ts,0,x,m,h,h0,hx=>by
  simp at h; subst h
  simp only [List.take_zero,buds] at hx
  rw[buds,if_pos hx]
 | t :: ts,k + 1,x,m,h,h0,hx=>by
  rw[List.take_succ_cons,buds] at h0 hx
  rw[buds]
  split at h0
  ·omega
  ·rename_i hn
   rw[if_neg hn] at hx ⊢
   exact buds_hit ts k x _ (by simpa using h) h0 hx
end T
def fewB (l : List T) (n : Nat) (m : Int) : Bool:=decide (l.length≤n) && decide (0≤T.buds l m)
theorem Sg {l : List T} {n : Nat} {m : Int} (h : fewB l n m=true) : l.length≤n∧T.sizes l≤m:=by
 simp only [fewB,Bool.and_eq_true,decide_eq_true_eq] at h
 have := T.buds_le l m h.2
 exact ⟨h.1,by omega⟩
def budS (t : T) (m : Int) (k : Nat) : St:={ t:=[(1,true,xi (T.buds (t.kids.take k) (m - 1))),(2,true, .v (.ptr (.l 2) 0)),(5,true,xi k)],bx:=[(.l 2,t.cells)],ow:=[] }
theorem Pr : ∀ (n : Nat) (t : T) (m : Int),m≤n→n≤2000000 → -2000000≤m→Ctr sys 70 [xm t,xi m] [] (xi (t.bud m)) none []:=by
 intro n
 induction n with
 | zero =>
  intro t m hm _ _
  refine D1 Tryz.func70 J J J J J J ?_;refine A8 (A6 ?_);refine C3 J (E2 J J J J) ?_;refine A5 J J J (A9 J gU) ?_;refine B0 ?_;refine A8 ?_;refine A8 (A6 ?_);refine A5 J J J (A7 J gU) ?_;refine A5 J J J (B6 J J gU gU J) ?_;refine A5 J J J (A7 J gU) ?_;refine A5 J J J (B1 J gU J J) ?_;refine A5 J J J (B2 J (fun hh=>hh) J J J J) ?_;refine A5 J J J (M0 J (fun hh=>hh) (Tryz.underlying9)) ?_;refine A5 J J J (B6 J J (fun hh=>hh) gU J) ?_;refine A5 J J J (D9 J J gU (fun _ hi=>gP J hi)) ?_;refine B0 ?_;refine B5 (s:=⟨[(1,_,_),(2,_,_),(13,_,_)],[(.l 2,_)],[],[]⟩) (B3 (⟨U J,U J,U J,O⟩) (⟨U J,O⟩) O) ?_;refine B8 J (fun hc=>?_) (fun hc=>?_)
  ·refine A8 (A6 ?_)
   refine A5 J J J (A9 J gU) ?_;refine B0 ?_;refine C1 ?_
   repeat(first|refine tR ?_|refine bR ?_)
   refine C5 J ?_ O;refine G8 ?_
   rw[T.bud_eq,if_pos (by omega)]
  ·simp only [Bool.or_eq_false_iff,decide_eq_false_iff_not] at hc
   omega
 | succ n ih =>
  intro t m hm hn hm2
  refine D1 Tryz.func70 J J J J J J ?_;refine A8 (A6 ?_);refine C3 J (E2 J J J J) ?_;refine A5 J J J (A9 J gU) ?_;refine B0 ?_;refine A8 ?_;refine A8 (A6 ?_);refine A5 J J J (A7 J gU) ?_;refine A5 J J J (B6 J J gU gU J) ?_;refine A5 J J J (A7 J gU) ?_;refine A5 J J J (B1 J gU J J) ?_;refine A5 J J J (B2 J (fun hh=>hh) J J J J) ?_;refine A5 J J J (M0 J (fun hh=>hh) (Tryz.underlying9)) ?_;refine A5 J J J (B6 J J (fun hh=>hh) gU J) ?_;refine A5 J J J (D9 J J gU (fun _ hi=>gP J hi)) ?_;refine B0 ?_;refine B5 (s:=⟨[(1,_,_),(2,_,_),(13,_,_)],[(.l 2,_)],[],[]⟩) (B3 (⟨U J,U J,U J,O⟩) (⟨U J,O⟩) O) ?_;refine B8 J (fun hc=>?_) (fun hc=>?_)
  ·refine A8 (A6 ?_)
   refine A5 J J J (A9 J gU) ?_;refine B0 ?_;refine C1 ?_
   repeat(first|refine tR ?_|refine bR ?_)
   refine C5 J ?_ O;refine G8 ?_
   simp only [Bool.or_eq_true,decide_eq_true_eq] at hc
   rw[T.bud_eq,if_pos (by omega)]
  ·simp only [Bool.or_eq_false_iff,decide_eq_false_iff_not] at hc
   have hB : t.bud m=T.buds t.kids (m - 1):=by rw[T.bud_eq,if_neg (by omega)]
   refine C0 ?_;refine A8 (A6 ?_);refine A5 J J J (A7 J gU) ?_;refine A5 J J J (D0 J J gU gU J (IntWalk.i64_in _ (by omega))) ?_;refine A5 J J J (A9 J gU) ?_;refine B0 ?_;refine A8 ?_;refine A8 (A6 ?_);refine A5 J J J (A9 J gU) ?_;refine B0 ?_;refine C4 ?_;refine P5 (budS t m) (fun k=>k≤t.kids.length∧0≤T.buds (t.kids.take k) (m - 1)) (fun k=>t.kids.length - k) 0 ⟨Nat.zero_le _,by simp [T.buds]; omega⟩ ?_ ?_
   ·refine B3 ⟨⟨_,rfl,rfl⟩,⟨_,rfl,rfl⟩,⟨_,rfl,rfl⟩,O⟩ ⟨⟨_,rfl,rfl⟩,O⟩ O
   ·rintro k ⟨hk,hz⟩
    have hbl:=T.buds_le _ _ hz
    refine A8 ?_;refine A8 (A6 ?_);refine A5 J J J (A7 J gU) ?_;refine A5 J J J (B1 J gU J J) ?_;refine A5 J J J (B2 J gU J J J J) ?_;refine E0 J J J J J gU J J ?_ (fun hh=>by simp at hh); intro hlen;refine A5 J J J (B6 J J gU gU J) ?_;refine B0 ?_;refine B5 (s:=⟨[(1,_,_),(2,_,_),(5,_,_),(20,_,_)],[(.l 2,_)],[],[]⟩) (B3 (⟨U J,U J,U J,U J,O⟩) (⟨U J,O⟩) O) ?_;refine B8 J (fun hc2=>?_) (fun hc2=>?_)
    ·rw[T.rows_len] at hlen hc2
     have hlt : k < t.kids.length:=by simpa using hc2
     obtain ⟨x,hx⟩ : ∃ x,t.kids[k]? = some x:=⟨_,List.getElem?_eq_getElem hlt⟩
     refine C0 ?_;refine A8 ?_;refine C4 ?_;refine A8 (A6 ?_);refine A5 J J J (B1 J gU J J) ?_;refine A5 J J J (B2 J gU J J J J) ?_;refine A5 J J J (A7 J gU) ?_;refine A5 J J J (C7 J J gU gU J J J (fun _=>T.rows_get hx)) ?_;refine A5 J J J (D6 J gU J J J J) ?_;refine A5 J J J (A7 J gU) ?_;refine C8 J J J J J J gU gU (ih x _ (by omega) (by omega) (by omega)) J ?_;refine A5 J J J (A9 J gU) ?_;refine B0 ?_;refine B5 (s:=⟨[(1,_,_),(2,_,_),(5,_,_)],[(.l 2,_)],[],[]⟩) (B3 (⟨U J,U J,U J,O⟩) (⟨U J,O⟩) O) ?_;refine A8 (A6 ?_);refine A5 J J J (A7 J gU) ?_;refine A5 J J J (B6 J J gU gU J) ?_;refine B0 ?_;refine B8 J (fun hc3=>?_) (fun hc3=>?_)
     ·refine A8 (A6 ?_)
      refine A5 J J J (A9 J gU) ?_;refine B0 ?_;refine C1 ?_
      repeat(first|refine tR ?_|refine bR ?_)
      refine C5 J ?_ O;refine G8 ?_
      simp only [decide_eq_true_eq] at hc3
      rw[hB,T.buds_hit _ _ _ _ hx hz hc3]
     ·simp only [decide_eq_false_iff_not] at hc3
      have hst:=T.buds_step _ _ _ _ hx hz (by omega)
      refine C0 ?_;refine A6 ?_;refine A5 J J J (A7 J gU) ?_;refine A5 J J J (D0 J J gU gU J (IntWalk.i64_in _ (by omega))) ?_;refine A5 J J J (A9 J gU) ?_;refine B0 ?_;refine ⟨k + 1,⟨by omega,by rw[hst]; omega⟩,by omega,?_⟩;refine B3 ⟨⟨_,rfl,by rw[hst]⟩,⟨_,rfl,rfl⟩,⟨_,rfl,rfl⟩,O⟩ ⟨⟨_,rfl,rfl⟩,O⟩ O
    ·refine E1 ?_
     repeat(first|refine D3 ?_|refine D4 ?_|refine D2 J ?_)
     refine A8 (A6 ?_);refine A5 J J J (A7 J gU) ?_;refine A5 J J J (A9 J gU) ?_;refine B0 ?_;refine C1 ?_
     repeat(first|refine tR ?_|refine bR ?_)
     refine C5 J ?_ O
     rw[T.rows_len] at hc2
     have : k=t.kids.length:=by simp at hc2; omega
     subst this
     exact G8 (by rw[hB,List.take_length])
def fewS (l : List T) (n : Nat) (m : Int) (k : Nat) : St:={ t:=[(0,true,xl l),(2,true,xi (T.buds (l.take k) m)),(7,true,xi k)],bx:=[],ow:=[] }
theorem uA6 (l : List T) (n : Nat) (m : Nat) (hm : m≤2000000) : Ctr sys 36 [xl l,xi n,xi m] [] (xb (fewB l n m)) none []:=by
 refine D1 Tryz.func36 J J J J J J ?_;refine A8 (A6 ?_);refine A5 J J J (A9 J gU) ?_;refine B0 ?_;refine A8 ?_;refine A8 (A6 ?_);refine A5 J J J (A7 J gU) ?_;refine E0 J J J J J gU J J ?_ (fun hh=>by simp at hh); intro hlen;refine A5 J J J (A7 J gU) ?_;refine A5 J J J (B6 J J gU gU J) ?_;refine B0 ?_;refine B5 (s:=⟨[(0,_,_),(2,_,_),(11,_,_)],[],[],[]⟩) (B3 (⟨U J,U J,U J,O⟩) O O) ?_;refine B8 J (fun hc=>?_) (fun hc=>?_)
 ·refine A8 (A6 ?_)
  refine A5 J J J (A9 J gU) ?_;refine B0 ?_;refine C1 ?_
  repeat(first|refine tR ?_|refine bR ?_)
  refine C5 J ?_ O;refine N0 ?_
  simp only [T.rows_len,decide_eq_true_eq] at hc
  have : ¬ l.length≤n:=by omega
  simp [fewB,this]
 ·simp only [T.rows_len,decide_eq_false_iff_not] at hc
  have hn : l.length≤n:=by omega
  refine C0 ?_;refine A8 ?_;refine A8 (A6 ?_);refine A5 J J J (A9 J gU) ?_;refine B0 ?_;refine C4 ?_;refine P5 (fewS l n m) (fun k=>k≤l.length∧0≤T.buds (l.take k) m) (fun k=>l.length - k) 0 ⟨Nat.zero_le _,by simp [T.buds]⟩ ?_ ?_
  ·refine B3 ⟨⟨_,rfl,rfl⟩,⟨_,rfl,rfl⟩,⟨_,rfl,rfl⟩,O⟩ O O
  ·rintro k ⟨hk,hz⟩
   have hbl:=T.buds_le _ _ hz
   refine A8 ?_;refine A8 (A6 ?_);refine A5 J J J (A7 J gU) ?_;refine A5 J J J (A7 J gU) ?_;refine E0 J J J J J gU J J ?_ (fun hh=>by simp at hh); intro hlen;refine A5 J J J (B6 J J gU gU J) ?_;refine B0 ?_;refine B8 J (fun hc2=>?_) (fun hc2=>?_)
   ·rw[T.rows_len] at hlen hc2
    have hlt : k < l.length:=by simpa using hc2
    obtain ⟨x,hx⟩ : ∃ x,l[k]? = some x:=⟨_,List.getElem?_eq_getElem hlt⟩
    refine C0 ?_;refine A8 ?_;refine C4 ?_;refine A8 (A6 ?_);refine A5 J J J (A7 J gU) ?_;refine A5 J J J (A7 J gU) ?_;refine A5 J J J (C7 J J gU gU J J J (fun _=>T.rows_get hx)) ?_;refine A5 J J J (D6 J gU J J J J) ?_;refine A5 J J J (A7 J gU) ?_;refine C8 J J J J J J gU gU (Pr m x _ (by omega) (by omega) (by omega)) J ?_;refine A5 J J J (A9 J gU) ?_;refine B0 ?_;refine B5 (s:=⟨[(0,_,_),(2,_,_),(7,_,_)],[],[],[]⟩) (B3 (⟨U J,U J,U J,O⟩) O O) ?_;refine A8 (A6 ?_);refine A5 J J J (A7 J gU) ?_;refine A5 J J J (B6 J J gU gU J) ?_;refine B0 ?_;refine B8 J (fun hc3=>?_) (fun hc3=>?_)
    ·refine A8 (A6 ?_)
     refine A5 J J J (A9 J gU) ?_;refine B0 ?_;refine C1 ?_
     repeat(first|refine tR ?_|refine bR ?_)
     refine C5 J ?_ O;refine N0 ?_
     simp only [decide_eq_true_eq] at hc3
     simp [fewB,T.buds_hit _ _ _ _ hx hz hc3]
    ·simp only [decide_eq_false_iff_not] at hc3
     have hst:=T.buds_step _ _ _ _ hx hz (by omega)
     refine C0 ?_;refine A6 ?_;refine A5 J J J (A7 J gU) ?_;refine A5 J J J (D0 J J gU gU J (IntWalk.i64_in _ (by omega))) ?_;refine A5 J J J (A9 J gU) ?_;refine B0 ?_;refine ⟨k + 1,⟨by omega,by rw[hst]; omega⟩,by omega,?_⟩;refine B3 ⟨⟨_,rfl,rfl⟩,⟨_,rfl,by rw[hst]⟩,⟨_,rfl,rfl⟩,O⟩ O O
   ·refine E1 ?_
    repeat(first|refine D3 ?_|refine D4 ?_|refine D2 J ?_)
    refine A8 (A6 ?_);refine A5 J J J (A9 J gU) ?_;refine B0 ?_;refine C1 ?_
    repeat(first|refine tR ?_|refine bR ?_)
    refine C5 J ?_ O
    rw[T.rows_len] at hc2
    have : k=l.length:=by simp at hc2; omega
    subst this
    rw[List.take_length] at hz
    exact N0 (by simp [fewB,hn,hz])
end Go.Proofs.YteidahabkfgfjaaGreat
namespace Go.Proofs.YteidahabkfgfjaaGreat
open Go Go.Abs
theorem uCr (l r : List T) : X.v (.c (.sl 4 (T.rows l++T.rows r)))=xl (l++r):=by simp [xl,T.rows_eq]
def X3 (l : List Gl) : List T:=(l.map Gl.data).flatten
theorem Sr {l : List Gl} {k : Nat} (h : k < l.length) : X3 (l.take (k + 1))=X3 (l.take k)++(l.getD k default).data:=by
 rw[M2 (d:=default) h]; simp [X3]
theorem Vy {l : List Gl} (h : ∀ g ∈ l,g.data.length≤2097152) : (X3 l).length≤2097152 * l.length:=by
 induction l with
 | nil=>simp [X3]
 | cons g l ih =>
  have h1:=h g (by simp)
  have h2:=ih fun x hx=>h x (by simp [hx])
  simp only [X3,List.map_cons,List.flatten_cons,List.length_append,List.length_cons,Nat.mul_succ] at h2 ⊢
  omega
def Nt (n : Nar) : List T:=n.steps.map Sp.msg++X3 n.goals
def fewN (n : Nar) : Bool:=(decide (n.roles.length≤16) && decide (n.fresh.length≤16) && decide (n.tags.length≤16) && decide (n.steps.length≤16) && decide (n.goals.length≤16)) && fewB (Nt n) 100 900
theorem Tm (n : Nar) (hd : ∀ g ∈ n.goals,g.data.length≤2097152) : Ctr sys 12 [xn n] [] (xb (fewN n)) none []:=by
 have l1:=B4 n.roles
 have l3:=Fs.rows_len n.fresh
 have l4:=B4 n.tags
 have l5:=Sp.rows_len n.steps
 have l6:=Gl.rows_len n.goals
 refine D1 Tryz.func12 J J J J J J ?_;refine A8 (A6 ?_);refine C3 J (E2 J J J J) ?_;refine A5 J J J (A9 J gU) ?_;refine B0 ?_;refine A8 ?_;refine A8 (A6 ?_);refine A5 J J J (B1 J gU J J) ?_;refine A5 J J J (B2 J gU J J J J) ?_;refine E0 J J J J J gU J J ?_ (fun hh=>by simp at hh); intro hlen;refine A5 J J J (B6 J J gU gU J) ?_;refine A5 J J J (A7 J gU) ?_;refine A5 J J J (B1 J gU J J) ?_;refine A5 J J J (B2 J (fun hh=>hh) J J J J) ?_;refine A5 J J J (G7 J (fun hh=>hh) J J) ?_;refine A5 J J J (B6 J J (fun hh=>hh) gU J) ?_;refine A5 J J J (D9 J J gU (fun _ hi=>gP J hi)) ?_;refine H5 (s:=⟨[(1,_,_),(15,_,_)],[(.l 1,_)],[],[]⟩) (B3 (⟨U J,U J,O⟩) (⟨U J,O⟩) O) ?_;refine A5 J J J (A7 J gU) ?_;refine A5 J J J (B1 J gU J J) ?_;refine A5 J J J (B2 J (fun hh=>hh) J J J J) ?_;refine A5 J J J (G7 J (fun hh=>hh) J J) ?_;refine A5 J J J (B6 J J (fun hh=>hh) gU J) ?_;refine A5 J J J (D9 J J gU (fun _ hi=>gP J hi)) ?_;refine A5 J J J (A7 J gU) ?_
 refine A5 J J J (B1 J gU J J) ?_;refine A5 J J J (B2 J (fun hh=>hh) J J J J) ?_;refine A5 J J J (G7 J (fun hh=>hh) J J) ?_;refine A5 J J J (B6 J J (fun hh=>hh) gU J) ?_;refine A5 J J J (D9 J J gU (fun _ hi=>gP J hi)) ?_;refine H5 (s:=⟨[(1,_,_),(27,_,_)],[(.l 1,_)],[],[]⟩) (B3 (⟨U J,U J,O⟩) (⟨U J,O⟩) O) ?_;refine A5 J J J (A7 J gU) ?_;refine A5 J J J (B1 J gU J J) ?_;refine A5 J J J (B2 J (fun hh=>hh) J J J J) ?_;refine A5 J J J (G7 J (fun hh=>hh) J J) ?_;refine A5 J J J (B6 J J (fun hh=>hh) gU J) ?_;refine A5 J J J (D9 J J gU (fun _ hi=>gP J hi)) ?_;refine B0 ?_;refine B5 (s:=⟨[(1,_,_),(33,_,_)],[(.l 1,_)],[],[]⟩) (B3 (⟨U J,U J,O⟩) (⟨U J,O⟩) O) ?_;refine B8 J (fun hc=>?_) (fun hc=>?_)
 ·try simp only [nn,B4,nq] at hc
  refine A8 (A6 ?_);refine A5 J J J (A9 J gU) ?_;refine B0 ?_;refine C1 ?_
  repeat(first|refine tR ?_|refine bR ?_)
  refine C5 J ?_ O
  (refine N0 ?_; symm; unfold fewN; rw[Bool.eq_false_iff]; intro q; simp only [Bool.and_eq_true,decide_eq_true_eq] at q; omega)
 ·try simp only [nn,B4,nq] at hc
  have h16 : n.roles.length≤16∧n.fresh.length≤16∧n.tags.length≤16∧n.steps.length≤16∧n.goals.length≤16:=by omega
  have hE : fewN n=fewB (Nt n) 100 900:=by
   unfold fewN
   rw[decide_eq_true h16.1,decide_eq_true h16.2.1,decide_eq_true h16.2.2.1,decide_eq_true h16.2.2.2.1,decide_eq_true h16.2.2.2.2]; rfl
  rw[hE]
  refine C0 ?_;refine A8 (A6 ?_);refine C3 J (H9 (.inr J) J J) ?_;refine B0 ?_;refine A8 ?_;refine A8 (A6 ?_);refine A5 J J J (A9 J gU) ?_;refine B0 ?_;refine C4 ?_;refine F5 (ι:=Nat) { t:=[(1,_,_)],bx:=[(.l 1,_)],ow:=[(.t 3,_)] } (fun k=>[(4,true,xi (k : Int)),(3,true,xl ((n.steps.take k).map Sp.msg))]) (fun k=>[]) (fun k=>k≤n.steps.length) (fun k=>n.steps.length - k) (0) (by simp) (B3 (⟨U J,U J,U J,O⟩) (⟨U J,O⟩) (⟨rfl,O⟩)) ?_
  intro k hoka
  dsimp only [List.cons_append,List.nil_append]
  refine A8 ?_;refine A8 (A6 ?_);refine A5 J J J (A7 J gU) ?_;refine A5 J J J (B1 J gU J J) ?_;refine A5 J J J (B2 J gU J J J J) ?_;refine E0 J J J J J gU J J ?_ (fun hh=>by simp at hh); intro hlen;refine A5 J J J (B6 J J gU gU J) ?_;refine B0 ?_;refine B5 (s:=⟨[(1,_,_),(3,_,_),(4,_,_),(38,_,_)],[(.l 1,_)],[(.t 3,_)],[]⟩) (B3 (⟨U J,U J,U J,U J,O⟩) (⟨U J,O⟩) (⟨rfl,O⟩)) ?_;refine B8 J (fun hc2=>?_) (fun hc2=>?_)
  ·try simp only [nn,B4,nq] at hc2
   have hT:=M2 (l:=n.steps) (d:=default) (k:=k) (by omega)
   refine C0 ?_;refine A8 ?_;refine C4 ?_;refine A6 ?_;refine C3 J (F6 (.inl J) J J J) ?_;refine A5 J J J (B1 J gU J J) ?_;refine A5 J J J (B2 J gU J J J J) ?_;refine A5 J J J (A7 J gU) ?_;refine A5 J J J (C7 J J gU gU J J J (fun hh=>Sp.rows_at (by first|omega|(simp at hh ⊢; omega)))) ?_;refine A5 J J J (F4 J gU J J) ?_;refine A5 J J J (D6 J gU J J J J) ?_;refine E8 (xs:=[_]) J J J J J J J J J gU J ?_;refine C3 J (G0 J J J J J J J (by first|omega|(simp only [List.length_append,List.length_singleton,T.rows_len,List.length_map,List.length_take]; omega)) (by first|omega|(simp only [List.length_append,List.length_singleton,T.rows_len,List.length_map,List.length_take]; omega))) ?_;refine C3 J (F6 (.inr J) J J J) ?_;refine B0 ?_;refine B5 (s:=⟨[(1,_,_),(3,_,_),(4,_,_)],[(.l 1,_)],[(.t 3,_)],[]⟩) (B3 (⟨U J,U J,U J,O⟩) (⟨U J,O⟩) (⟨rfl,O⟩)) ?_;refine A6 ?_;refine A5 J J J (A7 J gU) ?_;refine A5 J J J (D0 J J gU gU J (IntWalk.i64_in _ (by omega))) ?_;refine A5 J J J (A9 J gU) ?_;refine B0 ?_;refine ⟨k + 1,?_,?_,B3 (⟨⟨_,rfl,?_⟩,⟨⟨_,rfl,?_⟩,⟨U J,O⟩⟩⟩) (⟨U J,O⟩) (⟨rfl,O⟩)⟩
   all_goals (first|rfl|omega|exact tx ((Mj _ _).trans (by rw[hT,List.map_append]; rfl)))
  ·try simp only [nn,B4,nq] at hc2
   have hk : k=n.steps.length:=by omega
   subst hk
   refine E1 ?_
   repeat(first|refine D3 ?_|refine D4 ?_|refine D2 J ?_)
   refine A8 ?_;refine A8 (A6 ?_);refine A5 J J J (A9 J gU) ?_;refine B0 ?_;refine C4 ?_;refine F5 (ι:=Nat) { t:=[(1,_,_)],bx:=[(.l 1,_)],ow:=[(.t 3,_)] } (fun j=>[(5,true,xi (j : Int)),(3,true,xl (n.steps.map Sp.msg++X3 (n.goals.take j)))]) (fun j=>[]) (fun j=>j≤n.goals.length) (fun j=>n.goals.length - j) (0) (by simp) (B3 (⟨U J,⟨⟨_,rfl,by simp [X3]⟩,⟨U J,O⟩⟩⟩) (⟨U J,O⟩) (⟨rfl,O⟩)) ?_
   intro j hokb
   dsimp only [List.cons_append,List.nil_append]
   have hdl:=Vy (l:=n.goals.take j) fun g hg=>hd g (List.mem_of_mem_take hg)
   rw[List.length_take] at hdl
   refine A8 ?_;refine A8 (A6 ?_);refine A5 J J J (A7 J gU) ?_;refine A5 J J J (B1 J gU J J) ?_;refine A5 J J J (B2 J gU J J J J) ?_;refine E0 J J J J J gU J J ?_ (fun hh=>by simp at hh); intro hlen;refine A5 J J J (B6 J J gU gU J) ?_;refine B0 ?_;refine B5 (s:=⟨[(1,_,_),(3,_,_),(5,_,_),(54,_,_)],[(.l 1,_)],[(.t 3,_)],[]⟩) (B3 (⟨U J,U J,U J,U J,O⟩) (⟨U J,O⟩) (⟨rfl,O⟩)) ?_;refine B8 J (fun hc3=>?_) (fun hc3=>?_)
   ·try simp only [nn,B4,nq] at hc3
    have hT:=Sr (l:=n.goals) (k:=j) (by omega)
    have hdj : (n.goals.getD j default).data.length≤2097152:=hd _ (by rw[List.getD_eq_getElem?_getD,List.getElem?_eq_getElem (by omega)]; exact List.getElem_mem _)
    refine C0 ?_;refine A8 ?_;refine C4 ?_;refine A6 ?_;refine C3 J (F6 (.inl J) J J J) ?_;refine A5 J J J (B1 J gU J J) ?_;refine A5 J J J (B2 J gU J J J J) ?_;refine A5 J J J (A7 J gU) ?_;refine A5 J J J (C7 J J gU gU J J J (fun hh=>Gl.rows_at (by first|omega|(simp at hh ⊢; omega)))) ?_;refine A5 J J J (F4 J gU J J) ?_;refine A5 J J J (E9 J gU J J J) ?_;refine C3 J (G0 J J J J J J J (by first|omega|(simp only [List.length_append,List.length_singleton,T.rows_len,List.length_map,List.length_take]; omega)) (by first|omega|(simp only [List.length_append,List.length_singleton,T.rows_len,List.length_map,List.length_take]; omega))) ?_;refine C3 J (F6 (.inr J) J J J) ?_;refine B0 ?_;refine B5 (s:=⟨[(1,_,_),(3,_,_),(5,_,_)],[(.l 1,_)],[(.t 3,_)],[]⟩) (B3 (⟨U J,U J,U J,O⟩) (⟨U J,O⟩) (⟨rfl,O⟩)) ?_;refine A6 ?_;refine A5 J J J (A7 J gU) ?_;refine A5 J J J (D0 J J gU gU J (IntWalk.i64_in _ (by omega))) ?_;refine A5 J J J (A9 J gU) ?_;refine B0 ?_;refine ⟨j + 1,?_,?_,B3 (⟨⟨_,rfl,?_⟩,⟨⟨_,rfl,?_⟩,⟨U J,O⟩⟩⟩) (⟨U J,O⟩) (⟨rfl,O⟩)⟩
    all_goals (first|rfl|omega|exact tx ((uCr _ _).trans (by rw[hT,List.append_assoc])))
   ·try simp only [nn,B4,nq] at hc3
    have hk : j=n.goals.length:=by omega
    subst hk
    have e : n.steps.map Sp.msg++X3 (n.goals.take n.goals.length)=Nt n:=by rw[List.take_length]; rfl
    rw[e]
    refine E1 ?_
    repeat(first|refine D3 ?_|refine D4 ?_|refine D2 J ?_)
    refine A8 (A6 ?_);refine A5 J J J (A7 J gU) ?_;refine C8 J J J J J J gU gU (uA6 (Nt n) 100 900 (by omega)) J ?_;refine A5 J J J (A9 J gU) ?_;refine B0 ?_;refine C1 ?_
    repeat(first|refine tR ?_|refine bR ?_)
    refine C5 J ?_ O
    rfl
theorem uBq {n : Nar} (h : fewN n=true) : n.steps.length≤16∧n.goals.length≤16∧(∀ s ∈ n.steps,s.msg.size≤900000) ∧ ∀ g ∈ n.goals,T.sizes g.data≤900000:=by
 simp only [fewN,Bool.and_eq_true,decide_eq_true_eq] at h
 obtain ⟨_,h2⟩:=Sg h.2
 have h3 : T.sizes (n.steps.map Sp.msg++X3 n.goals)≤900:=by unfold Nt at h2; omega
 have happ : ∀ a b : List T,T.sizes (a++b)=T.sizes a + T.sizes b:=by
  intro a b
  induction a with
  | nil=>simp [T.sizes]
  | cons t a ih=>simp only [List.cons_append,T.sizes,ih]; omega
 rw[happ] at h3
 refine ⟨h.1.1.2,h.1.2,fun s hs=>?_,fun g hg=>?_⟩
 ·have : ∀ l : List Sp,s ∈ l→s.msg.size≤T.sizes (l.map Sp.msg):=by
   intro l hl
   induction l with
   | nil=>simp at hl
   | cons x l ih =>
    simp only [List.map_cons,T.sizes]
    rcases List.mem_cons.1 hl with q | q
    ·subst q; omega
    ·have := ih q; omega
  have := this _ hs
  omega
 ·have : ∀ l : List Gl,g ∈ l→T.sizes g.data≤T.sizes (X3 l):=by
   intro l hl
   induction l with
   | nil=>simp at hl
   | cons x l ih =>
    have e : X3 (x :: l)=x.data++X3 l:=by simp [X3]
    rw[e,happ]
    rcases List.mem_cons.1 hl with q | q
    ·subst q; omega
    ·have := ih q; omega
  have := this _ hg
  omega
namespace T
mutual
def all : T→List T
 | mk k n s ks=>mk k n s ks :: alls ks
def alls : List T→List T
 | []=>[]
 | t :: ts=>all t++alls ts
end
end T
end Go.Proofs.YteidahabkfgfjaaGreat
namespace Go.Proofs.YteidahabkfgfjaaGreat
open Go Go.Abs
abbrev xr (l : List Tk) (p : PS) : X:=.v (.agg (pbx l p))
theorem Xe (s : List UInt8) (k : Int) : Ctr sys 50 [xs s,xi k] [] (xm ⟨2,s,k,[]⟩) none []:=by
 refine D1 Tryz.func50 J J J J J J ?_;refine A8 (A6 ?_);refine C3 J (D7 J J J) ?_;refine B0 ?_;refine A8 (A6 ?_);refine A5 J J J (A7 J gU) ?_;refine A5 J J J (A7 J gU) ?_;refine A5 J J J (H0 J Tryz.underlying47 J gU) ?_;refine C3 J (C9 J J J J J J J) ?_;refine B0 ?_;refine C1 ?_
 repeat(first|refine tR ?_|refine bR ?_)
 refine C5 J ?_ O
 rfl
theorem Zq (s : List UInt8) (ks : List T) (hk : ks.length≤3000000) : Ctr sys 166 [xs s,xl ks] [] (xm ⟨3,s,0,ks⟩) none []:=by
 have hrl:=T.rows_len ks
 refine D1 Tryz.func166 J J J J J J ?_;refine A8 (A6 ?_);refine C3 J (D7 J J J) ?_;refine B0 ?_;refine A8 (A6 ?_);refine A5 J J J (A7 J gU) ?_;refine E8 (xs:=[]) J J J J J J J J J gU J ?_;refine A5 J J J (A7 J gU) ?_;refine C3 J (G0 J J J J J J J (by first|omega|(simp only [List.length_nil]; omega)) (by first|omega|(simp only [List.length_nil]; omega))) ?_;refine A5 J J J (H0 J Tryz.underlying47 J gU) ?_;refine C3 J (C9 J J J J J J J) ?_;refine B0 ?_;refine C1 ?_
 repeat(first|refine tR ?_|refine bR ?_)
 refine C5 J ?_ O
 rfl
theorem Ew (s : List UInt8) (rs : List (List C)) (ks : List T) (h : rs=T.rows ks) (hk : ks.length≤3000000) : Ctr sys 166 [xs s, .v (.c (.sl 4 rs))] [] (xm ⟨3,s,0,ks⟩) none []:=by
 subst h; exact Zq s ks hk
theorem F1 (l : List Tk) (p : PS) (c : List UInt8) (hl : l.length≤2000000) (hp : p.at'≤3000000) : Ctr sys 106 [xr l p,xs c] [] (xr l (E5 l c p)) none []:=by
 have hrl:=Tk.rows_len l
 refine D1 Tryz.func106 J J J J J J ?_;refine A8 (A6 ?_);refine C3 J (E2 J J J J) ?_;refine C3 J (D7 J J J) ?_;refine B0 ?_;refine A8 ?_;refine A8 (A6 ?_);refine A5 J J J (B1 J gU J J) ?_;refine A5 J J J (B2 J gU J J J J) ?_;refine A5 J J J (A7 J gU) ?_;refine A5 J J J (B1 J gU J J) ?_;refine A5 J J J (B2 J (fun hh=>hh) J J J J) ?_;refine A5 J J J (B1 J gU J J) ?_;refine A5 J J J (B2 J (fun hh=>hh) J J J J) ?_;refine A5 J J J (G7 J (fun hh=>hh) J J) ?_;refine A5 J J J (B6 J J (fun hh=>hh) (fun hh=>hh) J) ?_;refine A5 J J J (D9 J J gU (fun _ hi=>gP J hi)) ?_;refine H5 (s:=⟨[(1,_,_),(2,_,_),(4,_,_),(14,_,_)],[(.l 2,_),(.l 4,_)],[],[]⟩) (B3 (⟨U J,U J,U J,U J,O⟩) (⟨U J,U J,O⟩) O) ?_;refine A5 J J J (A7 J gU) ?_;refine A5 J J J (B1 J gU J J) ?_;refine A5 J J J (B2 J (fun hh=>hh) J J J J) ?_;refine A5 J J J (B1 J gU J J) ?_;refine A5 J J J (B2 J (fun hh=>hh) J J J J) ?_;refine A5 J J J (C7 (j:=p.at') J J (fun hh=>hh) (fun hh=>hh) J J (by first|omega|(simp at hh ⊢; omega)) (fun hh=>Tk.rows_at (by first|omega|(simp at hh ⊢; omega)))) ?_
 refine A5 J J J (F4 J (fun hh=>hh) J J) ?_;refine A5 J J J (E9 J (fun hh=>hh) J J J) ?_;refine A5 J J J (B6 J J (fun hh=>hh) gU J) ?_;refine A5 J J J (D9 J J gU (fun _ hi=>gP J hi)) ?_;refine A5 J J J (A7 J gU) ?_;refine A5 J J J (B1 J gU J J) ?_;refine H5 (s:=⟨[(1,_,_),(2,_,_),(4,_,_),(25,_,_),(26,_,_)],[(.l 2,_),(.l 4,_)],[],[]⟩) (B3 (⟨U J,U J,U J,U J,U J,O⟩) (⟨U J,U J,O⟩) O) ?_;refine A5 J J J (B2 J (fun hh=>hh) J J J J) ?_;refine A5 J J J (B1 J gU J J) ?_;refine A5 J J J (B2 J (fun hh=>hh) J J J J) ?_;refine A5 J J J (C7 (j:=p.at') J J (fun hh=>hh) (fun hh=>hh) J J (by first|omega|(simp at hh ⊢; omega)) (fun hh=>Tk.rows_at (by first|omega|(simp at hh ⊢; omega)))) ?_;refine A5 J J J (F4 J (fun hh=>hh) J J) ?_;refine A5 J J J (E9 J (fun hh=>hh) J J J) ?_;refine A5 J J J (A7 J gU) ?_;refine A5 J J J (H1 J J (fun hh=>hh) (fun hh=>hh) J) ?_;refine A5 J J J (D9 J J gU (fun _ hi=>gP J hi)) ?_;refine B0 ?_;refine B5 (s:=⟨[(2,_,_),(4,_,_),(35,_,_)],[(.l 2,_),(.l 4,_)],[],[]⟩) (B3 (⟨U J,U J,U J,O⟩) (⟨U J,U J,O⟩) O) ?_
 refine B8 J (fun hc=>?_) (fun hc=>?_)
 ·try simp only [nn,B4,T.rows_len,Tk.rows_len] at hc
  have h : symQ l p c=false:=by simp only [symQ]; grind
  have h2 : E5 l c p=p.off:=by rw[E5,h]; rfl
  rw[h2]
  refine A8 (A6 ?_);refine A5 J J J (B1 J gU J J) ?_;refine C3 J (C9 J J J J J J J) ?_;refine B0 ?_;refine A8 (A6 ?_);refine A5 J J J (B7 J gU J J J J J) ?_;refine C3 J (C9 J J J J J J J) ?_;refine B0 ?_;refine C1 ?_
  repeat(first|refine tR ?_|refine bR ?_)
  refine C5 J ?_ O
  rfl
 ·try simp only [nn,B4,T.rows_len,Tk.rows_len] at hc
  have h : symQ l p c=true:=by simp only [symQ]; grind
  have h2 : E5 l c p=p.go:=by rw[E5,if_pos h]
  rw[h2]
  refine C0 ?_;refine A8 (A6 ?_);refine A5 J J J (B1 J gU J J) ?_;refine A5 J J J (B2 J gU J J J J) ?_;refine A5 J J J (D0 J J gU gU J (IntWalk.i64_in _ (by omega))) ?_;refine A5 J J J (B1 J gU J J) ?_;refine C3 J (C9 J J J J J J J) ?_;refine B0 ?_;refine A8 (A6 ?_);refine A5 J J J (B7 J gU J J J J J) ?_;refine C3 J (C9 J J J J J J J) ?_;refine B0 ?_;refine C1 ?_
  repeat(first|refine tR ?_|refine bR ?_)
  refine C5 J ?_ O
  (first|rfl|exact congrArg (fun z=>X.v (.agg z)) (Zb (by simp [PS.go]) J))
theorem Zp (l : List Tk) (c : List UInt8) (p : PS) : (E5 l c p).bad = !symQ l p c:=by
 unfold E5
 split
 ·rename_i h
  rw[h]; exact (N9 h).2
 ·rename_i h
  have : symQ l p c=false:=by simpa using h
  rw[this]; rfl
theorem P3 (l : List Tk) (p : PS) (c : List UInt8) (hl : l.length≤2000000) (hp : p.at'≤3000000) : Ctr sys 107 [xr l p,xs c] [] (xb (symQ l p c)) none []:=by
 refine D1 Tryz.func107 J J J J J J ?_;refine A8 (A6 ?_);refine C3 J (E2 J J J J) ?_;refine A5 J J J (A9 J gU) ?_;refine B0 ?_;refine A8 (A6 ?_);refine A5 J J J (B7 J gU J J J J J) ?_;refine A5 J J J (A7 J gU) ?_;refine C8 J J J J J J gU gU (F1 _ _ _ (by omega) (by omega)) J ?_;refine A5 J J J (De J gU (Tryz.underlying119) J J J J J J) ?_;refine A5 J J J (F2 J gU) ?_;refine A5 J J J (A9 J gU) ?_;refine B0 ?_;refine C1 ?_
 repeat(first|refine tR ?_|refine bR ?_)
 refine C5 J ?_ O;exact N0 (by rw[Zp]; simp)
theorem J6 (l : List Tk) (p : PS) (hl : l.length≤2000000) (hp : p.at'≤3000000) : Ctr sys 105 [xr l p] [] (.tup [.c (.s (C6 l [] p).1), .agg (pbx l (C6 l [] p).2)]) none []:=by
 have hrl:=Tk.rows_len l
 refine D1 Tryz.func105 J J J J J J ?_;refine A8 (A6 ?_);refine C3 J (E2 J J J J) ?_;refine A5 J J J (A9 J gU) ?_;refine C3 J (D7 J J J) ?_;refine B0 ?_;refine A8 ?_;refine A8 (A6 ?_);refine A5 J J J (B1 J gU J J) ?_;refine A5 J J J (B2 J gU J J J J) ?_;refine A5 J J J (A7 J gU) ?_;refine A5 J J J (B1 J gU J J) ?_;refine A5 J J J (B2 J (fun hh=>hh) J J J J) ?_;refine A5 J J J (B1 J gU J J) ?_;refine A5 J J J (B2 J (fun hh=>hh) J J J J) ?_;refine A5 J J J (G7 J (fun hh=>hh) J J) ?_;refine A5 J J J (B6 J J (fun hh=>hh) (fun hh=>hh) J) ?_;refine H5 (s:=⟨[(1,_,_),(3,_,_),(6,_,_),(12,_,_)],[(.l 1,_),(.l 3,_)],[],[]⟩) (B3 (⟨U J,U J,U J,U J,O⟩) (⟨U J,U J,O⟩) O) ?_;refine A5 J J J (D9 J J gU (fun _ hi=>gP J hi)) ?_;refine A5 J J J (A7 J gU) ?_;refine A5 J J J (B1 J gU J J) ?_;refine A5 J J J (B2 J (fun hh=>hh) J J J J) ?_;refine A5 J J J (B1 J gU J J) ?_;refine A5 J J J (B2 J (fun hh=>hh) J J J J) ?_
 refine A5 J J J (C7 (j:=p.at') J J (fun hh=>hh) (fun hh=>hh) J J (by first|omega|(simp at hh ⊢; omega)) (fun hh=>Tk.rows_at (by first|omega|(simp at hh ⊢; omega)))) ?_;refine A5 J J J (F4 J (fun hh=>hh) J J) ?_;refine A5 J J J (E9 J (fun hh=>hh) J J J) ?_;refine A5 J J J (B6 J J (fun hh=>hh) gU J) ?_;refine A5 J J J (D9 J J gU (fun _ hi=>gP J hi)) ?_;refine B0 ?_;refine B5 (s:=⟨[(1,_,_),(3,_,_),(23,_,_)],[(.l 1,_),(.l 3,_)],[],[]⟩) (B3 (⟨U J,U J,U J,O⟩) (⟨U J,U J,O⟩) O) ?_;refine B8 J (fun hc=>?_) (fun hc=>?_)
 ·try simp only [nn,B4,T.rows_len,Tk.rows_len] at hc
  have h : namQ l p []=false:=by simp only [namQ]; grind
  have h2 : C6 l [] p=([],p.off):=by rw[C6,h]; rfl
  rw[h2]
  refine A8 (A6 ?_);refine A5 J J J (B1 J gU J J) ?_;refine C3 J (C9 J J J J J J J) ?_;refine B0 ?_;refine A8 ?_;refine awp_drawn' (by kernel_rfl) ?_;refine D5 J J J J J J J gU J J J J J ?_;refine B9 J J J J (A9 J gU) ?_;refine E7 J J J J J J J J J J J J ?_;refine F8 (by kernel_rfl) ?_;refine C1 ?_
  repeat(first|refine tR ?_|refine bR ?_)
  refine C5 J ?_ O
  rfl
 ·try simp only [nn,B4,T.rows_len,Tk.rows_len] at hc
  have h : namQ l p []=true:=by simp only [namQ]; grind
  have h2 : C6 l [] p=((l.getD p.at' tk0).text,p.go):=by rw[C6,if_pos h]
  rw[h2]
  refine C0 ?_;refine A8 (A6 ?_);refine A5 J J J (B1 J gU J J) ?_;refine A5 J J J (B2 J gU J J J J) ?_;refine A5 J J J (D0 J J gU gU J (IntWalk.i64_in _ (by omega))) ?_;refine A5 J J J (B1 J gU J J) ?_;refine C3 J (C9 J J J J J J J) ?_;refine B0 ?_;refine A8 ?_;refine awp_drawn' (by kernel_rfl) ?_;refine B9 J J J J (B1 J gU J J) ?_;refine L9 J J J J J J J gU J J J J ?_;refine B9 J J J J (B1 J gU J J) ?_;refine L9 J J J J J J J gU J J J J ?_;refine B9 J J J J (D0 J J gU gU J (IntWalk.i64_in _ (by omega))) ?_;refine B9 J J J J (C7 (j:=p.at') J J gU gU J J (by first|omega|(simp at hh ⊢; omega)) (fun hh=>Tk.rows_at (by first|omega|(simp at hh ⊢; omega)))) ?_;refine B9 J J J J (F4 J gU J J) ?_;refine B9 J J J J (E9 J gU J J J) ?_;refine D5 J J J J J J J gU J J J J J ?_;refine B9 J J J J (A9 J gU) ?_;refine E7 J J J J J J J J J J J J ?_;refine F8 (by kernel_rfl) ?_;refine C1 ?_
  repeat(first|refine tR ?_|refine bR ?_)
  refine C5 J ?_ O
  (first|rfl|exact congrArg (fun z=>X.tup [.c (.s (l.getD p.at' tk0).text), .agg z]) (Zb (by simp [PS.go]) J))
theorem Tu (l : List Tk) (p : PS) (hl : l.length≤2000000) : Ctr sys 109 [xr l p] [] (xi (Ny l p)) none []:=by
 have hrl:=Tk.rows_len l
 refine D1 Tryz.func109 J J J J J J ?_;refine A8 (A6 ?_);refine C3 J (E2 J J J J) ?_;refine A5 J J J (A9 J gU) ?_;refine B0 ?_;refine A8 ?_;refine A8 (A6 ?_);refine A5 J J J (B1 J gU J J) ?_;refine A5 J J J (B2 J gU J J J J) ?_;refine E0 J J J J J gU J J ?_ (fun hh=>by simp at hh); intro hlen;refine A5 J J J (B6 J J gU gU J) ?_;refine B0 ?_;refine B5 (s:=⟨[(1,_,_),(6,_,_)],[(.l 1,_)],[],[]⟩) (B3 (⟨U J,U J,O⟩) (⟨U J,O⟩) O) ?_;refine B8 J (fun hc=>?_) (fun hc=>?_)
 ·try simp only [nn,B4,T.rows_len,Tk.rows_len] at hc
  refine A8 (A6 ?_);refine A5 J J J (A9 J gU) ?_;refine B0 ?_;refine C1 ?_
  repeat(first|refine tR ?_|refine bR ?_)
  refine C5 J ?_ O
  (rw[Ny,if_pos (by omega)]; rfl)
 ·try simp only [nn,B4,T.rows_len,Tk.rows_len] at hc
  refine C0 ?_;refine A8 (A6 ?_);refine A5 J J J (B1 J gU J J) ?_;refine A5 J J J (B2 J gU J J J J) ?_;refine A5 J J J (B1 J gU J J) ?_;refine A5 J J J (B2 J gU J J J J) ?_;refine A5 J J J (B1 J gU J J) ?_;refine A5 J J J (B2 J gU J J J J) ?_;refine E0 J J J J J gU J J ?_ (fun hh=>by simp at hh); intro hlen;refine A5 J J J (D0 J J gU gU J (IntWalk.i64_in _ (by omega))) ?_;refine A5 J J J (Yy J J gU gU) ?_;refine A5 J J J (C7 (j:=(min p.at' (l.length - 1))) J J gU gU J J (by first|omega|(simp at hh ⊢; omega)) (fun hh=>Tk.rows_at (by first|omega|(simp at hh ⊢; omega)))) ?_;refine A5 J J J (F4 J gU J J) ?_;refine A5 J J J (E9 J gU J J J) ?_;refine H5 (s:=⟨[(18,_,_)],[],[],[]⟩) (B3 (⟨U J,O⟩) O O) ?_;refine A5 J J J (A9 J gU) ?_;refine B0 ?_;refine C1 ?_
  repeat(first|refine tR ?_|refine bR ?_)
  refine C5 J ?_ O
  rw[Ny,if_neg (by omega)]
  split
  ·rename_i h
   exact G8 (by rw[show min p.at' (l.length - 1)=l.length - 1 by omega])
  ·rename_i h
   exact G8 (by rw[show min p.at' (l.length - 1)=p.at' by omega])
theorem Wk {l : List (List UInt8)} {s : List UInt8} {k : Nat} {e : Int} (h : k < l.length) (hi : (if idxF (fun x=>decide (x=s) && decide (s≠[])) (l.drop k) < 0 then 0 else idxF (fun x=>decide (x=s) && decide (s≠[])) (l.drop k) + k)=e) :
  ((l.getD k []=s∧s≠[])→e=k)∧(¬(l.getD k []=s∧s≠[])→(if idxF (fun x=>decide (x=s) && decide (s≠[])) (l.drop (k + 1)) < 0 then 0 else idxF (fun x=>decide (x=s) && decide (s≠[])) (l.drop (k + 1)) + (k + 1 : Nat))=e):=by
 rw[Lo (d:=[]) h,idxF] at hi
 refine ⟨fun q=>?_,fun q=>?_⟩
 ·have e1 : (decide (l.getD k []=s) && decide (s≠[]))=true:=by simp only [Bool.and_eq_true,decide_eq_true_eq]; exact q
  rw[e1] at hi
  simp at hi; omega
 ·have e1 : (decide (l.getD k []=s) && decide (s≠[]))=false:=by
   rw[Bool.eq_false_iff]; simp only [ne_eq,Bool.and_eq_true,decide_eq_true_eq]; exact q
  rw[e1] at hi
  simp only [Bool.false_eq_true,if_false] at hi
  have hg:=Mk (fun x=>decide (x=s) && decide (s≠[])) (l.drop (k + 1))
  generalize idxF (fun x=>decide (x=s) && decide (s≠[])) (List.drop (k + 1) l)=x at hi hg ⊢
  rw[← hi]
  by_cases hx : x < 0
  ·rw[if_pos hx,if_pos hx]; simp
  ·rw[if_neg hx,if_neg hx,if_neg (by omega)]; push_cast; omega
theorem Fq (l : List (List UInt8)) (s : List UInt8) : Ctr sys 131 [xss l,xs s] [] (xi (idx0 l s)) none []:=by
 have hrl:=B4 l
 refine D1 Tryz.func131 J J J J J J ?_;refine A8 (A6 ?_);refine A5 J J J (A9 J gU) ?_;refine B0 ?_;refine A8 ?_;refine A8 (A6 ?_);refine A5 J J J (A9 J gU) ?_;refine B0 ?_;refine C4 ?_;refine F5 (ι:=Nat) { t:=[(0,_,_),(1,_,_)],bx:=[],ow:=[] } (fun k=>[(5,true,xi (k : Int))]) (fun k=>[]) (fun k=>k≤l.length∧(if idxF (fun x=>decide (x=s) && decide (s≠[])) (l.drop k) < 0 then 0 else idxF (fun x=>decide (x=s) && decide (s≠[])) (l.drop k) + k)=idx0 l s) (fun k=>l.length - k) (0) (⟨by simp,by simp [idx0]⟩) (B3 (⟨U J,U J,U J,O⟩) O O) ?_
 intro k hok
 dsimp only [List.cons_append,List.nil_append]
 obtain ⟨hk,hi⟩:=hok
 refine A8 ?_;refine A8 (A6 ?_);refine A5 J J J (A7 J gU) ?_;refine A5 J J J (A7 J gU) ?_;refine E0 J J J J J gU J J ?_ (fun hh=>by simp at hh); intro hlen;refine A5 J J J (B6 J J gU gU J) ?_;refine B0 ?_;refine B8 J (fun hc=>?_) (fun hc=>?_)
 ·try simp only [nn,B4,T.rows_len,Tk.rows_len] at hc
  have hlt : k < l.length:=by omega
  have hd:=Wk hlt hi
  refine C0 ?_;refine A8 ?_;refine C4 ?_;refine A8 (A6 ?_);refine A5 J J J (A7 J gU) ?_;refine A5 J J J (A7 J gU) ?_;refine A5 J J J (C7 J J gU gU J J J (fun hh=>R3 (by first|omega|(simp at hh ⊢; omega)))) ?_;refine A5 J J J (E9 J gU J J J) ?_;refine A5 J J J (A7 J gU) ?_;refine A5 J J J (H1 J J gU gU J) ?_;refine A5 J J J (A7 J gU) ?_;refine A5 J J J (A7 J gU) ?_;refine H5 (s:=⟨[(0,_,_),(1,_,_),(5,_,_),(18,_,_),(19,_,_)],[],[],[]⟩) (B3 (⟨U J,U J,U J,U J,U J,O⟩) O O) ?_;refine A5 J J J (H1 J J (fun hh=>hh) gU J) ?_;refine A5 J J J (E4 J J gU (fun _ hi=>gP J hi)) ?_;refine B0 ?_;refine B8 J (fun hc2=>?_) (fun hc2=>?_)
  ·try simp only [nn,B4,T.rows_len,Tk.rows_len] at hc2
   refine A8 (A6 ?_);refine A5 J J J (A7 J gU) ?_;refine A5 J J J (A9 J gU) ?_;refine B0 ?_;refine C1 ?_
   repeat(first|refine tR ?_|refine bR ?_)
   refine C5 J ?_ O;exact G8 (hd.1 hc2).symm
  ·try simp only [nn,B4,T.rows_len,Tk.rows_len] at hc2
   refine C0 ?_;refine A6 ?_;refine A5 J J J (A7 J gU) ?_;refine A5 J J J (D0 J J gU gU J (IntWalk.i64_in _ (by omega))) ?_;refine A5 J J J (A9 J gU) ?_;refine B0 ?_;refine ⟨k + 1,?_,?_,B3 (⟨⟨_,rfl,?_⟩,⟨U J,U J,O⟩⟩) O O⟩
   all_goals (first|rfl|omega|exact ⟨by omega,hd.2 (by rintro ⟨q1,q2⟩; rcases hc2 with q|q; exact q q1; exact q2 (by simpa using q))⟩)
 ·try simp only [nn,B4,T.rows_len,Tk.rows_len] at hc
  rw[List.drop_of_length_le (by omega)] at hi
  refine E1 ?_
  repeat(first|refine D3 ?_|refine D4 ?_|refine D2 J ?_)
  refine A8 (A6 ?_);refine A5 J J J (A9 J gU) ?_;refine B0 ?_;refine C1 ?_
  repeat(first|refine tR ?_|refine bR ?_)
  refine C5 J ?_ O;exact G8 hi
theorem U8 (l : List Tk) (p : PS) (ws : List (List UInt8)) (hl : l.length≤2000000) (hp : p.at'≤3000000) : Ctr sys 104 [xr l p,xss ws] [] (.tup [.c (.i .i64 (chR l ws p).1), .agg (pbx l (chR l ws p).2)]) none []:=by
 refine D1 Tryz.func104 J J J J J J ?_;refine A8 (A6 ?_);refine C3 J (E2 J J J J) ?_;refine A5 J J J (A9 J gU) ?_;refine C3 J (D7 J J J) ?_;refine B0 ?_;refine A8 (A6 ?_);refine A5 J J J (B7 J gU J J J J J) ?_;refine C8 J J J J J J gU gU (J6 _ _ (by omega) (by omega)) J ?_;refine A5 J J J (A7 J gU) ?_;refine A5 J J J (C2 J gU J) ?_;refine A5 J J J (C2 J gU J) ?_;refine C3 J (D7 J J J) ?_;refine A5 J J J (A9 J gU) ?_;refine C3 J (C9 J J J J J J J) ?_;refine B0 ?_;refine B5 (s:=⟨[(1,_,_),(2,_,_),(5,_,_),(6,_,_),(7,_,_)],[(.l 2,_),(.l 5,_),(.l 7,_)],[],[]⟩) (B3 (⟨U J,U J,U J,U J,U J,O⟩) (⟨U J,U J,U J,O⟩) O) ?_;refine A8 ?_;refine A8 (A6 ?_);refine A5 J J J (B1 J gU J J) ?_;refine A5 J J J (B2 J gU J J J J) ?_;refine A5 J J J (A7 J gU) ?_;refine A5 J J J (A7 J gU) ?_;refine A5 J J J (A7 J gU) ?_;refine C8 J J J J J J gU (fun hh=>gA ((fun hh=>hh) hh) (gA ((fun hh=>hh) hh) (rfl))) (Fq _ _) J ?_
 refine A5 J J J (B6 J J (fun hh=>hh) gU J) ?_;refine A5 J J J (D9 J J gU (fun _ hi=>gP J hi)) ?_;refine B0 ?_;refine B5 (s:=⟨[(1,_,_),(2,_,_),(5,_,_),(6,_,_),(7,_,_),(20,_,_)],[(.l 2,_),(.l 5,_),(.l 7,_)],[],[]⟩) (B3 (⟨U J,U J,U J,U J,U J,U J,O⟩) (⟨U J,U J,U J,O⟩) O) ?_;refine B8 J (fun hc=>?_) (fun hc=>?_)
 ·try simp only [nn,B4,T.rows_len,Tk.rows_len] at hc
  have h : chR l ws p=(0,p.off):=by rw[chR,if_pos hc]
  rw[h]
  refine A8 (A6 ?_);refine A5 J J J (B1 J gU J J) ?_;refine C3 J (C9 J J J J J J J) ?_;refine B0 ?_;refine A8 ?_;refine awp_drawn' (by kernel_rfl) ?_;refine D5 J J J J J J J gU J J J J J ?_;refine B9 J J J J (A9 J gU) ?_;refine E7 J J J J J J J J J J J J ?_;refine F8 (by kernel_rfl) ?_;refine C1 ?_
  repeat(first|refine tR ?_|refine bR ?_)
  refine C5 J ?_ O
  rfl
 ·try simp only [nn,B4,T.rows_len,Tk.rows_len] at hc
  have h : chR l ws p=(idx0 ws (C6 l [] p).1,(C6 l [] p).2):=by rw[chR,if_neg (by rintro (q | q); { rw[hc.1] at q; cases q }; { exact hc.2 q })]
  rw[h]
  refine C0 ?_;refine A8 ?_;refine awp_drawn' (by kernel_rfl) ?_;refine B9 J J J J (A7 J gU) ?_;refine B9 J J J J (A7 J gU) ?_;refine F3 J J J J J J J gU gU (Fq _ _) J ?_;refine D5 J J J J J J J gU J J J J J ?_;refine B9 J J J J (A9 J gU) ?_;refine E7 J J J J J J J J J J J J ?_;refine F8 (by kernel_rfl) ?_;refine C1 ?_
  repeat(first|refine tR ?_|refine bR ?_)
  refine C5 J ?_ O
  rfl
theorem T7 (l : List Tk) (p : PS) (hl : l.length≤2000000) (hp : p.at'≤l.length) : Ctr sys 132 [xr l p] [] (.tup [.c (.sl 1 (strR (J2 l p).1)), .agg (pbx l (J2 l p).2)]) none []:=by
 have hrl:=Tk.rows_len l
 have h0:=G4 l [] p
 refine D1 Tryz.func132 J J J J J J ?_;refine A8 (A6 ?_);refine C3 J (E2 J J J J) ?_;refine C3 J (H9 (.inr J) J J) ?_;refine C3 J (D7 J J J) ?_;refine B0 ?_;refine A8 (A6 ?_);refine A5 J J J (B7 J gU J J J J J) ?_;refine C8 J J J J J J gU gU (J6 _ _ (by omega) (by omega)) J ?_;refine A5 J J J (A7 J gU) ?_;refine A5 J J J (C2 J gU J) ?_;refine A5 J J J (C2 J gU J) ?_;refine A5 J J J (A9 J gU) ?_;refine C3 J (C9 J J J J J J J) ?_;refine B0 ?_;refine B5 (s:=⟨[(1,_,_),(3,_,_),(4,_,_)],[(.l 1,_),(.l 3,_)],[],[]⟩) (B3 (⟨U J,U J,U J,O⟩) (⟨U J,U J,O⟩) O) ?_;refine A8 (A6 ?_);refine A5 J J J (A7 J gU) ?_;refine E8 (xs:=[_]) J J J J J J J J J gU J ?_;refine C3 J (F6 (.inr J) J J J) ?_;refine B0 ?_;refine A8 ?_;refine C4 ?_;refine F5 (ι:=PS × List (List UInt8) × List UInt8) { t:=[(1,_,_),(3,_,_)],bx:=[(.l 3,_)],ow:=[(.t 5,_)] } (fun q=>[(4,true,xs q.2.2),(5,true,xss q.2.1)]) (fun q=>[((.l 1),pbx l q.1)]) (fun q=>q.1.at'≤l.length∧q.2.1.length≤q.1.at' + 1 ∧ ∃ n,l.length + 1≤n + q.1.at'∧L4 l (C6 l []) n q.1 q.2.1=J2 l p) (fun q=>l.length - q.1.at') (((C6 l [] p).2,[(C6 l [] p).1],(C6 l [] p).1)) (⟨h0.2 hp,by simp,_,by dsimp only; omega,rfl⟩) (B3 (⟨U J,U J,U J,U J,O⟩) (⟨U J,U J,O⟩) (⟨rfl,O⟩)) ?_
 intro q hok
 dsimp only [List.cons_append,List.nil_append] at *
 obtain ⟨q,out,x⟩:=q
 dsimp only at hok ⊢
 obtain ⟨hq,ho,n,hn,hi⟩:=hok
 have hro:=B4 out
 refine A8 ?_;refine A8 (A6 ?_);refine A5 J J J (B7 J gU J J J J J) ?_;refine C8 J J J J J J gU gU (P3 _ _ _ (by omega) (by omega)) J ?_;refine B0 ?_;refine B8 J (fun hc=>?_) (fun hc=>?_)
 ·try simp only [nn,B4,T.rows_len,Tk.rows_len] at hc
  have hlt:=(N9 hc).1
  have hs : E5 l [44] q=q.go:=by rw[E5,if_pos hc]
  have h1:=G4 l [] q.go
  have hg : q.go.at'=q.at' + 1:=rfl
  obtain ⟨n,rfl⟩ : ∃ k,n=k + 1:=⟨n - 1,by omega⟩
  rw[Qu hc] at hi
  have hsy:=F1 l q [44] (by omega) (by omega)
  rw[hs] at hsy
  refine C0 ?_;refine C4 ?_;refine A8 (A6 ?_);refine A5 J J J (B7 J gU J J J J J) ?_;refine C8 J J J J J J gU gU (hsy) J ?_;refine C8 J J J J J J gU gU (J6 l q.go (by omega) (by omega)) J ?_;refine A5 J J J (A7 J gU) ?_;refine A5 J J J (C2 J gU J) ?_;refine A5 J J J (C2 J gU J) ?_;refine A5 J J J (A9 J gU) ?_;refine C3 J (C9 J J J J J J J) ?_;refine B0 ?_;refine B5 (s:=⟨[(1,_,_),(3,_,_),(4,_,_),(5,_,_)],[(.l 1,_),(.l 3,_)],[(.t 5,_)],[]⟩) (B3 (⟨U J,U J,U J,U J,O⟩) (⟨U J,U J,O⟩) (⟨rfl,O⟩)) ?_;refine A6 ?_;refine C3 J (F6 (.inl J) J J J) ?_;refine A5 J J J (A7 J gU) ?_;refine E8 (xs:=[_]) J J J J J J J J J gU J ?_;refine C3 J (G0 J J J J J J J (by first|omega|(simp only [List.length_append,List.length_singleton,B4]; omega)) (by first|omega|(simp only [List.length_append,List.length_singleton,B4]; omega))) ?_;refine C3 J (F6 (.inr J) J J J) ?_;refine B0 ?_;refine ⟨((C6 l [] q.go).2,out++[(C6 l [] q.go).1],(C6 l [] q.go).1),?_,?_,B3 (⟨⟨_,rfl,?_⟩,⟨⟨_,rfl,?_⟩,⟨U J,U J,O⟩⟩⟩) (⟨⟨_,rfl,?_⟩,⟨U J,O⟩⟩) (⟨rfl,O⟩)⟩
  ·exact ⟨h1.2 (by omega),by simp only [List.length_append,List.length_singleton]; omega,n,by dsimp only; omega,hi⟩
  ·dsimp only; omega
  ·rfl
  ·exact tx (Hg _ _)
  all_goals rfl
 ·try simp only [nn,B4,T.rows_len,Tk.rows_len] at hc
  rw[Dq hc] at hi
  refine E1 ?_
  repeat(first|refine D3 ?_|refine D4 ?_|refine D2 J ?_)
  refine A8 ?_;refine awp_drawn' (by kernel_rfl) ?_;refine Gz J (.inl J) J J J J J ?_;refine D5 J J J J J J J gU J J J J J ?_;refine Gz J (.inr J) J J J J J ?_;refine E7 J J J J J J J J J J J J ?_;refine F8 (by kernel_rfl) ?_;refine C1 ?_
  repeat(first|refine tR ?_|refine bR ?_)
  refine C5 J ?_ O
  (rw[← hi]; rfl)
theorem Wm : ∀ (n : Nat) (ts : List T),ts.length≤n→n≤3000000→0 < ts.length→Ctr sys 165 [xl ts] [] (xm (tupT ts)) none []:=by
 intro n
 induction n with
 | zero=>intro ts h _ h0; omega
 | succ n ih =>
  intro ts hts hn h0
  have hrl:=T.rows_len ts
  refine D1 Tryz.func165 J J J J J J ?_;refine A8 (A6 ?_);refine C3 J (D7 J J J) ?_;refine B0 ?_;refine A8 ?_;refine A8 (A6 ?_);refine A5 J J J (A7 J gU) ?_;refine E0 J J J J J gU J J ?_ (fun hh=>by simp at hh); intro hlen;refine A5 J J J (B6 J J gU gU J) ?_;refine B0 ?_;refine B8 J (fun hc=>?_) (fun hc=>?_)
  ·try simp only [nn,B4,T.rows_len,Tk.rows_len] at hc
   obtain ⟨t,rfl⟩ : ∃ t,ts=[t]:=by
    match ts,hc with
    | [t],_=>exact ⟨t,rfl⟩
    | [],h=>simp at h
    | _ :: _ :: _,h=>simp at h; omega
   refine A8 (A6 ?_);refine A5 J J J (A7 J gU) ?_;refine A5 J J J (C7 (j:=0) J J gU gU J J (by first|omega|(simp at hh ⊢; omega)) (fun hh=>T.rows_at (by first|omega|(simp at hh ⊢; omega)))) ?_;refine A5 J J J (D6 J gU J J J J) ?_;refine C3 J (C9 J J J J J J J) ?_;refine B0 ?_;refine C1 ?_
   repeat(first|refine tR ?_|refine bR ?_)
   refine C5 J ?_ O
   rfl
  ·try simp only [nn,B4,T.rows_len,Tk.rows_len] at hc
   obtain ⟨t,u,r,rfl⟩ : ∃ t u r,ts=t :: u :: r:=by
    match ts,hc,h0 with
    | [t],h,_=>exact absurd J h
    | [],_,h=>simp at h
    | t :: u :: r,_,_=>exact ⟨t,u,r,rfl⟩
   simp only [List.length_cons] at hts hrl
   have htu:=ih (u :: r) (by simp only [List.length_cons]; omega) (by omega) (by simp)
   have htu2 : ∀ rs : List (List C),rs=T.rows (u :: r)→Ctr sys 165 [.v (.c (.sl 4 rs))] [] (xm (tupT (u :: r))) none []:=by
    intro rs h; subst h; exact htu
   refine C0 ?_;refine A8 ?_;refine awp_drawn' (by kernel_rfl) ?_;refine B9 J J J J (A7 J gU) ?_;refine B9 J J J J (C7 (j:=0) J J gU gU J J (by first|omega|(simp at hh ⊢; omega)) (fun hh=>T.rows_at (by first|omega|(simp at hh ⊢; omega)))) ?_;refine B9 J J J J (D6 J gU J J J J) ?_;refine B9 J J J J (A7 J gU) ?_;refine B9 J J J J (Dj (l:=1) J gU J J (fun _=>⟨_,_,_,rfl,gU,by first|omega|(simp at hh ⊢; omega)⟩) (fun _=>rfl) (fun hh=>by first|omega|(simp at hh ⊢; omega)) (fun hh=>by first|omega|(simp at hh ⊢; omega))) ?_;refine F3 J J J J J J J gU gU (htu2 _ (by simp [T.rows_eq,List.take_of_length_le])) J ?_;refine Jj (xs:=[_,_]) J J J J J J J J J J gU J ?_;refine F3 J J J J J J J gU gU (Ew _ _ [t,tupT (u :: r)] (by simp [T.rows_eq,T.cells]) (by simp)) J ?_;refine E7 J J J J J J J J J J J J ?_;refine F8 (by kernel_rfl) ?_;refine C1 ?_
   repeat(first|refine tR ?_|refine bR ?_)
   refine C5 J ?_ O
   rfl
theorem Px (ts : List T) (rs : List (List C)) (h : rs=T.rows ts) (hts : ts.length≤3000000) (h0 : 0 < ts.length) : Ctr sys 165 [.v (.c (.sl 4 rs))] [] (xm (tupT ts)) none []:=by
 subst h; exact Wm _ ts hts (Nat.le_refl _) h0
theorem Bz (l : List Tk) (n : Nat) (hl : l.length≤2000000) (ih : ∀ p : PS,p.at'≤l.length→l.length - p.at' < n→Ctr sys 153 [xr l p] [] (.tup [.agg (F7 l n p).1.cells, .agg (pbx l (F7 l n p).2)]) none []) (hf : Fwd l (F7 l n)) (p : PS) (hp : p.at'≤l.length) (hn : l.length - p.at' < n) :
  Ctr sys 155 [xr l p] [] (.tup [.c (.sl 4 (T.rows (G5 l (F7 l n) p).1)), .agg (pbx l (G5 l (F7 l n) p).2)]) none []:=by
 have hrl:=Tk.rows_len l
 have h0:=hf p
 refine D1 Tryz.func155 J J J J J J ?_;refine A8 (A6 ?_);refine C3 J (E2 J J J J) ?_;refine C3 J (H9 (.inr J) J J) ?_;refine C3 J (D7 J J J) ?_;refine B0 ?_;refine A8 (A6 ?_);refine A5 J J J (B7 J gU J J J J J) ?_;refine C8 J J J J J J gU gU (ih p hp hn) J ?_;refine A5 J J J (A7 J gU) ?_;refine A5 J J J (C2 J gU J) ?_;refine A5 J J J (C2 J gU J) ?_;refine C3 J (D7 J J J) ?_;refine C3 J (C9 J J J J J J J) ?_;refine C3 J (C9 J J J J J J J) ?_;refine B0 ?_;refine B5 (s:=⟨[(1,_,_),(3,_,_),(4,_,_)],[(.l 1,_),(.l 3,_),(.l 4,_)],[],[]⟩) (B3 (⟨U J,U J,U J,O⟩) (⟨U J,U J,U J,O⟩) O) ?_;refine A8 (A6 ?_);refine A5 J J J (B7 J gU J J J J J) ?_;refine E8 (xs:=[_]) J J J J J J J J J gU J ?_;refine C3 J (F6 (.inr J) J J J) ?_;refine B0 ?_;refine A8 ?_;refine C4 ?_;refine F5 (ι:=PS × List T × T) { t:=[(1,_,_),(3,_,_),(4,_,_)],bx:=[(.l 3,_)],ow:=[(.t 5,_)] } (fun q=>[(5,true,xl q.2.1)]) (fun q=>[((.l 4),q.2.2.cells),((.l 1),pbx l q.1)]) (fun q=>p.at'≤q.1.at'∧q.1.at'≤l.length∧q.2.1.length≤q.1.at' + 1 ∧ ∃ k,l.length + 1≤k + q.1.at'∧L4 l (F7 l n) k q.1 q.2.1=G5 l (F7 l n) p) (fun q=>l.length - q.1.at') (((F7 l n p).2,[(F7 l n p).1],(F7 l n p).1)) (⟨h0.1,h0.2 hp,by simp,_,by dsimp only; omega,rfl⟩) (B3 (⟨⟨_,rfl,by exact tx (Mj [] (F7 l n p).1)⟩,⟨U J,U J,U J,O⟩⟩) (⟨U J,U J,U J,O⟩) (⟨rfl,O⟩)) ?_
 intro q hok
 dsimp only [List.cons_append,List.nil_append] at *
 obtain ⟨q,out,x⟩:=q
 dsimp only at hok ⊢
 obtain ⟨hq0,hq,ho,k,hk,hi⟩:=hok
 have hro:=T.rows_len out
 refine A8 ?_;refine A8 (A6 ?_);refine A5 J J J (B7 J gU J J J J J) ?_;refine C8 J J J J J J gU gU (P3 _ _ _ (by omega) (by omega)) J ?_;refine B0 ?_;refine B8 J (fun hc=>?_) (fun hc=>?_)
 ·try simp only [nn,B4,T.rows_len,Tk.rows_len] at hc
  have hlt:=(N9 hc).1
  have hs : E5 l [44] q=q.go:=by rw[E5,if_pos hc]
  have hg : q.go.at'=q.at' + 1:=rfl
  have h1:=hf q.go
  obtain ⟨k,rfl⟩ : ∃ j,k=j + 1:=⟨k - 1,by omega⟩
  rw[Qu hc] at hi
  have hsy:=F1 l q [44] (by omega) (by omega)
  rw[hs] at hsy
  refine C0 ?_;refine C4 ?_;refine A8 (A6 ?_);refine A5 J J J (B7 J gU J J J J J) ?_;refine C8 J J J J J J gU gU (hsy) J ?_;refine C8 J J J J J J gU gU (ih q.go (by omega) (by omega)) J ?_;refine A5 J J J (A7 J gU) ?_;refine A5 J J J (C2 J gU J) ?_;refine A5 J J J (C2 J gU J) ?_;refine C3 J (C9 J J J J J J J) ?_;refine C3 J (C9 J J J J J J J) ?_;refine B0 ?_;refine B5 (s:=⟨[(1,_,_),(3,_,_),(4,_,_),(5,_,_)],[(.l 1,_),(.l 3,_),(.l 4,_)],[(.t 5,_)],[]⟩) (B3 (⟨U J,U J,U J,U J,O⟩) (⟨U J,U J,U J,O⟩) (⟨rfl,O⟩)) ?_;refine A6 ?_;refine C3 J (F6 (.inl J) J J J) ?_;refine A5 J J J (B7 J gU J J J J J) ?_;refine E8 (xs:=[_]) J J J J J J J J J gU J ?_;refine C3 J (G0 J J J J J J J (by first|omega|(simp only [List.length_append,List.length_singleton,T.rows_len]; omega)) (by first|omega|(simp only [List.length_append,List.length_singleton,T.rows_len]; omega))) ?_;refine C3 J (F6 (.inr J) J J J) ?_;refine B0 ?_;refine ⟨((F7 l n q.go).2,out++[(F7 l n q.go).1],(F7 l n q.go).1),?_,?_,B3 (⟨⟨_,rfl,?_⟩,⟨U J,U J,U J,O⟩⟩) (⟨⟨_,rfl,?_⟩,⟨⟨_,rfl,?_⟩,⟨U J,O⟩⟩⟩) (⟨rfl,O⟩)⟩
  ·exact ⟨by dsimp only; omega,h1.2 (by omega),by simp only [List.length_append,List.length_singleton]; omega,k,by dsimp only; omega,hi⟩
  ·dsimp only; omega
  all_goals first
   | rfl
   | exact tx (Mj out (F7 l n q.go).1)
 ·try simp only [nn,B4,T.rows_len,Tk.rows_len] at hc
  rw[Dq hc] at hi
  refine E1 ?_
  repeat(first|refine D3 ?_|refine D4 ?_|refine D2 J ?_)
  refine A8 ?_;refine awp_drawn' (by kernel_rfl) ?_;refine Gz J (.inl J) J J J J J ?_;refine D5 J J J J J J J gU J J J J J ?_;refine Gz J (.inr J) J J J J J ?_;refine E7 J J J J J J J J J J J J ?_;refine F8 (by kernel_rfl) ?_;refine C1 ?_
  repeat(first|refine tR ?_|refine bR ?_)
  refine C5 J ?_ O
  (rw[← hi]; rfl)
theorem U4 (l : List Tk) (n : Nat) : Fwd l (F7 l n):=fun p=>by rw[(Eb l n p).1]; exact Bf l n p
theorem Lk (l : List Tk) (n : Nat) (p : PS) : (G5 l (F7 l n) p).1.length + p.at'≤1 + (G5 l (F7 l n) p).2.at':=Co (U4 l n) p
theorem Yw {l : List Tk} {n : Nat} {p : PS} (h : symQ l p [60]=true) (hb : (E5 l [62] (G5 l (F7 l n) (E5 l [44] (F7 l n p.go).2)).2).bad=true) : F7 l (n + 1) p=(T0,E5 l [62] (G5 l (F7 l n) (E5 l [44] (F7 l n p.go).2)).2):=by
 rw[F7,if_pos h,if_pos hb]
theorem uA3 {l : List Tk} {n : Nat} {p : PS} (h : symQ l p [60]=true) (hb : (E5 l [62] (G5 l (F7 l n) (E5 l [44] (F7 l n p.go).2)).2).bad=false) :
  F7 l (n + 1) p=(tupT ((F7 l n p.go).1 :: (G5 l (F7 l n) (E5 l [44] (F7 l n p.go).2)).1),E5 l [62] (G5 l (F7 l n) (E5 l [44] (F7 l n p.go).2)).2):=by
 rw[F7,if_pos h,if_neg (by rw[hb]; simp)]
theorem uBs {l : List Tk} {n : Nat} {p : PS} (h : symQ l p [60]=false) (h2 : symQ l (C6 l [] p).2 [40]=false) : F7 l (n + 1) p=(⟨2,(C6 l [] p).1,0,[]⟩,(C6 l [] p).2):=by
 rw[F7,if_neg (by rw[h]; simp),if_neg (by rw[h2]; simp)]
theorem uBt {l : List Tk} {n : Nat} {p : PS} (h : symQ l p [60]=false) (h2 : symQ l (C6 l [] p).2 [40]=true) (h3 : symQ l (C6 l [] p).2.go [41]=true) : F7 l (n + 1) p=(⟨3,(C6 l [] p).1,0,[]⟩,(C6 l [] p).2.go.go):=by
 rw[F7,if_neg (by rw[h]; simp),if_pos h2,if_pos h3]
theorem uBC {l : List Tk} {n : Nat} {p : PS} (h : symQ l p [60]=false) (h2 : symQ l (C6 l [] p).2 [40]=true) (h3 : symQ l (C6 l [] p).2.go [41]=false) :
  F7 l (n + 1) p=(⟨3,(C6 l [] p).1,0,(G5 l (F7 l n) (C6 l [] p).2.go).1⟩,E5 l [41] (G5 l (F7 l n) (C6 l [] p).2.go).2):=by
 rw[F7,if_neg (by rw[h]; simp),if_pos h2,if_neg (by rw[h3]; simp)]
set_option maxHeartbeats 4000000 in
theorem Aa (l : List Tk) (hl : l.length≤2000000) : ∀ (n : Nat) (p : PS),p.at'≤l.length→l.length - p.at' < n→Ctr sys 153 [xr l p] [] (.tup [.agg (F7 l n p).1.cells, .agg (pbx l (F7 l n p).2)]) none []:=by
 intro n
 induction n with
 | zero=>intro p _ h; omega
 | succ n ih =>
  intro p hp hn
  have hrl:=Tk.rows_len l
  have hg : ∀ q : PS,q.go.at'=q.at' + 1:=fun _=>rfl
  have hml : ∀ q : PS,(T.rows (G5 l (F7 l n) q).1).length=(G5 l (F7 l n) q).1.length:=fun q=>T.rows_len _
  refine D1 Tryz.func153 J J J J J J ?_;refine A8 (A6 ?_);refine C3 J (E2 J J J J) ?_;refine C3 J (D7 J J J) ?_;refine C3 J (D7 J J J) ?_;refine B0 ?_;refine A8 ?_;refine A8 (A6 ?_);refine A5 J J J (B7 J gU J J J J J) ?_;refine C8 J J J J J J gU gU (P3 _ _ _ (by omega) (by omega)) J ?_;refine B0 ?_;refine B5 (s:=⟨[(1,_,_),(2,_,_),(3,_,_),(10,_,_)],[(.l 1,_),(.l 2,_),(.l 3,_)],[],[]⟩) (B3 (⟨U J,U J,U J,U J,O⟩) (⟨U J,U J,U J,O⟩) O) ?_;refine B8 J (fun hc=>?_) (fun hc=>?_)
  ·try simp only [nn,B4,T.rows_len,Tk.rows_len] at hc
   have hlt:=(N9 hc).1
   have hs : E5 l [60] p=p.go:=by rw[E5,if_pos hc]
   have hgp:=hg p
   have a1:=U4 l n p.go
   have a2:=J1 l [44] (F7 l n p.go).2
   have a3:=R7 (U4 l n) (E5 l [44] (F7 l n p.go).2)
   have a4:=J1 l [62] (G5 l (F7 l n) (E5 l [44] (F7 l n p.go).2)).2
   have a5:=Lk l n (E5 l [44] (F7 l n p.go).2)
   have a6:=hml (E5 l [44] (F7 l n p.go).2)
   have hsy:=F1 l p [60] (by omega) (by omega)
   rw[hs] at hsy
   refine A8 (A6 ?_);refine A5 J J J (B7 J gU J J J J J) ?_;refine C8 J J J J J J gU gU (hsy) J ?_;refine C8 J J J J J J gU gU (ih p.go (by omega) (by omega)) J ?_;refine A5 J J J (A7 J gU) ?_;refine A5 J J J (C2 J gU J) ?_;refine A5 J J J (C2 J gU J) ?_;refine C3 J (D7 J J J) ?_;refine C3 J (D7 J J J) ?_;refine C3 J (C9 J J J J J J J) ?_;refine C3 J (C9 J J J J J J J) ?_;refine B0 ?_;refine B5 (s:=⟨[(2,_,_),(3,_,_),(4,_,_),(5,_,_)],[(.l 2,_),(.l 3,_),(.l 4,_),(.l 5,_)],[],[]⟩) (B3 (⟨U J,U J,U J,U J,O⟩) (⟨U J,U J,U J,U J,O⟩) O) ?_;refine A8 (A6 ?_);refine A5 J J J (B7 J gU J J J J J) ?_;refine C8 J J J J J J gU gU (F1 l (F7 l n p.go).2 [44] (by omega) (by omega)) J ?_;refine C8 J J J J J J gU gU (Bz l n hl ih (U4 l n) (E5 l [44] (F7 l n p.go).2) (by omega) (by omega)) J ?_;refine A5 J J J (A7 J gU) ?_;refine A5 J J J (C2 J gU J) ?_;refine A5 J J J (C2 J gU J) ?_;refine A5 J J J (A9 J gU) ?_;refine C3 J (C9 J J J J J J J) ?_
   refine B0 ?_;refine B5 (s:=⟨[(2,_,_),(3,_,_),(4,_,_),(5,_,_),(6,_,_)],[(.l 2,_),(.l 3,_),(.l 4,_),(.l 5,_)],[],[]⟩) (B3 (⟨U J,U J,U J,U J,U J,O⟩) (⟨U J,U J,U J,U J,O⟩) O) ?_;refine A8 (A6 ?_);refine A5 J J J (B7 J gU J J J J J) ?_;refine C8 J J J J J J gU gU (F1 l (G5 l (F7 l n) (E5 l [44] (F7 l n p.go).2)).2 [62] (by omega) (by omega)) J ?_;refine C3 J (C9 J J J J J J J) ?_;refine B0 ?_;refine A8 ?_;refine A8 (A6 ?_);refine A5 J J J (B1 J gU J J) ?_;refine A5 J J J (B2 J gU J J J J) ?_;refine B0 ?_;refine B8 J (fun hc2=>?_) (fun hc2=>?_)
   ·try simp only [nn,B4,T.rows_len,Tk.rows_len] at hc2
    rw[Yw hc hc2]
    refine A8 ?_;refine awp_drawn' (by kernel_rfl) ?_;refine B9 J J J J (H0 J Tryz.underlying47 J gU) ?_;refine D5 J J J J J J J gU J J J J J ?_;refine E7 J J J J J J J J J J J J ?_;refine E7 J J J J J J J J J J J J ?_;refine F8 (by kernel_rfl) ?_;refine C1 ?_
    repeat(first|refine tR ?_|refine bR ?_)
    refine C5 J ?_ O
    rfl
   ·try simp only [nn,B4,T.rows_len,Tk.rows_len] at hc2
    rw[uA3 hc hc2]
    refine C0 ?_;refine A8 ?_;refine awp_drawn' (by kernel_rfl) ?_;refine D5 J J J J J J J gU J J J J J ?_;refine Jj (xs:=[_]) J J J J J J J J J J gU J ?_;refine B9 J J J J (A7 J gU) ?_;refine Wy J J J J J J J J J J J (by first|omega|(simp only [List.length_append,List.length_singleton,T.rows_len]; omega)) (by first|omega|(simp only [List.length_append,List.length_singleton,T.rows_len]; omega)) ?_;refine F3 J J J J J J J gU gU (Px ((F7 l n p.go).1 :: (G5 l (F7 l n) (E5 l [44] (F7 l n p.go).2)).1) _ (by rw[T.rows_eq,T.rows_eq]; rfl) (by simp only [List.length_cons]; omega) (by simp)) J ?_;refine D5 J J J J J J J gU J J J J J ?_;refine E7 J J J J J J J J J J J J ?_;refine E7 J J J J J J J J J J J J ?_;refine F8 (by kernel_rfl) ?_;refine C1 ?_
    repeat(first|refine tR ?_|refine bR ?_)
    refine C5 J ?_ O
    rfl
  ·try simp only [nn,B4,T.rows_len,Tk.rows_len] at hc
   have a1:=G4 l [] p
   refine C0 ?_;refine A8 (A6 ?_);refine A5 J J J (B7 J gU J J J J J) ?_;refine C8 J J J J J J gU gU (J6 l p (by omega) (by omega)) J ?_;refine A5 J J J (A7 J gU) ?_;refine A5 J J J (C2 J gU J) ?_;refine A5 J J J (C2 J gU J) ?_;refine A5 J J J (A9 J gU) ?_;refine C3 J (C9 J J J J J J J) ?_;refine B0 ?_;refine B5 (s:=⟨[(1,_,_),(2,_,_),(3,_,_),(7,_,_)],[(.l 1,_),(.l 2,_),(.l 3,_)],[],[]⟩) (B3 (⟨U J,U J,U J,U J,O⟩) (⟨U J,U J,U J,O⟩) O) ?_;refine A8 ?_;refine A8 (A6 ?_);refine A5 J J J (B1 J gU J J) ?_;refine A5 J J J (B2 J gU J J J J) ?_;refine A5 J J J (A7 J gU) ?_;refine A5 J J J (B7 J gU J J J J J) ?_;refine C8 J J J J J J gU (fun hh=>gA ((fun hh=>hh) hh) (gA J (rfl))) (P3 _ _ _ (by omega) (by omega)) J ?_;refine A5 J J J (F2 J (fun hh=>hh)) ?_;refine A5 J J J (D9 J J gU (fun _ hi=>gP J hi)) ?_;refine B0 ?_;refine B5 (s:=⟨[(1,_,_),(2,_,_),(3,_,_),(7,_,_),(46,_,_)],[(.l 1,_),(.l 2,_),(.l 3,_)],[],[]⟩) (B3 (⟨U J,U J,U J,U J,U J,O⟩) (⟨U J,U J,U J,O⟩) O) ?_
   refine B8 J (fun hc2=>?_) (fun hc2=>?_)
   ·try simp only [nn,B4,T.rows_len,Tk.rows_len] at hc2
    have h2 : symQ l (C6 l [] p).2 [40]=false:=by
     rcases hc2 with q | q
     ·exact R0 q
     ·exact q
    rw[uBs hc h2]
    refine A8 ?_;refine awp_drawn' (by kernel_rfl) ?_;refine B9 J J J J (A7 J gU) ?_;refine F3 J J J J J J J gU gU (Xe _ _) J ?_;refine D5 J J J J J J J gU J J J J J ?_;refine E7 J J J J J J J J J J J J ?_;refine E7 J J J J J J J J J J J J ?_;refine F8 (by kernel_rfl) ?_;refine C1 ?_
    repeat(first|refine tR ?_|refine bR ?_)
    refine C5 J ?_ O
    rfl
   ·try simp only [nn,B4,T.rows_len,Tk.rows_len] at hc2
    have h2:=hc2.2
    have hlt:=(N9 h2).1
    have hg2:=hg (C6 l [] p).2
    have hs2 : E5 l [40] (C6 l [] p).2=(C6 l [] p).2.go:=by rw[E5,if_pos h2]
    have hsy:=F1 l (C6 l [] p).2 [40] (by omega) (by omega)
    rw[hs2] at hsy
    refine C0 ?_;refine A8 (A6 ?_);refine A5 J J J (B7 J gU J J J J J) ?_;refine C8 J J J J J J gU gU (hsy) J ?_;refine C3 J (C9 J J J J J J J) ?_;refine B0 ?_;refine A8 ?_;refine A8 (A6 ?_);refine A5 J J J (B7 J gU J J J J J) ?_;refine C8 J J J J J J gU gU (P3 _ _ _ (by omega) (by omega)) J ?_;refine B0 ?_;refine B8 J (fun hc3=>?_) (fun hc3=>?_)
    ·try simp only [nn,B4,T.rows_len,Tk.rows_len] at hc3
     have hlt3:=(N9 hc3).1
     rw[uBt hc h2 hc3]
     have hs3 : E5 l [41] (C6 l [] p).2.go=(C6 l [] p).2.go.go:=by rw[E5,if_pos hc3]
     have hsy3:=F1 l (C6 l [] p).2.go [41] (by omega) (by omega)
     rw[hs3] at hsy3
     refine A8 ?_;refine awp_drawn' (by kernel_rfl) ?_;refine B9 J J J J (A7 J gU) ?_;refine F3 J J J J J J J gU gU (Ew _ _ [] J (by simp)) J ?_;refine D5 J J J J J J J gU J J J J J ?_;refine F3 J J J J J J J gU gU (hsy3) J ?_;refine E7 J J J J J J J J J J J J ?_;refine E7 J J J J J J J J J J J J ?_;refine F8 (by kernel_rfl) ?_;refine C1 ?_
     repeat(first|refine tR ?_|refine bR ?_)
     refine C5 J ?_ O
     rfl
    ·try simp only [nn,B4,T.rows_len,Tk.rows_len] at hc3
     rw[uBC hc h2 hc3]
     have a3:=R7 (U4 l n) (C6 l [] p).2.go
     have a5:=Lk l n (C6 l [] p).2.go
     refine C0 ?_;refine A8 (A6 ?_);refine A5 J J J (B7 J gU J J J J J) ?_;refine C8 J J J J J J gU gU (Bz l n hl ih (U4 l n) (C6 l [] p).2.go (by omega) (by omega)) J ?_;refine A5 J J J (A7 J gU) ?_;refine A5 J J J (C2 J gU J) ?_;refine A5 J J J (C2 J gU J) ?_;refine A5 J J J (A9 J gU) ?_;refine C3 J (C9 J J J J J J J) ?_;refine B0 ?_;refine B5 (s:=⟨[(1,_,_),(2,_,_),(3,_,_),(7,_,_),(8,_,_)],[(.l 1,_),(.l 2,_),(.l 3,_)],[],[]⟩) (B3 (⟨U J,U J,U J,U J,U J,O⟩) (⟨U J,U J,U J,O⟩) O) ?_;refine A8 ?_;refine awp_drawn' (by kernel_rfl) ?_;refine B9 J J J J (A7 J gU) ?_;refine B9 J J J J (A7 J gU) ?_;refine F3 J J J J J J J gU gU (Ew _ _ (G5 l (F7 l n) (C6 l [] p).2.go).1 J (by omega)) J ?_;refine D5 J J J J J J J gU J J J J J ?_;refine F3 J J J J J J J gU gU (F1 l (G5 l (F7 l n) (C6 l [] p).2.go).2 [41] (by omega) (by omega)) J ?_;refine E7 J J J J J J J J J J J J ?_;refine E7 J J J J J J J J J J J J ?_;refine F8 (by kernel_rfl) ?_;refine C1 ?_
     repeat(first|refine tR ?_|refine bR ?_)
     refine C5 J ?_ O
     rfl
def soC (n : Nar) (u1 u2 u3 u4 u5 : Value) : List C:=[.s n.name, .so u1 1 (strR n.roles), .so u2 3 (Fs.rows n.fresh), .so u3 1 (strR n.tags), .so u4 7 (Sp.rows n.steps), .so u5 5 (Gl.rows n.goals)]
abbrev narC (a : List UInt8) (r1 r2 r3 r4 r5 : List (List C)) : List C:=[.s a, .sl 1 r1, .sl 3 r2, .sl 1 r3, .sl 7 r4, .sl 5 r5]
abbrev Yq (a : List UInt8) (r1 r2 r3 r4 r5 : List (List C)) (u1 u2 u3 u4 u5 : Value) : List C:=[.s a, .so u1 1 r1, .so u2 3 r2, .so u3 1 r3, .so u4 7 r4, .so u5 5 r5]
theorem uBA {st st' : St} {n : Nm} {cs : List C} (hb : st'.box n=some cs) (hbx : ∀ m,m≠n→st'.box m=st.box m) (ht : st'.t=st.t) (ho : st'.ow=st.ow) (hm : st'.mp=st.mp) : Sub { st with bx:=(n,cs) :: st.bx } st' where
 t:=fun k e h=>by
  show getT st'.t k=some e
  rw[ht]; exact h
 bx:=fun m ds h=>by
  have h2 : getB ((n,cs) :: st.bx) m=some ds:=h
  rw[F9] at h2
  split at h2
  ·rename_i he; subst he; rw[hb]; exact h2
  ·rename_i he; rw[hbx m fun q=>he q.symm]; exact h2
 ow:=fun p sz h=>by
  show getO st'.ow p=some sz
  rw[ho]; exact h
 mp:=.inr hm.symm
theorem T8 (st : St) (n : Nm) (cs : List C) (m : Nm) : ({ st with bx:=(n,cs) :: st.bx } : St).box m=if n=m then some cs else st.box m:=F9 _ _ _ _
theorem H4 {N : Nat} {c : Code} {Q : Exit→St→Prop} {st : St} (n : Nm) {a : List UInt8} {r1 r2 r3 r4 r5 : List (List C)} (hb : st.box n=some (narC a r1 r2 r3 r4 r5))
  (h : ∀ u1 u2 u3 u4 u5,AWP sysO N c Q { st with bx:=(n,Yq a r1 r2 r3 r4 r5 u1 u2 u3 u4 u5) :: st.bx }) : AWP sysO N c Q st:=by
 refine Bc n 1 hb J fun u1=>?_
 refine Bc n 2 ((T8 _ _ _ _).trans (if_pos J)) J fun u2=>?_
 refine Bc n 3 ((T8 _ _ _ _).trans (if_pos J)) J fun u3=>?_
 refine Bc n 4 ((T8 _ _ _ _).trans (if_pos J)) J fun u4=>?_
 refine Bc n 5 ((T8 _ _ _ _).trans (if_pos J)) J fun u5=>?_
 have hn : ∀ {m : Nm},m≠n → ¬n=m:=fun h q=>h q.symm
 exact B5 (uBA ((T8 _ _ _ _).trans (if_pos J)) (fun m hm=>(T8 _ _ _ _).trans ((if_neg (hn hm)).trans ((T8 _ _ _ _).trans ((if_neg (hn hm)).trans ((T8 _ _ _ _).trans ((if_neg (hn hm)).trans ((T8 _ _ _ _).trans ((if_neg (hn hm)).trans ((T8 _ _ _ _).trans (if_neg (hn hm)))))))))) ) J J J) (h u1 u2 u3 u4 u5)
theorem uAN (st : St) (n m : Nm) (k sz : Nat) (cs : List C) (x : Nm) : ((({ st with bx:=(n,cs) :: st.bx } : St).unown (.b m k)).addOwn (.b n k) sz).box x=if n=x then some cs else st.box x:=F9 _ _ _ _
theorem Zm (st : St) (n m : Nm) (k sz : Nat) (cs : List C) (p : Pl) : ((({ st with bx:=(n,cs) :: st.bx } : St).unown (.b m k)).addOwn (.b n k) sz).own p=if .b n k=p then some sz else if p = .b m k then none else st.own p:=by
 rw[St.addOwn_own,St.unown_own]; rfl
def Ym (st : St) (m : Nm) : Bool:=decide (st.own (.b m 1)=some 1) && decide (st.own (.b m 2)=some 3) && decide (st.own (.b m 3)=some 1) && decide (st.own (.b m 4)=some 7) && decide (st.own (.b m 5)=some 5)
theorem I0 {N : Nat} {c : Code} {Q : Exit→St→Prop} {st : St} (n m : Nm) {a : List UInt8} {r1 r2 r3 r4 r5 : List (List C)} {u1 u2 u3 u4 u5 : Value} (hb : st.box n=some (Yq a r1 r2 r3 r4 r5 u1 u2 u3 u4 u5)) (hbm : st.box m=some (Yq a r1 r2 r3 r4 r5 u1 u2 u3 u4 u5))
  (ho : Ym st m=true) (hnb : n.isBd=false) (hne : Nm.beq m n=false)
  (h : AWP sysO N c Q { st with bx:=(n,narC a r1 r2 r3 r4 r5) :: st.bx,ow:=(.b n 1,1) :: (.b n 2,3) :: (.b n 3,1) :: (.b n 4,7) :: (.b n 5,5) :: st.ow.filter fun q=>!Pl.inBox m q.1 }) : AWP sysO N c Q st:=by
 have hmn : ¬n=m:=fun q=>by subst q; rw[Nm.beq_self] at hne; cases hne
 simp only [Ym,Bool.and_eq_true,decide_eq_true_eq] at ho
 obtain ⟨⟨⟨⟨o1,o2⟩,o3⟩,o4⟩,o5⟩:=ho
 have hpb : ∀ i j,Pl.beq (.b m i) (.b n j)=false:=fun i j=>by simp [Pl.beq,hne]
 have bn : ∀ (s : St) (k sz : Nat) (cs : List C),((({ s with bx:=(n,cs) :: s.bx } : St).unown (.b m k)).addOwn (.b n k) sz).box n=some cs:=fun s k sz cs=>(uAN s n m k sz cs n).trans (if_pos J)
 have bm : ∀ (s : St) (k sz : Nat) (cs : List C) {x : Nm},¬n=x→((({ s with bx:=(n,cs) :: s.bx } : St).unown (.b m k)).addOwn (.b n k) sz).box x=s.box x:=fun s k sz cs x hx=>(uAN s n m k sz cs x).trans (if_neg hx)
 have ow : ∀ (s : St) (k sz : Nat) (cs : List C) {p : Pl},¬Pl.b n k=p → ¬p=Pl.b m k→((({ s with bx:=(n,cs) :: s.bx } : St).unown (.b m k)).addOwn (.b n k) sz).own p=s.own p:=fun s k sz cs p h1 h2=>(Zm s n m k sz cs p).trans ((if_neg h1).trans (if_neg h2))
 have os : ∀ (s : St) (k sz : Nat) (cs : List C),((({ s with bx:=(n,cs) :: s.bx } : St).unown (.b m k)).addOwn (.b n k) sz).own (.b n k)=some sz:=fun s k sz cs=>(Zm s n m k sz cs _).trans (if_pos J)
 have dn : ∀ {i j : Nat} {x y : Nm},i≠j → ¬Pl.b x i=Pl.b y j:=fun h q=>by simp at q; exact h q.2
 have hnm : ∀ {i j : Nat},¬Pl.b n i=Pl.b m j:=fun q=>by simp at q; exact hmn q.1
 refine Bi n 1 m 1 hb J hbm J o1 hnb (hpb _ _) ?_;refine Bi n 2 m 2 (bn _ _ _ _) J ((bm _ _ _ _ hmn).trans hbm) J ((ow _ _ _ _ (dn (by decide)) (dn (by decide))).trans o2) hnb (hpb _ _) ?_;refine Bi n 3 m 3 (bn _ _ _ _) J ((bm _ _ _ _ hmn).trans ((bm _ _ _ _ hmn).trans hbm)) J ((ow _ _ _ _ (dn (by decide)) (dn (by decide))).trans ((ow _ _ _ _ (dn (by decide)) (dn (by decide))).trans o3)) hnb (hpb _ _) ?_;refine Bi n 4 m 4 (bn _ _ _ _) J ((bm _ _ _ _ hmn).trans ((bm _ _ _ _ hmn).trans ((bm _ _ _ _ hmn).trans hbm))) J
  ((ow _ _ _ _ (dn (by decide)) (dn (by decide))).trans ((ow _ _ _ _ (dn (by decide)) (dn (by decide))).trans ((ow _ _ _ _ (dn (by decide)) (dn (by decide))).trans o4))) hnb (hpb _ _) ?_
 refine Bi n 5 m 5 (bn _ _ _ _) J ((bm _ _ _ _ hmn).trans ((bm _ _ _ _ hmn).trans ((bm _ _ _ _ hmn).trans ((bm _ _ _ _ hmn).trans hbm)))) J
  ((ow _ _ _ _ (dn (by decide)) (dn (by decide))).trans ((ow _ _ _ _ (dn (by decide)) (dn (by decide))).trans ((ow _ _ _ _ (dn (by decide)) (dn (by decide))).trans ((ow _ _ _ _ (dn (by decide)) (dn (by decide))).trans o5)))) hnb (hpb _ _) ?_
 refine B5 ?_ h;refine ⟨fun k e q=>q,fun x cs q=>?_,fun p sz q=>?_, .inr J⟩
 ·have q2 : getB ((n,narC a r1 r2 r3 r4 r5) :: st.bx) x=some cs:=q
  clear q
  rw[F9] at q2
  split at q2
  ·rename_i he; subst he; exact (bn _ _ _ _).trans q2
  ·rename_i he
   have q:=q2
   exact (bm _ _ _ _ he).trans ((bm _ _ _ _ he).trans ((bm _ _ _ _ he).trans ((bm _ _ _ _ he).trans ((bm _ _ _ _ he).trans q))))
 ·have q3 : getO ((Pl.b n 1,1) :: (.b n 2,3) :: (.b n 3,1) :: (.b n 4,7) :: (.b n 5,5) :: st.ow.filter fun q=>!Pl.inBox m q.1) p=some sz:=q
  clear q
  have q:=q3
  clear q3
  simp only [M3] at q
  split at q
  ·rename_i he; subst he
   exact (ow _ _ _ _ (dn (by decide)) hnm).trans ((ow _ _ _ _ (dn (by decide)) hnm).trans ((ow _ _ _ _ (dn (by decide)) hnm).trans ((ow _ _ _ _ (dn (by decide)) hnm).trans ((os _ _ _ _).trans q))))
  rename_i p1
  split at q
  ·rename_i he; subst he
   exact (ow _ _ _ _ (dn (by decide)) hnm).trans ((ow _ _ _ _ (dn (by decide)) hnm).trans ((ow _ _ _ _ (dn (by decide)) hnm).trans ((os _ _ _ _).trans q)))
  rename_i p2
  split at q
  ·rename_i he; subst he
   exact (ow _ _ _ _ (dn (by decide)) hnm).trans ((ow _ _ _ _ (dn (by decide)) hnm).trans ((os _ _ _ _).trans q))
  rename_i p3
  split at q
  ·rename_i he; subst he
   exact (ow _ _ _ _ (dn (by decide)) hnm).trans ((os _ _ _ _).trans q)
  rename_i p4
  split at q
  ·rename_i he; subst he
   exact (os _ _ _ _).trans q
  rename_i p5
  rw[L3 (fun r=>!Pl.inBox m r)] at q
  split at q
  ·rename_i hin
   have hpm : ∀ {j : Nat},¬p=Pl.b m j:=fun e=>by subst e; simp [Pl.inBox,Nm.beq_self] at hin
   exact (ow _ _ _ _ p5 hpm).trans ((ow _ _ _ _ p4 hpm).trans ((ow _ _ _ _ p3 hpm).trans ((ow _ _ _ _ p2 hpm).trans ((ow _ _ _ _ p1 hpm).trans q))))
  ·cases q
def osR : OS:=[(0,1,1),(0,2,3),(0,3,1),(0,4,7),(0,5,5)]
abbrev xnr (l : List Tk) (r : Nar × PS) : X:=.tup [.agg r.1.cells, .agg (pbx l r.2)]
set_option maxHeartbeats 4000000 in
theorem Cs (l : List Tk) (p : PS) (n : Nar) (line : Int) (u1 u2 u3 u4 u5 : Value) (hl : l.length≤2000000) (hp : p.at'≤l.length) (hn : n.steps.length≤3000000) :
  CtrO sysO 134 [.v (.agg (soC n u1 u2 u3 u4 u5)),xr l p,xi line] [soC n u1 u2 u3 u4 u5] osR (xnr l ({ n with steps:=n.steps++[(Bq l line p).1] },(Bq l line p).2)) [soC n u1 u2 u3 u4 u5] .res:=by
 have hrs:=Sp.rows_len n.steps
 have hrl:=Tk.rows_len l
 refine N4 Tryz.func134 J J J J J J J ?_;refine A8 (A6 ?_);refine C3 J (E2 J J J J) ?_;refine C3 J (E2 J J J J) ?_;refine C3 J (D7 J J J) ?_;refine C3 J (D7 J J J) ?_;refine B0 ?_;refine B5 (s:=⟨[(2,_,_),(3,_,_),(4,_,_),(6,_,_),(7,_,_)],[(.l 3,_),(.l 4,_),(.l 6,_),(.l 7,_),(.o 0,_)],[(.b (.o 0) 1,_),(.b (.o 0) 2,_),(.b (.o 0) 3,_),(.b (.o 0) 4,_),(.b (.o 0) 5,_)],[]⟩) (B3 (⟨U J,U J,U J,U J,U J,O⟩) (⟨U J,U J,U J,U J,U J,O⟩) (⟨rfl,rfl,rfl,rfl,rfl,O⟩)) ?_;refine I0 (.l 3) (.o 0) J J J J J ?_;refine B5 (s:=⟨[(2,_,_),(3,_,_),(4,_,_),(6,_,_),(7,_,_)],[(.l 3,_),(.l 4,_),(.l 6,_),(.l 7,_),(.o 0,_)],[(.b (.l 3) 1,_),(.b (.l 3) 2,_),(.b (.l 3) 3,_),(.b (.l 3) 4,_),(.b (.l 3) 5,_)],[]⟩) (B3 (⟨U J,U J,U J,U J,U J,O⟩) (⟨U J,U J,U J,U J,U J,O⟩) (⟨rfl,rfl,rfl,rfl,rfl,O⟩)) ?_;refine A8 (A6 ?_);refine A5 J J J (A7 J gU) ?_;refine A5 J J J (H0 J Tryz.underlying49 J gU) ?_;refine C3 J (D7 J J J) ?_;refine C3 J (C9 J J J J J J J) ?_;refine B0 ?_
 refine A8 (A6 ?_);refine A5 J J J (B7 J gU J J J J J) ?_;refine C8 J J J J J J gU gU (up (J6 l _ (by omega) (le3 hl (by repeat(first|exact hp|refine M9 ?_|refine K2 ?_))))) J ?_;refine A5 J J J (A7 J gU) ?_;refine A5 J J J (C2 J gU J) ?_;refine A5 J J J (C2 J gU J) ?_;refine A5 J J J (B1 J gU J J) ?_;refine C3 J (C9 J J J J J J J) ?_;refine C3 J (C9 J J J J J J J) ?_;refine B0 ?_;refine B5 (s:=⟨[(3,_,_),(4,_,_),(6,_,_),(7,_,_),(8,_,_)],[(.l 3,_),(.l 4,_),(.l 6,_),(.l 7,_),(.l 8,_),(.o 0,_)],[(.b (.l 3) 1,_),(.b (.l 3) 2,_),(.b (.l 3) 3,_),(.b (.l 3) 4,_),(.b (.l 3) 5,_)],[]⟩) (B3 (⟨U J,U J,U J,U J,U J,O⟩) (⟨U J,U J,U J,U J,U J,U J,O⟩) (⟨rfl,rfl,rfl,rfl,rfl,O⟩)) ?_;refine A8 (A6 ?_);refine A5 J J J (B7 J gU J J J J J) ?_;refine C8 J J J J J J gU gU (up (F1 l _ _ (by omega) (le3 hl (by repeat(first|exact hp|refine M9 ?_|refine K2 ?_))))) J ?_;refine C8 J J J J J J gU gU (up (F1 l _ _ (by omega) (le3 hl (by repeat(first|exact hp|refine M9 ?_|refine K2 ?_))))) J ?_
 refine C3 J (C9 J J J J J J J) ?_;refine B0 ?_;refine A8 (A6 ?_);refine A5 J J J (B7 J gU J J J J J) ?_;refine C8 J J J J J J gU gU (up (J6 l _ (by omega) (le3 hl (by repeat(first|exact hp|refine M9 ?_|refine K2 ?_))))) J ?_;refine A5 J J J (A7 J gU) ?_;refine A5 J J J (C2 J gU J) ?_;refine A5 J J J (C2 J gU J) ?_;refine A5 J J J (B1 J gU J J) ?_;refine C3 J (C9 J J J J J J J) ?_;refine C3 J (C9 J J J J J J J) ?_;refine B0 ?_;refine B5 (s:=⟨[(3,_,_),(4,_,_),(6,_,_),(7,_,_),(8,_,_)],[(.l 3,_),(.l 4,_),(.l 6,_),(.l 7,_),(.l 8,_),(.o 0,_)],[(.b (.l 3) 1,_),(.b (.l 3) 2,_),(.b (.l 3) 3,_),(.b (.l 3) 4,_),(.b (.l 3) 5,_)],[]⟩) (B3 (⟨U J,U J,U J,U J,U J,O⟩) (⟨U J,U J,U J,U J,U J,U J,O⟩) (⟨rfl,rfl,rfl,rfl,rfl,O⟩)) ?_;refine A8 (A6 ?_);refine A5 J J J (B7 J gU J J J J J) ?_;refine C8 J J J J J J gU gU (up (F1 l _ _ (by omega) (le3 hl (by repeat(first|exact hp|refine M9 ?_|refine K2 ?_))))) J ?_;refine C8 J J J J J J gU gU (up (Aa l (by omega) (l.length + 1) _ (by repeat(first|exact hp|refine M9 ?_|refine K2 ?_)) (by omega))) J ?_
 refine A5 J J J (A7 J gU) ?_;refine A5 J J J (C2 J gU J) ?_;refine A5 J J J (C2 J gU J) ?_;refine A5 J J J (B1 J gU J J) ?_;refine C3 J (C9 J J J J J J J) ?_;refine C3 J (C9 J J J J J J J) ?_;refine B0 ?_;refine B5 (s:=⟨[(3,_,_),(4,_,_),(6,_,_),(7,_,_),(8,_,_)],[(.l 3,_),(.l 4,_),(.l 6,_),(.l 7,_),(.l 8,_),(.o 0,_)],[(.b (.l 3) 1,_),(.b (.l 3) 2,_),(.b (.l 3) 3,_),(.b (.l 3) 4,_),(.b (.l 3) 5,_)],[]⟩) (B3 (⟨U J,U J,U J,U J,U J,O⟩) (⟨U J,U J,U J,U J,U J,U J,O⟩) (⟨rfl,rfl,rfl,rfl,rfl,O⟩)) ?_;refine A8 (A6 ?_);refine A5 J J J (B1 J gU J J) ?_;refine C3 J (J4 J J J J J J J) ?_;refine A5 J J J (B7 J gU J J J J J) ?_;refine E8 (xs:=[_]) J J J J J J J J J gU J ?_;refine C3 J (G0 J J J J J J J (by first|omega|(simp only [List.length_append,List.length_singleton,Sp.rows_len]; omega)) (by first|omega|(simp only [List.length_append,List.length_singleton,Sp.rows_len]; omega))) ?_;refine A5 J J J (B1 J gU J J) ?_;refine C3 J (J3 J J J J J J J) ?_
 refine B0 ?_;refine B5 (s:=⟨[(3,_,_),(4,_,_),(6,_,_),(7,_,_)],[(.l 3,_),(.l 4,_),(.l 6,_),(.l 7,_),(.o 0,_)],[(.b (.l 3) 1,_),(.b (.l 3) 2,_),(.b (.l 3) 3,_),(.b (.l 3) 4,_),(.b (.l 3) 5,_)],[]⟩) (B3 (⟨U J,U J,U J,U J,O⟩) (⟨U J,U J,U J,U J,U J,O⟩) (⟨rfl,rfl,rfl,rfl,rfl,O⟩)) ?_;refine B5 (s:=⟨[(3,_,_),(4,_,_),(6,_,_),(7,_,_)],[(.l 3,_),(.l 4,_),(.l 6,_),(.l 7,_),(.o 0,_)],[(.b (.l 3) 1,_),(.b (.l 3) 2,_),(.b (.l 3) 3,_),(.b (.l 3) 4,_),(.b (.l 3) 5,_)],[]⟩) (B3 (⟨U J,U J,U J,U J,O⟩) (⟨U J,U J,U J,U J,U J,O⟩) (⟨rfl,rfl,rfl,rfl,rfl,O⟩)) ?_;refine H4 (.l 3) J (fun w1 w2 w3 w4 w5=>?_);refine B5 (s:=⟨[(3,_,_),(4,_,_),(6,_,_),(7,_,_)],[(.l 3,_),(.l 4,_),(.l 6,_),(.l 7,_),(.o 0,_)],[(.b (.l 3) 1,_),(.b (.l 3) 2,_),(.b (.l 3) 3,_),(.b (.l 3) 4,_),(.b (.l 3) 5,_)],[]⟩) (B3 (⟨U J,U J,U J,U J,O⟩) (⟨U J,U J,U J,U J,U J,O⟩) (⟨rfl,rfl,rfl,rfl,rfl,O⟩)) ?_;refine A8 ?_;refine awp_drawn' (by kernel_rfl) ?_;refine D5 J J J J J J J gU J J J J J ?_;refine D5 J J J J J J J gU J J J J J ?_
 refine E7 J J J J J J J J J J J J ?_;refine E7 J J J J J J J J J J J J ?_;refine F8 (by kernel_rfl) ?_;refine B5 (s:=⟨[(3,_,_),(6,_,_),(7,_,_)],[(.l 3,_),(.l 6,_),(.l 7,_),(.o 0,_)],[(.b (.l 3) 1,_),(.b (.l 3) 2,_),(.b (.l 3) 3,_),(.b (.l 3) 4,_),(.b (.l 3) 5,_)],[]⟩) (B3 (⟨U J,U J,U J,O⟩) (⟨U J,U J,U J,U J,O⟩) (⟨(ak J (ak J (ak J (ak J (rfl))))),(ak J (ak J (ak J (ak J (rfl))))),(ak J (ak J (ak J (ak J (rfl))))),(ak J (ak J (ak J (ak J (rfl))))),(ak J (ak J (ak J (ak J (rfl))))),O⟩)) ?_;refine I0 (.l 6) (.l 3) J J J J J ?_;refine B5 (s:=⟨[(3,_,_),(6,_,_),(7,_,_)],[(.l 3,_),(.l 6,_),(.l 7,_),(.o 0,_)],[(.b (.l 6) 1,_),(.b (.l 6) 2,_),(.b (.l 6) 3,_),(.b (.l 6) 4,_),(.b (.l 6) 5,_)],[]⟩) (B3 (⟨U J,U J,U J,O⟩) (⟨U J,U J,U J,U J,O⟩) (⟨rfl,rfl,rfl,rfl,rfl,O⟩)) ?_;refine C1 ?_
 repeat(first|refine tR ?_|refine bR ?_)
 refine I8 J ?_ ⟨⟨_,rfl,rfl⟩,O⟩ (by simp) J J J J J J;exact congrArg (fun z=>X.tup [.agg (narC n.name (strR n.roles) (Fs.rows n.fresh) (strR n.tags) z (Gl.rows n.goals)), .agg (pbx l (Bq l line p).2)]) (Sp.rows_app n.steps [(Bq l line p).1]).symm
theorem Nf (l : List Tk) (ws : List (List UInt8)) : Fwd l (chR l ws):=fun p=>by
 have h:=G4 l [] p
 unfold chR
 split
 ·simp [PS.off]
 ·exact h
theorem Ar {l : List Tk} {ws : List (List UInt8)} {p : PS} (h : p.at'≤l.length) : (chR l ws p).2.at'≤l.length:=(Nf l ws p).2 h
set_option maxHeartbeats 4000000 in
theorem Cw (l : List Tk) (p : PS) (n : Nar) (line : Int) (u1 u2 u3 u4 u5 : Value) (hl : l.length≤2000000) (hp : p.at'≤l.length) (hn : n.goals.length≤3000000) :
  CtrO sysO 135 [.v (.agg (soC n u1 u2 u3 u4 u5)),xr l p,xi line] [soC n u1 u2 u3 u4 u5] osR (xnr l ({ n with goals:=n.goals++[(Z4 l line p).1] },(Z4 l line p).2)) [soC n u1 u2 u3 u4 u5] .res:=by
 have hrs:=Gl.rows_len n.goals
 have hrl:=Tk.rows_len l
 refine N4 Tryz.func135 J J J J J J J ?_;refine A8 (A6 ?_);refine C3 J (E2 J J J J) ?_;refine C3 J (E2 J J J J) ?_;refine C3 J (D7 J J J) ?_;refine C3 J (D7 J J J) ?_;refine B0 ?_;refine B5 (s:=⟨[(2,_,_),(3,_,_),(4,_,_),(6,_,_),(7,_,_)],[(.l 3,_),(.l 4,_),(.l 6,_),(.l 7,_),(.o 0,_)],[(.b (.o 0) 1,_),(.b (.o 0) 2,_),(.b (.o 0) 3,_),(.b (.o 0) 4,_),(.b (.o 0) 5,_)],[]⟩) (B3 (⟨U J,U J,U J,U J,U J,O⟩) (⟨U J,U J,U J,U J,U J,O⟩) (⟨rfl,rfl,rfl,rfl,rfl,O⟩)) ?_;refine I0 (.l 3) (.o 0) J J J J J ?_;refine B5 (s:=⟨[(2,_,_),(3,_,_),(4,_,_),(6,_,_),(7,_,_)],[(.l 3,_),(.l 4,_),(.l 6,_),(.l 7,_),(.o 0,_)],[(.b (.l 3) 1,_),(.b (.l 3) 2,_),(.b (.l 3) 3,_),(.b (.l 3) 4,_),(.b (.l 3) 5,_)],[]⟩) (B3 (⟨U J,U J,U J,U J,U J,O⟩) (⟨U J,U J,U J,U J,U J,O⟩) (⟨rfl,rfl,rfl,rfl,rfl,O⟩)) ?_;refine A8 (A6 ?_);refine A5 J J J (A7 J gU) ?_;refine A5 J J J (H0 J Tryz.underlying51 J gU) ?_;refine C3 J (D7 J J J) ?_;refine C3 J (C9 J J J J J J J) ?_;refine B0 ?_
 refine A8 ?_;refine awp_drawn' (by kernel_rfl) ?_;refine D5 J J J J J J J gU J J J J J ?_;refine F3 J J J J J J J gU gU (up Tw) J ?_;refine F3 J J J J J J J gU gU (up (U8 l p K0 (by omega) (by omega))) J ?_;refine B9 J J J J (A7 J gU) ?_;refine B9 J J J J (C2 J gU J) ?_;refine B9 J J J J (C2 J gU J) ?_;refine B9 J J J J (B1 J gU J J) ?_;refine E7 J J J J J J J J J J J J ?_;refine E7 J J J J J J J J J J J J ?_;refine F8 (by kernel_rfl) ?_;refine B5 (s:=⟨[(3,_,_),(4,_,_),(6,_,_),(7,_,_),(8,_,_)],[(.l 3,_),(.l 4,_),(.l 6,_),(.l 7,_),(.l 8,_),(.o 0,_)],[(.b (.l 3) 1,_),(.b (.l 3) 2,_),(.b (.l 3) 3,_),(.b (.l 3) 4,_),(.b (.l 3) 5,_)],[]⟩) (B3 (⟨U J,U J,U J,U J,U J,O⟩) (⟨U J,U J,U J,U J,U J,U J,O⟩) (⟨(ak J (ak J (ak J (ak J (ak J (ak J (ak J (ak J (ak J (rfl)))))))))),(ak J (ak J (ak J (ak J (ak J (ak J (ak J (ak J (ak J (rfl)))))))))),(ak J (ak J (ak J (ak J (ak J (ak J (ak J (ak J (ak J (rfl)))))))))),(ak J (ak J (ak J (ak J (ak J (ak J (ak J (ak J (ak J (rfl)))))))))),(ak J (ak J (ak J (ak J (ak J (ak J (ak J (ak J (ak J (rfl)))))))))),O⟩)) ?_
 refine A8 (A6 ?_);refine A5 J J J (B7 J gU J J J J J) ?_;refine C8 J J J J J J gU gU (up (J6 l _ (by omega) (le3 hl (by repeat(first|exact hp|refine M9 ?_|refine K2 ?_|refine Ar ?_))))) J ?_;refine A5 J J J (A7 J gU) ?_;refine A5 J J J (C2 J gU J) ?_;refine A5 J J J (C2 J gU J) ?_;refine A5 J J J (B1 J gU J J) ?_;refine C3 J (C9 J J J J J J J) ?_;refine C3 J (C9 J J J J J J J) ?_;refine B0 ?_;refine B5 (s:=⟨[(3,_,_),(4,_,_),(6,_,_),(7,_,_),(8,_,_)],[(.l 3,_),(.l 4,_),(.l 6,_),(.l 7,_),(.l 8,_),(.o 0,_)],[(.b (.l 3) 1,_),(.b (.l 3) 2,_),(.b (.l 3) 3,_),(.b (.l 3) 4,_),(.b (.l 3) 5,_)],[]⟩) (B3 (⟨U J,U J,U J,U J,U J,O⟩) (⟨U J,U J,U J,U J,U J,U J,O⟩) (⟨rfl,rfl,rfl,rfl,rfl,O⟩)) ?_;refine A8 ?_;refine A8 (A6 ?_);refine A5 J J J (B7 J gU J J J J J) ?_;refine C8 J J J J J J gU gU (up (Q0 ⟨(chR l K0 p).1,(C6 l [] (chR l K0 p).2).1,[],[],line⟩)) J ?_;refine B0 ?_;refine B8 J (fun hc=>?_) (fun hc=>?_)
 ·have h : I4 (chR l K0 p).1=true:=hc
  have hg : Z4 l line p=(⟨(chR l K0 p).1,(C6 l [] (chR l K0 p).2).1,(C6 l [] (C6 l [] (chR l K0 p).2).2).1,(G5 l (F7 l (l.length + 1)) (E5 l [58] (C6 l [] (C6 l [] (chR l K0 p).2).2).2)).1,line⟩,(G5 l (F7 l (l.length + 1)) (E5 l [58] (C6 l [] (C6 l [] (chR l K0 p).2).2).2)).2):=by
   simp only [Z4,h,if_true]
  rw[hg]
  refine A6 ?_;refine A5 J J J (B7 J gU J J J J J) ?_;refine C8 J J J J J J gU gU (up (J6 l _ (by omega) (le3 hl (by repeat(first|exact hp|refine M9 ?_|refine K2 ?_|refine Ar ?_))))) J ?_;refine A5 J J J (A7 J gU) ?_;refine A5 J J J (C2 J gU J) ?_;refine A5 J J J (C2 J gU J) ?_;refine A5 J J J (B1 J gU J J) ?_;refine C3 J (C9 J J J J J J J) ?_;refine C3 J (C9 J J J J J J J) ?_;refine B0 ?_;refine B5 (s:=⟨[(3,_,_),(4,_,_),(6,_,_),(7,_,_),(8,_,_)],[(.l 3,_),(.l 4,_),(.l 6,_),(.l 7,_),(.l 8,_),(.o 0,_)],[(.b (.l 3) 1,_),(.b (.l 3) 2,_),(.b (.l 3) 3,_),(.b (.l 3) 4,_),(.b (.l 3) 5,_)],[]⟩) (B3 (⟨U J,U J,U J,U J,U J,O⟩) (⟨U J,U J,U J,U J,U J,U J,O⟩) (⟨rfl,rfl,rfl,rfl,rfl,O⟩)) ?_;refine A8 (A6 ?_);refine A5 J J J (B7 J gU J J J J J) ?_;refine C8 J J J J J J gU gU (up (F1 l _ _ (by omega) (le3 hl (by repeat(first|exact hp|refine M9 ?_|refine K2 ?_|refine Ar ?_))))) J ?_;refine C8 J J J J J J gU gU (up (Bz l (l.length + 1) hl (fun q h1 h2=>Aa l hl _ q h1 h2) (U4 l _) _ (by repeat(first|exact hp|refine M9 ?_|refine K2 ?_|refine Ar ?_)) (by omega))) J ?_
  refine A5 J J J (A7 J gU) ?_;refine A5 J J J (C2 J gU J) ?_;refine A5 J J J (C2 J gU J) ?_;refine A5 J J J (B1 J gU J J) ?_;refine C3 J (C9 J J J J J J J) ?_;refine C3 J (C9 J J J J J J J) ?_;refine B0 ?_;refine B5 (s:=⟨[(3,_,_),(4,_,_),(6,_,_),(7,_,_),(8,_,_)],[(.l 3,_),(.l 4,_),(.l 6,_),(.l 7,_),(.l 8,_),(.o 0,_)],[(.b (.l 3) 1,_),(.b (.l 3) 2,_),(.b (.l 3) 3,_),(.b (.l 3) 4,_),(.b (.l 3) 5,_)],[]⟩) (B3 (⟨U J,U J,U J,U J,U J,O⟩) (⟨U J,U J,U J,U J,U J,U J,O⟩) (⟨rfl,rfl,rfl,rfl,rfl,O⟩)) ?_;refine A8 (A6 ?_);refine A5 J J J (B1 J gU J J) ?_;refine C3 J (J4 J J J J J J J) ?_;refine A5 J J J (B7 J gU J J J J J) ?_;refine E8 (xs:=[_]) J J J J J J J J J gU J ?_;refine C3 J (G0 J J J J J J J (by first|omega|(simp only [List.length_append,List.length_singleton,Gl.rows_len]; omega)) (by first|omega|(simp only [List.length_append,List.length_singleton,Gl.rows_len]; omega))) ?_;refine A5 J J J (B1 J gU J J) ?_;refine C3 J (J3 J J J J J J J) ?_
  refine B0 ?_;refine B5 (s:=⟨[(3,_,_),(4,_,_),(6,_,_),(7,_,_)],[(.l 3,_),(.l 4,_),(.l 6,_),(.l 7,_),(.o 0,_)],[(.b (.l 3) 1,_),(.b (.l 3) 2,_),(.b (.l 3) 3,_),(.b (.l 3) 4,_),(.b (.l 3) 5,_)],[]⟩) (B3 (⟨U J,U J,U J,U J,O⟩) (⟨U J,U J,U J,U J,U J,O⟩) (⟨rfl,rfl,rfl,rfl,rfl,O⟩)) ?_;refine B5 (s:=⟨[(3,_,_),(4,_,_),(6,_,_),(7,_,_)],[(.l 3,_),(.l 4,_),(.l 6,_),(.l 7,_),(.o 0,_)],[(.b (.l 3) 1,_),(.b (.l 3) 2,_),(.b (.l 3) 3,_),(.b (.l 3) 4,_),(.b (.l 3) 5,_)],[]⟩) (B3 (⟨U J,U J,U J,U J,O⟩) (⟨U J,U J,U J,U J,U J,O⟩) (⟨rfl,rfl,rfl,rfl,rfl,O⟩)) ?_;refine H4 (.l 3) J (fun w1 w2 w3 w4 w5=>?_);refine B5 (s:=⟨[(3,_,_),(4,_,_),(6,_,_),(7,_,_)],[(.l 3,_),(.l 4,_),(.l 6,_),(.l 7,_),(.o 0,_)],[(.b (.l 3) 1,_),(.b (.l 3) 2,_),(.b (.l 3) 3,_),(.b (.l 3) 4,_),(.b (.l 3) 5,_)],[]⟩) (B3 (⟨U J,U J,U J,U J,O⟩) (⟨U J,U J,U J,U J,U J,O⟩) (⟨rfl,rfl,rfl,rfl,rfl,O⟩)) ?_;refine A8 ?_;refine awp_drawn' (by kernel_rfl) ?_;refine D5 J J J J J J J gU J J J J J ?_;refine D5 J J J J J J J gU J J J J J ?_
  refine E7 J J J J J J J J J J J J ?_;refine E7 J J J J J J J J J J J J ?_;refine F8 (by kernel_rfl) ?_;refine B5 (s:=⟨[(3,_,_),(6,_,_),(7,_,_)],[(.l 3,_),(.l 6,_),(.l 7,_),(.o 0,_)],[(.b (.l 3) 1,_),(.b (.l 3) 2,_),(.b (.l 3) 3,_),(.b (.l 3) 4,_),(.b (.l 3) 5,_)],[]⟩) (B3 (⟨U J,U J,U J,O⟩) (⟨U J,U J,U J,U J,O⟩) (⟨(ak J (ak J (ak J (ak J (rfl))))),(ak J (ak J (ak J (ak J (rfl))))),(ak J (ak J (ak J (ak J (rfl))))),(ak J (ak J (ak J (ak J (rfl))))),(ak J (ak J (ak J (ak J (rfl))))),O⟩)) ?_;refine I0 (.l 6) (.l 3) J J J J J ?_;refine B5 (s:=⟨[(3,_,_),(6,_,_),(7,_,_)],[(.l 3,_),(.l 6,_),(.l 7,_),(.o 0,_)],[(.b (.l 6) 1,_),(.b (.l 6) 2,_),(.b (.l 6) 3,_),(.b (.l 6) 4,_),(.b (.l 6) 5,_)],[]⟩) (B3 (⟨U J,U J,U J,O⟩) (⟨U J,U J,U J,U J,O⟩) (⟨rfl,rfl,rfl,rfl,rfl,O⟩)) ?_;refine C1 ?_
  repeat(first|refine tR ?_|refine bR ?_)
  refine I8 J ?_ ⟨⟨_,rfl,rfl⟩,O⟩ (by simp) J J J J J J;exact congrArg (fun z=>X.tup [.agg (narC n.name (strR n.roles) (Fs.rows n.fresh) (strR n.tags) (Sp.rows n.steps) z), .agg (pbx l (G5 l (F7 l (l.length + 1)) (E5 l [58] (C6 l [] (C6 l [] (chR l K0 p).2).2).2)).2)]) (Gl.rows_app n.goals [⟨(chR l K0 p).1,(C6 l [] (chR l K0 p).2).1,(C6 l [] (C6 l [] (chR l K0 p).2).2).1,(G5 l (F7 l (l.length + 1)) (E5 l [58] (C6 l [] (C6 l [] (chR l K0 p).2).2).2)).1,line⟩]).symm
 ·have h : I4 (chR l K0 p).1=false:=hc
  have hg : Z4 l line p=(⟨(chR l K0 p).1,(C6 l [] (chR l K0 p).2).1,[],(G5 l (F7 l (l.length + 1)) (E5 l [58] (C6 l [] (chR l K0 p).2).2)).1,line⟩,(G5 l (F7 l (l.length + 1)) (E5 l [58] (C6 l [] (chR l K0 p).2).2)).2):=by
   simp only [Z4,h,Bool.false_eq_true,if_false]
  rw[hg]
  refine C0 ?_;refine A8 (A6 ?_);refine A5 J J J (B7 J gU J J J J J) ?_;refine C8 J J J J J J gU gU (up (F1 l _ _ (by omega) (le3 hl (by repeat(first|exact hp|refine M9 ?_|refine K2 ?_|refine Ar ?_))))) J ?_;refine C8 J J J J J J gU gU (up (Bz l (l.length + 1) hl (fun q h1 h2=>Aa l hl _ q h1 h2) (U4 l _) _ (by repeat(first|exact hp|refine M9 ?_|refine K2 ?_|refine Ar ?_)) (by omega))) J ?_;refine A5 J J J (A7 J gU) ?_;refine A5 J J J (C2 J gU J) ?_;refine A5 J J J (C2 J gU J) ?_;refine A5 J J J (B1 J gU J J) ?_;refine C3 J (C9 J J J J J J J) ?_;refine C3 J (C9 J J J J J J J) ?_;refine B0 ?_;refine B5 (s:=⟨[(3,_,_),(4,_,_),(6,_,_),(7,_,_),(8,_,_)],[(.l 3,_),(.l 4,_),(.l 6,_),(.l 7,_),(.l 8,_),(.o 0,_)],[(.b (.l 3) 1,_),(.b (.l 3) 2,_),(.b (.l 3) 3,_),(.b (.l 3) 4,_),(.b (.l 3) 5,_)],[]⟩) (B3 (⟨U J,U J,U J,U J,U J,O⟩) (⟨U J,U J,U J,U J,U J,U J,O⟩) (⟨rfl,rfl,rfl,rfl,rfl,O⟩)) ?_;refine A8 (A6 ?_);refine A5 J J J (B1 J gU J J) ?_;refine C3 J (J4 J J J J J J J) ?_
  refine A5 J J J (B7 J gU J J J J J) ?_;refine E8 (xs:=[_]) J J J J J J J J J gU J ?_;refine C3 J (G0 J J J J J J J (by first|omega|(simp only [List.length_append,List.length_singleton,Gl.rows_len]; omega)) (by first|omega|(simp only [List.length_append,List.length_singleton,Gl.rows_len]; omega))) ?_;refine A5 J J J (B1 J gU J J) ?_;refine C3 J (J3 J J J J J J J) ?_;refine B0 ?_;refine B5 (s:=⟨[(3,_,_),(4,_,_),(6,_,_),(7,_,_)],[(.l 3,_),(.l 4,_),(.l 6,_),(.l 7,_),(.o 0,_)],[(.b (.l 3) 1,_),(.b (.l 3) 2,_),(.b (.l 3) 3,_),(.b (.l 3) 4,_),(.b (.l 3) 5,_)],[]⟩) (B3 (⟨U J,U J,U J,U J,O⟩) (⟨U J,U J,U J,U J,U J,O⟩) (⟨rfl,rfl,rfl,rfl,rfl,O⟩)) ?_;refine B5 (s:=⟨[(3,_,_),(4,_,_),(6,_,_),(7,_,_)],[(.l 3,_),(.l 4,_),(.l 6,_),(.l 7,_),(.o 0,_)],[(.b (.l 3) 1,_),(.b (.l 3) 2,_),(.b (.l 3) 3,_),(.b (.l 3) 4,_),(.b (.l 3) 5,_)],[]⟩) (B3 (⟨U J,U J,U J,U J,O⟩) (⟨U J,U J,U J,U J,U J,O⟩) (⟨rfl,rfl,rfl,rfl,rfl,O⟩)) ?_;refine H4 (.l 3) J (fun w1 w2 w3 w4 w5=>?_);refine B5 (s:=⟨[(3,_,_),(4,_,_),(6,_,_),(7,_,_)],[(.l 3,_),(.l 4,_),(.l 6,_),(.l 7,_),(.o 0,_)],[(.b (.l 3) 1,_),(.b (.l 3) 2,_),(.b (.l 3) 3,_),(.b (.l 3) 4,_),(.b (.l 3) 5,_)],[]⟩) (B3 (⟨U J,U J,U J,U J,O⟩) (⟨U J,U J,U J,U J,U J,O⟩) (⟨rfl,rfl,rfl,rfl,rfl,O⟩)) ?_
  refine A8 ?_;refine awp_drawn' (by kernel_rfl) ?_;refine D5 J J J J J J J gU J J J J J ?_;refine D5 J J J J J J J gU J J J J J ?_;refine E7 J J J J J J J J J J J J ?_;refine E7 J J J J J J J J J J J J ?_;refine F8 (by kernel_rfl) ?_;refine B5 (s:=⟨[(3,_,_),(6,_,_),(7,_,_)],[(.l 3,_),(.l 6,_),(.l 7,_),(.o 0,_)],[(.b (.l 3) 1,_),(.b (.l 3) 2,_),(.b (.l 3) 3,_),(.b (.l 3) 4,_),(.b (.l 3) 5,_)],[]⟩) (B3 (⟨U J,U J,U J,O⟩) (⟨U J,U J,U J,U J,O⟩) (⟨(ak J (ak J (ak J (ak J (rfl))))),(ak J (ak J (ak J (ak J (rfl))))),(ak J (ak J (ak J (ak J (rfl))))),(ak J (ak J (ak J (ak J (rfl))))),(ak J (ak J (ak J (ak J (rfl))))),O⟩)) ?_;refine I0 (.l 6) (.l 3) J J J J J ?_;refine B5 (s:=⟨[(3,_,_),(6,_,_),(7,_,_)],[(.l 3,_),(.l 6,_),(.l 7,_),(.o 0,_)],[(.b (.l 6) 1,_),(.b (.l 6) 2,_),(.b (.l 6) 3,_),(.b (.l 6) 4,_),(.b (.l 6) 5,_)],[]⟩) (B3 (⟨U J,U J,U J,O⟩) (⟨U J,U J,U J,U J,O⟩) (⟨rfl,rfl,rfl,rfl,rfl,O⟩)) ?_;refine C1 ?_
  repeat(first|refine tR ?_|refine bR ?_)
  refine I8 J ?_ ⟨⟨_,rfl,rfl⟩,O⟩ (by simp) J J J J J J;exact congrArg (fun z=>X.tup [.agg (narC n.name (strR n.roles) (Fs.rows n.fresh) (strR n.tags) (Sp.rows n.steps) z), .agg (pbx l (G5 l (F7 l (l.length + 1)) (E5 l [58] (C6 l [] (chR l K0 p).2).2)).2)]) (Gl.rows_app n.goals [⟨(chR l K0 p).1,(C6 l [] (chR l K0 p).2).1,[],(G5 l (F7 l (l.length + 1)) (E5 l [58] (C6 l [] (chR l K0 p).2).2)).1,line⟩]).symm
theorem Vu {l : List Tk} {p : PS} (h : (chR l I5 p).2.bad=false) : (chR l I5 p).2.at'=p.at' + 1:=by
 rw[(Ui l p).1] at h ⊢
 have hq:=Fh h
 rw[C6,if_pos hq]; rfl
abbrev frC (n : Nar) (o : List Fs) : List C:=narC n.name (strR n.roles) (Fs.rows o) (strR n.tags) (Sp.rows n.steps) (Gl.rows n.goals)
set_option maxHeartbeats 8000000 in
theorem Bp (l : List Tk) (p : PS) (n : Nar) (u1 u2 u3 u4 u5 : Value) (hl : l.length≤2000000) (hp : p.at'≤l.length) (hn : n.fresh.length≤3000000) :
  CtrO sysO 133 [.v (.agg (soC n u1 u2 u3 u4 u5)),xr l p] [soC n u1 u2 u3 u4 u5] osR (xnr l ({ n with fresh:=(frRd l p n.fresh).1 },(frRd l p n.fresh).2)) [soC n u1 u2 u3 u4 u5] .res:=by
 have hrl:=Tk.rows_len l
 have a3 : (E5 l [58] (C6 l [] p).2).at'≤l.length:=M9 (K2 hp)
 obtain ⟨role,hrole⟩ : ∃ r,(C6 l [] p).1=r:=⟨_,rfl⟩
 refine N4 Tryz.func133 J J J J J J J ?_;refine A8 (A6 ?_);refine C3 J (E2 J J J J) ?_;refine C3 J (E2 J J J J) ?_;refine C3 J (D7 J J J) ?_;refine C3 J (D7 J J J) ?_;refine B0 ?_;refine B5 (s:=⟨[(2,_,_),(3,_,_),(4,_,_),(5,_,_)],[(.l 2,_),(.l 3,_),(.l 4,_),(.l 5,_),(.o 0,_)],[(.b (.o 0) 1,_),(.b (.o 0) 2,_),(.b (.o 0) 3,_),(.b (.o 0) 4,_),(.b (.o 0) 5,_)],[]⟩) (B3 (⟨U J,U J,U J,U J,O⟩) (⟨U J,U J,U J,U J,U J,O⟩) (⟨rfl,rfl,rfl,rfl,rfl,O⟩)) ?_;refine I0 (.l 2) (.o 0) J J J J J ?_;refine B5 (s:=⟨[(2,_,_),(3,_,_),(4,_,_),(5,_,_)],[(.l 2,_),(.l 3,_),(.l 4,_),(.l 5,_),(.o 0,_)],[(.b (.l 2) 1,_),(.b (.l 2) 2,_),(.b (.l 2) 3,_),(.b (.l 2) 4,_),(.b (.l 2) 5,_)],[]⟩) (B3 (⟨U J,U J,U J,U J,O⟩) (⟨U J,U J,U J,U J,U J,O⟩) (⟨rfl,rfl,rfl,rfl,rfl,O⟩)) ?_;refine A8 (A6 ?_);refine A5 J J J (B7 J gU J J J J J) ?_;refine C8 J J J J J J gU gU (up (J6 l p (by omega) (le3 hl hp))) J ?_;refine A5 J J J (A7 J gU) ?_;refine A5 J J J (C2 J gU J) ?_
 refine A5 J J J (C2 J gU J) ?_;refine A5 J J J (A9 J gU) ?_;refine C3 J (C9 J J J J J J J) ?_;refine B0 ?_;refine B5 (s:=⟨[(2,_,_),(3,_,_),(4,_,_),(5,_,_),(6,_,_)],[(.l 2,_),(.l 3,_),(.l 4,_),(.l 5,_),(.o 0,_)],[(.b (.l 2) 1,_),(.b (.l 2) 2,_),(.b (.l 2) 3,_),(.b (.l 2) 4,_),(.b (.l 2) 5,_)],[]⟩) (B3 (⟨U J,U J,U J,U J,U J,O⟩) (⟨U J,U J,U J,U J,U J,O⟩) (⟨rfl,rfl,rfl,rfl,rfl,O⟩)) ?_;refine A8 (A6 ?_);refine A5 J J J (B7 J gU J J J J J) ?_;refine C8 J J J J J J gU gU (up (F1 l (C6 l [] p).2 _ (by omega) (le3 hl (K2 hp)))) J ?_;refine C3 J (C9 J J J J J J J) ?_;refine B0 ?_;refine A8 ?_;refine A8 (A6 ?_);refine A5 J J J (A9 J gU) ?_;refine B0 ?_;refine C4 ?_
 rw[hrole]
 refine F5 (ι:=PS × Bool × List Fs) { t:=[(2,_,_),(3,_,_),(4,_,_),(5,_,_),(6,_,_)],bx:=[(.l 4,_),(.l 5,_),(.o 0,_)],ow:=[(.b (.l 2) 1,_),(.b (.l 2) 2,_),(.b (.l 2) 3,_),(.b (.l 2) 4,_),(.b (.l 2) 5,_)] } (fun q=>[(7,true,xb q.2.1)]) (fun q=>[((.l 3),pbx l q.1),((.l 2),frC n q.2.2)]) (fun q=>q.1.at'≤l.length∧q.2.2.length≤n.fresh.length + q.1.at' + (if q.2.1=true then 0 else 1) ∧ ∃ k,l.length + 1≤k + q.1.at'∧(if q.2.1=true then frRA l role k q.1 q.2.2 else if symQ l q.1 [44]=true then frRA l role k q.1.go q.2.2 else (q.2.2,q.1))=frRd l p n.fresh) (fun q=>(if q.2.1=true then 1 else 0) + (l.length - q.1.at')) ((E5 l [58] (C6 l [] p).2,true,n.fresh)) (⟨a3,by simp,l.length + 1,by dsimp only; omega,by dsimp only; rw[if_pos J,← hrole]; rfl⟩) (B3 (⟨U J,U J,U J,U J,U J,U J,O⟩) (⟨U J,U J,U J,U J,U J,O⟩) (⟨rfl,rfl,rfl,rfl,rfl,O⟩)) ?_
 intro q hok
 dsimp only [List.cons_append,List.nil_append] at *
 obtain ⟨q,first,out⟩:=q
 dsimp only at hok ⊢
 obtain ⟨hq,ho,k,hk,hi⟩:=hok
 have hro:=Fs.rows_len out
 cases first
 ·rw[if_neg (by simp)] at hi
  simp only [Bool.false_eq_true,if_false] at ho
  refine A8 ?_;refine A8 (A6 ?_);refine A5 J J J (A7 J gU) ?_;refine A5 J J J (A7 J gU) ?_;refine A5 J J J (B7 J gU J J J J J) ?_;refine C8 J J J J J J gU (fun hh=>gA ((fun hh=>hh) hh) (gA J (rfl))) (up (P3 l q _ (by omega) (le3 hl hq))) J ?_;refine A5 J J J (D9 J J gU (fun _ hi=>gP J hi)) ?_;refine B0 ?_;refine B5 (s:=⟨[(2,_,_),(3,_,_),(4,_,_),(5,_,_),(6,_,_),(7,_,_),(20,_,_)],[(.l 2,_),(.l 3,_),(.l 4,_),(.l 5,_),(.o 0,_)],[(.b (.l 2) 1,_),(.b (.l 2) 2,_),(.b (.l 2) 3,_),(.b (.l 2) 4,_),(.b (.l 2) 5,_)],[]⟩) (B3 (⟨U J,U J,U J,U J,U J,U J,U J,O⟩) (⟨U J,U J,U J,U J,U J,O⟩) (⟨rfl,rfl,rfl,rfl,rfl,O⟩)) ?_;refine B8 J (fun hc1=>?_) (fun hc1=>?_)
  ·try simp only [nn,B4,T.rows_len,Tk.rows_len] at hc1
   have hc1:=hc1.resolve_left (by simp)
   have hlt:=(N9 hc1).1
   have hs : E5 l [44] q=q.go:=by rw[E5,if_pos hc1]
   have hg : q.go.at'=q.at' + 1:=rfl
   have hq2 : q.go.at'≤l.length:=by omega
   rw[if_pos hc1] at hi
   obtain ⟨k,rfl⟩ : ∃ j,k=j + 1:=⟨k - 1,by omega⟩
   have hsy:=F1 l q [44] (by omega) (le3 hl hq)
   rw[hs] at hsy
   refine C0 ?_;refine A8 ?_;refine C4 ?_;refine A8 ?_;refine A8 (A6 ?_);refine A5 J J J (A7 J gU) ?_;refine A5 J J J (F2 J gU) ?_;refine B0 ?_;refine B8 J (fun hc2=>?_) (fun hc2=>?_)
   ·refine A6 ?_
    refine A5 J J J (B7 J gU J J J J J) ?_;refine C8 J J J J J J gU gU (up hsy) J ?_;refine C3 J (C9 J J J J J J J) ?_;refine B0 ?_;refine A8 (A6 ?_);refine A5 J J J (A7 J gU) ?_;refine A5 J J J (H0 J Tryz.underlying79 J gU) ?_;refine C3 J (D7 J J J) ?_;refine C3 J (C9 J J J J J J J) ?_;refine B0 ?_;refine B5 (s:=⟨[(2,_,_),(3,_,_),(4,_,_),(5,_,_),(6,_,_),(8,_,_)],[(.l 2,_),(.l 3,_),(.l 4,_),(.l 5,_),(.l 8,_),(.o 0,_)],[(.b (.l 2) 1,_),(.b (.l 2) 2,_),(.b (.l 2) 3,_),(.b (.l 2) 4,_),(.b (.l 2) 5,_)],[]⟩) (B3 (⟨U J,U J,U J,U J,U J,U J,O⟩) (⟨U J,U J,U J,U J,U J,U J,O⟩) (⟨rfl,rfl,rfl,rfl,rfl,O⟩)) ?_;refine A8 (A6 ?_)
    have b1:=(G4 l [] q.go).1
    have b2:=(Nf l I5 (C6 l [] q.go).2).1
    have b3 : (chR l I5 (C6 l [] q.go).2).2.at'≤l.length:=Ar (K2 hq2)
    refine A5 J J J (B7 J gU J J J J J) ?_;refine C8 J J J J J J gU gU (up (J6 l q.go (by omega) (le3 hl hq2))) J ?_;refine A5 J J J (A7 J gU) ?_;refine A5 J J J (C2 J gU J) ?_;refine A5 J J J (C2 J gU J) ?_;refine A5 J J J (B1 J gU J J) ?_;refine C3 J (C9 J J J J J J J) ?_;refine C3 J (C9 J J J J J J J) ?_;refine B0 ?_;refine B5 (s:=⟨[(2,_,_),(3,_,_),(4,_,_),(5,_,_),(6,_,_),(8,_,_)],[(.l 2,_),(.l 3,_),(.l 4,_),(.l 5,_),(.l 8,_),(.o 0,_)],[(.b (.l 2) 1,_),(.b (.l 2) 2,_),(.b (.l 2) 3,_),(.b (.l 2) 4,_),(.b (.l 2) 5,_)],[]⟩) (B3 (⟨U J,U J,U J,U J,U J,U J,O⟩) (⟨U J,U J,U J,U J,U J,U J,O⟩) (⟨rfl,rfl,rfl,rfl,rfl,O⟩)) ?_;refine A8 ?_;refine awp_drawn' (by kernel_rfl) ?_;refine D5 J J J J J J J gU J J J J J ?_;refine F3 J J J J J J J gU gU (up Gd) J ?_;refine F3 J J J J J J J gU gU (up (U8 l (C6 l [] q.go).2 I5 (by omega) (le3 hl (K2 hq2)))) J ?_;refine B9 J J J J (A7 J gU) ?_;refine B9 J J J J (C2 J gU J) ?_;refine B9 J J J J (C2 J gU J) ?_
    refine B9 J J J J (B1 J gU J J) ?_;refine E7 J J J J J J J J J J J J ?_;refine E7 J J J J J J J J J J J J ?_;refine F8 (by kernel_rfl) ?_;refine B5 (s:=⟨[(2,_,_),(3,_,_),(4,_,_),(5,_,_),(6,_,_),(8,_,_)],[(.l 2,_),(.l 3,_),(.l 4,_),(.l 5,_),(.l 8,_),(.o 0,_)],[(.b (.l 2) 1,_),(.b (.l 2) 2,_),(.b (.l 2) 3,_),(.b (.l 2) 4,_),(.b (.l 2) 5,_)],[]⟩) (B3 (⟨U J,U J,U J,U J,U J,U J,O⟩) (⟨U J,U J,U J,U J,U J,U J,O⟩) (⟨(ak J (ak J (ak J (ak J (ak J (ak J (ak J (ak J (ak J (rfl)))))))))),(ak J (ak J (ak J (ak J (ak J (ak J (ak J (ak J (ak J (rfl)))))))))),(ak J (ak J (ak J (ak J (ak J (ak J (ak J (ak J (ak J (rfl)))))))))),(ak J (ak J (ak J (ak J (ak J (ak J (ak J (ak J (ak J (rfl)))))))))),(ak J (ak J (ak J (ak J (ak J (ak J (ak J (ak J (ak J (rfl)))))))))),O⟩)) ?_;refine A8 (A6 ?_);refine A5 J J J (B1 J gU J J) ?_;refine C3 J (J4 J J J J J J J) ?_;refine A5 J J J (B7 J gU J J J J J) ?_;refine E8 (xs:=[_]) J J J J J J J J J gU J ?_;refine C3 J (G0 J J J J J J J (by first|omega|(simp only [List.length_append,List.length_singleton,Fs.rows_len]; omega)) (by first|omega|(simp only [List.length_append,List.length_singleton,Fs.rows_len]; omega))) ?_
    refine A5 J J J (B1 J gU J J) ?_;refine C3 J (J3 J J J J J J J) ?_;refine B0 ?_;refine B5 (s:=⟨[(2,_,_),(3,_,_),(4,_,_),(5,_,_),(6,_,_)],[(.l 2,_),(.l 3,_),(.l 4,_),(.l 5,_),(.o 0,_)],[(.b (.l 2) 1,_),(.b (.l 2) 2,_),(.b (.l 2) 3,_),(.b (.l 2) 4,_),(.b (.l 2) 5,_)],[]⟩) (B3 (⟨U J,U J,U J,U J,U J,O⟩) (⟨U J,U J,U J,U J,U J,O⟩) (⟨rfl,rfl,rfl,rfl,rfl,O⟩)) ?_;refine A8 (A6 ?_);refine A5 J J J (B1 J gU J J) ?_;refine A5 J J J (B2 J gU J J J J) ?_;refine B0 ?_;refine B8 J (fun hc3=>?_) (fun hc3=>?_)
    ·try simp only [nn,B4,T.rows_len,Tk.rows_len] at hc3
     rw[frRA,if_pos hc3] at hi
     rw[← hi]
     refine B5 (s:=⟨[(2,_,_),(3,_,_),(4,_,_),(5,_,_)],[(.l 2,_),(.l 3,_),(.l 4,_),(.l 5,_),(.o 0,_)],[(.b (.l 2) 1,_),(.b (.l 2) 2,_),(.b (.l 2) 3,_),(.b (.l 2) 4,_),(.b (.l 2) 5,_)],[]⟩) (B3 (⟨U J,U J,U J,U J,O⟩) (⟨U J,U J,U J,U J,U J,O⟩) (⟨rfl,rfl,rfl,rfl,rfl,O⟩)) ?_;refine H4 (.l 2) J (fun w1 w2 w3 w4 w5=>?_);refine B5 (s:=⟨[(2,_,_),(3,_,_),(4,_,_),(5,_,_)],[(.l 2,_),(.l 3,_),(.l 4,_),(.l 5,_),(.o 0,_)],[(.b (.l 2) 1,_),(.b (.l 2) 2,_),(.b (.l 2) 3,_),(.b (.l 2) 4,_),(.b (.l 2) 5,_)],[]⟩) (B3 (⟨U J,U J,U J,U J,O⟩) (⟨U J,U J,U J,U J,U J,O⟩) (⟨rfl,rfl,rfl,rfl,rfl,O⟩)) ?_;refine A8 ?_;refine awp_drawn' (by kernel_rfl) ?_;refine D5 J J J J J J J gU J J J J J ?_;refine D5 J J J J J J J gU J J J J J ?_;refine E7 J J J J J J J J J J J J ?_;refine E7 J J J J J J J J J J J J ?_;refine F8 (by kernel_rfl) ?_;refine B5 (s:=⟨[(2,_,_),(4,_,_),(5,_,_)],[(.l 2,_),(.l 4,_),(.l 5,_),(.o 0,_)],[(.b (.l 2) 1,_),(.b (.l 2) 2,_),(.b (.l 2) 3,_),(.b (.l 2) 4,_),(.b (.l 2) 5,_)],[]⟩) (B3 (⟨U J,U J,U J,O⟩) (⟨U J,U J,U J,U J,O⟩) (⟨(ak J (ak J (ak J (ak J (rfl))))),(ak J (ak J (ak J (ak J (rfl))))),(ak J (ak J (ak J (ak J (rfl))))),(ak J (ak J (ak J (ak J (rfl))))),(ak J (ak J (ak J (ak J (rfl))))),O⟩)) ?_
     refine I0 (.l 4) (.l 2) J J J J J ?_;refine B5 (s:=⟨[(2,_,_),(4,_,_),(5,_,_)],[(.l 2,_),(.l 4,_),(.l 5,_),(.o 0,_)],[(.b (.l 4) 1,_),(.b (.l 4) 2,_),(.b (.l 4) 3,_),(.b (.l 4) 4,_),(.b (.l 4) 5,_)],[]⟩) (B3 (⟨U J,U J,U J,O⟩) (⟨U J,U J,U J,U J,O⟩) (⟨rfl,rfl,rfl,rfl,rfl,O⟩)) ?_;refine C1 ?_
     repeat(first|refine tR ?_|refine bR ?_)
     refine I8 J ?_ ⟨⟨_,rfl,rfl⟩,O⟩ (by simp) J J J J J J;exact congrArg (fun z=>X.tup [.agg (narC n.name (strR n.roles) z (strR n.tags) (Sp.rows n.steps) (Gl.rows n.goals)), .agg (pbx l (chR l I5 (C6 l [] q.go).2).2)]) (Fs.rows_app out [⟨role,(C6 l [] q.go).1,(chR l I5 (C6 l [] q.go).2).1⟩]).symm
    ·try simp only [nn,B4,T.rows_len,Tk.rows_len] at hc3
     rw[frRA,if_neg (by rw[hc3]; simp)] at hi
     have b4:=Vu hc3
     refine C0 ?_;refine A6 ?_;refine A5 J J J (A9 J gU) ?_;refine B0 ?_;refine ⟨((chR l I5 (C6 l [] q.go).2).2,false,out++[⟨role,(C6 l [] q.go).1,(chR l I5 (C6 l [] q.go).2).1⟩]),?_,?_,B3 (⟨⟨_,rfl,?_⟩,⟨U J,U J,U J,U J,U J,O⟩⟩) (⟨⟨_,rfl,?_⟩,⟨⟨_,rfl,?_⟩,⟨U J,U J,U J,O⟩⟩⟩) (⟨rfl,rfl,rfl,rfl,rfl,O⟩)⟩
     ·refine ⟨b3,by dsimp only; simp only [List.length_append,List.length_singleton,Bool.false_eq_true,if_false]; omega,k,by dsimp only; omega,?_⟩
      rw[if_neg (by simp)]; exact hi
     ·dsimp only
      simp only [Bool.false_eq_true,if_false,if_true]
      omega
     all_goals first|rfl|exact congrArg (fun z=>some (narC n.name (strR n.roles) z (strR n.tags) (Sp.rows n.steps) (Gl.rows n.goals))) (Fs.rows_app out [⟨role,(C6 l [] q.go).1,(chR l I5 (C6 l [] q.go).2).1⟩]).symm|exact congrArg (fun z=>narC n.name (strR n.roles) z (strR n.tags) (Sp.rows n.steps) (Gl.rows n.goals)) (Fs.rows_app out [⟨role,(C6 l [] q.go).1,(chR l I5 (C6 l [] q.go).2).1⟩]).symm
   ·exfalso
    simp at hc2
  ·try simp only [nn,B4,T.rows_len,Tk.rows_len] at hc1
   have hc1:=hc1.2
   rw[if_neg (by rw[hc1]; simp)] at hi
   rw[← hi]
   refine E1 ?_
   repeat(first|refine D3 ?_|refine D4 ?_|refine D2 J ?_)
   refine B5 (s:=⟨[(2,_,_),(3,_,_),(4,_,_),(5,_,_)],[(.l 2,_),(.l 3,_),(.l 4,_),(.l 5,_),(.o 0,_)],[(.b (.l 2) 1,_),(.b (.l 2) 2,_),(.b (.l 2) 3,_),(.b (.l 2) 4,_),(.b (.l 2) 5,_)],[]⟩) (B3 (⟨U J,U J,U J,U J,O⟩) (⟨U J,U J,U J,U J,U J,O⟩) (⟨rfl,rfl,rfl,rfl,rfl,O⟩)) ?_;refine H4 (.l 2) J (fun w1 w2 w3 w4 w5=>?_);refine B5 (s:=⟨[(2,_,_),(3,_,_),(4,_,_),(5,_,_)],[(.l 2,_),(.l 3,_),(.l 4,_),(.l 5,_),(.o 0,_)],[(.b (.l 2) 1,_),(.b (.l 2) 2,_),(.b (.l 2) 3,_),(.b (.l 2) 4,_),(.b (.l 2) 5,_)],[]⟩) (B3 (⟨U J,U J,U J,U J,O⟩) (⟨U J,U J,U J,U J,U J,O⟩) (⟨rfl,rfl,rfl,rfl,rfl,O⟩)) ?_;refine A8 ?_;refine awp_drawn' (by kernel_rfl) ?_;refine D5 J J J J J J J gU J J J J J ?_;refine D5 J J J J J J J gU J J J J J ?_;refine E7 J J J J J J J J J J J J ?_;refine E7 J J J J J J J J J J J J ?_;refine F8 (by kernel_rfl) ?_;refine B5 (s:=⟨[(2,_,_),(4,_,_),(5,_,_)],[(.l 2,_),(.l 4,_),(.l 5,_),(.o 0,_)],[(.b (.l 2) 1,_),(.b (.l 2) 2,_),(.b (.l 2) 3,_),(.b (.l 2) 4,_),(.b (.l 2) 5,_)],[]⟩) (B3 (⟨U J,U J,U J,O⟩) (⟨U J,U J,U J,U J,O⟩) (⟨(ak J (ak J (ak J (ak J (rfl))))),(ak J (ak J (ak J (ak J (rfl))))),(ak J (ak J (ak J (ak J (rfl))))),(ak J (ak J (ak J (ak J (rfl))))),(ak J (ak J (ak J (ak J (rfl))))),O⟩)) ?_
   refine I0 (.l 4) (.l 2) J J J J J ?_;refine B5 (s:=⟨[(2,_,_),(4,_,_),(5,_,_)],[(.l 2,_),(.l 4,_),(.l 5,_),(.o 0,_)],[(.b (.l 4) 1,_),(.b (.l 4) 2,_),(.b (.l 4) 3,_),(.b (.l 4) 4,_),(.b (.l 4) 5,_)],[]⟩) (B3 (⟨U J,U J,U J,O⟩) (⟨U J,U J,U J,U J,O⟩) (⟨rfl,rfl,rfl,rfl,rfl,O⟩)) ?_;refine C1 ?_
   repeat(first|refine tR ?_|refine bR ?_)
   refine I8 J ?_ ⟨⟨_,rfl,rfl⟩,O⟩ (by simp) J J J J J J
   rfl
 ·rw[if_pos J] at hi
  simp only [if_true] at ho
  have hq2:=hq
  obtain ⟨k,rfl⟩ : ∃ j,k=j + 1:=⟨k - 1,by omega⟩
  refine A8 ?_;refine A8 (A6 ?_);refine A5 J J J (A7 J gU) ?_;refine A5 J J J (A7 J gU) ?_;refine A5 J J J (B7 J gU J J J J J) ?_;refine C8 J J J J J J gU (fun hh=>gA ((fun hh=>hh) hh) (gA J (rfl))) (up (P3 l q _ (by omega) (le3 hl hq))) J ?_;refine A5 J J J (D9 J J gU (fun _ hi=>gP J hi)) ?_;refine B0 ?_;refine B5 (s:=⟨[(2,_,_),(3,_,_),(4,_,_),(5,_,_),(6,_,_),(7,_,_),(20,_,_)],[(.l 2,_),(.l 3,_),(.l 4,_),(.l 5,_),(.o 0,_)],[(.b (.l 2) 1,_),(.b (.l 2) 2,_),(.b (.l 2) 3,_),(.b (.l 2) 4,_),(.b (.l 2) 5,_)],[]⟩) (B3 (⟨U J,U J,U J,U J,U J,U J,U J,O⟩) (⟨U J,U J,U J,U J,U J,O⟩) (⟨rfl,rfl,rfl,rfl,rfl,O⟩)) ?_;refine B8 J (fun hc1=>?_) (fun hc1=>?_)
  ·refine C0 ?_
   refine A8 ?_;refine C4 ?_;refine A8 ?_;refine A8 (A6 ?_);refine A5 J J J (A7 J gU) ?_;refine A5 J J J (F2 J gU) ?_;refine B0 ?_;refine B8 J (fun hc2=>?_) (fun hc2=>?_)
   ·exfalso
    simp at hc2
   ·refine C0 ?_
    refine A8 (A6 ?_);refine A5 J J J (A7 J gU) ?_;refine A5 J J J (H0 J Tryz.underlying79 J gU) ?_;refine C3 J (D7 J J J) ?_;refine C3 J (C9 J J J J J J J) ?_;refine B0 ?_;refine B5 (s:=⟨[(2,_,_),(3,_,_),(4,_,_),(5,_,_),(6,_,_),(8,_,_)],[(.l 2,_),(.l 3,_),(.l 4,_),(.l 5,_),(.l 8,_),(.o 0,_)],[(.b (.l 2) 1,_),(.b (.l 2) 2,_),(.b (.l 2) 3,_),(.b (.l 2) 4,_),(.b (.l 2) 5,_)],[]⟩) (B3 (⟨U J,U J,U J,U J,U J,U J,O⟩) (⟨U J,U J,U J,U J,U J,U J,O⟩) (⟨rfl,rfl,rfl,rfl,rfl,O⟩)) ?_;refine A8 (A6 ?_)
    have b1:=(G4 l [] q).1
    have b2:=(Nf l I5 (C6 l [] q).2).1
    have b3 : (chR l I5 (C6 l [] q).2).2.at'≤l.length:=Ar (K2 hq2)
    refine A5 J J J (B7 J gU J J J J J) ?_;refine C8 J J J J J J gU gU (up (J6 l q (by omega) (le3 hl hq2))) J ?_;refine A5 J J J (A7 J gU) ?_;refine A5 J J J (C2 J gU J) ?_;refine A5 J J J (C2 J gU J) ?_;refine A5 J J J (B1 J gU J J) ?_;refine C3 J (C9 J J J J J J J) ?_;refine C3 J (C9 J J J J J J J) ?_;refine B0 ?_;refine B5 (s:=⟨[(2,_,_),(3,_,_),(4,_,_),(5,_,_),(6,_,_),(8,_,_)],[(.l 2,_),(.l 3,_),(.l 4,_),(.l 5,_),(.l 8,_),(.o 0,_)],[(.b (.l 2) 1,_),(.b (.l 2) 2,_),(.b (.l 2) 3,_),(.b (.l 2) 4,_),(.b (.l 2) 5,_)],[]⟩) (B3 (⟨U J,U J,U J,U J,U J,U J,O⟩) (⟨U J,U J,U J,U J,U J,U J,O⟩) (⟨rfl,rfl,rfl,rfl,rfl,O⟩)) ?_;refine A8 ?_;refine awp_drawn' (by kernel_rfl) ?_;refine D5 J J J J J J J gU J J J J J ?_;refine F3 J J J J J J J gU gU (up Gd) J ?_;refine F3 J J J J J J J gU gU (up (U8 l (C6 l [] q).2 I5 (by omega) (le3 hl (K2 hq2)))) J ?_;refine B9 J J J J (A7 J gU) ?_;refine B9 J J J J (C2 J gU J) ?_;refine B9 J J J J (C2 J gU J) ?_
    refine B9 J J J J (B1 J gU J J) ?_;refine E7 J J J J J J J J J J J J ?_;refine E7 J J J J J J J J J J J J ?_;refine F8 (by kernel_rfl) ?_;refine B5 (s:=⟨[(2,_,_),(3,_,_),(4,_,_),(5,_,_),(6,_,_),(8,_,_)],[(.l 2,_),(.l 3,_),(.l 4,_),(.l 5,_),(.l 8,_),(.o 0,_)],[(.b (.l 2) 1,_),(.b (.l 2) 2,_),(.b (.l 2) 3,_),(.b (.l 2) 4,_),(.b (.l 2) 5,_)],[]⟩) (B3 (⟨U J,U J,U J,U J,U J,U J,O⟩) (⟨U J,U J,U J,U J,U J,U J,O⟩) (⟨(ak J (ak J (ak J (ak J (ak J (ak J (ak J (ak J (ak J (rfl)))))))))),(ak J (ak J (ak J (ak J (ak J (ak J (ak J (ak J (ak J (rfl)))))))))),(ak J (ak J (ak J (ak J (ak J (ak J (ak J (ak J (ak J (rfl)))))))))),(ak J (ak J (ak J (ak J (ak J (ak J (ak J (ak J (ak J (rfl)))))))))),(ak J (ak J (ak J (ak J (ak J (ak J (ak J (ak J (ak J (rfl)))))))))),O⟩)) ?_;refine A8 (A6 ?_);refine A5 J J J (B1 J gU J J) ?_;refine C3 J (J4 J J J J J J J) ?_;refine A5 J J J (B7 J gU J J J J J) ?_;refine E8 (xs:=[_]) J J J J J J J J J gU J ?_;refine C3 J (G0 J J J J J J J (by first|omega|(simp only [List.length_append,List.length_singleton,Fs.rows_len]; omega)) (by first|omega|(simp only [List.length_append,List.length_singleton,Fs.rows_len]; omega))) ?_
    refine A5 J J J (B1 J gU J J) ?_;refine C3 J (J3 J J J J J J J) ?_;refine B0 ?_;refine B5 (s:=⟨[(2,_,_),(3,_,_),(4,_,_),(5,_,_),(6,_,_)],[(.l 2,_),(.l 3,_),(.l 4,_),(.l 5,_),(.o 0,_)],[(.b (.l 2) 1,_),(.b (.l 2) 2,_),(.b (.l 2) 3,_),(.b (.l 2) 4,_),(.b (.l 2) 5,_)],[]⟩) (B3 (⟨U J,U J,U J,U J,U J,O⟩) (⟨U J,U J,U J,U J,U J,O⟩) (⟨rfl,rfl,rfl,rfl,rfl,O⟩)) ?_;refine A8 (A6 ?_);refine A5 J J J (B1 J gU J J) ?_;refine A5 J J J (B2 J gU J J J J) ?_;refine B0 ?_;refine B8 J (fun hc3=>?_) (fun hc3=>?_)
    ·try simp only [nn,B4,T.rows_len,Tk.rows_len] at hc3
     rw[frRA,if_pos hc3] at hi
     rw[← hi]
     refine B5 (s:=⟨[(2,_,_),(3,_,_),(4,_,_),(5,_,_)],[(.l 2,_),(.l 3,_),(.l 4,_),(.l 5,_),(.o 0,_)],[(.b (.l 2) 1,_),(.b (.l 2) 2,_),(.b (.l 2) 3,_),(.b (.l 2) 4,_),(.b (.l 2) 5,_)],[]⟩) (B3 (⟨U J,U J,U J,U J,O⟩) (⟨U J,U J,U J,U J,U J,O⟩) (⟨rfl,rfl,rfl,rfl,rfl,O⟩)) ?_;refine H4 (.l 2) J (fun w1 w2 w3 w4 w5=>?_);refine B5 (s:=⟨[(2,_,_),(3,_,_),(4,_,_),(5,_,_)],[(.l 2,_),(.l 3,_),(.l 4,_),(.l 5,_),(.o 0,_)],[(.b (.l 2) 1,_),(.b (.l 2) 2,_),(.b (.l 2) 3,_),(.b (.l 2) 4,_),(.b (.l 2) 5,_)],[]⟩) (B3 (⟨U J,U J,U J,U J,O⟩) (⟨U J,U J,U J,U J,U J,O⟩) (⟨rfl,rfl,rfl,rfl,rfl,O⟩)) ?_;refine A8 ?_;refine awp_drawn' (by kernel_rfl) ?_;refine D5 J J J J J J J gU J J J J J ?_;refine D5 J J J J J J J gU J J J J J ?_;refine E7 J J J J J J J J J J J J ?_;refine E7 J J J J J J J J J J J J ?_;refine F8 (by kernel_rfl) ?_;refine B5 (s:=⟨[(2,_,_),(4,_,_),(5,_,_)],[(.l 2,_),(.l 4,_),(.l 5,_),(.o 0,_)],[(.b (.l 2) 1,_),(.b (.l 2) 2,_),(.b (.l 2) 3,_),(.b (.l 2) 4,_),(.b (.l 2) 5,_)],[]⟩) (B3 (⟨U J,U J,U J,O⟩) (⟨U J,U J,U J,U J,O⟩) (⟨(ak J (ak J (ak J (ak J (rfl))))),(ak J (ak J (ak J (ak J (rfl))))),(ak J (ak J (ak J (ak J (rfl))))),(ak J (ak J (ak J (ak J (rfl))))),(ak J (ak J (ak J (ak J (rfl))))),O⟩)) ?_
     refine I0 (.l 4) (.l 2) J J J J J ?_;refine B5 (s:=⟨[(2,_,_),(4,_,_),(5,_,_)],[(.l 2,_),(.l 4,_),(.l 5,_),(.o 0,_)],[(.b (.l 4) 1,_),(.b (.l 4) 2,_),(.b (.l 4) 3,_),(.b (.l 4) 4,_),(.b (.l 4) 5,_)],[]⟩) (B3 (⟨U J,U J,U J,O⟩) (⟨U J,U J,U J,U J,O⟩) (⟨rfl,rfl,rfl,rfl,rfl,O⟩)) ?_;refine C1 ?_
     repeat(first|refine tR ?_|refine bR ?_)
     refine I8 J ?_ ⟨⟨_,rfl,rfl⟩,O⟩ (by simp) J J J J J J;exact congrArg (fun z=>X.tup [.agg (narC n.name (strR n.roles) z (strR n.tags) (Sp.rows n.steps) (Gl.rows n.goals)), .agg (pbx l (chR l I5 (C6 l [] q).2).2)]) (Fs.rows_app out [⟨role,(C6 l [] q).1,(chR l I5 (C6 l [] q).2).1⟩]).symm
    ·try simp only [nn,B4,T.rows_len,Tk.rows_len] at hc3
     rw[frRA,if_neg (by rw[hc3]; simp)] at hi
     have b4:=Vu hc3
     refine C0 ?_;refine A6 ?_;refine A5 J J J (A9 J gU) ?_;refine B0 ?_;refine ⟨((chR l I5 (C6 l [] q).2).2,false,out++[⟨role,(C6 l [] q).1,(chR l I5 (C6 l [] q).2).1⟩]),?_,?_,B3 (⟨⟨_,rfl,?_⟩,⟨U J,U J,U J,U J,U J,O⟩⟩) (⟨⟨_,rfl,?_⟩,⟨⟨_,rfl,?_⟩,⟨U J,U J,U J,O⟩⟩⟩) (⟨rfl,rfl,rfl,rfl,rfl,O⟩)⟩
     ·refine ⟨b3,by dsimp only; simp only [List.length_append,List.length_singleton,Bool.false_eq_true,if_false]; omega,k,by dsimp only; omega,?_⟩
      rw[if_neg (by simp)]; exact hi
     ·dsimp only
      simp only [Bool.false_eq_true,if_false,if_true]
      omega
     all_goals first|rfl|exact congrArg (fun z=>some (narC n.name (strR n.roles) z (strR n.tags) (Sp.rows n.steps) (Gl.rows n.goals))) (Fs.rows_app out [⟨role,(C6 l [] q).1,(chR l I5 (C6 l [] q).2).1⟩]).symm|exact congrArg (fun z=>narC n.name (strR n.roles) z (strR n.tags) (Sp.rows n.steps) (Gl.rows n.goals)) (Fs.rows_app out [⟨role,(C6 l [] q).1,(chR l I5 (C6 l [] q).2).1⟩]).symm
  ·exfalso
   simp at hc1
theorem Oa (l : List Tk) (n : Nar) (line : Int) (q : PS) : N8 l n line 1 q=({ n with roles:=n.roles++(J2 l q).1 },(J2 l q).2):=by rw[N8,if_pos J]
theorem Of (l : List Tk) (n : Nar) (line : Int) (q : PS) : N8 l n line 2 q=({ n with fresh:=(frRd l q n.fresh).1 },(frRd l q n.fresh).2):=by rw[N8,if_neg (by decide),if_pos J]
theorem Qs (l : List Tk) (n : Nar) (line : Int) (q : PS) : N8 l n line 3 q=({ n with tags:=n.tags++(J2 l q).1 },(J2 l q).2):=by rw[N8,if_neg (by decide),if_neg (by decide),if_pos J]
theorem Pv (l : List Tk) (n : Nar) (line : Int) (q : PS) : N8 l n line 4 q=({ n with steps:=n.steps++[(Bq l line q).1] },(Bq l line q).2):=by rw[N8,if_neg (by decide),if_neg (by decide),if_neg (by decide),if_pos J]
theorem Rm (l : List Tk) (n : Nar) (line : Int) (q : PS) : N8 l n line 5 q=({ n with goals:=n.goals++[(Z4 l line q).1] },(Z4 l line q).2):=by rw[N8,if_neg (by decide),if_neg (by decide),if_neg (by decide),if_neg (by decide),if_pos J]
theorem Qk (l : List Tk) (n : Nar) (line : Int) (q : PS) {k : Int} (h1 : k≠1) (h2 : k≠2) (h3 : k≠3) (h4 : k≠4) (h5 : k≠5) : N8 l n line k q=(n,q):=by rw[N8,if_neg h1,if_neg h2,if_neg h3,if_neg h4,if_neg h5]
theorem O4 {l : List Tk} {n n' : Nar} {p q : PS} {line : Int} {k : Int} (hw : chR l X2 p=(k,q)) (hl : P7 l p=line) {r : PS} (h : N8 l n line k q=(n',r)) : Ae l n p=(n',E5 l [59] r):=by
 unfold Ae; rw[hl,hw]; dsimp only; rw[h]
theorem uBO (l : List Tk) (out : List Fs) : Fwd l (fun p=>frRd l p out):=fun p=>by
 have h:=(Qr l out p).1
 have h2:=Ko l out p
 dsimp only at h h2 ⊢
 rw[h]; exact h2
theorem uAl (l : List Tk) (line : Int) : Fwd l (Bq l line):=fun p=>by rw[(Og l line p).1]; exact Ib l line p
theorem uAo (l : List Tk) (line : Int) : Fwd l (Z4 l line):=fun p=>by rw[(Qc l line p).1]; exact Hf l line p
set_option maxHeartbeats 16000000 in
theorem Rw (l : List Tk) (p : PS) (n : Nar) (u1 u2 u3 u4 u5 : Value) (hl : l.length≤2000000) (hp : p.at'≤l.length) (hn : n.Le 2000000) :
  CtrO sysO 108 [.v (.agg (soC n u1 u2 u3 u4 u5)),xr l p] [soC n u1 u2 u3 u4 u5] osR (xnr l (Ae l n p)) [soC n u1 u2 u3 u4 u5] .res:=by
 have hrl:=Tk.rows_len l
 have hr1:=B4 n.roles
 have hr2:=B4 n.tags
 have hq1:=Ar (ws:=X2) hp
 obtain ⟨b1,b2,b3,b4,b5⟩:=hn
 obtain ⟨k,q,hk⟩ : ∃ k q,chR l X2 p=(k,q):=⟨_,_,rfl⟩
 have hns:=U8 l p X2 (by omega) (by omega)
 rw[hk] at hns hq1
 dsimp only at hns hq1
 have hnl : (J2 l q).1.length≤2000001:=by
  have h1:=Co (G4 l []) q
  have h2:=(R7 (G4 l []) q).2 hq1
  unfold J2; omega
 have hnr:=B4 (J2 l q).1
 have hq2 : (J2 l q).2.at'≤l.length:=(R7 (G4 l []) q).2 hq1
 have hq3 : (frRd l q n.fresh).2.at'≤l.length:=(uBO l n.fresh q).2 hq1
 have hq4 : ∀ line,(Bq l line q).2.at'≤l.length:=fun line=>(uAl l line q).2 hq1
 have hq5 : ∀ line,(Z4 l line q).2.at'≤l.length:=fun line=>(uAo l line q).2 hq1
 refine N4 Tryz.func108 J J J J J J J ?_;refine A8 (A6 ?_);refine C3 J (E2 J J J J) ?_;refine C3 J (E2 J J J J) ?_;refine C3 J (D7 J J J) ?_;refine C3 J (D7 J J J) ?_;refine B0 ?_;refine B5 (s:=⟨[(2,_,_),(3,_,_),(4,_,_),(5,_,_)],[(.l 2,_),(.l 3,_),(.l 4,_),(.l 5,_),(.o 0,_)],[(.b (.o 0) 1,_),(.b (.o 0) 2,_),(.b (.o 0) 3,_),(.b (.o 0) 4,_),(.b (.o 0) 5,_)],[]⟩) (B3 (⟨U J,U J,U J,U J,O⟩) (⟨U J,U J,U J,U J,U J,O⟩) (⟨rfl,rfl,rfl,rfl,rfl,O⟩)) ?_;refine I0 (.l 2) (.o 0) J J J J J ?_;refine B5 (s:=⟨[(2,_,_),(3,_,_),(4,_,_),(5,_,_)],[(.l 2,_),(.l 3,_),(.l 4,_),(.l 5,_),(.o 0,_)],[(.b (.l 2) 1,_),(.b (.l 2) 2,_),(.b (.l 2) 3,_),(.b (.l 2) 4,_),(.b (.l 2) 5,_)],[]⟩) (B3 (⟨U J,U J,U J,U J,O⟩) (⟨U J,U J,U J,U J,U J,O⟩) (⟨rfl,rfl,rfl,rfl,rfl,O⟩)) ?_;refine A8 (A6 ?_);refine A5 J J J (A9 J gU) ?_;refine B0 ?_;refine A8 ?_;refine A8 (A6 ?_);refine A5 J J J (B1 J gU J J) ?_;refine A5 J J J (B2 J gU J J J J) ?_;refine A5 J J J (B1 J gU J J) ?_
 refine A5 J J J (B2 J gU J J J J) ?_;refine E0 J J J J J gU J J ?_ (fun hh=>by simp at hh); intro hlen;refine A5 J J J (B6 J J gU gU J) ?_;refine B0 ?_;refine B5 (s:=⟨[(2,_,_),(3,_,_),(4,_,_),(5,_,_),(6,_,_),(14,_,_)],[(.l 2,_),(.l 3,_),(.l 4,_),(.l 5,_),(.o 0,_)],[(.b (.l 2) 1,_),(.b (.l 2) 2,_),(.b (.l 2) 3,_),(.b (.l 2) 4,_),(.b (.l 2) 5,_)],[]⟩) (B3 (⟨U J,U J,U J,U J,U J,U J,O⟩) (⟨U J,U J,U J,U J,U J,O⟩) (⟨rfl,rfl,rfl,rfl,rfl,O⟩)) ?_;refine B8 J (fun hcx=>?_) (fun hcx=>?_)
 ·try simp only [nn,B4,T.rows_len,Tk.rows_len] at hcx
  have hline : P7 l p=(l.getD p.at' tk0).line:=by rw[P7,if_pos (by omega)]
  refine A6 ?_;refine A5 J J J (B1 J gU J J) ?_;refine A5 J J J (B2 J gU J J J J) ?_;refine A5 J J J (B1 J gU J J) ?_;refine A5 J J J (B2 J gU J J J J) ?_;refine A5 J J J (C7 (j:=p.at') J J gU gU J J (by first|omega|(simp at hh ⊢; omega)) (fun hh=>Tk.rows_at (by first|omega|(simp at hh ⊢; omega)))) ?_;refine A5 J J J (F4 J gU J J) ?_;refine A5 J J J (E9 J gU J J J) ?_;refine A5 J J J (A9 J gU) ?_;refine B0 ?_;refine B5 (s:=⟨[(2,_,_),(3,_,_),(4,_,_),(5,_,_),(6,_,_)],[(.l 2,_),(.l 3,_),(.l 4,_),(.l 5,_),(.o 0,_)],[(.b (.l 2) 1,_),(.b (.l 2) 2,_),(.b (.l 2) 3,_),(.b (.l 2) 4,_),(.b (.l 2) 5,_)],[]⟩) (B3 (⟨U J,U J,U J,U J,U J,O⟩) (⟨U J,U J,U J,U J,U J,O⟩) (⟨rfl,rfl,rfl,rfl,rfl,O⟩)) ?_;refine A8 (A6 ?_);refine A5 J J J (B7 J gU J J J J J) ?_;refine E8 (xs:=[_,_,_,_,_,_]) J J J J J J J J J gU J ?_;refine C8 J J J J J J gU gU (up hns) J ?_;refine A5 J J J (A7 J gU) ?_;refine A5 J J J (C2 J gU J) ?_;refine A5 J J J (C2 J gU J) ?_
  refine A5 J J J (A9 J gU) ?_;refine C3 J (C9 J J J J J J J) ?_;refine B0 ?_;refine B5 (s:=⟨[(2,_,_),(3,_,_),(4,_,_),(5,_,_),(6,_,_),(7,_,_)],[(.l 2,_),(.l 3,_),(.l 4,_),(.l 5,_),(.o 0,_)],[(.b (.l 2) 1,_),(.b (.l 2) 2,_),(.b (.l 2) 3,_),(.b (.l 2) 4,_),(.b (.l 2) 5,_)],[]⟩) (B3 (⟨U J,U J,U J,U J,U J,U J,O⟩) (⟨U J,U J,U J,U J,U J,O⟩) (⟨rfl,rfl,rfl,rfl,rfl,O⟩)) ?_;refine A8 (A6 ?_);refine C3 J (H9 (.inr J) J J) ?_;refine B0 ?_;refine A8 ?_;refine A8 (A6 ?_);refine A5 J J J (A7 J gU) ?_;refine B0 ?_;refine C4 ?_;refine A8 (A6 ?_);refine A5 J J J (B6 J J gU gU J) ?_;refine A5 J J J (A9 J gU) ?_;refine B0 ?_;refine B8 J (fun hcu1=>?_) (fun hcu1=>?_)
  ·try simp only [nn,B4,T.rows_len,Tk.rows_len] at hcu1
   subst hcu1
   rw[O4 hk hline (Oa l n (l.getD p.at' tk0).line q)]
   refine A8 (A6 ?_);refine A5 J J J (B7 J gU J J J J J) ?_;refine C8 J J J J J J gU gU (up (T7 l q (by omega) hq1)) J ?_;refine A5 J J J (A7 J gU) ?_;refine A5 J J J (C2 J gU J) ?_;refine A5 J J J (C2 J gU J) ?_;refine A5 J J J (A9 J gU) ?_;refine C3 J (C9 J J J J J J J) ?_;refine B0 ?_;refine B5 (s:=⟨[(2,_,_),(3,_,_),(4,_,_),(5,_,_),(8,_,_)],[(.l 2,_),(.l 3,_),(.l 4,_),(.l 5,_),(.o 0,_)],[(.b (.l 2) 1,_),(.b (.l 2) 2,_),(.b (.l 2) 3,_),(.b (.l 2) 4,_),(.b (.l 2) 5,_)],[]⟩) (B3 (⟨U J,U J,U J,U J,U J,O⟩) (⟨U J,U J,U J,U J,U J,O⟩) (⟨rfl,rfl,rfl,rfl,rfl,O⟩)) ?_;refine A6 ?_;refine A5 J J J (B1 J gU J J) ?_;refine C3 J (J4 J J J J J J J) ?_;refine A5 J J J (A7 J gU) ?_;refine C3 J (G0 J J J J J J J (by first|omega|(simp only [List.length_append,List.length_singleton,B4]; omega)) (by first|omega|(simp only [List.length_append,List.length_singleton,B4]; omega))) ?_;refine A5 J J J (B1 J gU J J) ?_;refine C3 J (J3 J J J J J J J) ?_
   refine B0 ?_;refine B5 (s:=⟨[(2,_,_),(3,_,_),(4,_,_),(5,_,_)],[(.l 2,_),(.l 3,_),(.l 4,_),(.l 5,_),(.o 0,_)],[(.b (.l 2) 1,_),(.b (.l 2) 2,_),(.b (.l 2) 3,_),(.b (.l 2) 4,_),(.b (.l 2) 5,_)],[]⟩) (B3 (⟨U J,U J,U J,U J,O⟩) (⟨U J,U J,U J,U J,U J,O⟩) (⟨rfl,rfl,rfl,rfl,rfl,O⟩)) ?_;refine B5 (s:=⟨[(2,_,_),(3,_,_),(4,_,_),(5,_,_)],[(.l 2,_),(.l 3,_),(.l 4,_),(.l 5,_),(.o 0,_)],[(.b (.l 2) 1,_),(.b (.l 2) 2,_),(.b (.l 2) 3,_),(.b (.l 2) 4,_),(.b (.l 2) 5,_)],[]⟩) (B3 (⟨U J,U J,U J,U J,O⟩) (⟨U J,U J,U J,U J,U J,O⟩) (⟨rfl,rfl,rfl,rfl,rfl,O⟩)) ?_;refine H4 (.l 2) J (fun w1 w2 w3 w4 w5=>?_);refine B5 (s:=⟨[(2,_,_),(3,_,_),(4,_,_),(5,_,_)],[(.l 2,_),(.l 3,_),(.l 4,_),(.l 5,_),(.o 0,_)],[(.b (.l 2) 1,_),(.b (.l 2) 2,_),(.b (.l 2) 3,_),(.b (.l 2) 4,_),(.b (.l 2) 5,_)],[]⟩) (B3 (⟨U J,U J,U J,U J,O⟩) (⟨U J,U J,U J,U J,U J,O⟩) (⟨rfl,rfl,rfl,rfl,rfl,O⟩)) ?_;refine A8 ?_;refine awp_drawn' (by kernel_rfl) ?_;refine D5 J J J J J J J gU J J J J J ?_;refine D5 J J J J J J J gU J J J J J ?_
   refine F3 J J J J J J J gU gU (up (F1 l _ _ (by omega) (le3 hl (by first|assumption|(dsimp only; first|assumption|exact hq4 _|exact hq5 _))))) J ?_;refine E7 J J J J J J J J J J J J ?_;refine E7 J J J J J J J J J J J J ?_;refine F8 (by kernel_rfl) ?_;refine B5 (s:=⟨[(2,_,_),(4,_,_),(5,_,_)],[(.l 2,_),(.l 4,_),(.l 5,_),(.o 0,_)],[(.b (.l 2) 1,_),(.b (.l 2) 2,_),(.b (.l 2) 3,_),(.b (.l 2) 4,_),(.b (.l 2) 5,_)],[]⟩) (B3 (⟨U J,U J,U J,O⟩) (⟨U J,U J,U J,U J,O⟩) (⟨(ak J (ak J (ak J (ak J (ak J (rfl)))))),(ak J (ak J (ak J (ak J (ak J (rfl)))))),(ak J (ak J (ak J (ak J (ak J (rfl)))))),(ak J (ak J (ak J (ak J (ak J (rfl)))))),(ak J (ak J (ak J (ak J (ak J (rfl)))))),O⟩)) ?_;refine I0 (.l 4) (.l 2) J J J J J ?_;refine B5 (s:=⟨[(2,_,_),(4,_,_),(5,_,_)],[(.l 2,_),(.l 4,_),(.l 5,_),(.o 0,_)],[(.b (.l 4) 1,_),(.b (.l 4) 2,_),(.b (.l 4) 3,_),(.b (.l 4) 4,_),(.b (.l 4) 5,_)],[]⟩) (B3 (⟨U J,U J,U J,O⟩) (⟨U J,U J,U J,U J,O⟩) (⟨rfl,rfl,rfl,rfl,rfl,O⟩)) ?_;refine C1 ?_
   repeat(first|refine tR ?_|refine bR ?_)
   refine I8 J ?_ ⟨⟨_,rfl,rfl⟩,O⟩ (by simp) J J J J J J;exact congrArg (fun z=>X.tup [.agg (narC n.name z (Fs.rows n.fresh) (strR n.tags) (Sp.rows n.steps) (Gl.rows n.goals)), .agg (pbx l (E5 l [59] (J2 l q).2))]) (Bm _ _).symm
  ·try simp only [nn,B4,T.rows_len,Tk.rows_len] at hcu1
   refine A8 (A6 ?_);refine A5 J J J (B6 J J gU gU J) ?_;refine A5 J J J (A9 J gU) ?_;refine B0 ?_;refine B5 (s:=⟨[(2,_,_),(3,_,_),(4,_,_),(5,_,_),(6,_,_),(28,_,_),(41,_,_)],[(.l 2,_),(.l 3,_),(.l 4,_),(.l 5,_),(.o 0,_)],[(.b (.l 2) 1,_),(.b (.l 2) 2,_),(.b (.l 2) 3,_),(.b (.l 2) 4,_),(.b (.l 2) 5,_)],[]⟩) (B3 (⟨U J,U J,U J,U J,U J,U J,U J,O⟩) (⟨U J,U J,U J,U J,U J,O⟩) (⟨rfl,rfl,rfl,rfl,rfl,O⟩)) ?_;refine B8 J (fun hcu2=>?_) (fun hcu2=>?_)
   ·try simp only [nn,B4,T.rows_len,Tk.rows_len] at hcu2
    subst hcu2
    rw[O4 hk hline (Of l n (l.getD p.at' tk0).line q)]
    refine B5 (s:=⟨[(2,_,_),(3,_,_),(4,_,_),(5,_,_)],[(.l 2,_),(.l 3,_),(.l 4,_),(.l 5,_),(.o 0,_)],[(.b (.l 2) 1,_),(.b (.l 2) 2,_),(.b (.l 2) 3,_),(.b (.l 2) 4,_),(.b (.l 2) 5,_)],[]⟩) (B3 (⟨U J,U J,U J,U J,O⟩) (⟨U J,U J,U J,U J,U J,O⟩) (⟨rfl,rfl,rfl,rfl,rfl,O⟩)) ?_;refine H4 (.l 2) J (fun w1 w2 w3 w4 w5=>?_);refine B5 (s:=⟨[(2,_,_),(3,_,_),(4,_,_),(5,_,_)],[(.l 2,_),(.l 3,_),(.l 4,_),(.l 5,_),(.o 0,_)],[(.b (.l 2) 1,_),(.b (.l 2) 2,_),(.b (.l 2) 3,_),(.b (.l 2) 4,_),(.b (.l 2) 5,_)],[]⟩) (B3 (⟨U J,U J,U J,U J,O⟩) (⟨U J,U J,U J,U J,U J,O⟩) (⟨rfl,rfl,rfl,rfl,rfl,O⟩)) ?_;refine A6 ?_;refine A5 J J J (B7 J gU J J J J J) ?_;refine A5 J J J (B7 J gU J J J J J) ?_;refine X8 (.l 2) (.l 3) osR J J J J J J ⟨rfl,rfl,rfl,rfl,rfl,rfl⟩ ⟨rfl,rfl,rfl,rfl,rfl,rfl⟩ J J J J J J J J J ⟨rfl,rfl⟩ J (Bp l q n w1 w2 w3 w4 w5 hl hq1 (by omega)) J J J J J J J J ?_;refine B0 ?_;refine B5 (s:=⟨[(2,_,_),(3,_,_),(4,_,_),(5,_,_)],[(.l 2,_),(.l 3,_),(.l 4,_),(.l 5,_),(.o 0,_)],[(.b (.l 2) 1,_),(.b (.l 2) 2,_),(.b (.l 2) 3,_),(.b (.l 2) 4,_),(.b (.l 2) 5,_)],[]⟩) (B3 (⟨U J,U J,U J,U J,O⟩) (⟨U J,U J,U J,U J,U J,O⟩) (⟨rfl,rfl,rfl,rfl,rfl,O⟩)) ?_
    refine B5 (s:=⟨[(2,_,_),(3,_,_),(4,_,_),(5,_,_)],[(.l 2,_),(.l 3,_),(.l 4,_),(.l 5,_),(.o 0,_)],[(.b (.l 2) 1,_),(.b (.l 2) 2,_),(.b (.l 2) 3,_),(.b (.l 2) 4,_),(.b (.l 2) 5,_)],[]⟩) (B3 (⟨U J,U J,U J,U J,O⟩) (⟨U J,U J,U J,U J,U J,O⟩) (⟨rfl,rfl,rfl,rfl,rfl,O⟩)) ?_;refine H4 (.l 2) J (fun w1 w2 w3 w4 w5=>?_);refine B5 (s:=⟨[(2,_,_),(3,_,_),(4,_,_),(5,_,_)],[(.l 2,_),(.l 3,_),(.l 4,_),(.l 5,_),(.o 0,_)],[(.b (.l 2) 1,_),(.b (.l 2) 2,_),(.b (.l 2) 3,_),(.b (.l 2) 4,_),(.b (.l 2) 5,_)],[]⟩) (B3 (⟨U J,U J,U J,U J,O⟩) (⟨U J,U J,U J,U J,U J,O⟩) (⟨rfl,rfl,rfl,rfl,rfl,O⟩)) ?_;refine A8 ?_;refine awp_drawn' (by kernel_rfl) ?_;refine D5 J J J J J J J gU J J J J J ?_;refine D5 J J J J J J J gU J J J J J ?_;refine F3 J J J J J J J gU gU (up (F1 l _ _ (by omega) (le3 hl (by first|assumption|(dsimp only; first|assumption|exact hq4 _|exact hq5 _))))) J ?_;refine E7 J J J J J J J J J J J J ?_;refine E7 J J J J J J J J J J J J ?_;refine F8 (by kernel_rfl) ?_;refine B5 (s:=⟨[(2,_,_),(4,_,_),(5,_,_)],[(.l 2,_),(.l 4,_),(.l 5,_),(.o 0,_)],[(.b (.l 2) 1,_),(.b (.l 2) 2,_),(.b (.l 2) 3,_),(.b (.l 2) 4,_),(.b (.l 2) 5,_)],[]⟩) (B3 (⟨U J,U J,U J,O⟩) (⟨U J,U J,U J,U J,O⟩) (⟨(ak J (ak J (ak J (ak J (ak J (rfl)))))),(ak J (ak J (ak J (ak J (ak J (rfl)))))),(ak J (ak J (ak J (ak J (ak J (rfl)))))),(ak J (ak J (ak J (ak J (ak J (rfl)))))),(ak J (ak J (ak J (ak J (ak J (rfl)))))),O⟩)) ?_
    refine I0 (.l 4) (.l 2) J J J J J ?_;refine B5 (s:=⟨[(2,_,_),(4,_,_),(5,_,_)],[(.l 2,_),(.l 4,_),(.l 5,_),(.o 0,_)],[(.b (.l 4) 1,_),(.b (.l 4) 2,_),(.b (.l 4) 3,_),(.b (.l 4) 4,_),(.b (.l 4) 5,_)],[]⟩) (B3 (⟨U J,U J,U J,O⟩) (⟨U J,U J,U J,U J,O⟩) (⟨rfl,rfl,rfl,rfl,rfl,O⟩)) ?_;refine C1 ?_
    repeat(first|refine tR ?_|refine bR ?_)
    refine I8 J ?_ ⟨⟨_,rfl,rfl⟩,O⟩ (by simp) J J J J J J
    rfl
   ·try simp only [nn,B4,T.rows_len,Tk.rows_len] at hcu2
    refine A8 (A6 ?_);refine A5 J J J (B6 J J gU gU J) ?_;refine A5 J J J (A9 J gU) ?_;refine B0 ?_;refine B8 J (fun hcu3=>?_) (fun hcu3=>?_)
    ·try simp only [nn,B4,T.rows_len,Tk.rows_len] at hcu3
     subst hcu3
     rw[O4 hk hline (Qs l n (l.getD p.at' tk0).line q)]
     refine A8 (A6 ?_);refine A5 J J J (B7 J gU J J J J J) ?_;refine C8 J J J J J J gU gU (up (T7 l q (by omega) hq1)) J ?_;refine A5 J J J (A7 J gU) ?_;refine A5 J J J (C2 J gU J) ?_;refine A5 J J J (C2 J gU J) ?_;refine A5 J J J (A9 J gU) ?_;refine C3 J (C9 J J J J J J J) ?_;refine B0 ?_;refine B5 (s:=⟨[(2,_,_),(3,_,_),(4,_,_),(5,_,_),(8,_,_)],[(.l 2,_),(.l 3,_),(.l 4,_),(.l 5,_),(.o 0,_)],[(.b (.l 2) 1,_),(.b (.l 2) 2,_),(.b (.l 2) 3,_),(.b (.l 2) 4,_),(.b (.l 2) 5,_)],[]⟩) (B3 (⟨U J,U J,U J,U J,U J,O⟩) (⟨U J,U J,U J,U J,U J,O⟩) (⟨rfl,rfl,rfl,rfl,rfl,O⟩)) ?_;refine A6 ?_;refine A5 J J J (B1 J gU J J) ?_;refine C3 J (J4 J J J J J J J) ?_;refine A5 J J J (A7 J gU) ?_;refine C3 J (G0 J J J J J J J (by first|omega|(simp only [List.length_append,List.length_singleton,B4]; omega)) (by first|omega|(simp only [List.length_append,List.length_singleton,B4]; omega))) ?_;refine A5 J J J (B1 J gU J J) ?_;refine C3 J (J3 J J J J J J J) ?_
     refine B0 ?_;refine B5 (s:=⟨[(2,_,_),(3,_,_),(4,_,_),(5,_,_)],[(.l 2,_),(.l 3,_),(.l 4,_),(.l 5,_),(.o 0,_)],[(.b (.l 2) 1,_),(.b (.l 2) 2,_),(.b (.l 2) 3,_),(.b (.l 2) 4,_),(.b (.l 2) 5,_)],[]⟩) (B3 (⟨U J,U J,U J,U J,O⟩) (⟨U J,U J,U J,U J,U J,O⟩) (⟨rfl,rfl,rfl,rfl,rfl,O⟩)) ?_;refine B5 (s:=⟨[(2,_,_),(3,_,_),(4,_,_),(5,_,_)],[(.l 2,_),(.l 3,_),(.l 4,_),(.l 5,_),(.o 0,_)],[(.b (.l 2) 1,_),(.b (.l 2) 2,_),(.b (.l 2) 3,_),(.b (.l 2) 4,_),(.b (.l 2) 5,_)],[]⟩) (B3 (⟨U J,U J,U J,U J,O⟩) (⟨U J,U J,U J,U J,U J,O⟩) (⟨rfl,rfl,rfl,rfl,rfl,O⟩)) ?_;refine H4 (.l 2) J (fun w1 w2 w3 w4 w5=>?_);refine B5 (s:=⟨[(2,_,_),(3,_,_),(4,_,_),(5,_,_)],[(.l 2,_),(.l 3,_),(.l 4,_),(.l 5,_),(.o 0,_)],[(.b (.l 2) 1,_),(.b (.l 2) 2,_),(.b (.l 2) 3,_),(.b (.l 2) 4,_),(.b (.l 2) 5,_)],[]⟩) (B3 (⟨U J,U J,U J,U J,O⟩) (⟨U J,U J,U J,U J,U J,O⟩) (⟨rfl,rfl,rfl,rfl,rfl,O⟩)) ?_;refine A8 ?_;refine awp_drawn' (by kernel_rfl) ?_;refine D5 J J J J J J J gU J J J J J ?_;refine D5 J J J J J J J gU J J J J J ?_
     refine F3 J J J J J J J gU gU (up (F1 l _ _ (by omega) (le3 hl (by first|assumption|(dsimp only; first|assumption|exact hq4 _|exact hq5 _))))) J ?_;refine E7 J J J J J J J J J J J J ?_;refine E7 J J J J J J J J J J J J ?_;refine F8 (by kernel_rfl) ?_;refine B5 (s:=⟨[(2,_,_),(4,_,_),(5,_,_)],[(.l 2,_),(.l 4,_),(.l 5,_),(.o 0,_)],[(.b (.l 2) 1,_),(.b (.l 2) 2,_),(.b (.l 2) 3,_),(.b (.l 2) 4,_),(.b (.l 2) 5,_)],[]⟩) (B3 (⟨U J,U J,U J,O⟩) (⟨U J,U J,U J,U J,O⟩) (⟨(ak J (ak J (ak J (ak J (ak J (rfl)))))),(ak J (ak J (ak J (ak J (ak J (rfl)))))),(ak J (ak J (ak J (ak J (ak J (rfl)))))),(ak J (ak J (ak J (ak J (ak J (rfl)))))),(ak J (ak J (ak J (ak J (ak J (rfl)))))),O⟩)) ?_;refine I0 (.l 4) (.l 2) J J J J J ?_;refine B5 (s:=⟨[(2,_,_),(4,_,_),(5,_,_)],[(.l 2,_),(.l 4,_),(.l 5,_),(.o 0,_)],[(.b (.l 4) 1,_),(.b (.l 4) 2,_),(.b (.l 4) 3,_),(.b (.l 4) 4,_),(.b (.l 4) 5,_)],[]⟩) (B3 (⟨U J,U J,U J,O⟩) (⟨U J,U J,U J,U J,O⟩) (⟨rfl,rfl,rfl,rfl,rfl,O⟩)) ?_;refine C1 ?_
     repeat(first|refine tR ?_|refine bR ?_)
     refine I8 J ?_ ⟨⟨_,rfl,rfl⟩,O⟩ (by simp) J J J J J J;exact congrArg (fun z=>X.tup [.agg (narC n.name (strR n.roles) (Fs.rows n.fresh) z (Sp.rows n.steps) (Gl.rows n.goals)), .agg (pbx l (E5 l [59] (J2 l q).2))]) (Bm _ _).symm
    ·try simp only [nn,B4,T.rows_len,Tk.rows_len] at hcu3
     refine A8 (A6 ?_);refine A5 J J J (B6 J J gU gU J) ?_;refine A5 J J J (A9 J gU) ?_;refine B0 ?_;refine B8 J (fun hcu4=>?_) (fun hcu4=>?_)
     ·try simp only [nn,B4,T.rows_len,Tk.rows_len] at hcu4
      subst hcu4
      rw[O4 hk hline (Pv l n (l.getD p.at' tk0).line q)]
      refine B5 (s:=⟨[(2,_,_),(3,_,_),(4,_,_),(5,_,_),(6,_,_)],[(.l 2,_),(.l 3,_),(.l 4,_),(.l 5,_),(.o 0,_)],[(.b (.l 2) 1,_),(.b (.l 2) 2,_),(.b (.l 2) 3,_),(.b (.l 2) 4,_),(.b (.l 2) 5,_)],[]⟩) (B3 (⟨U J,U J,U J,U J,U J,O⟩) (⟨U J,U J,U J,U J,U J,O⟩) (⟨rfl,rfl,rfl,rfl,rfl,O⟩)) ?_;refine H4 (.l 2) J (fun w1 w2 w3 w4 w5=>?_);refine B5 (s:=⟨[(2,_,_),(3,_,_),(4,_,_),(5,_,_),(6,_,_)],[(.l 2,_),(.l 3,_),(.l 4,_),(.l 5,_),(.o 0,_)],[(.b (.l 2) 1,_),(.b (.l 2) 2,_),(.b (.l 2) 3,_),(.b (.l 2) 4,_),(.b (.l 2) 5,_)],[]⟩) (B3 (⟨U J,U J,U J,U J,U J,O⟩) (⟨U J,U J,U J,U J,U J,O⟩) (⟨rfl,rfl,rfl,rfl,rfl,O⟩)) ?_;refine A6 ?_;refine A5 J J J (B7 J gU J J J J J) ?_;refine A5 J J J (B7 J gU J J J J J) ?_;refine A5 J J J (A7 J gU) ?_;refine X8 (.l 2) (.l 3) osR J J J J J J ⟨rfl,rfl,rfl,rfl,rfl,rfl⟩ ⟨rfl,rfl,rfl,rfl,rfl,rfl⟩ J J J J J J J J J ⟨rfl,rfl⟩ J (Cs l q n ((l.getD p.at' tk0).line) w1 w2 w3 w4 w5 hl hq1 (by omega)) J J J J J J J J ?_;refine B0 ?_;refine B5 (s:=⟨[(2,_,_),(3,_,_),(4,_,_),(5,_,_)],[(.l 2,_),(.l 3,_),(.l 4,_),(.l 5,_),(.o 0,_)],[(.b (.l 2) 1,_),(.b (.l 2) 2,_),(.b (.l 2) 3,_),(.b (.l 2) 4,_),(.b (.l 2) 5,_)],[]⟩) (B3 (⟨U J,U J,U J,U J,O⟩) (⟨U J,U J,U J,U J,U J,O⟩) (⟨rfl,rfl,rfl,rfl,rfl,O⟩)) ?_
      refine B5 (s:=⟨[(2,_,_),(3,_,_),(4,_,_),(5,_,_)],[(.l 2,_),(.l 3,_),(.l 4,_),(.l 5,_),(.o 0,_)],[(.b (.l 2) 1,_),(.b (.l 2) 2,_),(.b (.l 2) 3,_),(.b (.l 2) 4,_),(.b (.l 2) 5,_)],[]⟩) (B3 (⟨U J,U J,U J,U J,O⟩) (⟨U J,U J,U J,U J,U J,O⟩) (⟨rfl,rfl,rfl,rfl,rfl,O⟩)) ?_;refine H4 (.l 2) J (fun w1 w2 w3 w4 w5=>?_);refine B5 (s:=⟨[(2,_,_),(3,_,_),(4,_,_),(5,_,_)],[(.l 2,_),(.l 3,_),(.l 4,_),(.l 5,_),(.o 0,_)],[(.b (.l 2) 1,_),(.b (.l 2) 2,_),(.b (.l 2) 3,_),(.b (.l 2) 4,_),(.b (.l 2) 5,_)],[]⟩) (B3 (⟨U J,U J,U J,U J,O⟩) (⟨U J,U J,U J,U J,U J,O⟩) (⟨rfl,rfl,rfl,rfl,rfl,O⟩)) ?_;refine A8 ?_;refine awp_drawn' (by kernel_rfl) ?_;refine D5 J J J J J J J gU J J J J J ?_;refine D5 J J J J J J J gU J J J J J ?_;refine F3 J J J J J J J gU gU (up (F1 l _ _ (by omega) (le3 hl (by first|assumption|(dsimp only; first|assumption|exact hq4 _|exact hq5 _))))) J ?_;refine E7 J J J J J J J J J J J J ?_;refine E7 J J J J J J J J J J J J ?_;refine F8 (by kernel_rfl) ?_;refine B5 (s:=⟨[(2,_,_),(4,_,_),(5,_,_)],[(.l 2,_),(.l 4,_),(.l 5,_),(.o 0,_)],[(.b (.l 2) 1,_),(.b (.l 2) 2,_),(.b (.l 2) 3,_),(.b (.l 2) 4,_),(.b (.l 2) 5,_)],[]⟩) (B3 (⟨U J,U J,U J,O⟩) (⟨U J,U J,U J,U J,O⟩) (⟨(ak J (ak J (ak J (ak J (ak J (rfl)))))),(ak J (ak J (ak J (ak J (ak J (rfl)))))),(ak J (ak J (ak J (ak J (ak J (rfl)))))),(ak J (ak J (ak J (ak J (ak J (rfl)))))),(ak J (ak J (ak J (ak J (ak J (rfl)))))),O⟩)) ?_
      refine I0 (.l 4) (.l 2) J J J J J ?_;refine B5 (s:=⟨[(2,_,_),(4,_,_),(5,_,_)],[(.l 2,_),(.l 4,_),(.l 5,_),(.o 0,_)],[(.b (.l 4) 1,_),(.b (.l 4) 2,_),(.b (.l 4) 3,_),(.b (.l 4) 4,_),(.b (.l 4) 5,_)],[]⟩) (B3 (⟨U J,U J,U J,O⟩) (⟨U J,U J,U J,U J,O⟩) (⟨rfl,rfl,rfl,rfl,rfl,O⟩)) ?_;refine C1 ?_
      repeat(first|refine tR ?_|refine bR ?_)
      refine I8 J ?_ ⟨⟨_,rfl,rfl⟩,O⟩ (by simp) J J J J J J
      rfl
     ·try simp only [nn,B4,T.rows_len,Tk.rows_len] at hcu4
      refine A8 (A6 ?_);refine A5 J J J (B6 J J gU gU J) ?_;refine A5 J J J (A9 J gU) ?_;refine B0 ?_;refine B5 (s:=⟨[(2,_,_),(3,_,_),(4,_,_),(5,_,_),(6,_,_),(70,_,_)],[(.l 2,_),(.l 3,_),(.l 4,_),(.l 5,_),(.o 0,_)],[(.b (.l 2) 1,_),(.b (.l 2) 2,_),(.b (.l 2) 3,_),(.b (.l 2) 4,_),(.b (.l 2) 5,_)],[]⟩) (B3 (⟨U J,U J,U J,U J,U J,U J,O⟩) (⟨U J,U J,U J,U J,U J,O⟩) (⟨rfl,rfl,rfl,rfl,rfl,O⟩)) ?_;refine B8 J (fun hcu5=>?_) (fun hcu5=>?_)
      ·try simp only [nn,B4,T.rows_len,Tk.rows_len] at hcu5
       subst hcu5
       rw[O4 hk hline (Rm l n (l.getD p.at' tk0).line q)]
       refine B5 (s:=⟨[(2,_,_),(3,_,_),(4,_,_),(5,_,_),(6,_,_)],[(.l 2,_),(.l 3,_),(.l 4,_),(.l 5,_),(.o 0,_)],[(.b (.l 2) 1,_),(.b (.l 2) 2,_),(.b (.l 2) 3,_),(.b (.l 2) 4,_),(.b (.l 2) 5,_)],[]⟩) (B3 (⟨U J,U J,U J,U J,U J,O⟩) (⟨U J,U J,U J,U J,U J,O⟩) (⟨rfl,rfl,rfl,rfl,rfl,O⟩)) ?_;refine H4 (.l 2) J (fun w1 w2 w3 w4 w5=>?_);refine B5 (s:=⟨[(2,_,_),(3,_,_),(4,_,_),(5,_,_),(6,_,_)],[(.l 2,_),(.l 3,_),(.l 4,_),(.l 5,_),(.o 0,_)],[(.b (.l 2) 1,_),(.b (.l 2) 2,_),(.b (.l 2) 3,_),(.b (.l 2) 4,_),(.b (.l 2) 5,_)],[]⟩) (B3 (⟨U J,U J,U J,U J,U J,O⟩) (⟨U J,U J,U J,U J,U J,O⟩) (⟨rfl,rfl,rfl,rfl,rfl,O⟩)) ?_;refine A6 ?_;refine A5 J J J (B7 J gU J J J J J) ?_;refine A5 J J J (B7 J gU J J J J J) ?_;refine A5 J J J (A7 J gU) ?_;refine X8 (.l 2) (.l 3) osR J J J J J J ⟨rfl,rfl,rfl,rfl,rfl,rfl⟩ ⟨rfl,rfl,rfl,rfl,rfl,rfl⟩ J J J J J J J J J ⟨rfl,rfl⟩ J (Cw l q n ((l.getD p.at' tk0).line) w1 w2 w3 w4 w5 hl hq1 (by omega)) J J J J J J J J ?_;refine B0 ?_;refine B5 (s:=⟨[(2,_,_),(3,_,_),(4,_,_),(5,_,_)],[(.l 2,_),(.l 3,_),(.l 4,_),(.l 5,_),(.o 0,_)],[(.b (.l 2) 1,_),(.b (.l 2) 2,_),(.b (.l 2) 3,_),(.b (.l 2) 4,_),(.b (.l 2) 5,_)],[]⟩) (B3 (⟨U J,U J,U J,U J,O⟩) (⟨U J,U J,U J,U J,U J,O⟩) (⟨rfl,rfl,rfl,rfl,rfl,O⟩)) ?_
       refine B5 (s:=⟨[(2,_,_),(3,_,_),(4,_,_),(5,_,_)],[(.l 2,_),(.l 3,_),(.l 4,_),(.l 5,_),(.o 0,_)],[(.b (.l 2) 1,_),(.b (.l 2) 2,_),(.b (.l 2) 3,_),(.b (.l 2) 4,_),(.b (.l 2) 5,_)],[]⟩) (B3 (⟨U J,U J,U J,U J,O⟩) (⟨U J,U J,U J,U J,U J,O⟩) (⟨rfl,rfl,rfl,rfl,rfl,O⟩)) ?_;refine H4 (.l 2) J (fun w1 w2 w3 w4 w5=>?_);refine B5 (s:=⟨[(2,_,_),(3,_,_),(4,_,_),(5,_,_)],[(.l 2,_),(.l 3,_),(.l 4,_),(.l 5,_),(.o 0,_)],[(.b (.l 2) 1,_),(.b (.l 2) 2,_),(.b (.l 2) 3,_),(.b (.l 2) 4,_),(.b (.l 2) 5,_)],[]⟩) (B3 (⟨U J,U J,U J,U J,O⟩) (⟨U J,U J,U J,U J,U J,O⟩) (⟨rfl,rfl,rfl,rfl,rfl,O⟩)) ?_;refine A8 ?_;refine awp_drawn' (by kernel_rfl) ?_;refine D5 J J J J J J J gU J J J J J ?_;refine D5 J J J J J J J gU J J J J J ?_;refine F3 J J J J J J J gU gU (up (F1 l _ _ (by omega) (le3 hl (by first|assumption|(dsimp only; first|assumption|exact hq4 _|exact hq5 _))))) J ?_;refine E7 J J J J J J J J J J J J ?_;refine E7 J J J J J J J J J J J J ?_;refine F8 (by kernel_rfl) ?_;refine B5 (s:=⟨[(2,_,_),(4,_,_),(5,_,_)],[(.l 2,_),(.l 4,_),(.l 5,_),(.o 0,_)],[(.b (.l 2) 1,_),(.b (.l 2) 2,_),(.b (.l 2) 3,_),(.b (.l 2) 4,_),(.b (.l 2) 5,_)],[]⟩) (B3 (⟨U J,U J,U J,O⟩) (⟨U J,U J,U J,U J,O⟩) (⟨(ak J (ak J (ak J (ak J (ak J (rfl)))))),(ak J (ak J (ak J (ak J (ak J (rfl)))))),(ak J (ak J (ak J (ak J (ak J (rfl)))))),(ak J (ak J (ak J (ak J (ak J (rfl)))))),(ak J (ak J (ak J (ak J (ak J (rfl)))))),O⟩)) ?_
       refine I0 (.l 4) (.l 2) J J J J J ?_;refine B5 (s:=⟨[(2,_,_),(4,_,_),(5,_,_)],[(.l 2,_),(.l 4,_),(.l 5,_),(.o 0,_)],[(.b (.l 4) 1,_),(.b (.l 4) 2,_),(.b (.l 4) 3,_),(.b (.l 4) 4,_),(.b (.l 4) 5,_)],[]⟩) (B3 (⟨U J,U J,U J,O⟩) (⟨U J,U J,U J,U J,O⟩) (⟨rfl,rfl,rfl,rfl,rfl,O⟩)) ?_;refine C1 ?_
       repeat(first|refine tR ?_|refine bR ?_)
       refine I8 J ?_ ⟨⟨_,rfl,rfl⟩,O⟩ (by simp) J J J J J J
       rfl
      ·try simp only [nn,B4,T.rows_len,Tk.rows_len] at hcu5
       rw[O4 hk hline (Qk l n (l.getD p.at' tk0).line q hcu1 hcu2 hcu3 hcu4 hcu5)]
       refine C0 ?_;refine B5 (s:=⟨[(2,_,_),(3,_,_),(4,_,_),(5,_,_)],[(.l 2,_),(.l 3,_),(.l 4,_),(.l 5,_),(.o 0,_)],[(.b (.l 2) 1,_),(.b (.l 2) 2,_),(.b (.l 2) 3,_),(.b (.l 2) 4,_),(.b (.l 2) 5,_)],[]⟩) (B3 (⟨U J,U J,U J,U J,O⟩) (⟨U J,U J,U J,U J,U J,O⟩) (⟨rfl,rfl,rfl,rfl,rfl,O⟩)) ?_;refine H4 (.l 2) J (fun w1 w2 w3 w4 w5=>?_);refine B5 (s:=⟨[(2,_,_),(3,_,_),(4,_,_),(5,_,_)],[(.l 2,_),(.l 3,_),(.l 4,_),(.l 5,_),(.o 0,_)],[(.b (.l 2) 1,_),(.b (.l 2) 2,_),(.b (.l 2) 3,_),(.b (.l 2) 4,_),(.b (.l 2) 5,_)],[]⟩) (B3 (⟨U J,U J,U J,U J,O⟩) (⟨U J,U J,U J,U J,U J,O⟩) (⟨rfl,rfl,rfl,rfl,rfl,O⟩)) ?_;refine A8 ?_;refine awp_drawn' (by kernel_rfl) ?_;refine D5 J J J J J J J gU J J J J J ?_;refine D5 J J J J J J J gU J J J J J ?_;refine F3 J J J J J J J gU gU (up (F1 l _ _ (by omega) (le3 hl (by first|assumption|(dsimp only; first|assumption|exact hq4 _|exact hq5 _))))) J ?_;refine E7 J J J J J J J J J J J J ?_;refine E7 J J J J J J J J J J J J ?_;refine F8 (by kernel_rfl) ?_;refine B5 (s:=⟨[(2,_,_),(4,_,_),(5,_,_)],[(.l 2,_),(.l 4,_),(.l 5,_),(.o 0,_)],[(.b (.l 2) 1,_),(.b (.l 2) 2,_),(.b (.l 2) 3,_),(.b (.l 2) 4,_),(.b (.l 2) 5,_)],[]⟩) (B3 (⟨U J,U J,U J,O⟩) (⟨U J,U J,U J,U J,O⟩) (⟨(ak J (ak J (ak J (ak J (ak J (rfl)))))),(ak J (ak J (ak J (ak J (ak J (rfl)))))),(ak J (ak J (ak J (ak J (ak J (rfl)))))),(ak J (ak J (ak J (ak J (ak J (rfl)))))),(ak J (ak J (ak J (ak J (ak J (rfl)))))),O⟩)) ?_
       refine I0 (.l 4) (.l 2) J J J J J ?_;refine B5 (s:=⟨[(2,_,_),(4,_,_),(5,_,_)],[(.l 2,_),(.l 4,_),(.l 5,_),(.o 0,_)],[(.b (.l 4) 1,_),(.b (.l 4) 2,_),(.b (.l 4) 3,_),(.b (.l 4) 4,_),(.b (.l 4) 5,_)],[]⟩) (B3 (⟨U J,U J,U J,O⟩) (⟨U J,U J,U J,U J,O⟩) (⟨rfl,rfl,rfl,rfl,rfl,O⟩)) ?_;refine C1 ?_
       repeat(first|refine tR ?_|refine bR ?_)
       refine I8 J ?_ ⟨⟨_,rfl,rfl⟩,O⟩ (by simp) J J J J J J
       rfl
 ·try simp only [nn,B4,T.rows_len,Tk.rows_len] at hcx
  have hline : P7 l p=0:=by rw[P7,if_neg (by omega)]
  refine C0 ?_;refine A8 (A6 ?_);refine A5 J J J (B7 J gU J J J J J) ?_;refine E8 (xs:=[_,_,_,_,_,_]) J J J J J J J J J gU J ?_;refine C8 J J J J J J gU gU (up hns) J ?_;refine A5 J J J (A7 J gU) ?_;refine A5 J J J (C2 J gU J) ?_;refine A5 J J J (C2 J gU J) ?_;refine A5 J J J (A9 J gU) ?_;refine C3 J (C9 J J J J J J J) ?_;refine B0 ?_;refine B5 (s:=⟨[(2,_,_),(3,_,_),(4,_,_),(5,_,_),(6,_,_),(7,_,_)],[(.l 2,_),(.l 3,_),(.l 4,_),(.l 5,_),(.o 0,_)],[(.b (.l 2) 1,_),(.b (.l 2) 2,_),(.b (.l 2) 3,_),(.b (.l 2) 4,_),(.b (.l 2) 5,_)],[]⟩) (B3 (⟨U J,U J,U J,U J,U J,U J,O⟩) (⟨U J,U J,U J,U J,U J,O⟩) (⟨rfl,rfl,rfl,rfl,rfl,O⟩)) ?_;refine A8 (A6 ?_);refine C3 J (H9 (.inr J) J J) ?_;refine B0 ?_;refine A8 ?_;refine A8 (A6 ?_);refine A5 J J J (A7 J gU) ?_;refine B0 ?_;refine C4 ?_;refine A8 (A6 ?_);refine A5 J J J (B6 J J gU gU J) ?_;refine A5 J J J (A9 J gU) ?_;refine B0 ?_;refine B8 J (fun hcv1=>?_) (fun hcv1=>?_)
  ·try simp only [nn,B4,T.rows_len,Tk.rows_len] at hcv1
   subst hcv1
   rw[O4 hk hline (Oa l n 0 q)]
   refine A8 (A6 ?_);refine A5 J J J (B7 J gU J J J J J) ?_;refine C8 J J J J J J gU gU (up (T7 l q (by omega) hq1)) J ?_;refine A5 J J J (A7 J gU) ?_;refine A5 J J J (C2 J gU J) ?_;refine A5 J J J (C2 J gU J) ?_;refine A5 J J J (A9 J gU) ?_;refine C3 J (C9 J J J J J J J) ?_;refine B0 ?_;refine B5 (s:=⟨[(2,_,_),(3,_,_),(4,_,_),(5,_,_),(8,_,_)],[(.l 2,_),(.l 3,_),(.l 4,_),(.l 5,_),(.o 0,_)],[(.b (.l 2) 1,_),(.b (.l 2) 2,_),(.b (.l 2) 3,_),(.b (.l 2) 4,_),(.b (.l 2) 5,_)],[]⟩) (B3 (⟨U J,U J,U J,U J,U J,O⟩) (⟨U J,U J,U J,U J,U J,O⟩) (⟨rfl,rfl,rfl,rfl,rfl,O⟩)) ?_;refine A6 ?_;refine A5 J J J (B1 J gU J J) ?_;refine C3 J (J4 J J J J J J J) ?_;refine A5 J J J (A7 J gU) ?_;refine C3 J (G0 J J J J J J J (by first|omega|(simp only [List.length_append,List.length_singleton,B4]; omega)) (by first|omega|(simp only [List.length_append,List.length_singleton,B4]; omega))) ?_;refine A5 J J J (B1 J gU J J) ?_;refine C3 J (J3 J J J J J J J) ?_
   refine B0 ?_;refine B5 (s:=⟨[(2,_,_),(3,_,_),(4,_,_),(5,_,_)],[(.l 2,_),(.l 3,_),(.l 4,_),(.l 5,_),(.o 0,_)],[(.b (.l 2) 1,_),(.b (.l 2) 2,_),(.b (.l 2) 3,_),(.b (.l 2) 4,_),(.b (.l 2) 5,_)],[]⟩) (B3 (⟨U J,U J,U J,U J,O⟩) (⟨U J,U J,U J,U J,U J,O⟩) (⟨rfl,rfl,rfl,rfl,rfl,O⟩)) ?_;refine B5 (s:=⟨[(2,_,_),(3,_,_),(4,_,_),(5,_,_)],[(.l 2,_),(.l 3,_),(.l 4,_),(.l 5,_),(.o 0,_)],[(.b (.l 2) 1,_),(.b (.l 2) 2,_),(.b (.l 2) 3,_),(.b (.l 2) 4,_),(.b (.l 2) 5,_)],[]⟩) (B3 (⟨U J,U J,U J,U J,O⟩) (⟨U J,U J,U J,U J,U J,O⟩) (⟨rfl,rfl,rfl,rfl,rfl,O⟩)) ?_;refine H4 (.l 2) J (fun w1 w2 w3 w4 w5=>?_);refine B5 (s:=⟨[(2,_,_),(3,_,_),(4,_,_),(5,_,_)],[(.l 2,_),(.l 3,_),(.l 4,_),(.l 5,_),(.o 0,_)],[(.b (.l 2) 1,_),(.b (.l 2) 2,_),(.b (.l 2) 3,_),(.b (.l 2) 4,_),(.b (.l 2) 5,_)],[]⟩) (B3 (⟨U J,U J,U J,U J,O⟩) (⟨U J,U J,U J,U J,U J,O⟩) (⟨rfl,rfl,rfl,rfl,rfl,O⟩)) ?_;refine A8 ?_;refine awp_drawn' (by kernel_rfl) ?_;refine D5 J J J J J J J gU J J J J J ?_;refine D5 J J J J J J J gU J J J J J ?_
   refine F3 J J J J J J J gU gU (up (F1 l _ _ (by omega) (le3 hl (by first|assumption|(dsimp only; first|assumption|exact hq4 _|exact hq5 _))))) J ?_;refine E7 J J J J J J J J J J J J ?_;refine E7 J J J J J J J J J J J J ?_;refine F8 (by kernel_rfl) ?_;refine B5 (s:=⟨[(2,_,_),(4,_,_),(5,_,_)],[(.l 2,_),(.l 4,_),(.l 5,_),(.o 0,_)],[(.b (.l 2) 1,_),(.b (.l 2) 2,_),(.b (.l 2) 3,_),(.b (.l 2) 4,_),(.b (.l 2) 5,_)],[]⟩) (B3 (⟨U J,U J,U J,O⟩) (⟨U J,U J,U J,U J,O⟩) (⟨(ak J (ak J (ak J (ak J (ak J (rfl)))))),(ak J (ak J (ak J (ak J (ak J (rfl)))))),(ak J (ak J (ak J (ak J (ak J (rfl)))))),(ak J (ak J (ak J (ak J (ak J (rfl)))))),(ak J (ak J (ak J (ak J (ak J (rfl)))))),O⟩)) ?_;refine I0 (.l 4) (.l 2) J J J J J ?_;refine B5 (s:=⟨[(2,_,_),(4,_,_),(5,_,_)],[(.l 2,_),(.l 4,_),(.l 5,_),(.o 0,_)],[(.b (.l 4) 1,_),(.b (.l 4) 2,_),(.b (.l 4) 3,_),(.b (.l 4) 4,_),(.b (.l 4) 5,_)],[]⟩) (B3 (⟨U J,U J,U J,O⟩) (⟨U J,U J,U J,U J,O⟩) (⟨rfl,rfl,rfl,rfl,rfl,O⟩)) ?_;refine C1 ?_
   repeat(first|refine tR ?_|refine bR ?_)
   refine I8 J ?_ ⟨⟨_,rfl,rfl⟩,O⟩ (by simp) J J J J J J;exact congrArg (fun z=>X.tup [.agg (narC n.name z (Fs.rows n.fresh) (strR n.tags) (Sp.rows n.steps) (Gl.rows n.goals)), .agg (pbx l (E5 l [59] (J2 l q).2))]) (Bm _ _).symm
  ·try simp only [nn,B4,T.rows_len,Tk.rows_len] at hcv1
   refine A8 (A6 ?_);refine A5 J J J (B6 J J gU gU J) ?_;refine A5 J J J (A9 J gU) ?_;refine B0 ?_;refine B5 (s:=⟨[(2,_,_),(3,_,_),(4,_,_),(5,_,_),(6,_,_),(28,_,_),(41,_,_)],[(.l 2,_),(.l 3,_),(.l 4,_),(.l 5,_),(.o 0,_)],[(.b (.l 2) 1,_),(.b (.l 2) 2,_),(.b (.l 2) 3,_),(.b (.l 2) 4,_),(.b (.l 2) 5,_)],[]⟩) (B3 (⟨U J,U J,U J,U J,U J,U J,U J,O⟩) (⟨U J,U J,U J,U J,U J,O⟩) (⟨rfl,rfl,rfl,rfl,rfl,O⟩)) ?_;refine B8 J (fun hcv2=>?_) (fun hcv2=>?_)
   ·try simp only [nn,B4,T.rows_len,Tk.rows_len] at hcv2
    subst hcv2
    rw[O4 hk hline (Of l n 0 q)]
    refine B5 (s:=⟨[(2,_,_),(3,_,_),(4,_,_),(5,_,_)],[(.l 2,_),(.l 3,_),(.l 4,_),(.l 5,_),(.o 0,_)],[(.b (.l 2) 1,_),(.b (.l 2) 2,_),(.b (.l 2) 3,_),(.b (.l 2) 4,_),(.b (.l 2) 5,_)],[]⟩) (B3 (⟨U J,U J,U J,U J,O⟩) (⟨U J,U J,U J,U J,U J,O⟩) (⟨rfl,rfl,rfl,rfl,rfl,O⟩)) ?_;refine H4 (.l 2) J (fun w1 w2 w3 w4 w5=>?_);refine B5 (s:=⟨[(2,_,_),(3,_,_),(4,_,_),(5,_,_)],[(.l 2,_),(.l 3,_),(.l 4,_),(.l 5,_),(.o 0,_)],[(.b (.l 2) 1,_),(.b (.l 2) 2,_),(.b (.l 2) 3,_),(.b (.l 2) 4,_),(.b (.l 2) 5,_)],[]⟩) (B3 (⟨U J,U J,U J,U J,O⟩) (⟨U J,U J,U J,U J,U J,O⟩) (⟨rfl,rfl,rfl,rfl,rfl,O⟩)) ?_;refine A6 ?_;refine A5 J J J (B7 J gU J J J J J) ?_;refine A5 J J J (B7 J gU J J J J J) ?_;refine X8 (.l 2) (.l 3) osR J J J J J J ⟨rfl,rfl,rfl,rfl,rfl,rfl⟩ ⟨rfl,rfl,rfl,rfl,rfl,rfl⟩ J J J J J J J J J ⟨rfl,rfl⟩ J (Bp l q n w1 w2 w3 w4 w5 hl hq1 (by omega)) J J J J J J J J ?_;refine B0 ?_;refine B5 (s:=⟨[(2,_,_),(3,_,_),(4,_,_),(5,_,_)],[(.l 2,_),(.l 3,_),(.l 4,_),(.l 5,_),(.o 0,_)],[(.b (.l 2) 1,_),(.b (.l 2) 2,_),(.b (.l 2) 3,_),(.b (.l 2) 4,_),(.b (.l 2) 5,_)],[]⟩) (B3 (⟨U J,U J,U J,U J,O⟩) (⟨U J,U J,U J,U J,U J,O⟩) (⟨rfl,rfl,rfl,rfl,rfl,O⟩)) ?_
    refine B5 (s:=⟨[(2,_,_),(3,_,_),(4,_,_),(5,_,_)],[(.l 2,_),(.l 3,_),(.l 4,_),(.l 5,_),(.o 0,_)],[(.b (.l 2) 1,_),(.b (.l 2) 2,_),(.b (.l 2) 3,_),(.b (.l 2) 4,_),(.b (.l 2) 5,_)],[]⟩) (B3 (⟨U J,U J,U J,U J,O⟩) (⟨U J,U J,U J,U J,U J,O⟩) (⟨rfl,rfl,rfl,rfl,rfl,O⟩)) ?_;refine H4 (.l 2) J (fun w1 w2 w3 w4 w5=>?_);refine B5 (s:=⟨[(2,_,_),(3,_,_),(4,_,_),(5,_,_)],[(.l 2,_),(.l 3,_),(.l 4,_),(.l 5,_),(.o 0,_)],[(.b (.l 2) 1,_),(.b (.l 2) 2,_),(.b (.l 2) 3,_),(.b (.l 2) 4,_),(.b (.l 2) 5,_)],[]⟩) (B3 (⟨U J,U J,U J,U J,O⟩) (⟨U J,U J,U J,U J,U J,O⟩) (⟨rfl,rfl,rfl,rfl,rfl,O⟩)) ?_;refine A8 ?_;refine awp_drawn' (by kernel_rfl) ?_;refine D5 J J J J J J J gU J J J J J ?_;refine D5 J J J J J J J gU J J J J J ?_;refine F3 J J J J J J J gU gU (up (F1 l _ _ (by omega) (le3 hl (by first|assumption|(dsimp only; first|assumption|exact hq4 _|exact hq5 _))))) J ?_;refine E7 J J J J J J J J J J J J ?_;refine E7 J J J J J J J J J J J J ?_;refine F8 (by kernel_rfl) ?_;refine B5 (s:=⟨[(2,_,_),(4,_,_),(5,_,_)],[(.l 2,_),(.l 4,_),(.l 5,_),(.o 0,_)],[(.b (.l 2) 1,_),(.b (.l 2) 2,_),(.b (.l 2) 3,_),(.b (.l 2) 4,_),(.b (.l 2) 5,_)],[]⟩) (B3 (⟨U J,U J,U J,O⟩) (⟨U J,U J,U J,U J,O⟩) (⟨(ak J (ak J (ak J (ak J (ak J (rfl)))))),(ak J (ak J (ak J (ak J (ak J (rfl)))))),(ak J (ak J (ak J (ak J (ak J (rfl)))))),(ak J (ak J (ak J (ak J (ak J (rfl)))))),(ak J (ak J (ak J (ak J (ak J (rfl)))))),O⟩)) ?_
    refine I0 (.l 4) (.l 2) J J J J J ?_;refine B5 (s:=⟨[(2,_,_),(4,_,_),(5,_,_)],[(.l 2,_),(.l 4,_),(.l 5,_),(.o 0,_)],[(.b (.l 4) 1,_),(.b (.l 4) 2,_),(.b (.l 4) 3,_),(.b (.l 4) 4,_),(.b (.l 4) 5,_)],[]⟩) (B3 (⟨U J,U J,U J,O⟩) (⟨U J,U J,U J,U J,O⟩) (⟨rfl,rfl,rfl,rfl,rfl,O⟩)) ?_;refine C1 ?_
    repeat(first|refine tR ?_|refine bR ?_)
    refine I8 J ?_ ⟨⟨_,rfl,rfl⟩,O⟩ (by simp) J J J J J J
    rfl
   ·try simp only [nn,B4,T.rows_len,Tk.rows_len] at hcv2
    refine A8 (A6 ?_);refine A5 J J J (B6 J J gU gU J) ?_;refine A5 J J J (A9 J gU) ?_;refine B0 ?_;refine B8 J (fun hcv3=>?_) (fun hcv3=>?_)
    ·try simp only [nn,B4,T.rows_len,Tk.rows_len] at hcv3
     subst hcv3
     rw[O4 hk hline (Qs l n 0 q)]
     refine A8 (A6 ?_);refine A5 J J J (B7 J gU J J J J J) ?_;refine C8 J J J J J J gU gU (up (T7 l q (by omega) hq1)) J ?_;refine A5 J J J (A7 J gU) ?_;refine A5 J J J (C2 J gU J) ?_;refine A5 J J J (C2 J gU J) ?_;refine A5 J J J (A9 J gU) ?_;refine C3 J (C9 J J J J J J J) ?_;refine B0 ?_;refine B5 (s:=⟨[(2,_,_),(3,_,_),(4,_,_),(5,_,_),(8,_,_)],[(.l 2,_),(.l 3,_),(.l 4,_),(.l 5,_),(.o 0,_)],[(.b (.l 2) 1,_),(.b (.l 2) 2,_),(.b (.l 2) 3,_),(.b (.l 2) 4,_),(.b (.l 2) 5,_)],[]⟩) (B3 (⟨U J,U J,U J,U J,U J,O⟩) (⟨U J,U J,U J,U J,U J,O⟩) (⟨rfl,rfl,rfl,rfl,rfl,O⟩)) ?_;refine A6 ?_;refine A5 J J J (B1 J gU J J) ?_;refine C3 J (J4 J J J J J J J) ?_;refine A5 J J J (A7 J gU) ?_;refine C3 J (G0 J J J J J J J (by first|omega|(simp only [List.length_append,List.length_singleton,B4]; omega)) (by first|omega|(simp only [List.length_append,List.length_singleton,B4]; omega))) ?_;refine A5 J J J (B1 J gU J J) ?_;refine C3 J (J3 J J J J J J J) ?_
     refine B0 ?_;refine B5 (s:=⟨[(2,_,_),(3,_,_),(4,_,_),(5,_,_)],[(.l 2,_),(.l 3,_),(.l 4,_),(.l 5,_),(.o 0,_)],[(.b (.l 2) 1,_),(.b (.l 2) 2,_),(.b (.l 2) 3,_),(.b (.l 2) 4,_),(.b (.l 2) 5,_)],[]⟩) (B3 (⟨U J,U J,U J,U J,O⟩) (⟨U J,U J,U J,U J,U J,O⟩) (⟨rfl,rfl,rfl,rfl,rfl,O⟩)) ?_;refine B5 (s:=⟨[(2,_,_),(3,_,_),(4,_,_),(5,_,_)],[(.l 2,_),(.l 3,_),(.l 4,_),(.l 5,_),(.o 0,_)],[(.b (.l 2) 1,_),(.b (.l 2) 2,_),(.b (.l 2) 3,_),(.b (.l 2) 4,_),(.b (.l 2) 5,_)],[]⟩) (B3 (⟨U J,U J,U J,U J,O⟩) (⟨U J,U J,U J,U J,U J,O⟩) (⟨rfl,rfl,rfl,rfl,rfl,O⟩)) ?_;refine H4 (.l 2) J (fun w1 w2 w3 w4 w5=>?_);refine B5 (s:=⟨[(2,_,_),(3,_,_),(4,_,_),(5,_,_)],[(.l 2,_),(.l 3,_),(.l 4,_),(.l 5,_),(.o 0,_)],[(.b (.l 2) 1,_),(.b (.l 2) 2,_),(.b (.l 2) 3,_),(.b (.l 2) 4,_),(.b (.l 2) 5,_)],[]⟩) (B3 (⟨U J,U J,U J,U J,O⟩) (⟨U J,U J,U J,U J,U J,O⟩) (⟨rfl,rfl,rfl,rfl,rfl,O⟩)) ?_;refine A8 ?_;refine awp_drawn' (by kernel_rfl) ?_;refine D5 J J J J J J J gU J J J J J ?_;refine D5 J J J J J J J gU J J J J J ?_
     refine F3 J J J J J J J gU gU (up (F1 l _ _ (by omega) (le3 hl (by first|assumption|(dsimp only; first|assumption|exact hq4 _|exact hq5 _))))) J ?_;refine E7 J J J J J J J J J J J J ?_;refine E7 J J J J J J J J J J J J ?_;refine F8 (by kernel_rfl) ?_;refine B5 (s:=⟨[(2,_,_),(4,_,_),(5,_,_)],[(.l 2,_),(.l 4,_),(.l 5,_),(.o 0,_)],[(.b (.l 2) 1,_),(.b (.l 2) 2,_),(.b (.l 2) 3,_),(.b (.l 2) 4,_),(.b (.l 2) 5,_)],[]⟩) (B3 (⟨U J,U J,U J,O⟩) (⟨U J,U J,U J,U J,O⟩) (⟨(ak J (ak J (ak J (ak J (ak J (rfl)))))),(ak J (ak J (ak J (ak J (ak J (rfl)))))),(ak J (ak J (ak J (ak J (ak J (rfl)))))),(ak J (ak J (ak J (ak J (ak J (rfl)))))),(ak J (ak J (ak J (ak J (ak J (rfl)))))),O⟩)) ?_;refine I0 (.l 4) (.l 2) J J J J J ?_;refine B5 (s:=⟨[(2,_,_),(4,_,_),(5,_,_)],[(.l 2,_),(.l 4,_),(.l 5,_),(.o 0,_)],[(.b (.l 4) 1,_),(.b (.l 4) 2,_),(.b (.l 4) 3,_),(.b (.l 4) 4,_),(.b (.l 4) 5,_)],[]⟩) (B3 (⟨U J,U J,U J,O⟩) (⟨U J,U J,U J,U J,O⟩) (⟨rfl,rfl,rfl,rfl,rfl,O⟩)) ?_;refine C1 ?_
     repeat(first|refine tR ?_|refine bR ?_)
     refine I8 J ?_ ⟨⟨_,rfl,rfl⟩,O⟩ (by simp) J J J J J J;exact congrArg (fun z=>X.tup [.agg (narC n.name (strR n.roles) (Fs.rows n.fresh) z (Sp.rows n.steps) (Gl.rows n.goals)), .agg (pbx l (E5 l [59] (J2 l q).2))]) (Bm _ _).symm
    ·try simp only [nn,B4,T.rows_len,Tk.rows_len] at hcv3
     refine A8 (A6 ?_);refine A5 J J J (B6 J J gU gU J) ?_;refine A5 J J J (A9 J gU) ?_;refine B0 ?_;refine B8 J (fun hcv4=>?_) (fun hcv4=>?_)
     ·try simp only [nn,B4,T.rows_len,Tk.rows_len] at hcv4
      subst hcv4
      rw[O4 hk hline (Pv l n 0 q)]
      refine B5 (s:=⟨[(2,_,_),(3,_,_),(4,_,_),(5,_,_),(6,_,_)],[(.l 2,_),(.l 3,_),(.l 4,_),(.l 5,_),(.o 0,_)],[(.b (.l 2) 1,_),(.b (.l 2) 2,_),(.b (.l 2) 3,_),(.b (.l 2) 4,_),(.b (.l 2) 5,_)],[]⟩) (B3 (⟨U J,U J,U J,U J,U J,O⟩) (⟨U J,U J,U J,U J,U J,O⟩) (⟨rfl,rfl,rfl,rfl,rfl,O⟩)) ?_;refine H4 (.l 2) J (fun w1 w2 w3 w4 w5=>?_);refine B5 (s:=⟨[(2,_,_),(3,_,_),(4,_,_),(5,_,_),(6,_,_)],[(.l 2,_),(.l 3,_),(.l 4,_),(.l 5,_),(.o 0,_)],[(.b (.l 2) 1,_),(.b (.l 2) 2,_),(.b (.l 2) 3,_),(.b (.l 2) 4,_),(.b (.l 2) 5,_)],[]⟩) (B3 (⟨U J,U J,U J,U J,U J,O⟩) (⟨U J,U J,U J,U J,U J,O⟩) (⟨rfl,rfl,rfl,rfl,rfl,O⟩)) ?_;refine A6 ?_;refine A5 J J J (B7 J gU J J J J J) ?_;refine A5 J J J (B7 J gU J J J J J) ?_;refine A5 J J J (A7 J gU) ?_;refine X8 (.l 2) (.l 3) osR J J J J J J ⟨rfl,rfl,rfl,rfl,rfl,rfl⟩ ⟨rfl,rfl,rfl,rfl,rfl,rfl⟩ J J J J J J J J J ⟨rfl,rfl⟩ J (Cs l q n (0) w1 w2 w3 w4 w5 hl hq1 (by omega)) J J J J J J J J ?_;refine B0 ?_;refine B5 (s:=⟨[(2,_,_),(3,_,_),(4,_,_),(5,_,_)],[(.l 2,_),(.l 3,_),(.l 4,_),(.l 5,_),(.o 0,_)],[(.b (.l 2) 1,_),(.b (.l 2) 2,_),(.b (.l 2) 3,_),(.b (.l 2) 4,_),(.b (.l 2) 5,_)],[]⟩) (B3 (⟨U J,U J,U J,U J,O⟩) (⟨U J,U J,U J,U J,U J,O⟩) (⟨rfl,rfl,rfl,rfl,rfl,O⟩)) ?_
      refine B5 (s:=⟨[(2,_,_),(3,_,_),(4,_,_),(5,_,_)],[(.l 2,_),(.l 3,_),(.l 4,_),(.l 5,_),(.o 0,_)],[(.b (.l 2) 1,_),(.b (.l 2) 2,_),(.b (.l 2) 3,_),(.b (.l 2) 4,_),(.b (.l 2) 5,_)],[]⟩) (B3 (⟨U J,U J,U J,U J,O⟩) (⟨U J,U J,U J,U J,U J,O⟩) (⟨rfl,rfl,rfl,rfl,rfl,O⟩)) ?_;refine H4 (.l 2) J (fun w1 w2 w3 w4 w5=>?_);refine B5 (s:=⟨[(2,_,_),(3,_,_),(4,_,_),(5,_,_)],[(.l 2,_),(.l 3,_),(.l 4,_),(.l 5,_),(.o 0,_)],[(.b (.l 2) 1,_),(.b (.l 2) 2,_),(.b (.l 2) 3,_),(.b (.l 2) 4,_),(.b (.l 2) 5,_)],[]⟩) (B3 (⟨U J,U J,U J,U J,O⟩) (⟨U J,U J,U J,U J,U J,O⟩) (⟨rfl,rfl,rfl,rfl,rfl,O⟩)) ?_;refine A8 ?_;refine awp_drawn' (by kernel_rfl) ?_;refine D5 J J J J J J J gU J J J J J ?_;refine D5 J J J J J J J gU J J J J J ?_;refine F3 J J J J J J J gU gU (up (F1 l _ _ (by omega) (le3 hl (by first|assumption|(dsimp only; first|assumption|exact hq4 _|exact hq5 _))))) J ?_;refine E7 J J J J J J J J J J J J ?_;refine E7 J J J J J J J J J J J J ?_;refine F8 (by kernel_rfl) ?_;refine B5 (s:=⟨[(2,_,_),(4,_,_),(5,_,_)],[(.l 2,_),(.l 4,_),(.l 5,_),(.o 0,_)],[(.b (.l 2) 1,_),(.b (.l 2) 2,_),(.b (.l 2) 3,_),(.b (.l 2) 4,_),(.b (.l 2) 5,_)],[]⟩) (B3 (⟨U J,U J,U J,O⟩) (⟨U J,U J,U J,U J,O⟩) (⟨(ak J (ak J (ak J (ak J (ak J (rfl)))))),(ak J (ak J (ak J (ak J (ak J (rfl)))))),(ak J (ak J (ak J (ak J (ak J (rfl)))))),(ak J (ak J (ak J (ak J (ak J (rfl)))))),(ak J (ak J (ak J (ak J (ak J (rfl)))))),O⟩)) ?_
      refine I0 (.l 4) (.l 2) J J J J J ?_;refine B5 (s:=⟨[(2,_,_),(4,_,_),(5,_,_)],[(.l 2,_),(.l 4,_),(.l 5,_),(.o 0,_)],[(.b (.l 4) 1,_),(.b (.l 4) 2,_),(.b (.l 4) 3,_),(.b (.l 4) 4,_),(.b (.l 4) 5,_)],[]⟩) (B3 (⟨U J,U J,U J,O⟩) (⟨U J,U J,U J,U J,O⟩) (⟨rfl,rfl,rfl,rfl,rfl,O⟩)) ?_;refine C1 ?_
      repeat(first|refine tR ?_|refine bR ?_)
      refine I8 J ?_ ⟨⟨_,rfl,rfl⟩,O⟩ (by simp) J J J J J J
      rfl
     ·try simp only [nn,B4,T.rows_len,Tk.rows_len] at hcv4
      refine A8 (A6 ?_);refine A5 J J J (B6 J J gU gU J) ?_;refine A5 J J J (A9 J gU) ?_;refine B0 ?_;refine B5 (s:=⟨[(2,_,_),(3,_,_),(4,_,_),(5,_,_),(6,_,_),(70,_,_)],[(.l 2,_),(.l 3,_),(.l 4,_),(.l 5,_),(.o 0,_)],[(.b (.l 2) 1,_),(.b (.l 2) 2,_),(.b (.l 2) 3,_),(.b (.l 2) 4,_),(.b (.l 2) 5,_)],[]⟩) (B3 (⟨U J,U J,U J,U J,U J,U J,O⟩) (⟨U J,U J,U J,U J,U J,O⟩) (⟨rfl,rfl,rfl,rfl,rfl,O⟩)) ?_;refine B8 J (fun hcv5=>?_) (fun hcv5=>?_)
      ·try simp only [nn,B4,T.rows_len,Tk.rows_len] at hcv5
       subst hcv5
       rw[O4 hk hline (Rm l n 0 q)]
       refine B5 (s:=⟨[(2,_,_),(3,_,_),(4,_,_),(5,_,_),(6,_,_)],[(.l 2,_),(.l 3,_),(.l 4,_),(.l 5,_),(.o 0,_)],[(.b (.l 2) 1,_),(.b (.l 2) 2,_),(.b (.l 2) 3,_),(.b (.l 2) 4,_),(.b (.l 2) 5,_)],[]⟩) (B3 (⟨U J,U J,U J,U J,U J,O⟩) (⟨U J,U J,U J,U J,U J,O⟩) (⟨rfl,rfl,rfl,rfl,rfl,O⟩)) ?_;refine H4 (.l 2) J (fun w1 w2 w3 w4 w5=>?_);refine B5 (s:=⟨[(2,_,_),(3,_,_),(4,_,_),(5,_,_),(6,_,_)],[(.l 2,_),(.l 3,_),(.l 4,_),(.l 5,_),(.o 0,_)],[(.b (.l 2) 1,_),(.b (.l 2) 2,_),(.b (.l 2) 3,_),(.b (.l 2) 4,_),(.b (.l 2) 5,_)],[]⟩) (B3 (⟨U J,U J,U J,U J,U J,O⟩) (⟨U J,U J,U J,U J,U J,O⟩) (⟨rfl,rfl,rfl,rfl,rfl,O⟩)) ?_;refine A6 ?_;refine A5 J J J (B7 J gU J J J J J) ?_;refine A5 J J J (B7 J gU J J J J J) ?_;refine A5 J J J (A7 J gU) ?_;refine X8 (.l 2) (.l 3) osR J J J J J J ⟨rfl,rfl,rfl,rfl,rfl,rfl⟩ ⟨rfl,rfl,rfl,rfl,rfl,rfl⟩ J J J J J J J J J ⟨rfl,rfl⟩ J (Cw l q n (0) w1 w2 w3 w4 w5 hl hq1 (by omega)) J J J J J J J J ?_;refine B0 ?_;refine B5 (s:=⟨[(2,_,_),(3,_,_),(4,_,_),(5,_,_)],[(.l 2,_),(.l 3,_),(.l 4,_),(.l 5,_),(.o 0,_)],[(.b (.l 2) 1,_),(.b (.l 2) 2,_),(.b (.l 2) 3,_),(.b (.l 2) 4,_),(.b (.l 2) 5,_)],[]⟩) (B3 (⟨U J,U J,U J,U J,O⟩) (⟨U J,U J,U J,U J,U J,O⟩) (⟨rfl,rfl,rfl,rfl,rfl,O⟩)) ?_
       refine B5 (s:=⟨[(2,_,_),(3,_,_),(4,_,_),(5,_,_)],[(.l 2,_),(.l 3,_),(.l 4,_),(.l 5,_),(.o 0,_)],[(.b (.l 2) 1,_),(.b (.l 2) 2,_),(.b (.l 2) 3,_),(.b (.l 2) 4,_),(.b (.l 2) 5,_)],[]⟩) (B3 (⟨U J,U J,U J,U J,O⟩) (⟨U J,U J,U J,U J,U J,O⟩) (⟨rfl,rfl,rfl,rfl,rfl,O⟩)) ?_;refine H4 (.l 2) J (fun w1 w2 w3 w4 w5=>?_);refine B5 (s:=⟨[(2,_,_),(3,_,_),(4,_,_),(5,_,_)],[(.l 2,_),(.l 3,_),(.l 4,_),(.l 5,_),(.o 0,_)],[(.b (.l 2) 1,_),(.b (.l 2) 2,_),(.b (.l 2) 3,_),(.b (.l 2) 4,_),(.b (.l 2) 5,_)],[]⟩) (B3 (⟨U J,U J,U J,U J,O⟩) (⟨U J,U J,U J,U J,U J,O⟩) (⟨rfl,rfl,rfl,rfl,rfl,O⟩)) ?_;refine A8 ?_;refine awp_drawn' (by kernel_rfl) ?_;refine D5 J J J J J J J gU J J J J J ?_;refine D5 J J J J J J J gU J J J J J ?_;refine F3 J J J J J J J gU gU (up (F1 l _ _ (by omega) (le3 hl (by first|assumption|(dsimp only; first|assumption|exact hq4 _|exact hq5 _))))) J ?_;refine E7 J J J J J J J J J J J J ?_;refine E7 J J J J J J J J J J J J ?_;refine F8 (by kernel_rfl) ?_;refine B5 (s:=⟨[(2,_,_),(4,_,_),(5,_,_)],[(.l 2,_),(.l 4,_),(.l 5,_),(.o 0,_)],[(.b (.l 2) 1,_),(.b (.l 2) 2,_),(.b (.l 2) 3,_),(.b (.l 2) 4,_),(.b (.l 2) 5,_)],[]⟩) (B3 (⟨U J,U J,U J,O⟩) (⟨U J,U J,U J,U J,O⟩) (⟨(ak J (ak J (ak J (ak J (ak J (rfl)))))),(ak J (ak J (ak J (ak J (ak J (rfl)))))),(ak J (ak J (ak J (ak J (ak J (rfl)))))),(ak J (ak J (ak J (ak J (ak J (rfl)))))),(ak J (ak J (ak J (ak J (ak J (rfl)))))),O⟩)) ?_
       refine I0 (.l 4) (.l 2) J J J J J ?_;refine B5 (s:=⟨[(2,_,_),(4,_,_),(5,_,_)],[(.l 2,_),(.l 4,_),(.l 5,_),(.o 0,_)],[(.b (.l 4) 1,_),(.b (.l 4) 2,_),(.b (.l 4) 3,_),(.b (.l 4) 4,_),(.b (.l 4) 5,_)],[]⟩) (B3 (⟨U J,U J,U J,O⟩) (⟨U J,U J,U J,U J,O⟩) (⟨rfl,rfl,rfl,rfl,rfl,O⟩)) ?_;refine C1 ?_
       repeat(first|refine tR ?_|refine bR ?_)
       refine I8 J ?_ ⟨⟨_,rfl,rfl⟩,O⟩ (by simp) J J J J J J
       rfl
      ·try simp only [nn,B4,T.rows_len,Tk.rows_len] at hcv5
       rw[O4 hk hline (Qk l n 0 q hcv1 hcv2 hcv3 hcv4 hcv5)]
       refine C0 ?_;refine B5 (s:=⟨[(2,_,_),(3,_,_),(4,_,_),(5,_,_)],[(.l 2,_),(.l 3,_),(.l 4,_),(.l 5,_),(.o 0,_)],[(.b (.l 2) 1,_),(.b (.l 2) 2,_),(.b (.l 2) 3,_),(.b (.l 2) 4,_),(.b (.l 2) 5,_)],[]⟩) (B3 (⟨U J,U J,U J,U J,O⟩) (⟨U J,U J,U J,U J,U J,O⟩) (⟨rfl,rfl,rfl,rfl,rfl,O⟩)) ?_;refine H4 (.l 2) J (fun w1 w2 w3 w4 w5=>?_);refine B5 (s:=⟨[(2,_,_),(3,_,_),(4,_,_),(5,_,_)],[(.l 2,_),(.l 3,_),(.l 4,_),(.l 5,_),(.o 0,_)],[(.b (.l 2) 1,_),(.b (.l 2) 2,_),(.b (.l 2) 3,_),(.b (.l 2) 4,_),(.b (.l 2) 5,_)],[]⟩) (B3 (⟨U J,U J,U J,U J,O⟩) (⟨U J,U J,U J,U J,U J,O⟩) (⟨rfl,rfl,rfl,rfl,rfl,O⟩)) ?_;refine A8 ?_;refine awp_drawn' (by kernel_rfl) ?_;refine D5 J J J J J J J gU J J J J J ?_;refine D5 J J J J J J J gU J J J J J ?_;refine F3 J J J J J J J gU gU (up (F1 l _ _ (by omega) (le3 hl (by first|assumption|(dsimp only; first|assumption|exact hq4 _|exact hq5 _))))) J ?_;refine E7 J J J J J J J J J J J J ?_;refine E7 J J J J J J J J J J J J ?_;refine F8 (by kernel_rfl) ?_;refine B5 (s:=⟨[(2,_,_),(4,_,_),(5,_,_)],[(.l 2,_),(.l 4,_),(.l 5,_),(.o 0,_)],[(.b (.l 2) 1,_),(.b (.l 2) 2,_),(.b (.l 2) 3,_),(.b (.l 2) 4,_),(.b (.l 2) 5,_)],[]⟩) (B3 (⟨U J,U J,U J,O⟩) (⟨U J,U J,U J,U J,O⟩) (⟨(ak J (ak J (ak J (ak J (ak J (rfl)))))),(ak J (ak J (ak J (ak J (ak J (rfl)))))),(ak J (ak J (ak J (ak J (ak J (rfl)))))),(ak J (ak J (ak J (ak J (ak J (rfl)))))),(ak J (ak J (ak J (ak J (ak J (rfl)))))),O⟩)) ?_
       refine I0 (.l 4) (.l 2) J J J J J ?_;refine B5 (s:=⟨[(2,_,_),(4,_,_),(5,_,_)],[(.l 2,_),(.l 4,_),(.l 5,_),(.o 0,_)],[(.b (.l 4) 1,_),(.b (.l 4) 2,_),(.b (.l 4) 3,_),(.b (.l 4) 4,_),(.b (.l 4) 5,_)],[]⟩) (B3 (⟨U J,U J,U J,O⟩) (⟨U J,U J,U J,U J,O⟩) (⟨rfl,rfl,rfl,rfl,rfl,O⟩)) ?_;refine C1 ?_
       repeat(first|refine tR ?_|refine bR ?_)
       refine I8 J ?_ ⟨⟨_,rfl,rfl⟩,O⟩ (by simp) J J J J J J
       rfl
abbrev xnie (r : Nar × Int × Int) : X:=.tup [.agg r.1.cells, .c (.i .i64 r.2.1), .c (.i .i64 r.2.2)]
def Ms (l : List Tk) : Nar × Int × Int :=
 if (endE l (Ai l).2).2≠0 then (nar0,(endE l (Ai l).2).1,(endE l (Ai l).2).2)
 else if narE D8 (Ai l).1≠0 then (nar0,0,narE D8 (Ai l).1)
 else ((Ai l).1,0,0)
def Z8 (s : List UInt8) : Nar × Int × Int:=if (tokP s).2.2≠0 then (nar0,(tokP s).2.1,(tokP s).2.2) else Ms (tokP s).1
theorem Ya (l : List Tk) (n : Nar) (p : PS) : p.at'≤(Ad l n p).2.at':=Nat.le_trans (G4 l J7 p).1 (Nat.le_trans (Ia l n (P7 l p) (C6 l J7 p).1 (C6 l J7 p).2).1 (J1 l [59] _).1)
theorem We (s : List UInt8) (hs : s.length≤9223372036854775807) : Ctr sys 103 [xs s] [] (uBV (tokP s)) none []:=by rw[← Yi s]; exact Ei s hs
theorem Rj {l : List Tk} {m : Nat} {n : Nar} {p : PS} (h : p.bad=true∨symQ l p [125]=true) : Q1 l m n p=(n,p):=by
 cases m with
 | zero=>rfl
 | succ m =>
  rw[Q1]
  split
  ·rfl
  ·rename_i hb
   rw[if_pos (h.resolve_left hb)]
theorem Xs {l : List Tk} {m : Nat} {n : Nar} {p : PS} (h : p.bad=false) (hq : symQ l p [125]=false) : Q1 l (m + 1) n p=Q1 l m (Ae l n p).1 (Ae l n p).2:=by
 rw[Q1,if_neg (by rw[h]; simp),if_neg (by rw[hq]; simp)]
theorem uAL {l : List Tk} {n : Nar} {p : PS} (h : (n,p)=Q1 l (l.length + 2) { nar0 with name:=(C6 l [] (chR l Q4 ⟨0,false⟩).2).1 } (E5 l [123] (C6 l [] (chR l Q4 ⟨0,false⟩).2).2)) : Ra l=(n,E5 l [125] p):=by
 unfold Ra; dsimp only; rw[← h]
set_option maxHeartbeats 8000000 in
theorem Ma (s : List UInt8) (hs : s.length≤100000) : Ctr sysO 69 [xs s] [] (xnie (Z8 s)) none []:=by
 have hcnt:=Sk s
 have htl:=Tk.rows_len (tokP s).1
 obtain ⟨l,hl⟩ : ∃ l,(tokP s).1=l:=⟨_,rfl⟩
 have hll : l.length≤100000:=by rw[← hl]; omega
 have a1:=(Nf l Q4 ⟨0,false⟩).2 (Nat.zero_le _)
 have a2:=(G4 l [] (chR l Q4 ⟨0,false⟩).2).2 a1
 have a3:=(J1 l [123] (C6 l [] (chR l Q4 ⟨0,false⟩).2).2).2 a2
 have hn1:=U8 l ⟨0,false⟩ Q4 (by omega) (by dsimp only; omega)
 have hn2:=J6 l (chR l Q4 ⟨0,false⟩).2 (by omega) (by omega)
 have hn3:=F1 l (C6 l [] (chR l Q4 ⟨0,false⟩).2).2 [123] (by omega) (by omega)
 obtain ⟨h1,h2⟩:=uAh l
 refine D1 Tryz.func69 J J J J J J ?_;refine A8 (A6 ?_);refine C3 J (D7 J J J) ?_;refine A5 J J J (A9 J gU) ?_;refine A5 J J J (A9 J gU) ?_;refine B0 ?_;refine A8 (A6 ?_);refine A5 J J J (A7 J gU) ?_;refine C8 J J J J J J gU gU (up (We _ (by omega))) J ?_;refine A5 J J J (A7 J gU) ?_;refine A5 J J J (C2 J gU J) ?_;refine A5 J J J (C2 J gU J) ?_;refine A5 J J J (C2 J gU J) ?_;refine A5 J J J (A9 J gU) ?_;refine A5 J J J (A9 J gU) ?_;refine A5 J J J (A9 J gU) ?_;refine B0 ?_;refine B5 (s:=⟨[(2,_,_),(5,_,_),(6,_,_),(7,_,_)],[(.l 2,_)],[],[]⟩) (B3 (⟨U J,U J,U J,U J,O⟩) (⟨U J,O⟩) O) ?_;refine A8 ?_;refine A8 (A6 ?_);refine A5 J J J (A7 J gU) ?_;refine A5 J J J (B6 J J gU gU J) ?_;refine B0 ?_;refine B8 J (fun hc=>?_) (fun hc=>?_)
 ·try simp only [nn,B4,T.rows_len,Tk.rows_len] at hc
  refine A8 (A6 ?_);refine A5 J J J (H0 J Tryz.underlying27 J gU) ?_;refine A5 J J J (A7 J gU) ?_;refine A5 J J J (A7 J gU) ?_;refine C3 J (C9 J J J J J J J) ?_;refine A5 J J J (A9 J gU) ?_;refine A5 J J J (A9 J gU) ?_;refine B0 ?_;refine C1 ?_
  repeat(first|refine tR ?_|refine bR ?_)
  refine C5 J ?_ O
  (rw[Z8,if_pos hc]; rfl)
 ·try simp only [nn,B4,T.rows_len,Tk.rows_len] at hc
  have hpe : Z8 s=Ms l:=by rw[Z8,if_neg (by simpa using hc),hl]
  rw[hpe]
  rw[hl]
  refine C0 ?_;refine A8 (A6 ?_);refine C3 J (Fu J J J J) ?_;refine B0 ?_;refine A8 (A6 ?_);refine A5 J J J (A7 J gU) ?_;refine A5 J J J (H0 J Tryz.underlying119 J gU) ?_;refine E8 (xs:=[_,_]) J J J J J J J J J gU J ?_;refine C8 J J J J J J gU gU (up hn1) J ?_;refine A5 J J J (A7 J gU) ?_;refine A5 J J J (C2 J gU J) ?_;refine A5 J J J (C2 J gU J) ?_;refine C3 J (D7 J J J) ?_;refine A5 J J J (A9 J gU) ?_;refine H5 (s:=⟨[(2,_,_),(5,_,_),(8,_,_),(10,_,_),(29,_,_)],[(.l 10,_),(.l 2,_),(.l 8,_)],[],[]⟩) (B3 (⟨U J,U J,U J,U J,U J,O⟩) (⟨U J,U J,U J,O⟩) O) ?_;refine C3 J (C9 J J J J J J J) ?_;refine B0 ?_;refine A8 (A6 ?_);refine A5 J J J (B7 J gU J J J J J) ?_;refine C8 J J J J J J gU gU (up hn2) J ?_;refine A5 J J J (A7 J gU) ?_;refine A5 J J J (C2 J gU J) ?_;refine A5 J J J (C2 J gU J) ?_;refine A5 J J J (B1 J gU J J) ?_;refine C3 J (C9 J J J J J J J) ?_;refine C3 J (C9 J J J J J J J) ?_
  refine B0 ?_;refine B5 (s:=⟨[(2,_,_),(5,_,_),(8,_,_),(10,_,_)],[(.l 10,_),(.l 2,_),(.l 8,_)],[],[]⟩) (B3 (⟨U J,U J,U J,U J,O⟩) (⟨U J,U J,U J,O⟩) O) ?_;refine A8 (A6 ?_);refine A5 J J J (B7 J gU J J J J J) ?_;refine C8 J J J J J J gU gU (up hn3) J ?_;refine C3 J (C9 J J J J J J J) ?_;refine B0 ?_;refine A8 ?_;refine C4 ?_;refine Cl (.l 8) 1 1 J J J ?_;refine Cl (.l 8) 2 3 J J J ?_;refine Cl (.l 8) 3 1 J J J ?_;refine Cl (.l 8) 4 7 J J J ?_;refine Cl (.l 8) 5 5 J J J ?_;refine F5 (ι:=PS × Nar) { t:=[(2,_,_),(5,_,_),(8,_,_),(10,_,_)],bx:=[(.l 2,_)],ow:=[(.b (.l 8) 1,_),(.b (.l 8) 2,_),(.b (.l 8) 3,_),(.b (.l 8) 4,_),(.b (.l 8) 5,_)] } (fun q=>[]) (fun q=>[((.l 10),pbx l q.1),((.l 8),q.2.cells)]) (fun q=>q.1.at'≤l.length∧(q.1.bad=false→q.2.Le q.1.at'∧q.2.Sm (2 * l.length + 2)) ∧ ∃ m,(q.1.bad=true∨l.length < m + q.1.at')∧Q1 l m q.2 q.1=Q1 l (l.length + 2) { nar0 with name:=(C6 l [] (chR l Q4 ⟨0,false⟩).2).1 } (E5 l [123] (C6 l [] (chR l Q4 ⟨0,false⟩).2).2)) (fun q=>(l.length - q.1.at') + (if q.1.bad=true then 0 else 1)) ((E5 l [123] (C6 l [] (chR l Q4 ⟨0,false⟩).2).2,{ nar0 with name:=(C6 l [] (chR l Q4 ⟨0,false⟩).2).1 })) (⟨a3,fun _=>⟨⟨Nat.zero_le _,Nat.zero_le _,Nat.zero_le _,Nat.zero_le _,Nat.zero_le _⟩,⟨fun s hs=>by simp [nar0] at hs,fun s hs=>by simp [nar0] at hs⟩⟩,l.length + 2, .inr (by omega),rfl⟩) (B3 (⟨U J,U J,U J,U J,O⟩) (⟨U J,U J,U J,O⟩) (⟨rfl,rfl,rfl,rfl,rfl,O⟩)) ?_
  intro q hok
  dsimp only [List.cons_append,List.nil_append] at *
  obtain ⟨q,n⟩:=q
  dsimp only at hok ⊢
  obtain ⟨hq,hln,m,hm,hi⟩:=hok
  refine A8 ?_;refine A8 (A6 ?_);refine A5 J J J (B1 J gU J J) ?_;refine A5 J J J (B2 J gU J J J J) ?_;refine A5 J J J (F2 J gU) ?_;refine A5 J J J (A7 J gU) ?_;refine A5 J J J (B7 J gU J J J J J) ?_;refine C8 J J J J J J gU (fun hh=>gA ((fun hh=>hh) hh) (gA J (rfl))) (up (P3 l q _ (by omega) (by omega))) J ?_;refine A5 J J J (F2 J (fun hh=>hh)) ?_;refine A5 J J J (E4 J J gU (fun _ hi=>gP J hi)) ?_;refine B0 ?_;refine B5 (s:=⟨[(2,_,_),(5,_,_),(8,_,_),(10,_,_),(45,_,_)],[(.l 10,_),(.l 2,_),(.l 8,_)],[(.b (.l 8) 1,_),(.b (.l 8) 2,_),(.b (.l 8) 3,_),(.b (.l 8) 4,_),(.b (.l 8) 5,_)],[]⟩) (B3 (⟨U J,U J,U J,U J,U J,O⟩) (⟨U J,U J,U J,O⟩) (⟨rfl,rfl,rfl,rfl,rfl,O⟩)) ?_;refine B8 J (fun hc2=>?_) (fun hc2=>?_)
  ·try simp only [nn,B4,T.rows_len,Tk.rows_len] at hc2
   obtain ⟨hb,hz⟩:=hc2
   obtain ⟨hle,hsm⟩:=hln hb
   have hm : l.length < m + q.at':=hm.resolve_left (by rw[hb]; simp)
   obtain ⟨m,rfl⟩ : ∃ j,m=j + 1:=⟨m - 1,by omega⟩
   rw[Xs hb hz] at hi
   obtain ⟨i1,i2⟩:=Oz l n q hq
   have i5:=Ya l n q
   have i3:=Zz (l:=l) (p:=q) hle
   have i4:=Zv (l:=l) (p:=q) hsm hq
   obtain ⟨e1,e2⟩:=Qb l n q
   rw[← e1] at i1 i2 i5 i3
   refine C0 ?_;refine C4 ?_;refine B5 (s:=⟨[(2,_,_),(5,_,_),(8,_,_),(10,_,_)],[(.l 10,_),(.l 2,_),(.l 8,_)],[(.b (.l 8) 1,_),(.b (.l 8) 2,_),(.b (.l 8) 3,_),(.b (.l 8) 4,_),(.b (.l 8) 5,_)],[]⟩) (B3 (⟨U J,U J,U J,U J,O⟩) (⟨U J,U J,U J,O⟩) (⟨rfl,rfl,rfl,rfl,rfl,O⟩)) ?_;refine H4 (.l 8) J (fun w1 w2 w3 w4 w5=>?_);refine B5 (s:=⟨[(2,_,_),(5,_,_),(8,_,_),(10,_,_)],[(.l 10,_),(.l 2,_),(.l 8,_)],[(.b (.l 8) 1,_),(.b (.l 8) 2,_),(.b (.l 8) 3,_),(.b (.l 8) 4,_),(.b (.l 8) 5,_)],[]⟩) (B3 (⟨U J,U J,U J,U J,O⟩) (⟨U J,U J,U J,O⟩) (⟨rfl,rfl,rfl,rfl,rfl,O⟩)) ?_;refine A6 ?_;refine A5 J J J (B7 J gU J J J J J) ?_;refine A5 J J J (B7 J gU J J J J J) ?_;refine X8 (.l 8) (.l 10) osR J J J J J J ⟨rfl,rfl,rfl,rfl,rfl,rfl⟩ ⟨rfl,rfl,rfl,rfl,rfl,rfl⟩ J J J J J J J J J ⟨rfl,rfl⟩ J (Rw l q n w1 w2 w3 w4 w5 (by omega) hq (hle.mono (by omega))) J J J J J J J J ?_;refine B0 ?_;refine ⟨((Ae l n q).2,(Ae l n q).1),?_,?_,B3 (⟨U J,U J,U J,U J,O⟩) (⟨⟨_,rfl,?_⟩,⟨⟨_,rfl,?_⟩,⟨U J,O⟩⟩⟩) (⟨rfl,rfl,rfl,rfl,rfl,O⟩)⟩
   ·refine ⟨i1,fun hb2=>?_,m,?_,hi⟩
    ·dsimp only at hb2 ⊢
     have he:=e2 hb2
     rw[he]; exact ⟨i3,i4⟩
    ·cases hz2 : (Ae l n q).2.bad with
     | true=>exact .inl J
     | false=>exact .inr (by have := i2 hz2; dsimp only; omega)
   ·dsimp only
    rw[hb]
    cases hz2 : (Ae l n q).2.bad with
    | true=>simp; omega
    | false=>have := i2 hz2; simp; omega
   all_goals rfl
  ·try simp only [nn,B4,T.rows_len,Tk.rows_len] at hc2
   have hst : q.bad=true∨symQ l q [125]=true:=by
    rcases hc2 with x | x
    ·exact .inl (by simpa using x)
    ·exact .inr (by simpa using x)
   rw[Rj hst] at hi
   have hR:=uAL hi
   rw[hR] at h1 h2
   dsimp only at h1 h2
   have hpl : Ms l=(if (endE l (E5 l [125] q)).2≠0 then (nar0,(endE l (E5 l [125] q)).1,(endE l (E5 l [125] q)).2) else if narE D8 (Ai l).1≠0 then (nar0,0,narE D8 (Ai l).1) else ((Ai l).1,0,0)):=by
    rw[Ms,← h1]
   rw[← h1] at h2
   refine E1 ?_
   repeat(first|refine D3 ?_|refine D4 ?_|refine D2 J ?_)
   refine A8 (A6 ?_);refine A5 J J J (B7 J gU J J J J J) ?_;refine C8 J J J J J J gU gU (up (F1 l q [125] (by omega) (by omega))) J ?_;refine C3 J (C9 J J J J J J J) ?_;refine B0 ?_;refine A8 ?_;refine A8 (A6 ?_);refine A5 J J J (B1 J gU J J) ?_;refine A5 J J J (B2 J gU J J J J) ?_;refine A5 J J J (A7 J gU) ?_;refine A5 J J J (B1 J gU J J) ?_;refine A5 J J J (B2 J (fun hh=>hh) J J J J) ?_;refine A5 J J J (A7 J gU) ?_;refine A5 J J J (G7 J (fun hh=>hh) J J) ?_;refine A5 J J J (B6 J J (fun hh=>hh) (fun hh=>hh) J) ?_;refine A5 J J J (D9 J J gU (fun _ hi=>gP J hi)) ?_;refine B0 ?_;refine B5 (s:=⟨[(2,_,_),(8,_,_),(10,_,_),(62,_,_)],[(.l 10,_),(.l 2,_),(.l 8,_)],[(.b (.l 8) 1,_),(.b (.l 8) 2,_),(.b (.l 8) 3,_),(.b (.l 8) 4,_),(.b (.l 8) 5,_)],[]⟩) (B3 (⟨U J,U J,U J,U J,O⟩) (⟨U J,U J,U J,O⟩) (⟨rfl,rfl,rfl,rfl,rfl,O⟩)) ?_;refine B8 J (fun hc3=>?_) (fun hc3=>?_)
   ·try simp only [nn,B4,T.rows_len,Tk.rows_len] at hc3
    have he : endE l (E5 l [125] q)=(Ny l (E5 l [125] q),2):=by rw[endE,if_pos (by rcases hc3 with x | x; exact .inl x; exact .inr (by omega))]
    rw[he,if_pos (by simp)] at hpl
    refine A8 (A6 ?_);refine A5 J J J (H0 J Tryz.underlying27 J gU) ?_;refine A5 J J J (B7 J gU J J J J J) ?_;refine C8 J J J J J J gU gU (up (Tu _ _ (by omega))) J ?_;refine C3 J (C9 J J J J J J J) ?_;refine A5 J J J (A9 J gU) ?_;refine A5 J J J (A9 J gU) ?_;refine B0 ?_;refine C1 ?_
    repeat(first|refine tR ?_|refine bR ?_)
    refine C5 J ?_ O
    (rw[hpl]; rfl)
   ·try simp only [nn,B4,T.rows_len,Tk.rows_len] at hc3
    have he : endE l (E5 l [125] q)=(0,0) := by rw[endE,if_neg (by rintro (x | x); { rw[hc3.1] at x; cases x }; { have := hc3.2; omega })]
    rw[he,if_neg (by simp),← h2 hc3.1] at hpl
    have hb:=T3 hc3.1
    obtain ⟨hle,hsm⟩:=hln hb
    refine C0 ?_;refine A8 ?_;refine A8 (A6 ?_);refine A5 J J J (B7 J gU J J J J J) ?_;refine C8 J J J J J J gU gU (up (Pc n (fun s hs=>Nat.le_trans (hsm.steps s hs) (by omega)) (fun g hg=>Nat.le_trans (hsm.goals g hg) (by omega)))) J ?_;refine A5 J J J (A9 J gU) ?_;refine B0 ?_;refine A8 (A6 ?_);refine A5 J J J (A7 J gU) ?_;refine A5 J J J (B6 J J gU gU J) ?_;refine B0 ?_;refine B5 (s:=⟨[(2,_,_),(8,_,_),(11,_,_),(69,_,_)],[(.l 2,_),(.l 8,_)],[(.b (.l 8) 1,_),(.b (.l 8) 2,_),(.b (.l 8) 3,_),(.b (.l 8) 4,_),(.b (.l 8) 5,_)],[]⟩) (B3 (⟨U J,U J,U J,U J,O⟩) (⟨U J,U J,O⟩) (⟨rfl,rfl,rfl,rfl,rfl,O⟩)) ?_;refine B8 J (fun hc4=>?_) (fun hc4=>?_)
    ·try simp only [nn,B4,T.rows_len,Tk.rows_len] at hc4
     rw[if_pos hc4] at hpl
     refine A8 (A6 ?_);refine A5 J J J (H0 J Tryz.underlying27 J gU) ?_;refine A5 J J J (A7 J gU) ?_;refine C3 J (C9 J J J J J J J) ?_;refine A5 J J J (A9 J gU) ?_;refine A5 J J J (A9 J gU) ?_;refine B0 ?_;refine C1 ?_
     repeat(first|refine tR ?_|refine bR ?_)
     refine C5 J ?_ O
     (rw[hpl]; rfl)
    ·try simp only [nn,B4,T.rows_len,Tk.rows_len] at hc4
     rw[if_neg (by simpa using hc4)] at hpl
     refine C0 ?_;refine A8 (A6 ?_);refine A5 J J J (B7 J gU J J J J J) ?_;refine C3 J (C9 J J J J J J J) ?_;refine A5 J J J (A9 J gU) ?_;refine A5 J J J (A9 J gU) ?_;refine B0 ?_;refine C1 ?_
     repeat(first|refine tR ?_|refine bR ?_)
     refine C5 J ?_ O
     (rw[hpl]; rfl)
theorem Nz (s : List UInt8) (hs : s.length≤100000) : Ctr sys 69 [xs s] [] (xnie (Z8 s)) none []:=(Ma s hs).wk J fun _ h=>h
theorem Hq {R : List (List UInt8)} : ∀ (D : List (List UInt8 × Option (List UInt8))) (seen : List (List UInt8)),decA R seen D=0→seen.Nodup→(seen++D.map (·.1)).Nodup
 | [],seen,_,hs=>by simpa using hs
 | x :: r,seen,h,hs=>by
  rw[decA] at h
  split at h
  ·rename_i q; exact absurd h q
  ·rename_i q
   have q:=Decidable.not_not.1 q
   have hx : ¬ x.1 ∈ seen:=by
    intro hm
    have hc : seen.contains x.1=true:=List.contains_iff_mem.2 hm
    unfold dclE at q
    split at q
    ·simp at q
    split at q
    ·simp at q
    ·first|(rw[if_pos hc] at q; simp at q)|simp at q
   have h1 : (seen++[x.1]).Nodup:=by
    rw[List.nodup_append]
    refine ⟨hs,by simp,fun a ha b hb=>?_⟩
    rw[List.mem_singleton.1 hb]
    intro e; exact hx (e ▸ ha)
   have := Hq r (seen++[x.1]) h h1
   rw[List.append_assoc] at this
   exact this
theorem Xg {n : Nar} (h : decE n=0) : (K6 n).Nodup:=by
 have := Hq (dclL n) [] h (by simp)
 rw[List.nil_append,Zh] at this
 exact this
theorem Up {nm : NmB} {n : Nar} (h : (chkE nm n).2=0) : narE nm n=0∧decE n=0∧useE n=(0,0):=by
 unfold chkE at h
 split at h
 ·rename_i q; exact absurd h q
 rename_i q1
 split at h
 ·rename_i q; exact absurd h q
 rename_i q2
 refine ⟨Decidable.not_not.1 q1,Decidable.not_not.1 q2,?_⟩
 unfold useE at h ⊢
 split at h
 ·rename_i q; exact absurd h q
 ·rename_i q; rw[if_neg q]; exact Tt h
abbrev ChG:=List UInt8→Int→List UInt8 × Int
mutual
def chT (g : ChG) : T→T
 | .mk k n s ks=>.mk k (if k=2 then (g n s).1 else n) (if k=2 then (g n s).2 else s) (chTs g ks)
def chTs (g : ChG) : List T→List T
 | []=>[]
 | t :: ts=>chT g t :: chTs g ts
end
theorem Ji (g : ChG) : ∀ l : List T,chTs g l=l.map (chT g)
 | []=>by rw[chTs]; rfl
 | t :: ts=>by rw[chTs,Ji g ts]; rfl
theorem Sz (g : ChG) (t : T) : chT g t=⟨t.kind,if t.kind=2 then (g t.name t.sort).1 else t.name,if t.kind=2 then (g t.name t.sort).2 else t.sort,t.kids.map (chT g)⟩:=by
 cases t; rw[chT,Ji]; rfl
mutual
theorem Pk (g : ChG) : ∀ t : T,(chT g t).size=t.size
 | .mk k n s ks=>by rw[chT,T.size,T.size,Fi g ks]
theorem Fi (g : ChG) : ∀ l : List T,T.sizes (chTs g l)=T.sizes l
 | []=>by rw[chTs]
 | t :: ts=>by rw[chTs,T.sizes,T.sizes,Pk g t,Fi g ts]
end
mutual
def knT (K : List (List UInt8)) : T→Bool
 | .mk k n _ ks=>(decide (k≠2) || K.contains n) && knTs K ks
def knTs (K : List (List UInt8)) : List T→Bool
 | []=>true
 | t :: ts=>knT K t && knTs K ts
end
theorem Oh (K : List (List UInt8)) : ∀ l : List T,knTs K l=l.all (knT K)
 | []=>by rw[knTs]; rfl
 | t :: ts=>by rw[knTs,Oh K ts]; rfl
theorem Me (K : List (List UInt8)) (t : T) : knT K t=((decide (t.kind≠2) || K.contains t.name) && t.kids.all (knT K)):=by cases t; rw[knT,Oh]; rfl
theorem Fm {K : List (List UInt8)} {t : T} (h3 : t.kind=3) (h : ∀ x ∈ t.kids,knT K x=true) : knT K t=true:=by
 rw[Me,List.all_eq_true.2 h,h3]; rfl
theorem Ce {t : T} (h : gdB t=true) : ∀ x ∈ t.kids,gdB x=true:=by
 rw[Zi] at h
 simp only [Bool.and_eq_true] at h
 exact Pz h.2
theorem Zr {t : T} (h : gdB t=true) (h3 : t.kind≠3) : t.kind=2∧t.kids=[]:=by
 rw[Zi] at h
 simp only [Bool.and_eq_true,Bool.or_eq_true,decide_eq_true_eq,List.isEmpty_iff] at h
 rcases h.1.2 with q | q
 ·exact q
 ·exact absurd q h3
theorem Lv {R K : List (List UInt8)} (hRK : ∀ x ∈ R,x ∈ K) {t : T} (hg : gdB t=true) (h : Ek R t=true) : knT K t=true:=by
 rw[Ek,Bool.and_eq_true,decide_eq_true_eq] at h
 obtain ⟨_,hk⟩:=Zr hg (by omega)
 rw[Me,hk,h.1]
 simp only [List.all_nil,Bool.and_true,Bool.or_eq_true]
 exact .inr (List.contains_iff_mem.2 (hRK _ (List.contains_iff_mem.1 h.2)))
theorem W8 {t : T} {w : List UInt8} {k : Int} (h : isT t w k=true) : t.kind=3∧t.name=w∧(t.kids.length : Int)=k:=by
 simp only [isT,Bool.and_eq_true,decide_eq_true_eq] at h
 exact ⟨h.1.1,h.1.2,h.2⟩
theorem Ue {t : T} (h : (t.kids.length : Int)=1) : t.kids=[kid t 0]:=by
 match hk : t.kids,h with
 | [a],_=>simp [kid,hk]
theorem Vn {t : T} (h : (t.kids.length : Int)=2) : t.kids=[kid t 0,kid t 1]:=by
 match hk : t.kids,h with
 | [a,b],_=>simp [kid,hk]
theorem Va {R K : List (List UInt8)} (hRK : ∀ x ∈ R,x ∈ K) {t : T} (hg : gdB t=true) (h : Gn R t=true) : knT K t=true:=by
 rw[Gn,Bool.and_eq_true] at h
 obtain ⟨h1,h2,h3⟩:=W8 h.1
 have hk:=Ue h3
 refine Fm h1 fun x hx=>?_
 have hgx:=Ce hg x hx
 rw[hk,List.mem_singleton] at hx
 subst hx
 exact Lv hRK hgx h.2
theorem uAd {R K : List (List UInt8)} (hRK : ∀ x ∈ R,x ∈ K) {t : T} (hg : gdB t=true) (h : pubT R t=true) : knT K t=true:=by
 rw[pubT,Bool.and_eq_true] at h
 obtain ⟨h1,h2,h3⟩:=W8 h.1
 have hk:=Ue h3
 refine Fm h1 fun x hx=>?_
 have hgx:=Ce hg x hx
 rw[hk,List.mem_singleton] at hx
 subst hx
 exact Va hRK hgx h.2
theorem uBX {R K : List (List UInt8)} (hRK : ∀ x ∈ R,x ∈ K) : ∀ (n : Nat) (t : T),t.size≤n→gdB t=true→V4 R K t=0→knT K t=true:=by
 intro n
 induction n with
 | zero=>intro t h; have := t.size_pos; omega
 | succ n ih =>
  intro t ht hg hc
  rw[Bs] at hc
  split at hc
  ·rename_i h3
   obtain ⟨h2,hk⟩:=Zr hg h3
   split at hc
   ·rename_i hm
    rw[Me,hk,hm]; simp
   ·cases hc
  ·rename_i h3
   have h3:=Decidable.not_not.1 h3
   split at hc
   ·cases hc
   ·rename_i k hl
    have hz:=errs_zero.1 hc
    have hin : ∀ x ∈ t.kids.take k,knT K x=true:=fun x hx=>by
     have hm:=List.mem_of_mem_take hx
     have := O1 hm
     exact ih x (by omega) (Ce hg x hm) (hz x hx)
    unfold N2 at hl
    split at hl
    ·rename_i q
     have hk2 : (t.kids.length : Int)=2:=by rcases q with q | q <;> exact (W8 q).2.2
     have e : 2=k:=Option.some.inj hl
     subst e
     rw[List.take_of_length_le (by omega)] at hin
     exact Fm h3 hin
    split at hl
    ·rename_i q
     have hk2:=(W8 q).2.2
     have e : 1=k:=Option.some.inj hl
     subst e
     rw[List.take_of_length_le (by omega)] at hin
     exact Fm h3 hin
    split at hl
    ·rename_i q
     have hk2 : (t.kids.length : Int)=2:=by rcases q with q | q <;> exact (W8 q.1).2.2
     have e : 1=k:=Option.some.inj hl
     subst e
     have hk:=Vn hk2
     have hg1 : gdB (kid t 1)=true:=Ce hg _ (by rw[hk]; simp)
     have h1 : knT K (kid t 1)=true:=by
      rcases q with q | q
      ·exact uAd hRK hg1 q.2
      ·exact Va hRK hg1 q.2
     refine Fm h3 fun x hx=>?_
     rw[hk] at hx hin
     rcases List.mem_cons.1 hx with e | e
     ·exact hin x (by rw[e]; simp)
     ·rw[List.mem_singleton.1 e]; exact h1
    split at hl
    ·rename_i q
     rcases q with q | q
     ·exact uAd hRK hg q
     ·obtain ⟨⟨⟨q1,q2⟩,q3⟩,q4⟩:=shkT_iff.1 q
      have hk:=Vn (W8 q1).2.2
      refine Fm h3 fun x hx=>?_
      have hgx:=Ce hg x hx
      rw[hk] at hx
      rcases List.mem_cons.1 hx with e | e
      ·subst e; exact Lv hRK hgx q2
      ·rw[List.mem_singleton.1 e] at hgx ⊢; exact Lv hRK hgx q3
    ·cases hl
structure ChkOk (n : Nar) : Prop where
 nar : NarOk n
 nd : (K6 n).Nodup
 msg : ∀ s ∈ n.steps,knT (K6 n) s.msg=true∧gdB s.msg=true∧s.msg.size≤40
 dat : ∀ g ∈ n.goals,∀ t ∈ g.data,knT (K6 n) t=true∧gdB t=true∧t.size≤40
theorem Dc (n : Nar) : ∀ x ∈ n.roles,x ∈ K6 n:=fun x hx=>by rw[X6]; simp [hx]
theorem Lu {n : Nar} (h : (chkE D8 n).2=0) : ChkOk n:=by
 obtain ⟨c1,c2,c3⟩:=Up h
 have hok:=Mc c1
 have hu : (useE n).2=0:=by rw[c3]
 have hst : (lnE (Af n) Sp.line n.steps).2=0∧(lnE (Z7 n) Gl.line n.goals).2=0:=by
  unfold useE at hu
  split at hu
  ·rename_i q; exact absurd hu q
  ·rename_i q; exact ⟨Decidable.not_not.1 q,hu⟩
 refine ⟨hok,Xg c2,fun s hs=>?_,fun g hg t ht=>?_⟩
 ·have hm:=(hok.steps s hs).2.2
  have hz:=lnE_zero.1 hst.1 s hs
  have hgd:=Yr hm.raw
  have ht : V4 n.roles (K6 n) s.msg=0:=by
   unfold Af at hz
   split at hz
   ·rename_i q; exact absurd hz q
   ·exact hz
  exact ⟨uBX (Dc n) _ _ (Nat.le_refl _) hgd ht,hgd,hm.size⟩
 ·have hm:=(hok.goals g hg).data t ht
  have hz:=lnE_zero.1 hst.2 g hg
  have hgd:=Yr hm.raw
  have he : errs (V4 n.roles (K6 n)) g.data=0:=by
   unfold Z7 at hz
   split at hz
   ·cases hz
   split at hz
   ·rename_i q; exact absurd hz q.2
   ·exact hz
  exact ⟨uBX (Dc n) _ _ (Nat.le_refl _) hgd (errs_zero.1 he t ht),hgd,hm.size⟩
theorem Um (l : List T) : ∀ (i : Nat) (row : List C),(T.rows l)[i]? = some row→row.length=4:=by
 intro i row h
 rw[T.rows_eq,List.getElem?_map] at h
 cases hx : l[i]? with
 | none=>rw[hx] at h; cases h
 | some t=>rw[hx] at h; cases h; rfl
theorem Cx (l : List T) : (T.rows l).flatten.length=l.length * 4:=by
 induction l with
 | nil=>simp [T.rows_eq]
 | cons x l ih =>
  have e : T.rows (x :: l)=x.cells :: T.rows l:=by simp [T.rows_eq]
  rw[e,List.flatten_cons,List.length_append,ih]
  have : x.cells.length=4:=rfl
  simp only [List.length_cons]; omega
theorem Zj (l : List T) (i : Nat) (t : T) : (T.rows l).set i t.cells=T.rows (l.set i t):=by
 rw[T.rows_eq,T.rows_eq,List.map_set]
theorem Je (l : List T) (i : Nat) (t : T) (h : i < l.length) : H3 (T.rows l).flatten (i * 4) t.cells=(T.rows (l.set i t)).flatten:=by
 rw[Jh (Um l) (by rw[T.rows_len]; exact h) J,Zj]
theorem uAy (l : List T) (i : Nat) (t : T) (h : i < l.length) : Nat.ble (0 + i * 4 + t.cells.length) (T.rows l).flatten.length=true:=by
 rw[Cx]
 exact Nat.ble_eq_true_of_le (by show 0 + i * 4 + 4≤_; omega)
def tZ : T:=⟨0,[],0,[]⟩
def padT (l : List T) (n : Nat) : List T:=l++List.replicate (n - l.length) tZ
theorem uAS {l : List T} {n : Nat} (h : l.length≤n) : (padT l n).length=n:=by rw[padT,List.length_append,List.length_replicate]; omega
theorem Yj {l : List T} {n : Nat} (h : l.length < n) (x : T) : (padT l n).set l.length x=padT (l++[x]) n:=by
 rw[padT,padT,List.set_append_right _ _ (Nat.le_refl _),Nat.sub_self]
 obtain ⟨m,hm⟩ : ∃ m,n - l.length=m + 1:=⟨n - l.length - 1,by omega⟩
 have e : n - (l++[x]).length=m:=by simp; omega
 rw[hm,e,List.replicate_succ,List.set_cons_zero,List.append_assoc]; rfl
theorem Wx {l : List T} {n : Nat} (h : l.length=n) : padT l n=l:=by rw[padT,h,Nat.sub_self]; simp
theorem uAQ (n : Nat) : (List.replicate n tZ.cells).flatten=(T.rows (padT [] n)).flatten:=by
 rw[padT,T.rows_eq,List.nil_append,List.map_replicate]; rfl
end Go.Proofs.YteidahabkfgfjaaGreat
namespace Go.Abs
variable {Z : Pg}
theorem uCx {P : Program} {o : Oper} {a : Act} {w : World} {K K' : Act→World→Prop} {A B : Act→World→Prop} (h : ∀ a w,K a w→K' a w) (hh : o.wp P a w K (Qn A)) : o.wp P a w K' (Qn B):=by
 unfold Oper.wp at *
 generalize (execOp a.eval o).run P w=r at *
 have hl : LetsOut (Qn A)→LetsOut (Qn B):=fun ⟨_,_,q⟩=>q.elim
 cases r with
 | ok n w' =>
  cases n <;> simp only [Oper.upon] at hh ⊢ <;>
   first
    | exact h _ _ hh
    | exact Calls.mono hh (fun e w'' he=>by cases e <;> first|exact h _ _ he|exact he.elim|exact hl he)
    | exact Rows.mono hh (fun _ _ he=>h _ _ he)
 | halt x w'=>cases x <;> simp only [Oper.upon] at hh ⊢ <;> first|exact hh|exact hh.elim
def Nd (Z : Pg) (N : Nat) (ops : Array Oper) (Q : St→Prop) (fuel : Nat) (listed : Array Bool) (st : St) : Prop :=
 ∀ (E : Env) (G : Gh) (a : Act) (w : World),Rel E G st a w→EOk Z N E→wpAny Z.P .any ops (Qn fun a' w'=>∃ G' st',Q st'∧Rel E G' st' a' w') fuel listed a w
theorem Cp {N : Nat} {ops : Array Oper} {Q : St→Prop} {listed : Array Bool} {st : St} (hr : Region.ready .any ops listed=[]) (h : Q st) : Nd Z N ops Q 0 listed st :=
 fun E G a w hrel _=>⟨hr,G,st,h,hrel⟩
def uAa (Z : Pg) (N : Nat) (ops : Array Oper) (Q : St→Prop) (fuel : Nat) (listed : Array Bool) (st : St) : List Nat→Prop
 | []=>True
 | i :: r=>(∃ o,ops[i]? = some o∧AL Z N ops [o] (Nd Z N ops Q fuel (listed.setIfInBounds i true)) st)∧uAa Z N ops Q fuel listed st r
theorem Rh {N : Nat} {ops : Array Oper} {Q : St→Prop} {fuel : Nat} {listed : Array Bool} {st : St} : ∀ {rs : List Nat},uAa Z N ops Q fuel listed st rs → ∀ i ∈ rs,∃ o,ops[i]? = some o∧AL Z N ops [o] (Nd Z N ops Q fuel (listed.setIfInBounds i true)) st
 | [],_,i,hi=>absurd hi (List.not_mem_nil)
 | j :: r,h,i,hi=>by
  rcases List.mem_cons.1 hi with e | e
  ·subst e; exact h.1
  ·exact Rh h.2 i e
theorem E6 {N : Nat} {ops : Array Oper} {Q : St→Prop} {fuel : Nat} {listed : Array Bool} {st : St} (i : Nat) (rs : List Nat) (hr : Region.ready .any ops listed=i :: rs) (h : uAa Z N ops Q fuel listed st (i :: rs)) : Nd Z N ops Q (fuel + 1) listed st:=by
 intro E G a w hrel hE
 refine ⟨fun e=>absurd (hr.symm.trans e) (List.cons_ne_nil _ _),fun j hj=>?_⟩
 rw[hr] at hj
 obtain ⟨o,ho,hal⟩:=Rh h j hj
 have := hal E G a w hrel hE (wpAny Z.P .any ops (Qn fun a' w'=>∃ G' st',Q st'∧Rel E G' st' a' w') fuel (listed.setIfInBounds j true)) fun st' G' a' w' hn hr'=>hn E G' a' w' hr' hE
 unfold wpList at this
 unfold wpOp
 simp only [ho]
 split
 ·rename_i hw
  rw[if_pos hw] at this
  rcases this with q | q
  ·exact .inl (uCx (fun _ _ q=>q) q)
  ·obtain ⟨_,_,_,q⟩:=q
   exact q.elim
 ·rename_i hw
  rw[if_neg hw] at this
  exact this
theorem uAv {N : Nat} {Q : Exit→St→Prop} {st : St} {id : Nat} {ops : List Oper} (h : Nd Z N ops.toArray (Q .normal) ops.toArray.size (Array.replicate ops.toArray.size false) st) : AWP Z N (.region id ops.toArray true) Q st:=by
 intro E G a w hr hE
 refine wp_mono (wp_region_any Z.mix (h E G a _ hr.drew hE)) ?_
 intro e a' w' hq
 cases e <;> first|exact hq|exact hq.elim
end Go.Abs
namespace Go.Abs
variable {Z : Pg}
def CtrN (Z : Pg) (f : FuncId) (args : List X) (L : Nat) (cs : List C) : Prop :=
 O0 Z f ∧ ∀ (w : World) (G : Gh) (vs : List Value),All2 (XRep w G) args vs→(∀ b o,G.W b o ≠ .none→b < w.heap.size)→(∀ b o n,G.W b o ≠ .box n)→(∀ b o p,G.W b o ≠ .own p)→GlOk Z w G →
  Calls Z.P f vs.toArray w fun e w'=>∃ (v : Value) (G' : Gh) (b o0 cap : Nat),e = .returned v∧Fr (fun _ _=>False) w.heap.size w w' ∧
   (∀ b o,G.W b o = .imm→G'.W b o = .imm)∧(∀ b o,b < w.heap.size→G'.W b o = .imm→G.W b o = .imm)∧(∀ b o,G'.W b o ≠ .none→b < w'.heap.size)∧v = .slice (some ⟨b,o0,none⟩) L cap∧L≤cap∧w.heap.size≤b∧b < w'.heap.size ∧
   ∀ (j : Nat) (c : C),cs[j]? = some c→G'.W b (o0 + j) ≠ .imm∧w'.frozen? ⟨b,o0 + j,none⟩=false ∧ ∃ u,w'.cell? ⟨b,o0 + j,none⟩=some u∧CRep w' G'.S c u
def retN (T : List (Option TyI)) (rs : List ResultVar) (sz L : Nat) (cs : List C) : Exit→St→Prop
 | .normal,s | .ret,s=>∃ j : Nat,s.box (.l j)=some cs∧resX T s rs=some (.v (.ms (.l j) sz 0 L))
 | _,_=>False
theorem U5 {f : FuncId} {fn : Func} {c : Code} {N : Nat} {rs : List ResultVar} {args : List X} (sz : Nat) {L : Nat} {cs : List C} (hL : 0 < L) (hcs : cs≠[])
  (hf : Z.P.funcs[f]? = some fn) (hb : fn.body = some c) (hname : (fn.name == "runtime.NumGoroutine") = false) (hN : fn.ntmps = N) (hrs : fn.results = rs.toArray) (hlen' : Nat.ble args.length N = true)
  (h : AWP Z N c (retN Z.T rs sz L cs) (st0 args [])) (hx : ∀ A,Z.ex A:=by intro _; exact O) : CtrN Z f args L cs:=by
 have hlen : args.length≤N:=Nat.le_of_ble_eq_true hlen'
 refine ⟨⟨fn,hf,by rw[hb]; rfl,hname⟩,?_⟩
 intro w G vs hvs hwf hbox hown hgl
 let E : Env:={ B:=w.heap.size,w0:=w,W0:=G.W,A0:=fun j=>G.A (.o j),nt:=N }
 let a : Act:={ tmps:=vs.toArray++Array.replicate (fn.ntmps - vs.toArray.size) undef,defers:=[] }
 have hal : args.length=vs.length:=hvs.len
 have hrel : Rel E G (st0 args []) a w:={
  df:=rfl
  tm:=by
   intro k g x hk
   obtain ⟨i,y,h1,h2,h3⟩:=W9 0 args k (g,x) hk
   simp only [Prod.mk.injEq] at h3
   obtain ⟨rfl,rfl⟩:=h3
   obtain ⟨v,hv,hx⟩:=hvs.get i x h2
   have hi : i < vs.length:=(List.getElem?_eq_some_iff.1 hv).1
   refine ⟨v,?_,fun _=>hx,fun hg=>by simp at hg⟩
   show (vs.toArray++_)[k]? = _
   rw[h1,Nat.zero_add,Array.getElem?_append_left (by simpa using hi)]
   simpa using hv
  bx:=by
   intro n cs hn
   obtain ⟨i,h1,h2⟩:=L6 0 [] n cs hn
   rw[h1,Nat.zero_add]
   simp at h2
  ow:=by intro p sz hp; simp [St.own,st0,getO] at hp
  wf:=hwf
  olB:=fun b o n _ hn=>.inl ⟨n,hn⟩
  olO:=fun b o p _ hn=>⟨p,hn⟩
  nt:=by
   show (vs.toArray++Array.replicate (fn.ntmps - vs.toArray.size) undef).size=N
   simp; omega
  oA:=fun _=>rfl
  im:=fun b o h=>h
  im':=fun b o _ h=>.inl h
  fr:=Fr.refl _ _ _
  hB:=Nat.le_refl _
  lo:=fun b o _=>⟨fun n hn=>by exact absurd hn (hbox b o n),fun _ p=>hown b o p⟩
  bd:=fun t k cs hn=>by
   obtain ⟨i,h1,_⟩:=L6 0 [] _ cs hn
   simp at h1
  mp:=fun x hx=>by cases hx }
 refine calls_of_wp hf hb ?_
 have hwp:=h E G a w hrel ⟨rfl,fun _=>rfl,fun g hg=>⟨(hgl g hg).1,(hgl g hg).2.1,fun o hm=>by
  rcases hm with ⟨n,hn⟩ | ⟨p,hp⟩
  ·exact (hgl g hg).2.2.1 o n hn
  ·exact (hgl g hg).2.2.2 o p hp⟩,hx _⟩
 refine wp_mono hwp ?_
 rintro e a' w' ⟨G',s,hq,hr'⟩
 have key : (∃ j : Nat,s.box (.l j)=some cs∧resX Z.T s rs=some (.v (.ms (.l j) sz 0 L))) →
   a'.defers=[] ∧ ∃ v,(results fn a'.tmps).run Z.P w' = .ok v w' ∧ ∃ (u : Value) (G' : Gh) (b o0 cap : Nat),Ending.returned v = .returned u∧Fr (fun _ _=>False) w.heap.size w w' ∧
    (∀ b o,G.W b o = .imm→G'.W b o = .imm)∧(∀ b o,b < w.heap.size→G'.W b o = .imm→G.W b o = .imm)∧(∀ b o,G'.W b o ≠ .none→b < w'.heap.size)∧u = .slice (some ⟨b,o0,none⟩) L cap∧L≤cap∧w.heap.size≤b∧b < w'.heap.size ∧
    ∀ (j : Nat) (c : C),cs[j]? = some c→G'.W b (o0 + j) ≠ .imm∧w'.frozen? ⟨b,o0 + j,none⟩=false ∧ ∃ u,w'.cell? ⟨b,o0 + j,none⟩=some u∧CRep w' G'.S c u:=by
  rintro ⟨j,hbj,hres⟩
  have hbx:=hr'.bx _ _ hbj
  refine ⟨hr'.df,?_⟩
  unfold resX at hres
  have hys : ∃ ys,Y9 Z.T s rs=some ys∧X.v (.ms (.l j) sz 0 L)=Ab ys:=by
   split at hres
   ·rename_i ys hy; simp only [Option.some.injEq] at hres; exact ⟨ys,hy,hres.symm⟩
   ·simp at hres
  obtain ⟨ys,hys,hrb⟩:=hys
  obtain ⟨us,hrun,hall,hone⟩:=Q7 hr' hys
  have hresv : ∃ v,(results fn a'.tmps).run Z.P w' = .ok v w'∧XRep w' G' (Ab ys) v:=by
   have hr0 : (results fn a'.tmps).run Z.P w' = .ok (if h : us.toArray.size=1 then us.toArray[0] else .tuple us.toArray) w':=by
    rw[Y3,hrs,List.mapM_toArray]
    simp only [Sem.run_bind,Sem.run_map,hrun,Result.andThen_ok,Sem.run_pure]
   exact ⟨_,hr0,Et hall⟩
  obtain ⟨v,hv1,hv2⟩:=hresv
  refine ⟨v,hv1,?_⟩
  have hfr : Fr (fun _ _=>False) w.heap.size w w':=hr'.fr.mono (Nat.le_refl _) fun b o _ hm=>by
   rcases hm with ⟨n,hn⟩ | ⟨p,hp⟩
   ·exact absurd hn (hbox b o n)
   ·exact absurd hp (hown b o p)
  let G2 : Gh:={ A:=G'.A,W:=fun b o=>match G'.W b o with | .imm=>.imm | _=>.none }
  have hS : ∀ b o,G'.S b o→G2.S b o:=fun b o hs=>by unfold Gh.S at *; simp [G2,hs]
  have hI : ∀ b o,G2.W b o = .imm→G'.W b o = .imm:=fun b o hi=>by
   simp only [G2] at hi
   split at hi
   ·assumption
   ·simp at hi
  rw[← hrb] at hv2
  have hv3 : ∃ cap,L≤cap∧v = .slice (some ⟨(G'.A (.l j)).1,(G'.A (.l j)).2 + 0,none⟩) L cap:=by
   rcases hv2 with ⟨h0,_⟩ | h
   ·omega
   ·exact h
  obtain ⟨cap,hcap,hv4⟩:=hv3
  obtain ⟨c0,hc0⟩ : ∃ c,cs[0]? = some c:=by
   cases cs with
   | nil=>exact absurd J hcs
   | cons c r=>exact ⟨c,rfl⟩
  have hb0:=(hbx 0 c0 hc0).1
  refine ⟨v,G2,(G'.A (.l j)).1,(G'.A (.l j)).2,cap,rfl,hfr,fun b o hi=>hS b o (hr'.im b o hi),fun b o hb hi=>?_,fun b o hn=>?_,by rw[hv4]; rfl,hcap,?_,?_,fun k c hk=>?_⟩
  ·rcases hr'.im' b o hb (hI b o hi) with h1 | ⟨p,hp⟩
   ·exact h1
   ·exact absurd hp (hown b o p)
  ·refine hr'.wf b o ?_
   intro he; apply hn; simp [G2,he]
  ·refine Nat.le_of_not_lt fun hlt=>?_
   obtain ⟨i,hi⟩:=(hr'.lo _ _ hlt).1 _ hb0
   cases hi
  ·exact hr'.wf _ _ (by rw[hb0]; simp)
  ·obtain ⟨h1,h2,u,h3,h4⟩:=hbx k c hk
   refine ⟨fun hi=>?_,h2,u,h3,h4.mono hS fun _ _ _=>rfl⟩
   have := hI _ _ hi
   rw[h1] at this; cases this
 cases e <;> first
  | exact key hq
  | exact hq.elim
theorem uAG {N : Nat} {ops : Array Oper} {rest : List Oper} {K : St→Prop} {st : St} {o : Oper} {d : Nat} {fo : Operand} {args : Array Operand} {ts : Array TypeId} {f : FuncId} {xs : List X} (sz : Nat) {L : Nat} {cs : List C}
  (ho : o.op = .call { callee:=.value fo,args:=args,argTypes:=ts }) (hg : G6 ops st o=some true) (hd : o.dst=some d) (hN : Nat.ble (d + 1) N=true)
  (hf : lk Z.T st 0 fo=some (true, .fn f [])) (ha : L5 Z.T st ts.toList args.toList=some (true,xs)) (hfr0 : st.freshO (.l d,true)=true)
  (hs : CtrN Z f xs L cs) (h : AL Z N ops rest K ((st.addBox (.l d) cs).put d (true, .v (.ms (.l d) sz 0 L)))) : AL Z N ops (o :: rest) K st:=by
 intro E G a w hr hE K' hK
 have hfr1 : FreshG st (.l d,true):=St.freshO_ok hfr0
 have hdN : d < E.nt:=by rw[hE.nt]; exact Nat.le_of_ble_eq_true hN
 unfold wpList
 rw[I7 hr hg,if_pos J]
 refine .inl ?_
 obtain ⟨cvs,hfv,hcv⟩:=F0 hr hf rfl
 have hcv0 : cvs=[]:=by cases cvs with
  | nil=>rfl
  | cons _ _=>exact hcv.elim
 subst hcv0
 have hav:=O8 hr ha J
 obtain ⟨hen,hsp⟩:=hs
 unfold Oper.wp
 rw[S0 ho hfv hen,Oper.upon_enter,List.append_nil]
 have hmono : ∀ {x : X} {v : Value},XRep w G x v→XRep w G.pure x v:=fun hx=>hx.mono (fun b o hs=>(G.pure_imm b o).2 hs) (fun _ _ _=>rfl) (fun _ _=>rfl)
 refine (hsp w G.pure _ (hav.mono fun _ _=>hmono) ?_ ?_ ?_ ((hE.at hr).pure)).mono ?_
 ·intro b o' hb
  refine hr.wf b o' ?_
  intro e; apply hb; unfold Gh.pure; simp [e]
 ·intro b o' n hn; rcases G.pure_cases b o' with h' | h' <;> rw[h'] at hn <;> simp at hn
 ·intro b o' p hn; rcases G.pure_cases b o' with h' | h' <;> rw[h'] at hn <;> simp at hn
 ·rintro e w' ⟨v,G',b,o0,cap,rfl,hfr,h1,h2,h3,hv,hcap,hb1,hb2,hcells⟩
  dsimp only
  have g2 : ∀ b o',b < w.heap.size→G'.W b o' = .imm→G.W b o' = .imm:=fun b o' hb hi=>(G.pure_imm b o').1 (h2 b o' hb hi)
  let G2:=G.back G' w.heap.size .none
  let G3 : Gh:={ A:=fun m=>if m = .l d then (b,o0) else G.A m,W:=fun b' o'=>if b'=b∧o0≤o'∧o' < o0 + cs.length then .box (.l d) else G2.W b' o' }
  have hnb : ∀ b',b' < w.heap.size → ¬ b'=b:=fun b' hb' e=>by omega
  have hS3 : ∀ b' o',G'.S b' o'→G3.S b' o':=fun b' o' hs=>by
   unfold Gh.S at *
   dsimp only [G3]
   rw[if_neg]
   ·exact Gh.back_imm g2 b' o' hs
   ·rintro ⟨e1,e2,e3⟩
    subst e1
    obtain ⟨k,rfl⟩ : ∃ k,o'=o0 + k:=⟨o' - o0,by omega⟩
    exact (hcells k _ (List.getElem?_eq_getElem (by omega))).1 hs
  have hrel : Rel E G3 (st.addBox (.l d) cs) a w':=by
   refine Rel.addBox ?_ ?_ J
   ·refine (hr.sub (St.drop_sub _ (.l d))).grow hfr ?_ (St.drop_same (st:=st) J (fun k g x hk=>hfr1.1 J k g x hk) _ _) ?_
    ·intro b' o' hb'
     dsimp only [G3]
     rw[if_neg (fun q=>hnb b' hb' q.1)]
     simp [G2,Gh.back,hb']
    ·intro b' o' hne
     dsimp only [G3] at hne
     split at hne
     ·rename_i q; rw[q.1]; exact hb2
     ·dsimp only [G2,Gh.back] at hne
      split at hne
      ·rename_i hlt; exact Nat.lt_of_lt_of_le hlt hfr.size
      ·refine h3 b' o' ?_
       intro e; rw[e] at hne; simp at hne
   ·intro k c hk
    obtain ⟨q1,q2,u,q3,q4⟩:=hcells k c hk
    have hkl : k < cs.length:=(List.getElem?_eq_some_iff.1 hk).1
    have hA : G3.A (.l d)=(b,o0):=by dsimp only [G3]; rw[if_pos J]
    rw[hA]
    refine ⟨?_,q2,u,q3,q4.mono hS3 fun _ _ _=>rfl⟩
    dsimp only [G3]
    rw[if_pos ⟨rfl,by omega,by omega⟩]
  have hput:=hrel.put hdN (g:=true) (x:=.v (.ms (.l d) sz 0 L)) (v:=v) (fun _=>.inr ⟨cap,hcap,by rw[hv]; dsimp only [G3]; rw[if_pos J]; rfl⟩) (fun hf=>by simp at hf)
  rw[hd]
  exact h E G3 _ _ hput hE K' hK
theorem Dt {N : Nat} {ops : Array Oper} {rest : List Oper} {K : St→Prop} {st : St} (k m : Nat) {sz : Nat} (hs : st.get k=some (true, .v (.c (.sl sz [])))) (hw : st.own (.t k)=some sz) (hfr : st.freshO (.l m,true)=true) (h : AL Z N ops rest K (st.thw k m sz)) : AL Z N ops rest K st:=fun E G a w hr hE=>by
 obtain ⟨G',h'⟩:=hr.thaw hs hw (St.freshO_ok hfr)
 exact h E G' a w h' hE
end Go.Abs
namespace Go.Proofs.YteidahabkfgfjaaGreat
open Go Go.Abs
theorem Ou (l : List (List UInt8)) (h : l.length≤100000) : Ctr sys 90 [.v (.c (.sl 1 (strR l)))] [] (.v (.c (.sl 1 (strR l)))) none []:=by
 have hr : (strR l).length≤100000:=by rw[B4]; exact h
 refine D1 Tryz.func90 J J J J J J ?_;refine A8 (A6 ?_);refine C3 J (H9 (.inr J) J J) ?_;refine B0 ?_;refine A8 ?_;refine A8 (A6 ?_);refine A5 J J J (A7 J gU) ?_;refine U3 J J J J J J J J (fun b hb=>?_);refine B0 ?_;refine B8 J (fun hc=>?_) (fun hc=>?_)
 ·refine A8 (A6 ?_)
  refine C3 J (H9 (.inr J) J J) ?_;refine B0 ?_;refine C1 ?_
  repeat(first|refine tR ?_|refine bR ?_)
  refine C5 J ?_ O
  have := hb hc
  exact congrArg (fun z=>X.v (.c (.sl 1 z))) this.symm
 ·refine C0 ?_
  refine A8 (A6 ?_);refine E8 (xs:=[]) J J J J J J J J J gU J ?_;refine A5 J J J (A7 J gU) ?_;refine C3 J (G0 J J J J J J J (by simp; omega) (by simp; omega)) ?_;refine C3 J (F6 (.inr J) J J J) ?_;refine B0 ?_;refine C1 ?_
  repeat(first|refine tR ?_|refine bR ?_)
  refine C5 J ?_ O
  rfl
theorem Qv (l : List Fs) (h : l.length≤100000) : Ctr sys 91 [.v (.c (.sl 3 (Fs.rows l)))] [] (.v (.c (.sl 3 (Fs.rows l)))) none []:=by
 have hr : (Fs.rows l).length≤100000:=by rw[Fs.rows_len]; exact h
 refine D1 Tryz.func91 J J J J J J ?_;refine A8 (A6 ?_);refine C3 J (H9 (.inr J) J J) ?_;refine B0 ?_;refine A8 ?_;refine A8 (A6 ?_);refine A5 J J J (A7 J gU) ?_;refine U3 J J J J J J J J (fun b hb=>?_);refine B0 ?_;refine B8 J (fun hc=>?_) (fun hc=>?_)
 ·refine A8 (A6 ?_)
  refine C3 J (H9 (.inr J) J J) ?_;refine B0 ?_;refine C1 ?_
  repeat(first|refine tR ?_|refine bR ?_)
  refine C5 J ?_ O
  have := hb hc
  exact congrArg (fun z=>X.v (.c (.sl 3 z))) this.symm
 ·refine C0 ?_
  refine A8 (A6 ?_);refine E8 (xs:=[]) J J J J J J J J J gU J ?_;refine A5 J J J (A7 J gU) ?_;refine C3 J (G0 J J J J J J J (by simp; omega) (by simp; omega)) ?_;refine C3 J (F6 (.inr J) J J J) ?_;refine B0 ?_;refine C1 ?_
  repeat(first|refine tR ?_|refine bR ?_)
  refine C5 J ?_ O
  rfl
theorem Mf : Ctr sys 93 [.v (.c (.sl 5 []))] [] (.v (.c (.sl 5 []))) none []:=by
 refine D1 Tryz.func93 J J J J J J ?_;refine A8 (A6 ?_);refine C3 J (H9 (.inr J) J J) ?_;refine B0 ?_;refine A8 ?_;refine A8 (A6 ?_);refine A5 J J J (A7 J gU) ?_;refine U3 J J J J J J J J (fun b hb=>?_);refine B0 ?_;refine B8 J (fun hc=>?_) (fun hc=>?_)
 ·refine A8 (A6 ?_)
  refine C3 J (H9 (.inr J) J J) ?_;refine B0 ?_;refine C1 ?_
  repeat(first|refine tR ?_|refine bR ?_)
  refine C5 J ?_ O
  rfl
 ·refine C0 ?_
  refine A8 (A6 ?_);refine E8 (xs:=[]) J J J J J J J J J gU J ?_;refine A5 J J J (A7 J gU) ?_;refine C3 J (G0 J J J J J J J (by simp) (by simp)) ?_;refine C3 J (F6 (.inr J) J J J) ?_;refine B0 ?_;refine C1 ?_
  repeat(first|refine tR ?_|refine bR ?_)
  refine C5 J ?_ O
  rfl
theorem Qg (l : List Sp) (h : l.length≤100000) (h0 : l≠[]) : CtrN sys 92 [.v (.c (.sl 7 (Sp.rows l)))] l.length (Sp.rows l).flatten:=by
 have hr : (Sp.rows l).length=l.length:=Sp.rows_len l
 have hp : 0 < l.length:=List.length_pos_iff.2 h0
 have hf : (Sp.rows l).flatten≠[]:=by
  cases l with
  | nil=>exact absurd J h0
  | cons x r=>intro q; have := congrArg List.length q; simp [Sp.rows,Sp.cells] at this
 refine U5 7 (hp) (hf) Tryz.func92 J J J J J ?_;refine A8 (A6 ?_);refine C3 J (H9 (.inr J) J J) ?_;refine B0 ?_;refine A8 ?_;refine A8 (A6 ?_);refine A5 J J J (A7 J gU) ?_;refine U3 J J J J J J J J (fun b hb=>?_);refine B0 ?_;refine B8 J (fun hc=>?_) (fun hc=>?_)
 ·exfalso
  have := congrArg List.length (hb hc)
  rw[hr] at this; simp at this; exact h0 this
 ·refine C0 ?_
  refine A8 (A6 ?_);refine E8 (xs:=[]) J J J J J J J J J gU J ?_;refine A5 J J J (A7 J gU) ?_;refine Dt 5 5 J J J ?_;refine V2 7 J J J J J J J J J J J J J (by simp) (by omega) (by simp; omega) (by omega) ?_
  rw[Nat.zero_add,hr]
  trace_state
  refine C3 J (F6 (.inr J) J J J) ?_;refine B0 ?_;refine C1 ?_
  repeat(first|refine tR ?_|refine bR ?_)
  refine ⟨7,rfl,?_⟩
  rfl
theorem Oy (l : List Gl) (h : l.length≤100000) (h0 : l≠[]) : CtrN sys 93 [.v (.c (.sl 5 (Gl.rows l)))] l.length (Gl.rows l).flatten:=by
 have hr : (Gl.rows l).length=l.length:=Gl.rows_len l
 have hp : 0 < l.length:=List.length_pos_iff.2 h0
 have hf : (Gl.rows l).flatten≠[]:=by
  cases l with
  | nil=>exact absurd J h0
  | cons x r=>intro q; have := congrArg List.length q; simp [Gl.rows,Gl.cells] at this
 refine U5 5 (hp) (hf) Tryz.func93 J J J J J ?_;refine A8 (A6 ?_);refine C3 J (H9 (.inr J) J J) ?_;refine B0 ?_;refine A8 ?_;refine A8 (A6 ?_);refine A5 J J J (A7 J gU) ?_;refine U3 J J J J J J J J (fun b hb=>?_);refine B0 ?_;refine B8 J (fun hc=>?_) (fun hc=>?_)
 ·exfalso
  have := congrArg List.length (hb hc)
  rw[hr] at this; simp at this; exact h0 this
 ·refine C0 ?_
  refine A8 (A6 ?_);refine E8 (xs:=[]) J J J J J J J J J gU J ?_;refine A5 J J J (A7 J gU) ?_;refine Dt 5 5 J J J ?_;refine V2 7 J J J J J J J J J J J J J (by simp) (by omega) (by simp; omega) (by omega) ?_
  rw[Nat.zero_add,hr]
  trace_state
  refine C3 J (F6 (.inr J) J J J) ?_;refine B0 ?_;refine C1 ?_
  repeat(first|refine tR ?_|refine bR ?_)
  refine ⟨7,rfl,?_⟩
  rfl
theorem Rt (l : List T) (h : l.length≤100000) (h0 : l≠[]) : CtrN sys 95 [.v (.c (.sl 4 (T.rows l)))] l.length (T.rows l).flatten:=by
 have hr : (T.rows l).length=l.length:=T.rows_len l
 have hp : 0 < l.length:=List.length_pos_iff.2 h0
 have hf : (T.rows l).flatten≠[]:=by
  cases l with
  | nil=>exact absurd J h0
  | cons x r=>intro q; have := congrArg List.length q; simp [T.rows_eq,T.cells] at this
 refine U5 4 (hp) (hf) Tryz.func95 J J J J J ?_;refine A8 (A6 ?_);refine C3 J (H9 (.inr J) J J) ?_;refine B0 ?_;refine A8 ?_;refine A8 (A6 ?_);refine A5 J J J (A7 J gU) ?_;refine U3 J J J J J J J J (fun b hb=>?_);refine B0 ?_;refine B8 J (fun hc=>?_) (fun hc=>?_)
 ·exfalso
  have := congrArg List.length (hb hc)
  rw[hr] at this; simp at this; exact h0 this
 ·refine C0 ?_
  refine A8 (A6 ?_);refine E8 (xs:=[]) J J J J J J J J J gU J ?_;refine A5 J J J (A7 J gU) ?_;refine Dt 5 5 J J J ?_;refine V2 7 J J J J J J J J J J J J J (by simp) (by omega) (by simp; omega) (by omega) ?_
  rw[Nat.zero_add,hr]
  trace_state
  refine C3 J (F6 (.inr J) J J J) ?_;refine B0 ?_;refine C1 ?_
  repeat(first|refine tR ?_|refine bR ?_)
  refine ⟨7,rfl,?_⟩
  rfl
end Go.Proofs.YteidahabkfgfjaaGreat
namespace Go.Abs
variable {Z : Pg}
theorem CtrN.wk {Z Z' : Pg} {f : FuncId} {args : List X} {L : Nat} {cs : List C} (hP : Z'.P=Z.P) (hg : ∀ g ∈ Z.gv,g ∈ Z'.gv) (h : CtrN Z f args L cs) : CtrN Z' f args L cs:=by
 obtain ⟨⟨fn,h1,h2,h3⟩,h4⟩:=h
 refine ⟨⟨fn,by rw[hP]; exact h1,h2,h3⟩,fun w G vs a b c d e=>?_⟩
 rw[hP]
 exact h4 w G vs a b c d fun x hx=>e x (hg x hx)
theorem Li {N : Nat} {α : Type} {c : Code} {Q : Exit→St→Prop} {st : St} {id : Nat} {ops : List Oper} (S : α→St) (rest : ∀ x,AWP Z N c Q (S x)) (h : Nd Z N ops.toArray (fun s=>∃ x,Sub (S x) s) ops.toArray.size (Array.replicate ops.toArray.size false) st) : AWP Z N (.seq (.region id ops.toArray true) c) Q st :=
 A8 (Rs (uAv (Q:=fun e s=>match e with | .normal=>∃ x,Sub (S x) s | _=>False) h) fun e s hq=>by
  cases e with
  | normal=>obtain ⟨x,hs⟩:=hq; exact B5 hs (rest x)
  | _=>exact hq.elim)
theorem G9 {N : Nat} {α : Type} {ops : Array Oper} {Q : St→Prop} {F : Nat} {listed0 : Array Bool} {st0 : St} (f : Nat) (L : Array Bool) (S : α→St) (tail : ∀ x,Nd Z N ops Q f L (S x)) (h : (∀ (x : α) {listed : Array Bool} {st : St},listed=L→Sub (S x) st→Nd Z N ops Q f listed st)→Nd Z N ops Q F listed0 st0) : Nd Z N ops Q F listed0 st0 :=
 h fun x {listed st} hl hs=>by subst hl; exact fun E G a w hr hE=>tail x E G a w (hr.sub hs) hE
end Go.Abs
namespace Go.Abs
variable {Z : Pg}
section
variable {N : Nat} {st s0 : St} {ops : Array Oper} {B : List Nat} {k : Nat} {rest : List Oper} {acc : List Lnk} {o : Oper} {Q : St→Prop} {d : Nat} {gate : Bool}
def uAw (ops : Array Oper) (o : Oper) (n : Nm) (j : Nat) : Foot:={ rt:=j :: Ul ops o,rb:=[n],ro:=[] }
end
theorem Rel.setBox {E : Env} {G : Gh} {st : St} {a : Act} {w : World} {n : Nm} {cs : List C} (h : Rel E G st a w) (hb : N5 w G n cs) (hnb : n.isBd=false) : Rel E G { st with bx:=(n,cs) :: st.bx } a w where
 df:=h.df
 tm:=h.tm
 bx:=by
  intro m ds hm
  have : St.box { st with bx:=(n,cs) :: st.bx } m=if n=m then some cs else st.box m:=F9 _ _ _ _
  rw[this] at hm
  split at hm
  ·rename_i he; subst he; simp at hm; subst hm; exact hb
  ·exact h.bx m ds hm
 ow:=h.ow
 wf:=h.wf
 olB:=h.olB
 olO:=h.olO
 nt:=h.nt
 oA:=h.oA
 im:=h.im
 im':=h.im'
 fr:=h.fr
 hB:=h.hB
 lo:=h.lo
 bd:=by
  intro t k ds hm hne
  have : St.box { st with bx:=(n,cs) :: st.bx } (.bd t k)=if n = .bd t k then some cs else st.box (.bd t k):=F9 _ _ _ _
  rw[this] at hm
  split at hm
  ·rename_i he; subst he; simp [Nm.isBd] at hnb
  ·exact h.bd t k ds hm hne
 mp:=h.mp
theorem Kh (cs : List C) (off : Nat) (c : C) : H3 cs off [c]=cs.set off c:=rfl
end Go.Abs
namespace Go.Proofs.YteidahabkfgfjaaGreat
open Go Go.Abs
def chS (g : ChG) (s : Sp) : Sp:=⟨s.frm,s.dst,chT g s.msg,s.line⟩
def chL (g : ChG) (x : Gl) : Gl:=⟨x.kind,x.role,x.wth,x.data.map (chT g),x.line⟩
theorem Ns {sz : Nat} {xs : List (List C)} {i j m : Nat} {row : List C} (h : ∀ (i : Nat) (row : List C),xs[i]? = some row→row.length=sz) (hi : xs[i]? = some row) (hjm : j + m≤sz) : (xs.flatten.drop (i * sz + j)).take m=(row.drop j).take m:=by
 have hr:=Ik h hi
 have e : row.drop j=(xs.flatten.drop (i * sz + j)).take (sz - j):=by
  rw[← hr,List.drop_take,List.drop_drop]
 rw[e,List.take_take,Nat.min_eq_left (by omega)]
theorem Nb {sz : Nat} {xs : List (List C)} {i j : Nat} {row ds : List C} (h : ∀ (i : Nat) (row : List C),xs[i]? = some row→row.length=sz) (hi : xs[i]? = some row) (hjm : j + ds.length≤sz) : H3 xs.flatten (i * sz + j) ds=(xs.set i (H3 row j ds)).flatten:=by
 have hil : i < xs.length:=(List.getElem?_eq_some_iff.1 hi).1
 have hrl:=h i row hi
 have hlen : (H3 row j ds).length=sz:=by rw[J0,hrl]
 rw[← Jh h hil hlen]
 have hfl : i * sz + sz≤xs.flatten.length:=by
  cases hz : sz with
  | zero =>
   have : ds.length=0:=by omega
   rw[Nat.mul_zero]; omega
  | succ z =>
   have hg : row[z]? = some (row[z]'(by omega)):=List.getElem?_eq_getElem (by omega)
   have := Ec h hi hg
   have := (List.getElem?_eq_some_iff.1 this).1
   rw[hz] at this; omega
 refine List.ext_getElem? fun k=>?_
 rw[S4 _ _ _ _ (by omega),S4 _ _ _ _ (by omega),hlen]
 by_cases h1 : i * sz≤k∧k < i * sz + sz
 ·obtain ⟨k',rfl⟩ : ∃ k',k=i * sz + k':=⟨k - i * sz,by omega⟩
  have hrk : row[k']? = some (row[k']'(by omega)):=List.getElem?_eq_getElem (by omega)
  have hfk:=Ec h hi hrk
  rw[if_pos h1,Nat.add_sub_cancel_left,S4 _ _ _ _ (by omega)]
  by_cases h2 : j≤k'∧k' < j + ds.length
  ·rw[if_pos (by omega),if_pos h2]
   congr 1; omega
  ·rw[if_neg (by omega),if_neg h2,hfk,hrk]
 ·rw[if_neg (by omega),if_neg h1]
theorem Fz (l : List Sp) : ∀ (i : Nat) (row : List C),(Sp.rows l)[i]? = some row→row.length=7:=by
 intro i row h
 rw[Sp.rows,List.getElem?_map] at h
 cases hx : l[i]? with
 | none=>rw[hx] at h; cases h
 | some t=>rw[hx] at h; cases h; rfl
theorem Fy (l : List Gl) : ∀ (i : Nat) (row : List C),(Gl.rows l)[i]? = some row→row.length=5:=by
 intro i row h
 rw[Gl.rows,List.getElem?_map] at h
 cases hx : l[i]? with
 | none=>rw[hx] at h; cases h
 | some t=>rw[hx] at h; cases h; rfl
def upto {α : Type} (f : α→α) (l : List α) (k : Nat) : List α:=(l.take k).map f++l.drop k
theorem R2 {α : Type} (f : α→α) (l : List α) : upto f l 0=l:=by simp [upto]
theorem R1 {α : Type} (f : α→α) (l : List α) : upto f l l.length=l.map f:=by simp [upto]
theorem V1 {α : Type} (f : α→α) (l : List α) (k : Nat) : (upto f l k).length=l.length:=by
 simp only [upto,List.length_append,List.length_map,List.length_take,List.length_drop]; omega
theorem Y7 {α : Type} {f : α→α} {l : List α} {k : Nat} {d : α} (h : k < l.length) : (upto f l k)[k]? = some (l.getD k d):=by
 rw[upto,List.getElem?_append_right (by simp; omega),List.length_map,List.length_take,Nat.min_eq_left (by omega),Nat.sub_self,List.getElem?_drop,Nat.add_zero,List.getD_eq_getElem?_getD,List.getElem?_eq_getElem h]; rfl
theorem V3 {α : Type} {f : α→α} {l : List α} {k : Nat} {d : α} (h : k < l.length) : (upto f l k).set k (f (l.getD k d))=upto f l (k + 1):=by
 rw[upto,List.set_append_right _ _ (by simp; omega),upto,M2 (d:=d) h,List.map_append,List.append_assoc]
 congr 1
 have e : k - ((l.take k).map f).length=0:=by simp; omega
 rw[e,List.drop_eq_getElem_cons h,List.set_cons_zero]
 rfl
theorem uBP {l : List Sp} {k : Nat} {s : Sp} (h : l[k]? = some s) : ((Sp.rows l).flatten.drop (k * 7 + 2)).take 4=s.msg.cells:=by
 rw[Ns (Fz l) (row:=s.cells) (by rw[Sp.rows,List.getElem?_map,h]; rfl) (by omega)]; rfl
theorem Zt {l : List Sp} {k : Nat} {s : Sp} (h : l[k]? = some s) (t : T) : H3 (Sp.rows l).flatten (k * 7 + 2) t.cells=(Sp.rows (l.set k { s with msg:=t })).flatten:=by
 rw[Nb (Fz l) (row:=s.cells) (by rw[Sp.rows,List.getElem?_map,h]; rfl) (by show 2 + 4≤7; omega),Sp.rows,Sp.rows,List.map_set]; rfl
theorem uBa {l : List Gl} {k : Nat} {g : Gl} (h : l[k]? = some g) : (Gl.rows l).flatten[k * 5 + 3]? = some (.sl 4 (T.rows g.data)) :=
 Ec (Fy l) (row:=g.cells) (by rw[Gl.rows,List.getElem?_map,h]; rfl) J
theorem uAF {l : List Gl} {k : Nat} {g : Gl} (h : l[k]? = some g) (d : List T) : H3 (Gl.rows l).flatten (k * 5 + 3) [.sl 4 (T.rows d)]=(Gl.rows (l.set k { g with data:=d })).flatten:=by
 rw[Nb (Fy l) (row:=g.cells) (by rw[Gl.rows,List.getElem?_map,h]; rfl) (by show 3 + 1≤5; omega),Gl.rows,Gl.rows,List.map_set]; rfl
theorem Ga (l : List Sp) : (Sp.rows l).flatten.length=l.length * 7:=by
 induction l with
 | nil=>simp [Sp.rows]
 | cons x l ih =>
  have e : Sp.rows (x :: l)=x.cells :: Sp.rows l:=by simp [Sp.rows]
  have : x.cells.length=7:=rfl
  rw[e,List.flatten_cons,List.length_append,ih]
  simp only [List.length_cons]; omega
theorem Gi (l : List Gl) : (Gl.rows l).flatten.length=l.length * 5:=by
 induction l with
 | nil=>simp [Gl.rows]
 | cons x l ih =>
  have e : Gl.rows (x :: l)=x.cells :: Gl.rows l:=by simp [Gl.rows]
  have : x.cells.length=5:=rfl
  rw[e,List.flatten_cons,List.length_append,ih]
  simp only [List.length_cons]; omega
theorem Zu {l : List Sp} {k : Nat} {s : Sp} (h : l[k]? = some s) : ((Sp.rows l).flatten.drop (0 + k * 7 + 2)).take 4=s.msg.cells:=by
 rw[Nat.zero_add]; exact uBP h
theorem uAj {l : List Gl} {k : Nat} {g : Gl} (h : l[k]? = some g) : (Gl.rows l).flatten[0 + k * 5 + 3]? = some (.sl 4 (T.rows g.data)):=by
 rw[Nat.zero_add]; exact uBa h
theorem Ry {l : List T} {i : Nat} {t : T} (h : l[i]? = some t) : ((T.rows l).flatten.drop (0 + i * 4)).take 4=t.cells:=by
 rw[Nat.zero_add,Ik (Um l) (row:=t.cells) (by rw[T.rows_eq,List.getElem?_map,h]; rfl)]
end Go.Proofs.YteidahabkfgfjaaGreat
namespace Go.Abs
variable {Z : Pg}
def Gh.adopt (G : Gh) (k : Nat) (A0 : Nat × Nat) (n : Nat) : Gh:={ A:=fun m=>if m = .l k then A0 else G.A m,W:=fun b o=>if b=A0.1∧A0.2≤o∧o < A0.2 + n then .box (.l k) else G.W b o }
theorem Gh.adopt_A {G : Gh} {k n : Nat} {A0 : Nat × Nat} {m : Nm} (h : m ≠ .l k) : (G.adopt k A0 n).A m=G.A m:=by unfold Gh.adopt; dsimp only; rw[if_neg h]
theorem Gh.adopt_At {G : Gh} {k n : Nat} {A0 : Nat × Nat} : (G.adopt k A0 n).A (.l k)=A0:=by unfold Gh.adopt; dsimp only; rw[if_pos J]
theorem Rel.adopt {E : Env} {G : Gh} {st : St} {a : Act} {w : World} (h : Rel E G st a w) {k : Nat} {A0 : Nat × Nat} {cs : List C} (hfr : FreshG st (.l k,true)) (hB : cs≠[]→E.B≤A0.1)
  (hc : ∀ (j : Nat) (c : C),cs[j]? = some c→G.W A0.1 (A0.2 + j) = .none∧A0.1 < w.heap.size∧w.frozen? ⟨A0.1,A0.2 + j,none⟩=false ∧ ∃ u,w.cell? ⟨A0.1,A0.2 + j,none⟩=some u∧CRep w G.S c u) :
  Rel E (G.adopt k A0 cs.length) (st.addBox (.l k) cs) a w ∧ ∀ b o,G.S b o→(G.adopt k A0 cs.length).S b o:=by
 have hcase : ∀ b o,(G.adopt k A0 cs.length).W b o=G.W b o∨(E.B≤b∧G.W b o = .none∧b < w.heap.size ∧ ∃ u,w.cell? ⟨b,o,none⟩=some u):=fun b o=>by
  by_cases q : b=A0.1∧A0.2≤o∧o < A0.2 + cs.length
  ·obtain ⟨q1,q2,q3⟩:=q
   obtain ⟨j,rfl⟩ : ∃ j,o=A0.2 + j:=⟨o - A0.2,by omega⟩
   subst q1
   obtain ⟨p1,p2,p3,u,p4,p5⟩:=hc j _ (List.getElem?_eq_getElem (by omega))
   exact .inr ⟨hB (fun e=>by rw[e,List.length_nil] at q3; omega),p1,p2,u,p4⟩
  ·left; unfold Gh.adopt; dsimp only; rw[if_neg q]
 have hne : ∀ b o,G.W b o ≠ .none→(G.adopt k A0 cs.length).W b o=G.W b o:=fun b o q=>by
  rcases hcase b o with e | ⟨_,e,_⟩
  ·exact e
  ·exact absurd e q
 have hold : ∀ b o,b < E.B→(G.adopt k A0 cs.length).W b o=G.W b o:=fun b o q=>by
  rcases hcase b o with e | ⟨e,_⟩
  ·exact e
  ·omega
 have hS : ∀ b o,G.S b o→(G.adopt k A0 cs.length).S b o:=fun b o hs=>by
  unfold Gh.S at *; rw[hne b o (by rw[hs]; simp)]; exact hs
 refine ⟨Rel.addBox ?_ ?_ J,hS⟩
 ·constructor
  ·exact h.df
  ·intro j g x hj
   obtain ⟨v,h1,h2,h3⟩:=h.tm j g x hj
   exact ⟨v,h1,fun hg=>(h2 hg).mono hS (fun _ _ _=>rfl) (fun n hn=>Gh.adopt_A fun e=>by subst e; rw[hfr.1 J j g x hj] at hn; cases hn),h3⟩
  ·intro n ds hn j c hj
   rw[St.drop_box] at hn
   split at hn
   ·cases hn
   ·rename_i q
    obtain ⟨h1,h2,u,h3,h4⟩:=h.bx n ds hn j c hj
    rw[Gh.adopt_A q]
    exact ⟨by rw[hne _ _ (by rw[h1]; simp)]; exact h1,h2,u,h3,h4.mono hS fun _ _ _=>rfl⟩
  ·intro p sz hp
   rw[St.drop_own] at hp
   split at hp
   ·cases hp
   ·rename_i q
    obtain ⟨u,h1,h2⟩:=h.ow p sz hp
    refine ⟨u,?_,?_⟩
    ·cases p with
     | t i=>exact h1
     | b n off =>
      have hq : n ≠ .l k:=fun e=>q (by subst e; simp [Pl.inBox,Nm.beq_self])
      show w.cell? _=_∧_=_
      rw[Gh.adopt_A hq,hne _ _ (by rw[h1.2]; simp)]
      exact h1
    ·rcases h2 with h2 | ⟨b2,len,cap,e,q1,q2,q3,q4⟩
     ·exact .inl h2
     ·exact .inr ⟨b2,len,cap,e,q1,q2,q3,fun o h1 h2=>⟨by rw[hne _ _ (by rw[(q4 o h1 h2).1]; simp)]; exact (q4 o h1 h2).1,(q4 o h1 h2).2⟩⟩
  ·intro b o q
   rcases hcase b o with e | ⟨_,_,e,_⟩
   ·exact h.wf b o (by rw[← e]; exact q)
   ·exact e
  ·intro b o n hb hn; rw[hold b o hb] at hn; exact h.olB b o n hb hn
  ·intro b o p hb hn; rw[hold b o hb] at hn; exact h.olO b o p hb hn
  ·exact h.nt
  ·intro j; rw[Gh.adopt_A (by simp)]; exact h.oA j
  ·intro b o hi; exact hS b o (h.im b o hi)
  ·intro b o hb hi; rw[hold b o hb] at hi; exact h.im' b o hb hi
  ·exact h.fr
  ·exact h.hB
  ·intro b o hb; rw[hold b o hb]; exact h.lo b o hb
  ·intro t i ds hn hne2
   rw[St.drop_box] at hn
   split at hn
   ·cases hn
   ·rw[Gh.adopt_A (by simp)]; exact h.bd t i ds hn hne2
  ·intro x hx
   obtain ⟨q1,q2,q3⟩:=h.mp x hx
   refine ⟨q1,q2,fun o=>?_⟩
   rcases hcase x.1 o with e | ⟨_,_,_,u,e⟩
   ·rw[e]; exact q3 o
   ·obtain ⟨ms,clock,p1,_⟩:=q1
    exfalso
    simp [World.cell?,p1] at e
 ·intro j c hj
  obtain ⟨p1,p2,p3,u,p4,p5⟩:=hc j c hj
  rw[Gh.adopt_At]
  refine ⟨?_,p3,u,p4,p5.mono hS fun _ _ _=>rfl⟩
  have hjl:=(List.getElem?_eq_some_iff.1 hj).1
  unfold Gh.adopt; dsimp only; rw[if_pos ⟨rfl,by omega,by omega⟩]
def St.addBoxes (q : Nat) : List (Nat × List C)→St→St
 | [],st=>st
 | e :: r,st=>St.addBoxes q r (st.addBox (.l (q + e.1)) e.2)
def Mv (q : Nat) : List (Nat × List C)→St→Bool
 | [],_=>true
 | e :: r,st=>st.freshO (.l (q + e.1),true) && Mv q r (st.addBox (.l (q + e.1)) e.2)
theorem Rel.adopts {E : Env} {a : Act} {w : World} {W' : Nat→Nat→Who} {A' : Nat→Nat × Nat} (q : Nat) : ∀ (nb : List (Nat × List C)) {G : Gh} {st : St},Rel E G st a w→Mv q nb st=true→(nb.map (·.1)).Nodup→(∀ e ∈ nb,e.2≠[]→E.B≤(A' e.1).1) →
  (∀ e ∈ nb,∀ (j : Nat) (c : C),e.2[j]? = some c→W' (A' e.1).1 ((A' e.1).2 + j) = .box (.l e.1)∧G.W (A' e.1).1 ((A' e.1).2 + j) = .none∧(A' e.1).1 < w.heap.size∧w.frozen? ⟨(A' e.1).1,(A' e.1).2 + j,none⟩=false ∧ ∃ u,w.cell? ⟨(A' e.1).1,(A' e.1).2 + j,none⟩=some u∧CRep w G.S c u) →
  ∃ G3,Rel E G3 (St.addBoxes q nb st) a w∧(∀ b o,G.S b o→G3.S b o)∧(∀ e ∈ nb,G3.A (.l (q + e.1))=A' e.1) ∧ ∀ m,(∀ e ∈ nb,m ≠ .l (q + e.1))→G3.A m=G.A m
 | [],G,st,h,_,_,_,_=>⟨G,h,fun _ _ x=>x,⟨fun e he=>absurd he List.not_mem_nil,fun _ _=>rfl⟩⟩
 | e :: r,G,st,h,hf,hn,hB,hc=>by
  rw[Mv,Bool.and_eq_true] at hf
  rw[List.map_cons,List.nodup_cons] at hn
  obtain ⟨h1,h2⟩:=h.adopt (k:=q + e.1) (A0:=A' e.1) (cs:=e.2) (St.freshO_ok hf.1) (hB e (by simp)) fun j c hj=>(hc e (by simp) j c hj).2
  obtain ⟨G3,k1,k2,k3,k4⟩:=Rel.adopts q r h1 hf.2 hn.2 (fun x hx=>hB x (by simp [hx])) fun x hx j c hj=>by
   obtain ⟨p1,p2,p3,p4,u,p5,p6⟩:=hc x (by simp [hx]) j c hj
   refine ⟨p1,?_,p3,p4,u,p5,p6.mono h2 fun _ _ _=>rfl⟩
   unfold Gh.adopt; dsimp only
   rw[if_neg]
   ·exact p2
   ·rintro ⟨z1,z2,z3⟩
    obtain ⟨i,hi⟩ : ∃ i,(A' x.1).2 + j=(A' e.1).2 + i:=⟨(A' x.1).2 + j - (A' e.1).2,by omega⟩
    have := (hc e (by simp) i _ (List.getElem?_eq_getElem (by omega))).1
    rw[← z1,← hi,p1] at this
    injection this with this
    injection this with this
    exact hn.1 (List.mem_map.2 ⟨x,hx,this⟩)
  refine ⟨G3,k1,fun b o x=>k2 b o (h2 b o x),fun x hx=>?_,fun m hm=>?_⟩
  ·rcases List.mem_cons.1 hx with rfl | hx
   ·rw[k4 _ fun y hy z=>?_,Gh.adopt_At]
    injection z with z
    exact hn.1 (List.mem_map.2 ⟨y,hy,by omega⟩)
   ·exact k3 x hx
  ·rw[k4 m fun y hy=>hm y (by simp [hy]),Gh.adopt_A (hm e (by simp))]
def CtrE {α : Type} (Z : Pg) (f : FuncId) (args : List X) (bs : List (List C)) (res : α→X) (bs' : List (List C)) (nb : List (Nat × List C)) : Prop :=
 O0 Z f ∧ ∀ (w : World) (G : Gh) (vs : List Value),All2 (XRep w G) args vs→(∀ b o,G.W b o ≠ .none→b < w.heap.size)→(∀ (j : Nat) (cs : List C),bs[j]? = some cs→N5 w G (.o j) cs) →
  (∀ b o n,G.W b o = .box n → ∃ j cs k,n = .o j∧bs[j]? = some cs∧k < cs.length∧b=(G.A n).1∧o=(G.A n).2 + k)→(∀ b o p,G.W b o ≠ .own p)→Z.ex (fun j=>G.A (.o j))→GlOk Z w G →
  Calls Z.P f vs.toArray w fun e w'=>∃ v G' x,e = .returned v∧Fr (fun b o=>∃ n,G.W b o = .box n) w.heap.size w w' ∧
   (∀ b o,G.W b o = .imm→G'.W b o = .imm)∧(∀ b o,b < w.heap.size→G'.W b o = .imm→G.W b o = .imm)∧(∀ b o,G'.W b o ≠ .none→b < w'.heap.size)∧XRep w' G' (res x) v ∧
   (∀ j,G'.A (.o j)=G.A (.o j))∧(∀ (j : Nat) (cs : List C),bs'[j]? = some cs→N5 w' G' (.o j) cs)∧(∀ e ∈ nb,N5 w' G' (.l e.1) e.2)∧(∀ b o m,G'.W b o = .box (.l m)→w.heap.size≤b) ∧ ∀ b o p,G'.W b o ≠ .own p
def ResE (T : List (Option TyI)) (rs : List ResultVar) (s : St) (x : X) : Prop :=
 resX T s rs=some x ∨ ∃ cs ms,x = .kn false cs ms∧resX T s rs=some (.v (.agg cs)) ∧ ∀ m ∈ ms,∃ k u,cs[m.1]? = some (.o u)∧s.get k=some (true, .kn true [.o u] [(0,m.2.1,m.2.2)])
theorem uB4 {w : World} {G : Gh} {u v : Value} {ms : List (Nat × Nm × Nat)} (h : XRep w G (.kn true [.o u] ms) v) : v=u ∧ ∀ m ∈ ms,m.1=0→SlAt (G.A m.2.1) m.2.2 u:=by
 obtain ⟨vs,h1,_,h3,h4⟩:=h
 obtain rfl:=h1 rfl
 have e : v=u:=by cases h3.1; rfl
 subst e
 refine ⟨rfl,fun m hm h0=>?_⟩
 obtain ⟨u,h5,h6⟩:=h4 m hm
 rw[h0] at h5
 simp only [List.getElem?_cons_zero,Option.some.injEq] at h5
 subst h5
 exact h6
theorem uAi {E : Env} {G : Gh} {s : St} {a : Act} {w : World} (hr : Rel E G s a w) {fn : Func} {rs : List ResultVar} (hrs : fn.results=rs.toArray) {x : X} (h : ResE Z.T rs s x) : ∃ v,(results fn a.tmps).run Z.P w = .ok v w∧XRep w G x v:=by
 have key : ∀ {y : X},resX Z.T s rs=some y → ∃ v,(results fn a.tmps).run Z.P w = .ok v w∧XRep w G y v:=fun {y} hy=>by
  unfold resX at hy
  have hys : ∃ ys,Y9 Z.T s rs=some ys∧y=Ab ys:=by
   split at hy
   ·rename_i ys hz; simp only [Option.some.injEq] at hy; exact ⟨ys,hz,hy.symm⟩
   ·simp at hy
  obtain ⟨ys,hys,rfl⟩:=hys
  obtain ⟨us,hrun,hall,_⟩:=Q7 hr hys
  refine ⟨_,?_,Et hall⟩
  rw[Y3,hrs,List.mapM_toArray]
  simp only [Sem.run_bind,Sem.run_map,hrun,Result.andThen_ok,Sem.run_pure]
 rcases h with h | ⟨cs,ms,rfl,h,hm⟩
 ·exact key h
 ·obtain ⟨v,h1,vs,rfl,h2⟩:=key h
  refine ⟨_,h1,vs,(fun q=>by cases q),fun _=>rfl,h2,fun m hmm=>?_⟩
  obtain ⟨k,u,h3,h4⟩:=hm m hmm
  obtain ⟨t,_,h5,_⟩:=hr.tm k true _ h4
  have h6:=(uB4 (h5 J)).2 _ (List.mem_singleton.2 J) J
  obtain ⟨u',h7,h8⟩:=h2.get _ _ h3
  have e : u'=u:=by cases h8; rfl
  subst e
  exact ⟨u',h7,h6⟩
def retE {α : Type} (T : List (Option TyI)) (rs : List ResultVar) (res : α→X) (bs' : List (List C)) (nb : List (Nat × List C)) : Exit→St→Prop
 | .normal,s | .ret,s=>∃ x,ResE T rs s (res x)∧(∀ (j : Nat) (cs : List C),bs'[j]? = some cs→s.box (.o j)=some cs) ∧ ∀ e ∈ nb,s.box (.l e.1)=some e.2
 | _,_=>False
theorem Y5 {α : Type} {f : FuncId} {fn : Func} {c : Code} {N : Nat} {rs : List ResultVar} {args : List X} {bs bs' : List (List C)} {res : α→X} {nb : List (Nat × List C)}
  (hf : Z.P.funcs[f]? = some fn) (hb : fn.body = some c) (hname : (fn.name == "runtime.NumGoroutine") = false) (hN : fn.ntmps = N) (hrs : fn.results = rs.toArray) (hlen' : Nat.ble args.length N = true)
  (h : AWP Z N c (retE Z.T rs res bs' nb) (st0 args bs)) : CtrE Z f args bs res bs' nb:=by
 have hlen : args.length≤N:=Nat.le_of_ble_eq_true hlen'
 refine ⟨⟨fn,hf,by rw[hb]; rfl,hname⟩,?_⟩
 intro w G vs hvs hwf hbx hbox hown hex hgl
 let E : Env:={ B:=w.heap.size,w0:=w,W0:=G.W,A0:=fun j=>G.A (.o j),nt:=N }
 let a : Act:={ tmps:=vs.toArray++Array.replicate (fn.ntmps - vs.toArray.size) undef,defers:=[] }
 have hal : args.length=vs.length:=hvs.len
 have hrel : Rel E G (st0 args bs) a w:={
  df:=rfl
  tm:=by
   intro k g x hk
   obtain ⟨i,y,h1,h2,h3⟩:=W9 0 args k (g,x) hk
   simp only [Prod.mk.injEq] at h3
   obtain ⟨rfl,rfl⟩:=h3
   obtain ⟨v,hv,hx⟩:=hvs.get i x h2
   have hi : i < vs.length:=(List.getElem?_eq_some_iff.1 hv).1
   refine ⟨v,?_,fun _=>hx,fun hg=>by simp at hg⟩
   show (vs.toArray++_)[k]? = _
   rw[h1,Nat.zero_add,Array.getElem?_append_left (by simpa using hi)]
   simpa using hv
  bx:=by
   intro n cs hn
   obtain ⟨i,h1,h2⟩:=L6 0 bs n cs hn
   rw[h1,Nat.zero_add]
   exact hbx i cs h2
  ow:=by intro p sz hp; simp [St.own,st0,getO] at hp
  wf:=hwf
  olB:=fun b o n _ hn=>.inl ⟨n,hn⟩
  olO:=fun b o p _ hn=>⟨p,hn⟩
  nt:=by
   show (vs.toArray++Array.replicate (fn.ntmps - vs.toArray.size) undef).size=N
   simp; omega
  oA:=fun _=>rfl
  im:=fun b o h=>h
  im':=fun b o _ h=>.inl h
  fr:=Fr.refl _ _ _
  hB:=Nat.le_refl _
  lo:=fun b o _=>⟨fun n hn=>by obtain ⟨j,_,_,e,_⟩:=hbox b o n hn; exact ⟨j,e⟩,fun _ p=>hown b o p⟩
  bd:=fun t k cs hn=>by
   obtain ⟨i,h1,_⟩:=L6 0 bs _ cs hn
   simp at h1
  mp:=fun x hx=>by cases hx }
 refine calls_of_wp hf hb ?_
 have hwp:=h E G a w hrel ⟨rfl,fun _=>rfl,fun g hg=>⟨(hgl g hg).1,(hgl g hg).2.1,fun o hm=>by
  rcases hm with ⟨n,hn⟩ | ⟨p,hp⟩
  ·exact (hgl g hg).2.2.1 o n hn
  ·exact (hgl g hg).2.2.2 o p hp⟩,hex⟩
 refine wp_mono hwp ?_
 rintro e a' w' ⟨G',s,hq,hr'⟩
 have key : (∃ x,ResE Z.T rs s (res x)∧(∀ (j : Nat) (cs : List C),bs'[j]? = some cs→s.box (.o j)=some cs) ∧ ∀ e ∈ nb,s.box (.l e.1)=some e.2) →
   a'.defers=[] ∧ ∃ v,(results fn a'.tmps).run Z.P w' = .ok v w' ∧ ∃ u G' x,Ending.returned v = .returned u∧Fr (fun b o=>∃ n,G.W b o = .box n) w.heap.size w w' ∧
    (∀ b o,G.W b o = .imm→G'.W b o = .imm)∧(∀ b o,b < w.heap.size→G'.W b o = .imm→G.W b o = .imm)∧(∀ b o,G'.W b o ≠ .none→b < w'.heap.size)∧XRep w' G' (res x) u ∧
    (∀ j,G'.A (.o j)=G.A (.o j))∧(∀ (j : Nat) (cs : List C),bs'[j]? = some cs→N5 w' G' (.o j) cs)∧(∀ e ∈ nb,N5 w' G' (.l e.1) e.2)∧(∀ b o m,G'.W b o = .box (.l m)→w.heap.size≤b) ∧ ∀ b o p,G'.W b o ≠ .own p:=by
  rintro ⟨x,hres,hbs,hnb⟩
  refine ⟨hr'.df,?_⟩
  obtain ⟨v,hv1,hv2⟩:=uAi hr' hrs hres
  refine ⟨v,hv1,?_⟩
  let G2 : Gh:={ A:=G'.A,W:=fun b o=>match G'.W b o with | .imm=>.imm | .box n=>.box n | _=>.none }
  have hS : ∀ b o,G'.S b o→G2.S b o:=fun b o hs=>by unfold Gh.S at *; simp [G2,hs]
  have hbk : ∀ b o n,G'.W b o = .box n→G2.W b o = .box n:=fun b o n hs=>by simp [G2,hs]
  have hI : ∀ b o,G2.W b o = .imm→G'.W b o = .imm:=fun b o hi=>by
   simp only [G2] at hi
   split at hi
   ·assumption
   ·simp at hi
   ·simp at hi
  have hb2 : ∀ b o n,G2.W b o = .box n→G'.W b o = .box n:=fun b o n hi=>by
   simp only [G2] at hi
   split at hi
   ·simp at hi
   ·rename_i e; rw[e]; exact hi
   ·simp at hi
  have hbat : ∀ {n : Nm} {cs : List C},N5 w' G' n cs→N5 w' G2 n cs:=fun {n cs} hx j c hj=>by
   obtain ⟨h1,h2,u,h3,h4⟩:=hx j c hj
   exact ⟨hbk _ _ _ h1,h2,u,h3,h4.mono hS fun _ _ _=>rfl⟩
  refine ⟨v,G2,x,rfl,?_,fun b o hi=>hS b o (hr'.im b o hi),fun b o hb hi=>?_,fun b o hn=>?_,hv2.mono hS (fun _ _ _=>rfl) (fun _ _=>rfl),fun j=>hr'.oA j,fun j cs hj=>hbat (hr'.bx _ _ (hbs j cs hj)),fun e he=>hbat (hr'.bx _ _ (hnb e he)),fun b o m hm=>?_,fun b o p hp=>?_⟩
  ·exact hr'.fr.mono (Nat.le_refl _) fun b o _ hm=>by
    rcases hm with q | ⟨p,hp⟩
    ·exact q
    ·exact absurd hp (hown b o p)
  ·rcases hr'.im' b o hb (hI b o hi) with h1 | ⟨p,hp⟩
   ·exact h1
   ·exact absurd hp (hown b o p)
  ·refine hr'.wf b o ?_
   intro he; apply hn; simp [G2,he]
  ·refine Nat.le_of_not_lt fun hlt=>?_
   obtain ⟨i,hi⟩:=(hr'.lo _ _ hlt).1 _ (hb2 _ _ _ hm)
   cases hi
  ·simp only [G2] at hp
   split at hp <;> simp at hp
 cases e <;> first
  | exact key hq
  | exact hq.elim
theorem uBB {ps : List Pass} {p : Pl} : pin ps [] p=none:=rfl
theorem Kg {α : Type} {Z' : Pg} {N : Nat} {ops : Array Oper} {st : St} {o : Oper} {fo : Operand} {args : Array Operand} {ts : Array TypeId} {f : FuncId} {caps : List Y} {xs cxs : List X} {res : α→X} {nb : List (Nat × List C)} {ps : List Pass}
  (hP : Z'.P=Z.P) (hgv : Z'.gv=Z.gv)
  (ho : o.op = .call { callee:=.value fo,args:=args,argTypes:=ts }) (hg : G6 ops st o=some true) (hf : lk Z.T st 0 fo=some (true, .fn f caps))
  (ha : L5 Z.T st ts.toList args.toList=some (true,xs)) (htr : cxs.map (X.tr ps)=xs++caps.map X.v) (htrok : Z6 ps cxs=true)
  (hps : ∀ p ∈ ps,st.box p.n=some p.cs) (hnd : J9 st ps=true)
  (hs : CtrE Z' f cxs (ps.map Pass.old) res (ps.map Pass.ds) nb)
  (E : Env) (G : Gh) (a : Act) (w : World) (hr : Rel E G st a w) (hE : EOk Z N E) (hex : Z'.ex fun j=>(G.passedO ps []).A (.o j))
  (K' : Act→World→Prop) (Q' : Exit→Act→World→Prop)
  (hK : ∀ G' v w' x,Rel E (G.backO G' w.heap.size ps []) (st.stores ps) a w'→(∀ b o,G'.S b o→(G.backO G' w.heap.size ps []).S b o)→XRep w' G' (res x) v→(∀ e ∈ nb,N5 w' G' (.l e.1) e.2)→(∀ b o m,G'.W b o = .box (.l m)→w.heap.size≤b)→(∀ b o,G'.W b o ≠ .none→b < w'.heap.size)→K' (a.put o.dst v) w') :
  if Region.wanted o (yielded ops a.tmps) then o.wp Z.P a w K' Q' else K' (a.put o.dst undef) w:=by
 rw[I7 hr hg]
 simp only [if_true]
 obtain ⟨cvs,hfv,hcv⟩:=F0 hr hf rfl
 have hav:=O8 hr ha J
 have hav2:=hav.app (Jb hcv)
 rw[← htr] at hav2
 obtain ⟨hen,hsp⟩:=hs
 have hen2 : O0 Z f:=by unfold O0 at hen ⊢; rw[hP] at hen; exact hen
 unfold Oper.wp
 rw[S0 (caps:=cvs) ho hfv hen2,Oper.upon_enter]
 obtain ⟨p1,p2,p3,p4,p5,p6,p7,p8⟩:=Ck (os:=[]) hr hE hav2 htrok hps hnd fun e he=>by cases he
 have hno : ∀ b o p,(G.passedO ps []).W b o ≠ .own p:=fun b o p hp=>by
  obtain ⟨q,_,hq⟩:=Gh.passedO_own hp
  rw[uBB] at hq; cases hq
 have hcall:=hsp w (G.passedO ps []) _ p2 p3 p4 p5 hno hex (by unfold GlOk at p8 ⊢; rw[hgv]; exact p8)
 rw[hP] at hcall
 refine hcall.mono ?_
 rintro e w' ⟨v,G',x,rfl,hfr,h1,h2,h3,h4,h5,h6,h7,h8,h9⟩
 dsimp only
 obtain ⟨hrel,hS2,_,_⟩:=Al (os:=[]) hr hps hnd (fun e he=>by cases he) (hfr.mono (Nat.le_refl _) fun b o _ hm=>.inl hm) h1 (fun b o hb hi=>.inl (h2 b o hb hi)) h3 h5 h6 fun b o q _ hq=>absurd hq (h9 b o q)
 exact hK G' v w' x hrel hS2 h4 h7 h8 h3
theorem Lb {Z' : Pg} {N : Nat} {ops : Array Oper} {st : St} {o : Oper} {d : Nat} {fo : Operand} {args : Array Operand} {ts : Array TypeId} {f : FuncId} {caps : List Y} {xs cxs : List X} {res : X} {ps : List Pass}
  (hP : Z'.P=Z.P) (hgv : Z'.gv=Z.gv)
  (ho : o.op = .call { callee:=.value fo,args:=args,argTypes:=ts }) (hg : G6 ops st o=some true) (hf : lk Z.T st 0 fo=some (true, .fn f caps))
  (ha : L5 Z.T st ts.toList args.toList=some (true,xs)) (htr : cxs.map (X.tr ps)=xs++caps.map X.v) (htrok : Z6 ps cxs=true)
  (hps : ∀ p ∈ ps,st.box p.n=some p.cs) (hnd : J9 st ps=true) (hs : CtrE Z' f cxs (ps.map Pass.old) (fun _ : Unit=>res) (ps.map Pass.ds) []) (hc : res.clean=true) (hd : o.dst=some d) (hN : Nat.ble (d + 1) N=true)
  (hex : ∀ (E : Env) (G : Gh) (a : Act) (w : World),Rel E G st a w→EOk Z N E→Z'.ex fun j=>(G.passedO ps []).A (.o j)) : Op1 Z N ops o st ((st.stores ps).put d (true,res)):=by
 intro E G a w hr hE K' Q' hK
 have hdN : d < E.nt:=by rw[hE.nt]; exact Nat.le_of_ble_eq_true hN
 refine Kg hP hgv ho hg hf ha htr htrok hps hnd hs E G a w hr hE (hex E G a w hr hE) K' Q' fun G' v w' x hrel hS hx _ _ _=>?_
 rw[hd] at hK ⊢
 exact hK _ v w' (hrel.put hdN (g:=true) (fun _=>hx.mono hS (fun _ _ _=>rfl) fun n hn=>by rw[X.clean_has hc n] at hn; cases hn) fun q=>by cases q)
theorem X1 {Z' : Pg} {N : Nat} {ops : Array Oper} {rest : List Oper} {K : St→Prop} {st : St} {o : Oper} {d : Nat} {fo : Operand} {args : Array Operand} {ts : Array TypeId} {f : FuncId} {caps : List Y} {xs cxs : List X} {res : X} (ps : List Pass)
  (hP : Z'.P=Z.P) (hgv : Z'.gv=Z.gv)
  (ho : o.op = .call { callee:=.value fo,args:=args,argTypes:=ts }) (hg : G6 ops st o=some true) (hf : lk Z.T st 0 fo=some (true, .fn f caps))
  (ha : L5 Z.T st ts.toList args.toList=some (true,xs)) (htr : cxs.map (X.tr ps)=xs++caps.map X.v) (htrok : Z6 ps cxs=true)
  (hps : ∀ p ∈ ps,st.box p.n=some p.cs) (hnd : J9 st ps=true) (hs : CtrE Z' f cxs (ps.map Pass.old) (fun _ : Unit=>res) (ps.map Pass.ds) []) (hc : res.clean=true) (hd : o.dst=some d) (hN : Nat.ble (d + 1) N=true)
  (hex : ∀ (E : Env) (G : Gh) (a : Act) (w : World),Rel E G st a w→EOk Z N E→Z'.ex fun j=>(G.passedO ps []).A (.o j))
  (h : AL Z N ops rest K ((st.stores ps).put d (true,res))) : AL Z N ops (o :: rest) K st:=V7 (Lb hP hgv ho hg hf ha htr htrok hps hnd hs hc hd hN hex) h
theorem I9 {α : Type} {Z' : Pg} {N : Nat} {ops : Array Oper} {rest : List Oper} {K : St→Prop} {st : St} {o : Oper} {d : Nat} {fo : Operand} {args : Array Operand} {ts : Array TypeId} {f : FuncId} {caps : List Y} {xs cxs : List X} {res : α→X} {nb : List (Nat × List C)} (q : Nat) (ps : List Pass) (one : Bool) (cs : α→List C) (ms : List (Nat × Nat × Nat))
  (hP : Z'.P=Z.P) (hgv : Z'.gv=Z.gv)
  (ho : o.op = .call { callee:=.value fo,args:=args,argTypes:=ts }) (hg : G6 ops st o=some true) (hf : lk Z.T st 0 fo=some (true, .fn f caps))
  (ha : L5 Z.T st ts.toList args.toList=some (true,xs)) (htr : cxs.map (X.tr ps)=xs++caps.map X.v) (htrok : Z6 ps cxs=true)
  (hps : ∀ p ∈ ps,st.box p.n=some p.cs) (hnd : J9 st ps=true) (hs : CtrE Z' f cxs (ps.map Pass.old) res (ps.map Pass.ds) nb) (hres : ∀ x,res x = .kn one (cs x) (ms.map fun m=>(m.1, .l m.2.1,m.2.2)))
  (hms : (ms.all fun m=>nb.any fun e=>Nat.beq e.1 m.2.1)=true) (hnn : (nb.map (·.1)).Nodup) (hfb : Mv q nb (st.stores ps)=true) (hd : o.dst=some d) (hN : Nat.ble (d + 1) N=true)
  (hex : ∀ (E : Env) (G : Gh) (a : Act) (w : World),Rel E G st a w→EOk Z N E→Z'.ex fun j=>(G.passedO ps []).A (.o j))
  (h : ∀ x,AL Z N ops rest K ((St.addBoxes q nb (st.stores ps)).put d (true, .kn one (cs x) (ms.map fun m=>(m.1, .l (q + m.2.1),m.2.2))))) : AL Z N ops (o :: rest) K st:=by
 intro E G a w hr hE K' hK
 have hdN : d < E.nt:=by rw[hE.nt]; exact Nat.le_of_ble_eq_true hN
 have key : if Region.wanted o (yielded ops a.tmps) then o.wp Z.P a w (wpList Z.P ops (Qn K') rest) (Qn K') else wpList Z.P ops (Qn K') rest (a.put o.dst undef) w:=by
  refine Kg hP hgv ho hg hf ha htr htrok hps hnd hs E G a w hr hE (hex E G a w hr hE) _ _ fun G' v w' x hrel hS hx hnb hnew hwf=>?_
  have hBw : E.B≤w.heap.size:=Nat.le_trans hr.hB hr.fr.size
  obtain ⟨G3,k1,k2,k3,_⟩:=Rel.adopts (W':=G'.W) (A':=fun m=>G'.A (.l m)) q nb hrel hfb hnn (fun e he hne=>by
   obtain ⟨c,hc⟩ : ∃ c,e.2[0]? = some c:=by
    cases hz : e.2 with
    | nil=>exact absurd hz hne
    | cons c r=>exact ⟨c,rfl⟩
   exact Nat.le_trans hBw (hnew _ _ _ (hnb e he 0 c hc).1)) fun e he j c hj=>by
    obtain ⟨p1,p2,u,p3,p4⟩:=hnb e he j c hj
    have hge:=hnew _ _ _ p1
    refine ⟨p1,?_,hwf _ _ (by rw[p1]; simp),p2,u,p3,p4.mono hS fun _ _ _=>rfl⟩
    show (if _ then _ else _)=_
    rw[if_neg (fun z=>by omega),p1]; rfl
  rw[hres x] at hx
  rw[hd]
  refine h x E G3 _ _ (k1.put hdN (g:=true) (fun _=>?_) fun q=>by cases q) hE K' hK
  obtain ⟨vs,x1,x2,x3,x4⟩:=hx
  refine ⟨vs,x1,x2,x3.mono fun _ _ hc=>hc.mono (fun b o z=>k2 b o (hS b o z)) fun _ _ _=>rfl,fun m hm=>?_⟩
  obtain ⟨m0,hm0,rfl⟩:=List.mem_map.1 hm
  obtain ⟨u,h5,h6⟩:=x4 (m0.1, .l m0.2.1,m0.2.2) (List.mem_map.2 ⟨m0,hm0,rfl⟩)
  refine ⟨u,h5,?_⟩
  obtain ⟨e,he,hee⟩:=List.any_eq_true.1 (List.all_eq_true.1 hms m0 hm0)
  have hq:=k3 e he
  rw[Nat.eq_of_beq_eq_true hee] at hq
  rw[hq]
  exact h6
 unfold wpList
 split at key
 ·rename_i hw; rw[if_pos hw]; exact .inl key
 ·rename_i hw; rw[if_neg hw]; exact key
end Go.Abs
