/- Our abstract program logic and contracts of this seat's functions, part 6: no statement of its own (long names of ours are shortened by a program). -/
import Derived.Test.YteidahabkfgfjaaGreatM5
import Derived.KernelRfl
set_option linter.unusedVariables false
set_option linter.unusedSimpArgs false
namespace Go.Proofs.YteidahabkfgfjaaGreat
open Go Go.Abs
def soC (n : Nar) (u1 u2 u3 u4 u5 : Value) : List C:=[.s n.name, .so u1 1 (strR n.roles), .so u2 3 (Fs.rows n.fresh), .so u3 1 (strR n.tags), .so u4 7 (Sp.rows n.steps), .so u5 5 (Gl.rows n.goals)]
abbrev narC (a : List UInt8) (r1 r2 r3 r4 r5 : List (List C)) : List C:=[.s a, .sl 1 r1, .sl 3 r2, .sl 1 r3, .sl 7 r4, .sl 5 r5]
abbrev Yh (a : List UInt8) (r1 r2 r3 r4 r5 : List (List C)) (u1 u2 u3 u4 u5 : Value) : List C:=[.s a, .so u1 1 r1, .so u2 3 r2, .so u3 1 r3, .so u4 7 r4, .so u5 5 r5]
theorem uBi {st st' : St} {n : Nm} {cs : List C} (hb : st'.box n=some cs) (hbx : ∀ m,m≠n→st'.box m=st.box m) (ht : st'.t=st.t) (ho : st'.ow=st.ow) (hm : st'.mp=st.mp) : Sub { st with bx:=(n,cs) :: st.bx } st' where
 t:=fun k e h=>by
  show getT st'.t k=some e
  rw[ht]; exact h
 bx:=fun m ds h=>by
  have h2 : getB ((n,cs) :: st.bx) m=some ds:=h
  rw[G6] at h2
  split at h2
  ·rename_i he; subst he; rw[hb]; exact h2
  ·rename_i he; rw[hbx m fun q=>he q.symm]; exact h2
 ow:=fun p sz h=>by
  show getO st'.ow p=some sz
  rw[ho]; exact h
 mp:=.inr hm.symm
theorem S6 (st : St) (n : Nm) (cs : List C) (m : Nm) : ({ st with bx:=(n,cs) :: st.bx } : St).box m=if n=m then some cs else st.box m:=G6 _ _ _ _
theorem H7 {N : Nat} {c : Code} {Q : Exit→St→Prop} {st : St} (n : Nm) {a : List UInt8} {r1 r2 r3 r4 r5 : List (List C)} (hb : st.box n=some (narC a r1 r2 r3 r4 r5))
  (h : ∀ u1 u2 u3 u4 u5,AWP sysO N c Q { st with bx:=(n,Yh a r1 r2 r3 r4 r5 u1 u2 u3 u4 u5) :: st.bx }) : AWP sysO N c Q st:=by
 refine Ay n 1 hb J fun u1=>?_
 refine Ay n 2 ((S6 _ _ _ _).trans (if_pos J)) J fun u2=>?_
 refine Ay n 3 ((S6 _ _ _ _).trans (if_pos J)) J fun u3=>?_
 refine Ay n 4 ((S6 _ _ _ _).trans (if_pos J)) J fun u4=>?_
 refine Ay n 5 ((S6 _ _ _ _).trans (if_pos J)) J fun u5=>?_
 have hn : ∀ {m : Nm},m≠n → ¬n=m:=fun h q=>h q.symm
 exact B5 (uBi ((S6 _ _ _ _).trans (if_pos J)) (fun m hm=>(S6 _ _ _ _).trans ((if_neg (hn hm)).trans ((S6 _ _ _ _).trans ((if_neg (hn hm)).trans ((S6 _ _ _ _).trans ((if_neg (hn hm)).trans ((S6 _ _ _ _).trans ((if_neg (hn hm)).trans ((S6 _ _ _ _).trans (if_neg (hn hm)))))))))) ) J J J) (h u1 u2 u3 u4 u5)
theorem uAu (st : St) (n m : Nm) (k sz : Nat) (cs : List C) (x : Nm) : ((({ st with bx:=(n,cs) :: st.bx } : St).unown (.b m k)).addOwn (.b n k) sz).box x=if n=x then some cs else st.box x:=G6 _ _ _ _
theorem Zb (st : St) (n m : Nm) (k sz : Nat) (cs : List C) (p : Pl) : ((({ st with bx:=(n,cs) :: st.bx } : St).unown (.b m k)).addOwn (.b n k) sz).own p=if .b n k=p then some sz else if p = .b m k then none else st.own p:=by
 rw[St.addOwn_own,St.unown_own]; rfl
def Yc (st : St) (m : Nm) : Bool:=decide (st.own (.b m 1)=some 1) && decide (st.own (.b m 2)=some 3) && decide (st.own (.b m 3)=some 1) && decide (st.own (.b m 4)=some 7) && decide (st.own (.b m 5)=some 5)
theorem I3 {N : Nat} {c : Code} {Q : Exit→St→Prop} {st : St} (n m : Nm) {a : List UInt8} {r1 r2 r3 r4 r5 : List (List C)} {u1 u2 u3 u4 u5 : Value} (hb : st.box n=some (Yh a r1 r2 r3 r4 r5 u1 u2 u3 u4 u5)) (hbm : st.box m=some (Yh a r1 r2 r3 r4 r5 u1 u2 u3 u4 u5))
  (ho : Yc st m=true) (hnb : n.isBd=false) (hne : Nm.beq m n=false)
  (h : AWP sysO N c Q { st with bx:=(n,narC a r1 r2 r3 r4 r5) :: st.bx,ow:=(.b n 1,1) :: (.b n 2,3) :: (.b n 3,1) :: (.b n 4,7) :: (.b n 5,5) :: st.ow.filter fun q=>!Pl.inBox m q.1 }) : AWP sysO N c Q st:=by
 have hmn : ¬n=m:=fun q=>by subst q; rw[Nm.beq_self] at hne; cases hne
 simp only [Yc,Bool.and_eq_true,decide_eq_true_eq] at ho
 obtain ⟨⟨⟨⟨o1,o2⟩,o3⟩,o4⟩,o5⟩:=ho
 have hpb : ∀ i j,Pl.beq (.b m i) (.b n j)=false:=fun i j=>by simp [Pl.beq,hne]
 have bn : ∀ (s : St) (k sz : Nat) (cs : List C),((({ s with bx:=(n,cs) :: s.bx } : St).unown (.b m k)).addOwn (.b n k) sz).box n=some cs:=fun s k sz cs=>(uAu s n m k sz cs n).trans (if_pos J)
 have bm : ∀ (s : St) (k sz : Nat) (cs : List C) {x : Nm},¬n=x→((({ s with bx:=(n,cs) :: s.bx } : St).unown (.b m k)).addOwn (.b n k) sz).box x=s.box x:=fun s k sz cs x hx=>(uAu s n m k sz cs x).trans (if_neg hx)
 have ow : ∀ (s : St) (k sz : Nat) (cs : List C) {p : Pl},¬Pl.b n k=p → ¬p=Pl.b m k→((({ s with bx:=(n,cs) :: s.bx } : St).unown (.b m k)).addOwn (.b n k) sz).own p=s.own p:=fun s k sz cs p h1 h2=>(Zb s n m k sz cs p).trans ((if_neg h1).trans (if_neg h2))
 have os : ∀ (s : St) (k sz : Nat) (cs : List C),((({ s with bx:=(n,cs) :: s.bx } : St).unown (.b m k)).addOwn (.b n k) sz).own (.b n k)=some sz:=fun s k sz cs=>(Zb s n m k sz cs _).trans (if_pos J)
 have dn : ∀ {i j : Nat} {x y : Nm},i≠j → ¬Pl.b x i=Pl.b y j:=fun h q=>by simp at q; exact h q.2
 have hnm : ∀ {i j : Nat},¬Pl.b n i=Pl.b m j:=fun q=>by simp at q; exact hmn q.1
 refine Be n 1 m 1 hb J hbm J o1 hnb (hpb _ _) ?_;refine Be n 2 m 2 (bn _ _ _ _) J ((bm _ _ _ _ hmn).trans hbm) J ((ow _ _ _ _ (dn (by decide)) (dn (by decide))).trans o2) hnb (hpb _ _) ?_;refine Be n 3 m 3 (bn _ _ _ _) J ((bm _ _ _ _ hmn).trans ((bm _ _ _ _ hmn).trans hbm)) J ((ow _ _ _ _ (dn (by decide)) (dn (by decide))).trans ((ow _ _ _ _ (dn (by decide)) (dn (by decide))).trans o3)) hnb (hpb _ _) ?_;refine Be n 4 m 4 (bn _ _ _ _) J ((bm _ _ _ _ hmn).trans ((bm _ _ _ _ hmn).trans ((bm _ _ _ _ hmn).trans hbm))) J
  ((ow _ _ _ _ (dn (by decide)) (dn (by decide))).trans ((ow _ _ _ _ (dn (by decide)) (dn (by decide))).trans ((ow _ _ _ _ (dn (by decide)) (dn (by decide))).trans o4))) hnb (hpb _ _) ?_
 refine Be n 5 m 5 (bn _ _ _ _) J ((bm _ _ _ _ hmn).trans ((bm _ _ _ _ hmn).trans ((bm _ _ _ _ hmn).trans ((bm _ _ _ _ hmn).trans hbm)))) J
  ((ow _ _ _ _ (dn (by decide)) (dn (by decide))).trans ((ow _ _ _ _ (dn (by decide)) (dn (by decide))).trans ((ow _ _ _ _ (dn (by decide)) (dn (by decide))).trans ((ow _ _ _ _ (dn (by decide)) (dn (by decide))).trans o5)))) hnb (hpb _ _) ?_
 refine B5 ?_ h;refine ⟨fun k e q=>q,fun x cs q=>?_,fun p sz q=>?_, .inr J⟩
 ·have q2 : getB ((n,narC a r1 r2 r3 r4 r5) :: st.bx) x=some cs:=q
  clear q
  rw[G6] at q2
  split at q2
  ·rename_i he; subst he; exact (bn _ _ _ _).trans q2
  ·rename_i he
   have q:=q2
   exact (bm _ _ _ _ he).trans ((bm _ _ _ _ he).trans ((bm _ _ _ _ he).trans ((bm _ _ _ _ he).trans ((bm _ _ _ _ he).trans q))))
 ·have q3 : getO ((Pl.b n 1,1) :: (.b n 2,3) :: (.b n 3,1) :: (.b n 4,7) :: (.b n 5,5) :: st.ow.filter fun q=>!Pl.inBox m q.1) p=some sz:=q
  clear q
  have q:=q3
  clear q3
  simp only [L9] at q
  split at q
  ·rename_i he; subst he
   exact (ow _ _ _ _ (dn (by decide)) hnm).trans ((ow _ _ _ _ (dn (by decide)) hnm).trans ((ow _ _ _ _ (dn (by decide)) hnm).trans ((ow _ _ _ _ (dn (by decide)) hnm).trans ((os _ _ _ _).trans q))))
  rename_i p1
  split at q
  ·rename_i he; subst he
   exact (ow _ _ _ _ (dn (by decide)) hnm).trans ((ow _ _ _ _ (dn (by decide)) hnm).trans ((ow _ _ _ _ (dn (by decide)) hnm).trans ((os _ _ _ _).trans q)))
  rename_i p2
  split at q
  ·rename_i he; subst he
   exact (ow _ _ _ _ (dn (by decide)) hnm).trans ((ow _ _ _ _ (dn (by decide)) hnm).trans ((os _ _ _ _).trans q))
  rename_i p3
  split at q
  ·rename_i he; subst he
   exact (ow _ _ _ _ (dn (by decide)) hnm).trans ((os _ _ _ _).trans q)
  rename_i p4
  split at q
  ·rename_i he; subst he
   exact (os _ _ _ _).trans q
  rename_i p5
  rw[L6 (fun r=>!Pl.inBox m r)] at q
  split at q
  ·rename_i hin
   have hpm : ∀ {j : Nat},¬p=Pl.b m j:=fun e=>by subst e; simp [Pl.inBox,Nm.beq_self] at hin
   exact (ow _ _ _ _ p5 hpm).trans ((ow _ _ _ _ p4 hpm).trans ((ow _ _ _ _ p3 hpm).trans ((ow _ _ _ _ p2 hpm).trans ((ow _ _ _ _ p1 hpm).trans q))))
  ·cases q
def osR : OS:=[(0,1,1),(0,2,3),(0,3,1),(0,4,7),(0,5,5)]
abbrev xnr (l : List Tk) (r : Nar × PS) : X:=.tup [.agg r.1.cells, .agg (pbx l r.2)]
set_option maxHeartbeats 4000000 in
theorem Cn (l : List Tk) (p : PS) (n : Nar) (line : Int) (u1 u2 u3 u4 u5 : Value) (hl : l.length≤2000000) (hp : p.at'≤l.length) (hn : n.steps.length≤3000000) :
  CtrO sysO 134 [.v (.agg (soC n u1 u2 u3 u4 u5)),xr l p,xi line] [soC n u1 u2 u3 u4 u5] osR (xnr l ({ n with steps:=n.steps++[(Bl l line p).1] },(Bl l line p).2)) [soC n u1 u2 u3 u4 u5] .res:=by
 have hrs:=Sp.rows_len n.steps
 have hrl:=Tk.rows_len l
 refine K8 Tryz.func134 J J J J J J J ?_;refine A8 (A6 ?_);refine C3 J (D8 J J J J) ?_;refine C3 J (D8 J J J J) ?_;refine C3 J (E1 J J J) ?_;refine C3 J (E1 J J J) ?_;refine B0 ?_;refine B5 (s:=⟨[(2,_,_),(3,_,_),(4,_,_),(6,_,_),(7,_,_)],[(.l 3,_),(.l 4,_),(.l 6,_),(.l 7,_),(.o 0,_)],[(.b (.o 0) 1,_),(.b (.o 0) 2,_),(.b (.o 0) 3,_),(.b (.o 0) 4,_),(.b (.o 0) 5,_)],[]⟩) (B4 (⟨U J,U J,U J,U J,U J,O⟩) (⟨U J,U J,U J,U J,U J,O⟩) (⟨rfl,rfl,rfl,rfl,rfl,O⟩)) ?_;refine I3 (.l 3) (.o 0) J J J J J ?_;refine B5 (s:=⟨[(2,_,_),(3,_,_),(4,_,_),(6,_,_),(7,_,_)],[(.l 3,_),(.l 4,_),(.l 6,_),(.l 7,_),(.o 0,_)],[(.b (.l 3) 1,_),(.b (.l 3) 2,_),(.b (.l 3) 3,_),(.b (.l 3) 4,_),(.b (.l 3) 5,_)],[]⟩) (B4 (⟨U J,U J,U J,U J,U J,O⟩) (⟨U J,U J,U J,U J,U J,O⟩) (⟨rfl,rfl,rfl,rfl,rfl,O⟩)) ?_;refine A8 (A6 ?_);refine A5 J J J (A7 J gU) ?_;refine A5 J J J (H6 J Tryz.underlying49 J gU) ?_;refine C3 J (E1 J J J) ?_;refine C3 J (C7 J J J J J J J) ?_;refine B0 ?_
 refine A8 (A6 ?_);refine A5 J J J (B8 J gU J J J J J) ?_;refine C8 J J J J J J gU gU (up (K0 l _ (by omega) (le3 hl (by repeat(first|exact hp|refine N1 ?_|refine K5 ?_))))) J ?_;refine A5 J J J (A7 J gU) ?_;refine A5 J J J (C6 J gU J) ?_;refine A5 J J J (C6 J gU J) ?_;refine A5 J J J (B1 J gU J J) ?_;refine C3 J (C7 J J J J J J J) ?_;refine C3 J (C7 J J J J J J J) ?_;refine B0 ?_;refine B5 (s:=⟨[(3,_,_),(4,_,_),(6,_,_),(7,_,_),(8,_,_)],[(.l 3,_),(.l 4,_),(.l 6,_),(.l 7,_),(.l 8,_),(.o 0,_)],[(.b (.l 3) 1,_),(.b (.l 3) 2,_),(.b (.l 3) 3,_),(.b (.l 3) 4,_),(.b (.l 3) 5,_)],[]⟩) (B4 (⟨U J,U J,U J,U J,U J,O⟩) (⟨U J,U J,U J,U J,U J,U J,O⟩) (⟨rfl,rfl,rfl,rfl,rfl,O⟩)) ?_;refine A8 (A6 ?_);refine A5 J J J (B8 J gU J J J J J) ?_;refine C8 J J J J J J gU gU (up (F6 l _ _ (by omega) (le3 hl (by repeat(first|exact hp|refine N1 ?_|refine K5 ?_))))) J ?_;refine C8 J J J J J J gU gU (up (F6 l _ _ (by omega) (le3 hl (by repeat(first|exact hp|refine N1 ?_|refine K5 ?_))))) J ?_
 refine C3 J (C7 J J J J J J J) ?_;refine B0 ?_;refine A8 (A6 ?_);refine A5 J J J (B8 J gU J J J J J) ?_;refine C8 J J J J J J gU gU (up (K0 l _ (by omega) (le3 hl (by repeat(first|exact hp|refine N1 ?_|refine K5 ?_))))) J ?_;refine A5 J J J (A7 J gU) ?_;refine A5 J J J (C6 J gU J) ?_;refine A5 J J J (C6 J gU J) ?_;refine A5 J J J (B1 J gU J J) ?_;refine C3 J (C7 J J J J J J J) ?_;refine C3 J (C7 J J J J J J J) ?_;refine B0 ?_;refine B5 (s:=⟨[(3,_,_),(4,_,_),(6,_,_),(7,_,_),(8,_,_)],[(.l 3,_),(.l 4,_),(.l 6,_),(.l 7,_),(.l 8,_),(.o 0,_)],[(.b (.l 3) 1,_),(.b (.l 3) 2,_),(.b (.l 3) 3,_),(.b (.l 3) 4,_),(.b (.l 3) 5,_)],[]⟩) (B4 (⟨U J,U J,U J,U J,U J,O⟩) (⟨U J,U J,U J,U J,U J,U J,O⟩) (⟨rfl,rfl,rfl,rfl,rfl,O⟩)) ?_;refine A8 (A6 ?_);refine A5 J J J (B8 J gU J J J J J) ?_;refine C8 J J J J J J gU gU (up (F6 l _ _ (by omega) (le3 hl (by repeat(first|exact hp|refine N1 ?_|refine K5 ?_))))) J ?_;refine C8 J J J J J J gU gU (up (Y4 l (by omega) (l.length + 1) _ (by repeat(first|exact hp|refine N1 ?_|refine K5 ?_)) (by omega))) J ?_
 refine A5 J J J (A7 J gU) ?_;refine A5 J J J (C6 J gU J) ?_;refine A5 J J J (C6 J gU J) ?_;refine A5 J J J (B1 J gU J J) ?_;refine C3 J (C7 J J J J J J J) ?_;refine C3 J (C7 J J J J J J J) ?_;refine B0 ?_;refine B5 (s:=⟨[(3,_,_),(4,_,_),(6,_,_),(7,_,_),(8,_,_)],[(.l 3,_),(.l 4,_),(.l 6,_),(.l 7,_),(.l 8,_),(.o 0,_)],[(.b (.l 3) 1,_),(.b (.l 3) 2,_),(.b (.l 3) 3,_),(.b (.l 3) 4,_),(.b (.l 3) 5,_)],[]⟩) (B4 (⟨U J,U J,U J,U J,U J,O⟩) (⟨U J,U J,U J,U J,U J,U J,O⟩) (⟨rfl,rfl,rfl,rfl,rfl,O⟩)) ?_;refine A8 (A6 ?_);refine A5 J J J (B1 J gU J J) ?_;refine C3 J (I5 J J J J J J J) ?_;refine A5 J J J (B8 J gU J J J J J) ?_;refine E8 (xs:=[_]) J J J J J J J J J gU J ?_;refine C3 J (F7 J J J J J J J (by first|omega|(simp only [List.length_append,List.length_singleton,Sp.rows_len]; omega)) (by first|omega|(simp only [List.length_append,List.length_singleton,Sp.rows_len]; omega))) ?_;refine A5 J J J (B1 J gU J J) ?_;refine C3 J (H8 J J J J J J J) ?_
 refine B0 ?_;refine B5 (s:=⟨[(3,_,_),(4,_,_),(6,_,_),(7,_,_)],[(.l 3,_),(.l 4,_),(.l 6,_),(.l 7,_),(.o 0,_)],[(.b (.l 3) 1,_),(.b (.l 3) 2,_),(.b (.l 3) 3,_),(.b (.l 3) 4,_),(.b (.l 3) 5,_)],[]⟩) (B4 (⟨U J,U J,U J,U J,O⟩) (⟨U J,U J,U J,U J,U J,O⟩) (⟨rfl,rfl,rfl,rfl,rfl,O⟩)) ?_;refine B5 (s:=⟨[(3,_,_),(4,_,_),(6,_,_),(7,_,_)],[(.l 3,_),(.l 4,_),(.l 6,_),(.l 7,_),(.o 0,_)],[(.b (.l 3) 1,_),(.b (.l 3) 2,_),(.b (.l 3) 3,_),(.b (.l 3) 4,_),(.b (.l 3) 5,_)],[]⟩) (B4 (⟨U J,U J,U J,U J,O⟩) (⟨U J,U J,U J,U J,U J,O⟩) (⟨rfl,rfl,rfl,rfl,rfl,O⟩)) ?_;refine H7 (.l 3) J (fun w1 w2 w3 w4 w5=>?_);refine B5 (s:=⟨[(3,_,_),(4,_,_),(6,_,_),(7,_,_)],[(.l 3,_),(.l 4,_),(.l 6,_),(.l 7,_),(.o 0,_)],[(.b (.l 3) 1,_),(.b (.l 3) 2,_),(.b (.l 3) 3,_),(.b (.l 3) 4,_),(.b (.l 3) 5,_)],[]⟩) (B4 (⟨U J,U J,U J,U J,O⟩) (⟨U J,U J,U J,U J,U J,O⟩) (⟨rfl,rfl,rfl,rfl,rfl,O⟩)) ?_;refine A8 ?_;refine awp_drawn' (by kernel_rfl) ?_;refine D7 J J J J J J J gU J J J J J ?_;refine D7 J J J J J J J gU J J J J J ?_
 refine F0 J J J J J J J J J J J J ?_;refine F0 J J J J J J J J J J J J ?_;refine F9 (by kernel_rfl) ?_;refine B5 (s:=⟨[(3,_,_),(6,_,_),(7,_,_)],[(.l 3,_),(.l 6,_),(.l 7,_),(.o 0,_)],[(.b (.l 3) 1,_),(.b (.l 3) 2,_),(.b (.l 3) 3,_),(.b (.l 3) 4,_),(.b (.l 3) 5,_)],[]⟩) (B4 (⟨U J,U J,U J,O⟩) (⟨U J,U J,U J,U J,O⟩) (⟨(ak J (ak J (ak J (ak J (rfl))))),(ak J (ak J (ak J (ak J (rfl))))),(ak J (ak J (ak J (ak J (rfl))))),(ak J (ak J (ak J (ak J (rfl))))),(ak J (ak J (ak J (ak J (rfl))))),O⟩)) ?_;refine I3 (.l 6) (.l 3) J J J J J ?_;refine B5 (s:=⟨[(3,_,_),(6,_,_),(7,_,_)],[(.l 3,_),(.l 6,_),(.l 7,_),(.o 0,_)],[(.b (.l 6) 1,_),(.b (.l 6) 2,_),(.b (.l 6) 3,_),(.b (.l 6) 4,_),(.b (.l 6) 5,_)],[]⟩) (B4 (⟨U J,U J,U J,O⟩) (⟨U J,U J,U J,U J,O⟩) (⟨rfl,rfl,rfl,rfl,rfl,O⟩)) ?_;refine C1 ?_
 repeat(first|refine tR ?_|refine bR ?_)
 refine J3 J ?_ ⟨⟨_,rfl,rfl⟩,O⟩ (by simp) J J J J J J;exact congrArg (fun z=>X.tup [.agg (narC n.name (strR n.roles) (Fs.rows n.fresh) (strR n.tags) z (Gl.rows n.goals)), .agg (pbx l (Bl l line p).2)]) (Sp.rows_app n.steps [(Bl l line p).1]).symm
theorem Na (l : List Tk) (ws : List (List UInt8)) : Fwd l (chR l ws):=fun p=>by
 have h:=G9 l [] p
 unfold chR
 split
 ·simp [PS.off]
 ·exact h
theorem Ai {l : List Tk} {ws : List (List UInt8)} {p : PS} (h : p.at'≤l.length) : (chR l ws p).2.at'≤l.length:=(Na l ws p).2 h
set_option maxHeartbeats 4000000 in
theorem Cr (l : List Tk) (p : PS) (n : Nar) (line : Int) (u1 u2 u3 u4 u5 : Value) (hl : l.length≤2000000) (hp : p.at'≤l.length) (hn : n.goals.length≤3000000) :
  CtrO sysO 135 [.v (.agg (soC n u1 u2 u3 u4 u5)),xr l p,xi line] [soC n u1 u2 u3 u4 u5] osR (xnr l ({ n with goals:=n.goals++[(X9 l line p).1] },(X9 l line p).2)) [soC n u1 u2 u3 u4 u5] .res:=by
 have hrs:=Gl.rows_len n.goals
 have hrl:=Tk.rows_len l
 refine K8 Tryz.func135 J J J J J J J ?_;refine A8 (A6 ?_);refine C3 J (D8 J J J J) ?_;refine C3 J (D8 J J J J) ?_;refine C3 J (E1 J J J) ?_;refine C3 J (E1 J J J) ?_;refine B0 ?_;refine B5 (s:=⟨[(2,_,_),(3,_,_),(4,_,_),(6,_,_),(7,_,_)],[(.l 3,_),(.l 4,_),(.l 6,_),(.l 7,_),(.o 0,_)],[(.b (.o 0) 1,_),(.b (.o 0) 2,_),(.b (.o 0) 3,_),(.b (.o 0) 4,_),(.b (.o 0) 5,_)],[]⟩) (B4 (⟨U J,U J,U J,U J,U J,O⟩) (⟨U J,U J,U J,U J,U J,O⟩) (⟨rfl,rfl,rfl,rfl,rfl,O⟩)) ?_;refine I3 (.l 3) (.o 0) J J J J J ?_;refine B5 (s:=⟨[(2,_,_),(3,_,_),(4,_,_),(6,_,_),(7,_,_)],[(.l 3,_),(.l 4,_),(.l 6,_),(.l 7,_),(.o 0,_)],[(.b (.l 3) 1,_),(.b (.l 3) 2,_),(.b (.l 3) 3,_),(.b (.l 3) 4,_),(.b (.l 3) 5,_)],[]⟩) (B4 (⟨U J,U J,U J,U J,U J,O⟩) (⟨U J,U J,U J,U J,U J,O⟩) (⟨rfl,rfl,rfl,rfl,rfl,O⟩)) ?_;refine A8 (A6 ?_);refine A5 J J J (A7 J gU) ?_;refine A5 J J J (H6 J Tryz.underlying51 J gU) ?_;refine C3 J (E1 J J J) ?_;refine C3 J (C7 J J J J J J J) ?_;refine B0 ?_
 refine A8 ?_;refine awp_drawn' (by kernel_rfl) ?_;refine D7 J J J J J J J gU J J J J J ?_;refine E7 J J J J J J J gU gU (up Tp) J ?_;refine E7 J J J J J J J gU gU (up (T8 l p K3 (by omega) (by omega))) J ?_;refine B6 J J J J (A7 J gU) ?_;refine B6 J J J J (C6 J gU J) ?_;refine B6 J J J J (C6 J gU J) ?_;refine B6 J J J J (B1 J gU J J) ?_;refine F0 J J J J J J J J J J J J ?_;refine F0 J J J J J J J J J J J J ?_;refine F9 (by kernel_rfl) ?_;refine B5 (s:=⟨[(3,_,_),(4,_,_),(6,_,_),(7,_,_),(8,_,_)],[(.l 3,_),(.l 4,_),(.l 6,_),(.l 7,_),(.l 8,_),(.o 0,_)],[(.b (.l 3) 1,_),(.b (.l 3) 2,_),(.b (.l 3) 3,_),(.b (.l 3) 4,_),(.b (.l 3) 5,_)],[]⟩) (B4 (⟨U J,U J,U J,U J,U J,O⟩) (⟨U J,U J,U J,U J,U J,U J,O⟩) (⟨(ak J (ak J (ak J (ak J (ak J (ak J (ak J (ak J (ak J (rfl)))))))))),(ak J (ak J (ak J (ak J (ak J (ak J (ak J (ak J (ak J (rfl)))))))))),(ak J (ak J (ak J (ak J (ak J (ak J (ak J (ak J (ak J (rfl)))))))))),(ak J (ak J (ak J (ak J (ak J (ak J (ak J (ak J (ak J (rfl)))))))))),(ak J (ak J (ak J (ak J (ak J (ak J (ak J (ak J (ak J (rfl)))))))))),O⟩)) ?_
 refine A8 (A6 ?_);refine A5 J J J (B8 J gU J J J J J) ?_;refine C8 J J J J J J gU gU (up (K0 l _ (by omega) (le3 hl (by repeat(first|exact hp|refine N1 ?_|refine K5 ?_|refine Ai ?_))))) J ?_;refine A5 J J J (A7 J gU) ?_;refine A5 J J J (C6 J gU J) ?_;refine A5 J J J (C6 J gU J) ?_;refine A5 J J J (B1 J gU J J) ?_;refine C3 J (C7 J J J J J J J) ?_;refine C3 J (C7 J J J J J J J) ?_;refine B0 ?_;refine B5 (s:=⟨[(3,_,_),(4,_,_),(6,_,_),(7,_,_),(8,_,_)],[(.l 3,_),(.l 4,_),(.l 6,_),(.l 7,_),(.l 8,_),(.o 0,_)],[(.b (.l 3) 1,_),(.b (.l 3) 2,_),(.b (.l 3) 3,_),(.b (.l 3) 4,_),(.b (.l 3) 5,_)],[]⟩) (B4 (⟨U J,U J,U J,U J,U J,O⟩) (⟨U J,U J,U J,U J,U J,U J,O⟩) (⟨rfl,rfl,rfl,rfl,rfl,O⟩)) ?_;refine A8 ?_;refine A8 (A6 ?_);refine A5 J J J (B8 J gU J J J J J) ?_;refine C8 J J J J J J gU gU (up (Q6 ⟨(chR l K3 p).1,(C9 l [] (chR l K3 p).2).1,[],[],line⟩)) J ?_;refine B0 ?_;refine B9 J (fun hc=>?_) (fun hc=>?_)
 ·have h : I8 (chR l K3 p).1=true:=hc
  have hg : X9 l line p=(⟨(chR l K3 p).1,(C9 l [] (chR l K3 p).2).1,(C9 l [] (C9 l [] (chR l K3 p).2).2).1,(H1 l (G4 l (l.length + 1)) (E9 l [58] (C9 l [] (C9 l [] (chR l K3 p).2).2).2)).1,line⟩,(H1 l (G4 l (l.length + 1)) (E9 l [58] (C9 l [] (C9 l [] (chR l K3 p).2).2).2)).2):=by
   simp only [X9,h,if_true]
  rw[hg]
  refine A6 ?_;refine A5 J J J (B8 J gU J J J J J) ?_;refine C8 J J J J J J gU gU (up (K0 l _ (by omega) (le3 hl (by repeat(first|exact hp|refine N1 ?_|refine K5 ?_|refine Ai ?_))))) J ?_;refine A5 J J J (A7 J gU) ?_;refine A5 J J J (C6 J gU J) ?_;refine A5 J J J (C6 J gU J) ?_;refine A5 J J J (B1 J gU J J) ?_;refine C3 J (C7 J J J J J J J) ?_;refine C3 J (C7 J J J J J J J) ?_;refine B0 ?_;refine B5 (s:=⟨[(3,_,_),(4,_,_),(6,_,_),(7,_,_),(8,_,_)],[(.l 3,_),(.l 4,_),(.l 6,_),(.l 7,_),(.l 8,_),(.o 0,_)],[(.b (.l 3) 1,_),(.b (.l 3) 2,_),(.b (.l 3) 3,_),(.b (.l 3) 4,_),(.b (.l 3) 5,_)],[]⟩) (B4 (⟨U J,U J,U J,U J,U J,O⟩) (⟨U J,U J,U J,U J,U J,U J,O⟩) (⟨rfl,rfl,rfl,rfl,rfl,O⟩)) ?_;refine A8 (A6 ?_);refine A5 J J J (B8 J gU J J J J J) ?_;refine C8 J J J J J J gU gU (up (F6 l _ _ (by omega) (le3 hl (by repeat(first|exact hp|refine N1 ?_|refine K5 ?_|refine Ai ?_))))) J ?_;refine C8 J J J J J J gU gU (up (Bv l (l.length + 1) hl (fun q h1 h2=>Y4 l hl _ q h1 h2) (T4 l _) _ (by repeat(first|exact hp|refine N1 ?_|refine K5 ?_|refine Ai ?_)) (by omega))) J ?_
  refine A5 J J J (A7 J gU) ?_;refine A5 J J J (C6 J gU J) ?_;refine A5 J J J (C6 J gU J) ?_;refine A5 J J J (B1 J gU J J) ?_;refine C3 J (C7 J J J J J J J) ?_;refine C3 J (C7 J J J J J J J) ?_;refine B0 ?_;refine B5 (s:=⟨[(3,_,_),(4,_,_),(6,_,_),(7,_,_),(8,_,_)],[(.l 3,_),(.l 4,_),(.l 6,_),(.l 7,_),(.l 8,_),(.o 0,_)],[(.b (.l 3) 1,_),(.b (.l 3) 2,_),(.b (.l 3) 3,_),(.b (.l 3) 4,_),(.b (.l 3) 5,_)],[]⟩) (B4 (⟨U J,U J,U J,U J,U J,O⟩) (⟨U J,U J,U J,U J,U J,U J,O⟩) (⟨rfl,rfl,rfl,rfl,rfl,O⟩)) ?_;refine A8 (A6 ?_);refine A5 J J J (B1 J gU J J) ?_;refine C3 J (I5 J J J J J J J) ?_;refine A5 J J J (B8 J gU J J J J J) ?_;refine E8 (xs:=[_]) J J J J J J J J J gU J ?_;refine C3 J (F7 J J J J J J J (by first|omega|(simp only [List.length_append,List.length_singleton,Gl.rows_len]; omega)) (by first|omega|(simp only [List.length_append,List.length_singleton,Gl.rows_len]; omega))) ?_;refine A5 J J J (B1 J gU J J) ?_;refine C3 J (H8 J J J J J J J) ?_
  refine B0 ?_;refine B5 (s:=⟨[(3,_,_),(4,_,_),(6,_,_),(7,_,_)],[(.l 3,_),(.l 4,_),(.l 6,_),(.l 7,_),(.o 0,_)],[(.b (.l 3) 1,_),(.b (.l 3) 2,_),(.b (.l 3) 3,_),(.b (.l 3) 4,_),(.b (.l 3) 5,_)],[]⟩) (B4 (⟨U J,U J,U J,U J,O⟩) (⟨U J,U J,U J,U J,U J,O⟩) (⟨rfl,rfl,rfl,rfl,rfl,O⟩)) ?_;refine B5 (s:=⟨[(3,_,_),(4,_,_),(6,_,_),(7,_,_)],[(.l 3,_),(.l 4,_),(.l 6,_),(.l 7,_),(.o 0,_)],[(.b (.l 3) 1,_),(.b (.l 3) 2,_),(.b (.l 3) 3,_),(.b (.l 3) 4,_),(.b (.l 3) 5,_)],[]⟩) (B4 (⟨U J,U J,U J,U J,O⟩) (⟨U J,U J,U J,U J,U J,O⟩) (⟨rfl,rfl,rfl,rfl,rfl,O⟩)) ?_;refine H7 (.l 3) J (fun w1 w2 w3 w4 w5=>?_);refine B5 (s:=⟨[(3,_,_),(4,_,_),(6,_,_),(7,_,_)],[(.l 3,_),(.l 4,_),(.l 6,_),(.l 7,_),(.o 0,_)],[(.b (.l 3) 1,_),(.b (.l 3) 2,_),(.b (.l 3) 3,_),(.b (.l 3) 4,_),(.b (.l 3) 5,_)],[]⟩) (B4 (⟨U J,U J,U J,U J,O⟩) (⟨U J,U J,U J,U J,U J,O⟩) (⟨rfl,rfl,rfl,rfl,rfl,O⟩)) ?_;refine A8 ?_;refine awp_drawn' (by kernel_rfl) ?_;refine D7 J J J J J J J gU J J J J J ?_;refine D7 J J J J J J J gU J J J J J ?_
  refine F0 J J J J J J J J J J J J ?_;refine F0 J J J J J J J J J J J J ?_;refine F9 (by kernel_rfl) ?_;refine B5 (s:=⟨[(3,_,_),(6,_,_),(7,_,_)],[(.l 3,_),(.l 6,_),(.l 7,_),(.o 0,_)],[(.b (.l 3) 1,_),(.b (.l 3) 2,_),(.b (.l 3) 3,_),(.b (.l 3) 4,_),(.b (.l 3) 5,_)],[]⟩) (B4 (⟨U J,U J,U J,O⟩) (⟨U J,U J,U J,U J,O⟩) (⟨(ak J (ak J (ak J (ak J (rfl))))),(ak J (ak J (ak J (ak J (rfl))))),(ak J (ak J (ak J (ak J (rfl))))),(ak J (ak J (ak J (ak J (rfl))))),(ak J (ak J (ak J (ak J (rfl))))),O⟩)) ?_;refine I3 (.l 6) (.l 3) J J J J J ?_;refine B5 (s:=⟨[(3,_,_),(6,_,_),(7,_,_)],[(.l 3,_),(.l 6,_),(.l 7,_),(.o 0,_)],[(.b (.l 6) 1,_),(.b (.l 6) 2,_),(.b (.l 6) 3,_),(.b (.l 6) 4,_),(.b (.l 6) 5,_)],[]⟩) (B4 (⟨U J,U J,U J,O⟩) (⟨U J,U J,U J,U J,O⟩) (⟨rfl,rfl,rfl,rfl,rfl,O⟩)) ?_;refine C1 ?_
  repeat(first|refine tR ?_|refine bR ?_)
  refine J3 J ?_ ⟨⟨_,rfl,rfl⟩,O⟩ (by simp) J J J J J J;exact congrArg (fun z=>X.tup [.agg (narC n.name (strR n.roles) (Fs.rows n.fresh) (strR n.tags) (Sp.rows n.steps) z), .agg (pbx l (H1 l (G4 l (l.length + 1)) (E9 l [58] (C9 l [] (C9 l [] (chR l K3 p).2).2).2)).2)]) (Gl.rows_app n.goals [⟨(chR l K3 p).1,(C9 l [] (chR l K3 p).2).1,(C9 l [] (C9 l [] (chR l K3 p).2).2).1,(H1 l (G4 l (l.length + 1)) (E9 l [58] (C9 l [] (C9 l [] (chR l K3 p).2).2).2)).1,line⟩]).symm
 ·have h : I8 (chR l K3 p).1=false:=hc
  have hg : X9 l line p=(⟨(chR l K3 p).1,(C9 l [] (chR l K3 p).2).1,[],(H1 l (G4 l (l.length + 1)) (E9 l [58] (C9 l [] (chR l K3 p).2).2)).1,line⟩,(H1 l (G4 l (l.length + 1)) (E9 l [58] (C9 l [] (chR l K3 p).2).2)).2):=by
   simp only [X9,h,Bool.false_eq_true,if_false]
  rw[hg]
  refine C0 ?_;refine A8 (A6 ?_);refine A5 J J J (B8 J gU J J J J J) ?_;refine C8 J J J J J J gU gU (up (F6 l _ _ (by omega) (le3 hl (by repeat(first|exact hp|refine N1 ?_|refine K5 ?_|refine Ai ?_))))) J ?_;refine C8 J J J J J J gU gU (up (Bv l (l.length + 1) hl (fun q h1 h2=>Y4 l hl _ q h1 h2) (T4 l _) _ (by repeat(first|exact hp|refine N1 ?_|refine K5 ?_|refine Ai ?_)) (by omega))) J ?_;refine A5 J J J (A7 J gU) ?_;refine A5 J J J (C6 J gU J) ?_;refine A5 J J J (C6 J gU J) ?_;refine A5 J J J (B1 J gU J J) ?_;refine C3 J (C7 J J J J J J J) ?_;refine C3 J (C7 J J J J J J J) ?_;refine B0 ?_;refine B5 (s:=⟨[(3,_,_),(4,_,_),(6,_,_),(7,_,_),(8,_,_)],[(.l 3,_),(.l 4,_),(.l 6,_),(.l 7,_),(.l 8,_),(.o 0,_)],[(.b (.l 3) 1,_),(.b (.l 3) 2,_),(.b (.l 3) 3,_),(.b (.l 3) 4,_),(.b (.l 3) 5,_)],[]⟩) (B4 (⟨U J,U J,U J,U J,U J,O⟩) (⟨U J,U J,U J,U J,U J,U J,O⟩) (⟨rfl,rfl,rfl,rfl,rfl,O⟩)) ?_;refine A8 (A6 ?_);refine A5 J J J (B1 J gU J J) ?_;refine C3 J (I5 J J J J J J J) ?_
  refine A5 J J J (B8 J gU J J J J J) ?_;refine E8 (xs:=[_]) J J J J J J J J J gU J ?_;refine C3 J (F7 J J J J J J J (by first|omega|(simp only [List.length_append,List.length_singleton,Gl.rows_len]; omega)) (by first|omega|(simp only [List.length_append,List.length_singleton,Gl.rows_len]; omega))) ?_;refine A5 J J J (B1 J gU J J) ?_;refine C3 J (H8 J J J J J J J) ?_;refine B0 ?_;refine B5 (s:=⟨[(3,_,_),(4,_,_),(6,_,_),(7,_,_)],[(.l 3,_),(.l 4,_),(.l 6,_),(.l 7,_),(.o 0,_)],[(.b (.l 3) 1,_),(.b (.l 3) 2,_),(.b (.l 3) 3,_),(.b (.l 3) 4,_),(.b (.l 3) 5,_)],[]⟩) (B4 (⟨U J,U J,U J,U J,O⟩) (⟨U J,U J,U J,U J,U J,O⟩) (⟨rfl,rfl,rfl,rfl,rfl,O⟩)) ?_;refine B5 (s:=⟨[(3,_,_),(4,_,_),(6,_,_),(7,_,_)],[(.l 3,_),(.l 4,_),(.l 6,_),(.l 7,_),(.o 0,_)],[(.b (.l 3) 1,_),(.b (.l 3) 2,_),(.b (.l 3) 3,_),(.b (.l 3) 4,_),(.b (.l 3) 5,_)],[]⟩) (B4 (⟨U J,U J,U J,U J,O⟩) (⟨U J,U J,U J,U J,U J,O⟩) (⟨rfl,rfl,rfl,rfl,rfl,O⟩)) ?_;refine H7 (.l 3) J (fun w1 w2 w3 w4 w5=>?_);refine B5 (s:=⟨[(3,_,_),(4,_,_),(6,_,_),(7,_,_)],[(.l 3,_),(.l 4,_),(.l 6,_),(.l 7,_),(.o 0,_)],[(.b (.l 3) 1,_),(.b (.l 3) 2,_),(.b (.l 3) 3,_),(.b (.l 3) 4,_),(.b (.l 3) 5,_)],[]⟩) (B4 (⟨U J,U J,U J,U J,O⟩) (⟨U J,U J,U J,U J,U J,O⟩) (⟨rfl,rfl,rfl,rfl,rfl,O⟩)) ?_
  refine A8 ?_;refine awp_drawn' (by kernel_rfl) ?_;refine D7 J J J J J J J gU J J J J J ?_;refine D7 J J J J J J J gU J J J J J ?_;refine F0 J J J J J J J J J J J J ?_;refine F0 J J J J J J J J J J J J ?_;refine F9 (by kernel_rfl) ?_;refine B5 (s:=⟨[(3,_,_),(6,_,_),(7,_,_)],[(.l 3,_),(.l 6,_),(.l 7,_),(.o 0,_)],[(.b (.l 3) 1,_),(.b (.l 3) 2,_),(.b (.l 3) 3,_),(.b (.l 3) 4,_),(.b (.l 3) 5,_)],[]⟩) (B4 (⟨U J,U J,U J,O⟩) (⟨U J,U J,U J,U J,O⟩) (⟨(ak J (ak J (ak J (ak J (rfl))))),(ak J (ak J (ak J (ak J (rfl))))),(ak J (ak J (ak J (ak J (rfl))))),(ak J (ak J (ak J (ak J (rfl))))),(ak J (ak J (ak J (ak J (rfl))))),O⟩)) ?_;refine I3 (.l 6) (.l 3) J J J J J ?_;refine B5 (s:=⟨[(3,_,_),(6,_,_),(7,_,_)],[(.l 3,_),(.l 6,_),(.l 7,_),(.o 0,_)],[(.b (.l 6) 1,_),(.b (.l 6) 2,_),(.b (.l 6) 3,_),(.b (.l 6) 4,_),(.b (.l 6) 5,_)],[]⟩) (B4 (⟨U J,U J,U J,O⟩) (⟨U J,U J,U J,U J,O⟩) (⟨rfl,rfl,rfl,rfl,rfl,O⟩)) ?_;refine C1 ?_
  repeat(first|refine tR ?_|refine bR ?_)
  refine J3 J ?_ ⟨⟨_,rfl,rfl⟩,O⟩ (by simp) J J J J J J;exact congrArg (fun z=>X.tup [.agg (narC n.name (strR n.roles) (Fs.rows n.fresh) (strR n.tags) (Sp.rows n.steps) z), .agg (pbx l (H1 l (G4 l (l.length + 1)) (E9 l [58] (C9 l [] (chR l K3 p).2).2)).2)]) (Gl.rows_app n.goals [⟨(chR l K3 p).1,(C9 l [] (chR l K3 p).2).1,[],(H1 l (G4 l (l.length + 1)) (E9 l [58] (C9 l [] (chR l K3 p).2).2)).1,line⟩]).symm
theorem Vj {l : List Tk} {p : PS} (h : (chR l J0 p).2.bad=false) : (chR l J0 p).2.at'=p.at' + 1:=by
 rw[(Tz l p).1] at h ⊢
 have hq:=Fc h
 rw[C9,if_pos hq]; rfl
abbrev frC (n : Nar) (o : List Fs) : List C:=narC n.name (strR n.roles) (Fs.rows o) (strR n.tags) (Sp.rows n.steps) (Gl.rows n.goals)
set_option maxHeartbeats 8000000 in
theorem Bj (l : List Tk) (p : PS) (n : Nar) (u1 u2 u3 u4 u5 : Value) (hl : l.length≤2000000) (hp : p.at'≤l.length) (hn : n.fresh.length≤3000000) :
  CtrO sysO 133 [.v (.agg (soC n u1 u2 u3 u4 u5)),xr l p] [soC n u1 u2 u3 u4 u5] osR (xnr l ({ n with fresh:=(frRd l p n.fresh).1 },(frRd l p n.fresh).2)) [soC n u1 u2 u3 u4 u5] .res:=by
 have hrl:=Tk.rows_len l
 have a3 : (E9 l [58] (C9 l [] p).2).at'≤l.length:=N1 (K5 hp)
 obtain ⟨role,hrole⟩ : ∃ r,(C9 l [] p).1=r:=⟨_,rfl⟩
 refine K8 Tryz.func133 J J J J J J J ?_;refine A8 (A6 ?_);refine C3 J (D8 J J J J) ?_;refine C3 J (D8 J J J J) ?_;refine C3 J (E1 J J J) ?_;refine C3 J (E1 J J J) ?_;refine B0 ?_;refine B5 (s:=⟨[(2,_,_),(3,_,_),(4,_,_),(5,_,_)],[(.l 2,_),(.l 3,_),(.l 4,_),(.l 5,_),(.o 0,_)],[(.b (.o 0) 1,_),(.b (.o 0) 2,_),(.b (.o 0) 3,_),(.b (.o 0) 4,_),(.b (.o 0) 5,_)],[]⟩) (B4 (⟨U J,U J,U J,U J,O⟩) (⟨U J,U J,U J,U J,U J,O⟩) (⟨rfl,rfl,rfl,rfl,rfl,O⟩)) ?_;refine I3 (.l 2) (.o 0) J J J J J ?_;refine B5 (s:=⟨[(2,_,_),(3,_,_),(4,_,_),(5,_,_)],[(.l 2,_),(.l 3,_),(.l 4,_),(.l 5,_),(.o 0,_)],[(.b (.l 2) 1,_),(.b (.l 2) 2,_),(.b (.l 2) 3,_),(.b (.l 2) 4,_),(.b (.l 2) 5,_)],[]⟩) (B4 (⟨U J,U J,U J,U J,O⟩) (⟨U J,U J,U J,U J,U J,O⟩) (⟨rfl,rfl,rfl,rfl,rfl,O⟩)) ?_;refine A8 (A6 ?_);refine A5 J J J (B8 J gU J J J J J) ?_;refine C8 J J J J J J gU gU (up (K0 l p (by omega) (le3 hl hp))) J ?_;refine A5 J J J (A7 J gU) ?_;refine A5 J J J (C6 J gU J) ?_
 refine A5 J J J (C6 J gU J) ?_;refine A5 J J J (A9 J gU) ?_;refine C3 J (C7 J J J J J J J) ?_;refine B0 ?_;refine B5 (s:=⟨[(2,_,_),(3,_,_),(4,_,_),(5,_,_),(6,_,_)],[(.l 2,_),(.l 3,_),(.l 4,_),(.l 5,_),(.o 0,_)],[(.b (.l 2) 1,_),(.b (.l 2) 2,_),(.b (.l 2) 3,_),(.b (.l 2) 4,_),(.b (.l 2) 5,_)],[]⟩) (B4 (⟨U J,U J,U J,U J,U J,O⟩) (⟨U J,U J,U J,U J,U J,O⟩) (⟨rfl,rfl,rfl,rfl,rfl,O⟩)) ?_;refine A8 (A6 ?_);refine A5 J J J (B8 J gU J J J J J) ?_;refine C8 J J J J J J gU gU (up (F6 l (C9 l [] p).2 _ (by omega) (le3 hl (K5 hp)))) J ?_;refine C3 J (C7 J J J J J J J) ?_;refine B0 ?_;refine A8 ?_;refine A8 (A6 ?_);refine A5 J J J (A9 J gU) ?_;refine B0 ?_;refine C4 ?_
 rw[hrole]
 refine F3 (ι:=PS × Bool × List Fs) { t:=[(2,_,_),(3,_,_),(4,_,_),(5,_,_),(6,_,_)],bx:=[(.l 4,_),(.l 5,_),(.o 0,_)],ow:=[(.b (.l 2) 1,_),(.b (.l 2) 2,_),(.b (.l 2) 3,_),(.b (.l 2) 4,_),(.b (.l 2) 5,_)] } (fun q=>[(7,true,xb q.2.1)]) (fun q=>[((.l 3),pbx l q.1),((.l 2),frC n q.2.2)]) (fun q=>q.1.at'≤l.length∧q.2.2.length≤n.fresh.length + q.1.at' + (if q.2.1=true then 0 else 1) ∧ ∃ k,l.length + 1≤k + q.1.at'∧(if q.2.1=true then frRA l role k q.1 q.2.2 else if symQ l q.1 [44]=true then frRA l role k q.1.go q.2.2 else (q.2.2,q.1))=frRd l p n.fresh) (fun q=>(if q.2.1=true then 1 else 0) + (l.length - q.1.at')) ((E9 l [58] (C9 l [] p).2,true,n.fresh)) (⟨a3,by simp,l.length + 1,by dsimp only; omega,by dsimp only; rw[if_pos J,← hrole]; rfl⟩) (B4 (⟨U J,U J,U J,U J,U J,U J,O⟩) (⟨U J,U J,U J,U J,U J,O⟩) (⟨rfl,rfl,rfl,rfl,rfl,O⟩)) ?_
 intro q hok
 dsimp only [List.cons_append,List.nil_append] at *
 obtain ⟨q,first,out⟩:=q
 dsimp only at hok ⊢
 obtain ⟨hq,ho,k,hk,hi⟩:=hok
 have hro:=Fs.rows_len out
 cases first
 ·rw[if_neg (by simp)] at hi
  simp only [Bool.false_eq_true,if_false] at ho
  refine A8 ?_;refine A8 (A6 ?_);refine A5 J J J (A7 J gU) ?_;refine A5 J J J (A7 J gU) ?_;refine A5 J J J (B8 J gU J J J J J) ?_;refine C8 J J J J J J gU (fun hh=>gA ((fun hh=>hh) hh) (gA J (rfl))) (up (P1 l q _ (by omega) (le3 hl hq))) J ?_;refine A5 J J J (E5 J J gU (fun _ hi=>gP J hi)) ?_;refine B0 ?_;refine B5 (s:=⟨[(2,_,_),(3,_,_),(4,_,_),(5,_,_),(6,_,_),(7,_,_),(20,_,_)],[(.l 2,_),(.l 3,_),(.l 4,_),(.l 5,_),(.o 0,_)],[(.b (.l 2) 1,_),(.b (.l 2) 2,_),(.b (.l 2) 3,_),(.b (.l 2) 4,_),(.b (.l 2) 5,_)],[]⟩) (B4 (⟨U J,U J,U J,U J,U J,U J,U J,O⟩) (⟨U J,U J,U J,U J,U J,O⟩) (⟨rfl,rfl,rfl,rfl,rfl,O⟩)) ?_;refine B9 J (fun hc1=>?_) (fun hc1=>?_)
  ·try simp only [nn,B3,T.rows_len,Tk.rows_len] at hc1
   have hc1:=hc1.resolve_left (by simp)
   have hlt:=(N7 hc1).1
   have hs : E9 l [44] q=q.go:=by rw[E9,if_pos hc1]
   have hg : q.go.at'=q.at' + 1:=rfl
   have hq2 : q.go.at'≤l.length:=by omega
   rw[if_pos hc1] at hi
   obtain ⟨k,rfl⟩ : ∃ j,k=j + 1:=⟨k - 1,by omega⟩
   have hsy:=F6 l q [44] (by omega) (le3 hl hq)
   rw[hs] at hsy
   refine C0 ?_;refine A8 ?_;refine C4 ?_;refine A8 ?_;refine A8 (A6 ?_);refine A5 J J J (A7 J gU) ?_;refine A5 J J J (F8 J gU) ?_;refine B0 ?_;refine B9 J (fun hc2=>?_) (fun hc2=>?_)
   ·refine A6 ?_
    refine A5 J J J (B8 J gU J J J J J) ?_;refine C8 J J J J J J gU gU (up hsy) J ?_;refine C3 J (C7 J J J J J J J) ?_;refine B0 ?_;refine A8 (A6 ?_);refine A5 J J J (A7 J gU) ?_;refine A5 J J J (H6 J Tryz.underlying79 J gU) ?_;refine C3 J (E1 J J J) ?_;refine C3 J (C7 J J J J J J J) ?_;refine B0 ?_;refine B5 (s:=⟨[(2,_,_),(3,_,_),(4,_,_),(5,_,_),(6,_,_),(8,_,_)],[(.l 2,_),(.l 3,_),(.l 4,_),(.l 5,_),(.l 8,_),(.o 0,_)],[(.b (.l 2) 1,_),(.b (.l 2) 2,_),(.b (.l 2) 3,_),(.b (.l 2) 4,_),(.b (.l 2) 5,_)],[]⟩) (B4 (⟨U J,U J,U J,U J,U J,U J,O⟩) (⟨U J,U J,U J,U J,U J,U J,O⟩) (⟨rfl,rfl,rfl,rfl,rfl,O⟩)) ?_;refine A8 (A6 ?_)
    have b1:=(G9 l [] q.go).1
    have b2:=(Na l J0 (C9 l [] q.go).2).1
    have b3 : (chR l J0 (C9 l [] q.go).2).2.at'≤l.length:=Ai (K5 hq2)
    refine A5 J J J (B8 J gU J J J J J) ?_;refine C8 J J J J J J gU gU (up (K0 l q.go (by omega) (le3 hl hq2))) J ?_;refine A5 J J J (A7 J gU) ?_;refine A5 J J J (C6 J gU J) ?_;refine A5 J J J (C6 J gU J) ?_;refine A5 J J J (B1 J gU J J) ?_;refine C3 J (C7 J J J J J J J) ?_;refine C3 J (C7 J J J J J J J) ?_;refine B0 ?_;refine B5 (s:=⟨[(2,_,_),(3,_,_),(4,_,_),(5,_,_),(6,_,_),(8,_,_)],[(.l 2,_),(.l 3,_),(.l 4,_),(.l 5,_),(.l 8,_),(.o 0,_)],[(.b (.l 2) 1,_),(.b (.l 2) 2,_),(.b (.l 2) 3,_),(.b (.l 2) 4,_),(.b (.l 2) 5,_)],[]⟩) (B4 (⟨U J,U J,U J,U J,U J,U J,O⟩) (⟨U J,U J,U J,U J,U J,U J,O⟩) (⟨rfl,rfl,rfl,rfl,rfl,O⟩)) ?_;refine A8 ?_;refine awp_drawn' (by kernel_rfl) ?_;refine D7 J J J J J J J gU J J J J J ?_;refine E7 J J J J J J J gU gU (up Fy) J ?_;refine E7 J J J J J J J gU gU (up (T8 l (C9 l [] q.go).2 J0 (by omega) (le3 hl (K5 hq2)))) J ?_;refine B6 J J J J (A7 J gU) ?_;refine B6 J J J J (C6 J gU J) ?_;refine B6 J J J J (C6 J gU J) ?_
    refine B6 J J J J (B1 J gU J J) ?_;refine F0 J J J J J J J J J J J J ?_;refine F0 J J J J J J J J J J J J ?_;refine F9 (by kernel_rfl) ?_;refine B5 (s:=⟨[(2,_,_),(3,_,_),(4,_,_),(5,_,_),(6,_,_),(8,_,_)],[(.l 2,_),(.l 3,_),(.l 4,_),(.l 5,_),(.l 8,_),(.o 0,_)],[(.b (.l 2) 1,_),(.b (.l 2) 2,_),(.b (.l 2) 3,_),(.b (.l 2) 4,_),(.b (.l 2) 5,_)],[]⟩) (B4 (⟨U J,U J,U J,U J,U J,U J,O⟩) (⟨U J,U J,U J,U J,U J,U J,O⟩) (⟨(ak J (ak J (ak J (ak J (ak J (ak J (ak J (ak J (ak J (rfl)))))))))),(ak J (ak J (ak J (ak J (ak J (ak J (ak J (ak J (ak J (rfl)))))))))),(ak J (ak J (ak J (ak J (ak J (ak J (ak J (ak J (ak J (rfl)))))))))),(ak J (ak J (ak J (ak J (ak J (ak J (ak J (ak J (ak J (rfl)))))))))),(ak J (ak J (ak J (ak J (ak J (ak J (ak J (ak J (ak J (rfl)))))))))),O⟩)) ?_;refine A8 (A6 ?_);refine A5 J J J (B1 J gU J J) ?_;refine C3 J (I5 J J J J J J J) ?_;refine A5 J J J (B8 J gU J J J J J) ?_;refine E8 (xs:=[_]) J J J J J J J J J gU J ?_;refine C3 J (F7 J J J J J J J (by first|omega|(simp only [List.length_append,List.length_singleton,Fs.rows_len]; omega)) (by first|omega|(simp only [List.length_append,List.length_singleton,Fs.rows_len]; omega))) ?_
    refine A5 J J J (B1 J gU J J) ?_;refine C3 J (H8 J J J J J J J) ?_;refine B0 ?_;refine B5 (s:=⟨[(2,_,_),(3,_,_),(4,_,_),(5,_,_),(6,_,_)],[(.l 2,_),(.l 3,_),(.l 4,_),(.l 5,_),(.o 0,_)],[(.b (.l 2) 1,_),(.b (.l 2) 2,_),(.b (.l 2) 3,_),(.b (.l 2) 4,_),(.b (.l 2) 5,_)],[]⟩) (B4 (⟨U J,U J,U J,U J,U J,O⟩) (⟨U J,U J,U J,U J,U J,O⟩) (⟨rfl,rfl,rfl,rfl,rfl,O⟩)) ?_;refine A8 (A6 ?_);refine A5 J J J (B1 J gU J J) ?_;refine A5 J J J (B2 J gU J J J J) ?_;refine B0 ?_;refine B9 J (fun hc3=>?_) (fun hc3=>?_)
    ·try simp only [nn,B3,T.rows_len,Tk.rows_len] at hc3
     rw[frRA,if_pos hc3] at hi
     rw[← hi]
     refine B5 (s:=⟨[(2,_,_),(3,_,_),(4,_,_),(5,_,_)],[(.l 2,_),(.l 3,_),(.l 4,_),(.l 5,_),(.o 0,_)],[(.b (.l 2) 1,_),(.b (.l 2) 2,_),(.b (.l 2) 3,_),(.b (.l 2) 4,_),(.b (.l 2) 5,_)],[]⟩) (B4 (⟨U J,U J,U J,U J,O⟩) (⟨U J,U J,U J,U J,U J,O⟩) (⟨rfl,rfl,rfl,rfl,rfl,O⟩)) ?_;refine H7 (.l 2) J (fun w1 w2 w3 w4 w5=>?_);refine B5 (s:=⟨[(2,_,_),(3,_,_),(4,_,_),(5,_,_)],[(.l 2,_),(.l 3,_),(.l 4,_),(.l 5,_),(.o 0,_)],[(.b (.l 2) 1,_),(.b (.l 2) 2,_),(.b (.l 2) 3,_),(.b (.l 2) 4,_),(.b (.l 2) 5,_)],[]⟩) (B4 (⟨U J,U J,U J,U J,O⟩) (⟨U J,U J,U J,U J,U J,O⟩) (⟨rfl,rfl,rfl,rfl,rfl,O⟩)) ?_;refine A8 ?_;refine awp_drawn' (by kernel_rfl) ?_;refine D7 J J J J J J J gU J J J J J ?_;refine D7 J J J J J J J gU J J J J J ?_;refine F0 J J J J J J J J J J J J ?_;refine F0 J J J J J J J J J J J J ?_;refine F9 (by kernel_rfl) ?_;refine B5 (s:=⟨[(2,_,_),(4,_,_),(5,_,_)],[(.l 2,_),(.l 4,_),(.l 5,_),(.o 0,_)],[(.b (.l 2) 1,_),(.b (.l 2) 2,_),(.b (.l 2) 3,_),(.b (.l 2) 4,_),(.b (.l 2) 5,_)],[]⟩) (B4 (⟨U J,U J,U J,O⟩) (⟨U J,U J,U J,U J,O⟩) (⟨(ak J (ak J (ak J (ak J (rfl))))),(ak J (ak J (ak J (ak J (rfl))))),(ak J (ak J (ak J (ak J (rfl))))),(ak J (ak J (ak J (ak J (rfl))))),(ak J (ak J (ak J (ak J (rfl))))),O⟩)) ?_
     refine I3 (.l 4) (.l 2) J J J J J ?_;refine B5 (s:=⟨[(2,_,_),(4,_,_),(5,_,_)],[(.l 2,_),(.l 4,_),(.l 5,_),(.o 0,_)],[(.b (.l 4) 1,_),(.b (.l 4) 2,_),(.b (.l 4) 3,_),(.b (.l 4) 4,_),(.b (.l 4) 5,_)],[]⟩) (B4 (⟨U J,U J,U J,O⟩) (⟨U J,U J,U J,U J,O⟩) (⟨rfl,rfl,rfl,rfl,rfl,O⟩)) ?_;refine C1 ?_
     repeat(first|refine tR ?_|refine bR ?_)
     refine J3 J ?_ ⟨⟨_,rfl,rfl⟩,O⟩ (by simp) J J J J J J;exact congrArg (fun z=>X.tup [.agg (narC n.name (strR n.roles) z (strR n.tags) (Sp.rows n.steps) (Gl.rows n.goals)), .agg (pbx l (chR l J0 (C9 l [] q.go).2).2)]) (Fs.rows_app out [⟨role,(C9 l [] q.go).1,(chR l J0 (C9 l [] q.go).2).1⟩]).symm
    ·try simp only [nn,B3,T.rows_len,Tk.rows_len] at hc3
     rw[frRA,if_neg (by rw[hc3]; simp)] at hi
     have b4:=Vj hc3
     refine C0 ?_;refine A6 ?_;refine A5 J J J (A9 J gU) ?_;refine B0 ?_;refine ⟨((chR l J0 (C9 l [] q.go).2).2,false,out++[⟨role,(C9 l [] q.go).1,(chR l J0 (C9 l [] q.go).2).1⟩]),?_,?_,B4 (⟨⟨_,rfl,?_⟩,⟨U J,U J,U J,U J,U J,O⟩⟩) (⟨⟨_,rfl,?_⟩,⟨⟨_,rfl,?_⟩,⟨U J,U J,U J,O⟩⟩⟩) (⟨rfl,rfl,rfl,rfl,rfl,O⟩)⟩
     ·refine ⟨b3,by dsimp only; simp only [List.length_append,List.length_singleton,Bool.false_eq_true,if_false]; omega,k,by dsimp only; omega,?_⟩
      rw[if_neg (by simp)]; exact hi
     ·dsimp only
      simp only [Bool.false_eq_true,if_false,if_true]
      omega
     all_goals first|rfl|exact congrArg (fun z=>some (narC n.name (strR n.roles) z (strR n.tags) (Sp.rows n.steps) (Gl.rows n.goals))) (Fs.rows_app out [⟨role,(C9 l [] q.go).1,(chR l J0 (C9 l [] q.go).2).1⟩]).symm|exact congrArg (fun z=>narC n.name (strR n.roles) z (strR n.tags) (Sp.rows n.steps) (Gl.rows n.goals)) (Fs.rows_app out [⟨role,(C9 l [] q.go).1,(chR l J0 (C9 l [] q.go).2).1⟩]).symm
   ·exfalso
    simp at hc2
  ·try simp only [nn,B3,T.rows_len,Tk.rows_len] at hc1
   have hc1:=hc1.2
   rw[if_neg (by rw[hc1]; simp)] at hi
   rw[← hi]
   refine E2 ?_
   repeat(first|refine D5 ?_|refine D6 ?_|refine D2 J ?_)
   refine B5 (s:=⟨[(2,_,_),(3,_,_),(4,_,_),(5,_,_)],[(.l 2,_),(.l 3,_),(.l 4,_),(.l 5,_),(.o 0,_)],[(.b (.l 2) 1,_),(.b (.l 2) 2,_),(.b (.l 2) 3,_),(.b (.l 2) 4,_),(.b (.l 2) 5,_)],[]⟩) (B4 (⟨U J,U J,U J,U J,O⟩) (⟨U J,U J,U J,U J,U J,O⟩) (⟨rfl,rfl,rfl,rfl,rfl,O⟩)) ?_;refine H7 (.l 2) J (fun w1 w2 w3 w4 w5=>?_);refine B5 (s:=⟨[(2,_,_),(3,_,_),(4,_,_),(5,_,_)],[(.l 2,_),(.l 3,_),(.l 4,_),(.l 5,_),(.o 0,_)],[(.b (.l 2) 1,_),(.b (.l 2) 2,_),(.b (.l 2) 3,_),(.b (.l 2) 4,_),(.b (.l 2) 5,_)],[]⟩) (B4 (⟨U J,U J,U J,U J,O⟩) (⟨U J,U J,U J,U J,U J,O⟩) (⟨rfl,rfl,rfl,rfl,rfl,O⟩)) ?_;refine A8 ?_;refine awp_drawn' (by kernel_rfl) ?_;refine D7 J J J J J J J gU J J J J J ?_;refine D7 J J J J J J J gU J J J J J ?_;refine F0 J J J J J J J J J J J J ?_;refine F0 J J J J J J J J J J J J ?_;refine F9 (by kernel_rfl) ?_;refine B5 (s:=⟨[(2,_,_),(4,_,_),(5,_,_)],[(.l 2,_),(.l 4,_),(.l 5,_),(.o 0,_)],[(.b (.l 2) 1,_),(.b (.l 2) 2,_),(.b (.l 2) 3,_),(.b (.l 2) 4,_),(.b (.l 2) 5,_)],[]⟩) (B4 (⟨U J,U J,U J,O⟩) (⟨U J,U J,U J,U J,O⟩) (⟨(ak J (ak J (ak J (ak J (rfl))))),(ak J (ak J (ak J (ak J (rfl))))),(ak J (ak J (ak J (ak J (rfl))))),(ak J (ak J (ak J (ak J (rfl))))),(ak J (ak J (ak J (ak J (rfl))))),O⟩)) ?_
   refine I3 (.l 4) (.l 2) J J J J J ?_;refine B5 (s:=⟨[(2,_,_),(4,_,_),(5,_,_)],[(.l 2,_),(.l 4,_),(.l 5,_),(.o 0,_)],[(.b (.l 4) 1,_),(.b (.l 4) 2,_),(.b (.l 4) 3,_),(.b (.l 4) 4,_),(.b (.l 4) 5,_)],[]⟩) (B4 (⟨U J,U J,U J,O⟩) (⟨U J,U J,U J,U J,O⟩) (⟨rfl,rfl,rfl,rfl,rfl,O⟩)) ?_;refine C1 ?_
   repeat(first|refine tR ?_|refine bR ?_)
   refine J3 J ?_ ⟨⟨_,rfl,rfl⟩,O⟩ (by simp) J J J J J J
   rfl
 ·rw[if_pos J] at hi
  simp only [if_true] at ho
  have hq2:=hq
  obtain ⟨k,rfl⟩ : ∃ j,k=j + 1:=⟨k - 1,by omega⟩
  refine A8 ?_;refine A8 (A6 ?_);refine A5 J J J (A7 J gU) ?_;refine A5 J J J (A7 J gU) ?_;refine A5 J J J (B8 J gU J J J J J) ?_;refine C8 J J J J J J gU (fun hh=>gA ((fun hh=>hh) hh) (gA J (rfl))) (up (P1 l q _ (by omega) (le3 hl hq))) J ?_;refine A5 J J J (E5 J J gU (fun _ hi=>gP J hi)) ?_;refine B0 ?_;refine B5 (s:=⟨[(2,_,_),(3,_,_),(4,_,_),(5,_,_),(6,_,_),(7,_,_),(20,_,_)],[(.l 2,_),(.l 3,_),(.l 4,_),(.l 5,_),(.o 0,_)],[(.b (.l 2) 1,_),(.b (.l 2) 2,_),(.b (.l 2) 3,_),(.b (.l 2) 4,_),(.b (.l 2) 5,_)],[]⟩) (B4 (⟨U J,U J,U J,U J,U J,U J,U J,O⟩) (⟨U J,U J,U J,U J,U J,O⟩) (⟨rfl,rfl,rfl,rfl,rfl,O⟩)) ?_;refine B9 J (fun hc1=>?_) (fun hc1=>?_)
  ·refine C0 ?_
   refine A8 ?_;refine C4 ?_;refine A8 ?_;refine A8 (A6 ?_);refine A5 J J J (A7 J gU) ?_;refine A5 J J J (F8 J gU) ?_;refine B0 ?_;refine B9 J (fun hc2=>?_) (fun hc2=>?_)
   ·exfalso
    simp at hc2
   ·refine C0 ?_
    refine A8 (A6 ?_);refine A5 J J J (A7 J gU) ?_;refine A5 J J J (H6 J Tryz.underlying79 J gU) ?_;refine C3 J (E1 J J J) ?_;refine C3 J (C7 J J J J J J J) ?_;refine B0 ?_;refine B5 (s:=⟨[(2,_,_),(3,_,_),(4,_,_),(5,_,_),(6,_,_),(8,_,_)],[(.l 2,_),(.l 3,_),(.l 4,_),(.l 5,_),(.l 8,_),(.o 0,_)],[(.b (.l 2) 1,_),(.b (.l 2) 2,_),(.b (.l 2) 3,_),(.b (.l 2) 4,_),(.b (.l 2) 5,_)],[]⟩) (B4 (⟨U J,U J,U J,U J,U J,U J,O⟩) (⟨U J,U J,U J,U J,U J,U J,O⟩) (⟨rfl,rfl,rfl,rfl,rfl,O⟩)) ?_;refine A8 (A6 ?_)
    have b1:=(G9 l [] q).1
    have b2:=(Na l J0 (C9 l [] q).2).1
    have b3 : (chR l J0 (C9 l [] q).2).2.at'≤l.length:=Ai (K5 hq2)
    refine A5 J J J (B8 J gU J J J J J) ?_;refine C8 J J J J J J gU gU (up (K0 l q (by omega) (le3 hl hq2))) J ?_;refine A5 J J J (A7 J gU) ?_;refine A5 J J J (C6 J gU J) ?_;refine A5 J J J (C6 J gU J) ?_;refine A5 J J J (B1 J gU J J) ?_;refine C3 J (C7 J J J J J J J) ?_;refine C3 J (C7 J J J J J J J) ?_;refine B0 ?_;refine B5 (s:=⟨[(2,_,_),(3,_,_),(4,_,_),(5,_,_),(6,_,_),(8,_,_)],[(.l 2,_),(.l 3,_),(.l 4,_),(.l 5,_),(.l 8,_),(.o 0,_)],[(.b (.l 2) 1,_),(.b (.l 2) 2,_),(.b (.l 2) 3,_),(.b (.l 2) 4,_),(.b (.l 2) 5,_)],[]⟩) (B4 (⟨U J,U J,U J,U J,U J,U J,O⟩) (⟨U J,U J,U J,U J,U J,U J,O⟩) (⟨rfl,rfl,rfl,rfl,rfl,O⟩)) ?_;refine A8 ?_;refine awp_drawn' (by kernel_rfl) ?_;refine D7 J J J J J J J gU J J J J J ?_;refine E7 J J J J J J J gU gU (up Fy) J ?_;refine E7 J J J J J J J gU gU (up (T8 l (C9 l [] q).2 J0 (by omega) (le3 hl (K5 hq2)))) J ?_;refine B6 J J J J (A7 J gU) ?_;refine B6 J J J J (C6 J gU J) ?_;refine B6 J J J J (C6 J gU J) ?_
    refine B6 J J J J (B1 J gU J J) ?_;refine F0 J J J J J J J J J J J J ?_;refine F0 J J J J J J J J J J J J ?_;refine F9 (by kernel_rfl) ?_;refine B5 (s:=⟨[(2,_,_),(3,_,_),(4,_,_),(5,_,_),(6,_,_),(8,_,_)],[(.l 2,_),(.l 3,_),(.l 4,_),(.l 5,_),(.l 8,_),(.o 0,_)],[(.b (.l 2) 1,_),(.b (.l 2) 2,_),(.b (.l 2) 3,_),(.b (.l 2) 4,_),(.b (.l 2) 5,_)],[]⟩) (B4 (⟨U J,U J,U J,U J,U J,U J,O⟩) (⟨U J,U J,U J,U J,U J,U J,O⟩) (⟨(ak J (ak J (ak J (ak J (ak J (ak J (ak J (ak J (ak J (rfl)))))))))),(ak J (ak J (ak J (ak J (ak J (ak J (ak J (ak J (ak J (rfl)))))))))),(ak J (ak J (ak J (ak J (ak J (ak J (ak J (ak J (ak J (rfl)))))))))),(ak J (ak J (ak J (ak J (ak J (ak J (ak J (ak J (ak J (rfl)))))))))),(ak J (ak J (ak J (ak J (ak J (ak J (ak J (ak J (ak J (rfl)))))))))),O⟩)) ?_;refine A8 (A6 ?_);refine A5 J J J (B1 J gU J J) ?_;refine C3 J (I5 J J J J J J J) ?_;refine A5 J J J (B8 J gU J J J J J) ?_;refine E8 (xs:=[_]) J J J J J J J J J gU J ?_;refine C3 J (F7 J J J J J J J (by first|omega|(simp only [List.length_append,List.length_singleton,Fs.rows_len]; omega)) (by first|omega|(simp only [List.length_append,List.length_singleton,Fs.rows_len]; omega))) ?_
    refine A5 J J J (B1 J gU J J) ?_;refine C3 J (H8 J J J J J J J) ?_;refine B0 ?_;refine B5 (s:=⟨[(2,_,_),(3,_,_),(4,_,_),(5,_,_),(6,_,_)],[(.l 2,_),(.l 3,_),(.l 4,_),(.l 5,_),(.o 0,_)],[(.b (.l 2) 1,_),(.b (.l 2) 2,_),(.b (.l 2) 3,_),(.b (.l 2) 4,_),(.b (.l 2) 5,_)],[]⟩) (B4 (⟨U J,U J,U J,U J,U J,O⟩) (⟨U J,U J,U J,U J,U J,O⟩) (⟨rfl,rfl,rfl,rfl,rfl,O⟩)) ?_;refine A8 (A6 ?_);refine A5 J J J (B1 J gU J J) ?_;refine A5 J J J (B2 J gU J J J J) ?_;refine B0 ?_;refine B9 J (fun hc3=>?_) (fun hc3=>?_)
    ·try simp only [nn,B3,T.rows_len,Tk.rows_len] at hc3
     rw[frRA,if_pos hc3] at hi
     rw[← hi]
     refine B5 (s:=⟨[(2,_,_),(3,_,_),(4,_,_),(5,_,_)],[(.l 2,_),(.l 3,_),(.l 4,_),(.l 5,_),(.o 0,_)],[(.b (.l 2) 1,_),(.b (.l 2) 2,_),(.b (.l 2) 3,_),(.b (.l 2) 4,_),(.b (.l 2) 5,_)],[]⟩) (B4 (⟨U J,U J,U J,U J,O⟩) (⟨U J,U J,U J,U J,U J,O⟩) (⟨rfl,rfl,rfl,rfl,rfl,O⟩)) ?_;refine H7 (.l 2) J (fun w1 w2 w3 w4 w5=>?_);refine B5 (s:=⟨[(2,_,_),(3,_,_),(4,_,_),(5,_,_)],[(.l 2,_),(.l 3,_),(.l 4,_),(.l 5,_),(.o 0,_)],[(.b (.l 2) 1,_),(.b (.l 2) 2,_),(.b (.l 2) 3,_),(.b (.l 2) 4,_),(.b (.l 2) 5,_)],[]⟩) (B4 (⟨U J,U J,U J,U J,O⟩) (⟨U J,U J,U J,U J,U J,O⟩) (⟨rfl,rfl,rfl,rfl,rfl,O⟩)) ?_;refine A8 ?_;refine awp_drawn' (by kernel_rfl) ?_;refine D7 J J J J J J J gU J J J J J ?_;refine D7 J J J J J J J gU J J J J J ?_;refine F0 J J J J J J J J J J J J ?_;refine F0 J J J J J J J J J J J J ?_;refine F9 (by kernel_rfl) ?_;refine B5 (s:=⟨[(2,_,_),(4,_,_),(5,_,_)],[(.l 2,_),(.l 4,_),(.l 5,_),(.o 0,_)],[(.b (.l 2) 1,_),(.b (.l 2) 2,_),(.b (.l 2) 3,_),(.b (.l 2) 4,_),(.b (.l 2) 5,_)],[]⟩) (B4 (⟨U J,U J,U J,O⟩) (⟨U J,U J,U J,U J,O⟩) (⟨(ak J (ak J (ak J (ak J (rfl))))),(ak J (ak J (ak J (ak J (rfl))))),(ak J (ak J (ak J (ak J (rfl))))),(ak J (ak J (ak J (ak J (rfl))))),(ak J (ak J (ak J (ak J (rfl))))),O⟩)) ?_
     refine I3 (.l 4) (.l 2) J J J J J ?_;refine B5 (s:=⟨[(2,_,_),(4,_,_),(5,_,_)],[(.l 2,_),(.l 4,_),(.l 5,_),(.o 0,_)],[(.b (.l 4) 1,_),(.b (.l 4) 2,_),(.b (.l 4) 3,_),(.b (.l 4) 4,_),(.b (.l 4) 5,_)],[]⟩) (B4 (⟨U J,U J,U J,O⟩) (⟨U J,U J,U J,U J,O⟩) (⟨rfl,rfl,rfl,rfl,rfl,O⟩)) ?_;refine C1 ?_
     repeat(first|refine tR ?_|refine bR ?_)
     refine J3 J ?_ ⟨⟨_,rfl,rfl⟩,O⟩ (by simp) J J J J J J;exact congrArg (fun z=>X.tup [.agg (narC n.name (strR n.roles) z (strR n.tags) (Sp.rows n.steps) (Gl.rows n.goals)), .agg (pbx l (chR l J0 (C9 l [] q).2).2)]) (Fs.rows_app out [⟨role,(C9 l [] q).1,(chR l J0 (C9 l [] q).2).1⟩]).symm
    ·try simp only [nn,B3,T.rows_len,Tk.rows_len] at hc3
     rw[frRA,if_neg (by rw[hc3]; simp)] at hi
     have b4:=Vj hc3
     refine C0 ?_;refine A6 ?_;refine A5 J J J (A9 J gU) ?_;refine B0 ?_;refine ⟨((chR l J0 (C9 l [] q).2).2,false,out++[⟨role,(C9 l [] q).1,(chR l J0 (C9 l [] q).2).1⟩]),?_,?_,B4 (⟨⟨_,rfl,?_⟩,⟨U J,U J,U J,U J,U J,O⟩⟩) (⟨⟨_,rfl,?_⟩,⟨⟨_,rfl,?_⟩,⟨U J,U J,U J,O⟩⟩⟩) (⟨rfl,rfl,rfl,rfl,rfl,O⟩)⟩
     ·refine ⟨b3,by dsimp only; simp only [List.length_append,List.length_singleton,Bool.false_eq_true,if_false]; omega,k,by dsimp only; omega,?_⟩
      rw[if_neg (by simp)]; exact hi
     ·dsimp only
      simp only [Bool.false_eq_true,if_false,if_true]
      omega
     all_goals first|rfl|exact congrArg (fun z=>some (narC n.name (strR n.roles) z (strR n.tags) (Sp.rows n.steps) (Gl.rows n.goals))) (Fs.rows_app out [⟨role,(C9 l [] q).1,(chR l J0 (C9 l [] q).2).1⟩]).symm|exact congrArg (fun z=>narC n.name (strR n.roles) z (strR n.tags) (Sp.rows n.steps) (Gl.rows n.goals)) (Fs.rows_app out [⟨role,(C9 l [] q).1,(chR l J0 (C9 l [] q).2).1⟩]).symm
  ·exfalso
   simp at hc1
theorem Nv (l : List Tk) (n : Nar) (line : Int) (q : PS) : N4 l n line 1 q=({ n with roles:=n.roles++(J7 l q).1 },(J7 l q).2):=by rw[N4,if_pos J]
theorem Oa (l : List Tk) (n : Nar) (line : Int) (q : PS) : N4 l n line 2 q=({ n with fresh:=(frRd l q n.fresh).1 },(frRd l q n.fresh).2):=by rw[N4,if_neg (by decide),if_pos J]
theorem Qr (l : List Tk) (n : Nar) (line : Int) (q : PS) : N4 l n line 3 q=({ n with tags:=n.tags++(J7 l q).1 },(J7 l q).2):=by rw[N4,if_neg (by decide),if_neg (by decide),if_pos J]
theorem Pr (l : List Tk) (n : Nar) (line : Int) (q : PS) : N4 l n line 4 q=({ n with steps:=n.steps++[(Bl l line q).1] },(Bl l line q).2):=by rw[N4,if_neg (by decide),if_neg (by decide),if_neg (by decide),if_pos J]
theorem Rj (l : List Tk) (n : Nar) (line : Int) (q : PS) : N4 l n line 5 q=({ n with goals:=n.goals++[(X9 l line q).1] },(X9 l line q).2):=by rw[N4,if_neg (by decide),if_neg (by decide),if_neg (by decide),if_neg (by decide),if_pos J]
theorem Qi (l : List Tk) (n : Nar) (line : Int) (q : PS) {k : Int} (h1 : k≠1) (h2 : k≠2) (h3 : k≠3) (h4 : k≠4) (h5 : k≠5) : N4 l n line k q=(n,q):=by rw[N4,if_neg h1,if_neg h2,if_neg h3,if_neg h4,if_neg h5]
theorem O2 {l : List Tk} {n n' : Nar} {p q : PS} {line : Int} {k : Int} (hw : chR l W3 p=(k,q)) (hl : P9 l p=line) {r : PS} (h : N4 l n line k q=(n',r)) : Z4 l n p=(n',E9 l [59] r):=by
 unfold Z4; rw[hl,hw]; dsimp only; rw[h]
theorem uBr (l : List Tk) (out : List Fs) : Fwd l (fun p=>frRd l p out):=fun p=>by
 have h:=(Qq l out p).1
 have h2:=Kt l out p
 dsimp only at h h2 ⊢
 rw[h]; exact h2
theorem Zz (l : List Tk) (line : Int) : Fwd l (Bl l line):=fun p=>by rw[(Oc l line p).1]; exact Ie l line p
theorem uAc (l : List Tk) (line : Int) : Fwd l (X9 l line):=fun p=>by rw[(Qb l line p).1]; exact Hf l line p
set_option maxHeartbeats 16000000 in
theorem Ru (l : List Tk) (p : PS) (n : Nar) (u1 u2 u3 u4 u5 : Value) (hl : l.length≤2000000) (hp : p.at'≤l.length) (hn : n.Le 2000000) :
  CtrO sysO 108 [.v (.agg (soC n u1 u2 u3 u4 u5)),xr l p] [soC n u1 u2 u3 u4 u5] osR (xnr l (Z4 l n p)) [soC n u1 u2 u3 u4 u5] .res:=by
 have hrl:=Tk.rows_len l
 have hr1:=B3 n.roles
 have hr2:=B3 n.tags
 have hq1:=Ai (ws:=W3) hp
 obtain ⟨b1,b2,b3,b4,b5⟩:=hn
 obtain ⟨k,q,hk⟩ : ∃ k q,chR l W3 p=(k,q):=⟨_,_,rfl⟩
 have hns:=T8 l p W3 (by omega) (by omega)
 rw[hk] at hns hq1
 dsimp only at hns hq1
 have hnl : (J7 l q).1.length≤2000001:=by
  have h1:=Cj (G9 l []) q
  have h2:=(R5 (G9 l []) q).2 hq1
  unfold J7; omega
 have hnr:=B3 (J7 l q).1
 have hq2 : (J7 l q).2.at'≤l.length:=(R5 (G9 l []) q).2 hq1
 have hq3 : (frRd l q n.fresh).2.at'≤l.length:=(uBr l n.fresh q).2 hq1
 have hq4 : ∀ line,(Bl l line q).2.at'≤l.length:=fun line=>(Zz l line q).2 hq1
 have hq5 : ∀ line,(X9 l line q).2.at'≤l.length:=fun line=>(uAc l line q).2 hq1
 refine K8 Tryz.func108 J J J J J J J ?_;refine A8 (A6 ?_);refine C3 J (D8 J J J J) ?_;refine C3 J (D8 J J J J) ?_;refine C3 J (E1 J J J) ?_;refine C3 J (E1 J J J) ?_;refine B0 ?_;refine B5 (s:=⟨[(2,_,_),(3,_,_),(4,_,_),(5,_,_)],[(.l 2,_),(.l 3,_),(.l 4,_),(.l 5,_),(.o 0,_)],[(.b (.o 0) 1,_),(.b (.o 0) 2,_),(.b (.o 0) 3,_),(.b (.o 0) 4,_),(.b (.o 0) 5,_)],[]⟩) (B4 (⟨U J,U J,U J,U J,O⟩) (⟨U J,U J,U J,U J,U J,O⟩) (⟨rfl,rfl,rfl,rfl,rfl,O⟩)) ?_;refine I3 (.l 2) (.o 0) J J J J J ?_;refine B5 (s:=⟨[(2,_,_),(3,_,_),(4,_,_),(5,_,_)],[(.l 2,_),(.l 3,_),(.l 4,_),(.l 5,_),(.o 0,_)],[(.b (.l 2) 1,_),(.b (.l 2) 2,_),(.b (.l 2) 3,_),(.b (.l 2) 4,_),(.b (.l 2) 5,_)],[]⟩) (B4 (⟨U J,U J,U J,U J,O⟩) (⟨U J,U J,U J,U J,U J,O⟩) (⟨rfl,rfl,rfl,rfl,rfl,O⟩)) ?_;refine A8 (A6 ?_);refine A5 J J J (A9 J gU) ?_;refine B0 ?_;refine A8 ?_;refine A8 (A6 ?_);refine A5 J J J (B1 J gU J J) ?_;refine A5 J J J (B2 J gU J J J J) ?_;refine A5 J J J (B1 J gU J J) ?_
 refine A5 J J J (B2 J gU J J J J) ?_;refine D9 J J J J J gU J J ?_ (fun hh=>by simp at hh); intro hlen;refine A5 J J J (B7 J J gU gU J) ?_;refine B0 ?_;refine B5 (s:=⟨[(2,_,_),(3,_,_),(4,_,_),(5,_,_),(6,_,_),(14,_,_)],[(.l 2,_),(.l 3,_),(.l 4,_),(.l 5,_),(.o 0,_)],[(.b (.l 2) 1,_),(.b (.l 2) 2,_),(.b (.l 2) 3,_),(.b (.l 2) 4,_),(.b (.l 2) 5,_)],[]⟩) (B4 (⟨U J,U J,U J,U J,U J,U J,O⟩) (⟨U J,U J,U J,U J,U J,O⟩) (⟨rfl,rfl,rfl,rfl,rfl,O⟩)) ?_;refine B9 J (fun hcx=>?_) (fun hcx=>?_)
 ·try simp only [nn,B3,T.rows_len,Tk.rows_len] at hcx
  have hline : P9 l p=(l.getD p.at' tk0).line:=by rw[P9,if_pos (by omega)]
  refine A6 ?_;refine A5 J J J (B1 J gU J J) ?_;refine A5 J J J (B2 J gU J J J J) ?_;refine A5 J J J (B1 J gU J J) ?_;refine A5 J J J (B2 J gU J J J J) ?_;refine A5 J J J (C2 (j:=p.at') J J gU gU J J (by first|omega|(simp at hh ⊢; omega)) (fun hh=>Tk.rows_at (by first|omega|(simp at hh ⊢; omega)))) ?_;refine A5 J J J (F1 J gU J J) ?_;refine A5 J J J (E3 J gU J J J) ?_;refine A5 J J J (A9 J gU) ?_;refine B0 ?_;refine B5 (s:=⟨[(2,_,_),(3,_,_),(4,_,_),(5,_,_),(6,_,_)],[(.l 2,_),(.l 3,_),(.l 4,_),(.l 5,_),(.o 0,_)],[(.b (.l 2) 1,_),(.b (.l 2) 2,_),(.b (.l 2) 3,_),(.b (.l 2) 4,_),(.b (.l 2) 5,_)],[]⟩) (B4 (⟨U J,U J,U J,U J,U J,O⟩) (⟨U J,U J,U J,U J,U J,O⟩) (⟨rfl,rfl,rfl,rfl,rfl,O⟩)) ?_;refine A8 (A6 ?_);refine A5 J J J (B8 J gU J J J J J) ?_;refine E8 (xs:=[_,_,_,_,_,_]) J J J J J J J J J gU J ?_;refine C8 J J J J J J gU gU (up hns) J ?_;refine A5 J J J (A7 J gU) ?_;refine A5 J J J (C6 J gU J) ?_;refine A5 J J J (C6 J gU J) ?_
  refine A5 J J J (A9 J gU) ?_;refine C3 J (C7 J J J J J J J) ?_;refine B0 ?_;refine B5 (s:=⟨[(2,_,_),(3,_,_),(4,_,_),(5,_,_),(6,_,_),(7,_,_)],[(.l 2,_),(.l 3,_),(.l 4,_),(.l 5,_),(.o 0,_)],[(.b (.l 2) 1,_),(.b (.l 2) 2,_),(.b (.l 2) 3,_),(.b (.l 2) 4,_),(.b (.l 2) 5,_)],[]⟩) (B4 (⟨U J,U J,U J,U J,U J,U J,O⟩) (⟨U J,U J,U J,U J,U J,O⟩) (⟨rfl,rfl,rfl,rfl,rfl,O⟩)) ?_;refine A8 (A6 ?_);refine C3 J (H4 (.inr J) J J) ?_;refine B0 ?_;refine A8 ?_;refine A8 (A6 ?_);refine A5 J J J (A7 J gU) ?_;refine B0 ?_;refine C4 ?_;refine A8 (A6 ?_);refine A5 J J J (B7 J J gU gU J) ?_;refine A5 J J J (A9 J gU) ?_;refine B0 ?_;refine B9 J (fun hcu1=>?_) (fun hcu1=>?_)
  ·try simp only [nn,B3,T.rows_len,Tk.rows_len] at hcu1
   subst hcu1
   rw[O2 hk hline (Nv l n (l.getD p.at' tk0).line q)]
   refine A8 (A6 ?_);refine A5 J J J (B8 J gU J J J J J) ?_;refine C8 J J J J J J gU gU (up (S5 l q (by omega) hq1)) J ?_;refine A5 J J J (A7 J gU) ?_;refine A5 J J J (C6 J gU J) ?_;refine A5 J J J (C6 J gU J) ?_;refine A5 J J J (A9 J gU) ?_;refine C3 J (C7 J J J J J J J) ?_;refine B0 ?_;refine B5 (s:=⟨[(2,_,_),(3,_,_),(4,_,_),(5,_,_),(8,_,_)],[(.l 2,_),(.l 3,_),(.l 4,_),(.l 5,_),(.o 0,_)],[(.b (.l 2) 1,_),(.b (.l 2) 2,_),(.b (.l 2) 3,_),(.b (.l 2) 4,_),(.b (.l 2) 5,_)],[]⟩) (B4 (⟨U J,U J,U J,U J,U J,O⟩) (⟨U J,U J,U J,U J,U J,O⟩) (⟨rfl,rfl,rfl,rfl,rfl,O⟩)) ?_;refine A6 ?_;refine A5 J J J (B1 J gU J J) ?_;refine C3 J (I5 J J J J J J J) ?_;refine A5 J J J (A7 J gU) ?_;refine C3 J (F7 J J J J J J J (by first|omega|(simp only [List.length_append,List.length_singleton,B3]; omega)) (by first|omega|(simp only [List.length_append,List.length_singleton,B3]; omega))) ?_;refine A5 J J J (B1 J gU J J) ?_;refine C3 J (H8 J J J J J J J) ?_
   refine B0 ?_;refine B5 (s:=⟨[(2,_,_),(3,_,_),(4,_,_),(5,_,_)],[(.l 2,_),(.l 3,_),(.l 4,_),(.l 5,_),(.o 0,_)],[(.b (.l 2) 1,_),(.b (.l 2) 2,_),(.b (.l 2) 3,_),(.b (.l 2) 4,_),(.b (.l 2) 5,_)],[]⟩) (B4 (⟨U J,U J,U J,U J,O⟩) (⟨U J,U J,U J,U J,U J,O⟩) (⟨rfl,rfl,rfl,rfl,rfl,O⟩)) ?_;refine B5 (s:=⟨[(2,_,_),(3,_,_),(4,_,_),(5,_,_)],[(.l 2,_),(.l 3,_),(.l 4,_),(.l 5,_),(.o 0,_)],[(.b (.l 2) 1,_),(.b (.l 2) 2,_),(.b (.l 2) 3,_),(.b (.l 2) 4,_),(.b (.l 2) 5,_)],[]⟩) (B4 (⟨U J,U J,U J,U J,O⟩) (⟨U J,U J,U J,U J,U J,O⟩) (⟨rfl,rfl,rfl,rfl,rfl,O⟩)) ?_;refine H7 (.l 2) J (fun w1 w2 w3 w4 w5=>?_);refine B5 (s:=⟨[(2,_,_),(3,_,_),(4,_,_),(5,_,_)],[(.l 2,_),(.l 3,_),(.l 4,_),(.l 5,_),(.o 0,_)],[(.b (.l 2) 1,_),(.b (.l 2) 2,_),(.b (.l 2) 3,_),(.b (.l 2) 4,_),(.b (.l 2) 5,_)],[]⟩) (B4 (⟨U J,U J,U J,U J,O⟩) (⟨U J,U J,U J,U J,U J,O⟩) (⟨rfl,rfl,rfl,rfl,rfl,O⟩)) ?_;refine A8 ?_;refine awp_drawn' (by kernel_rfl) ?_;refine D7 J J J J J J J gU J J J J J ?_;refine D7 J J J J J J J gU J J J J J ?_
   refine E7 J J J J J J J gU gU (up (F6 l _ _ (by omega) (le3 hl (by first|assumption|(dsimp only; first|assumption|exact hq4 _|exact hq5 _))))) J ?_;refine F0 J J J J J J J J J J J J ?_;refine F0 J J J J J J J J J J J J ?_;refine F9 (by kernel_rfl) ?_;refine B5 (s:=⟨[(2,_,_),(4,_,_),(5,_,_)],[(.l 2,_),(.l 4,_),(.l 5,_),(.o 0,_)],[(.b (.l 2) 1,_),(.b (.l 2) 2,_),(.b (.l 2) 3,_),(.b (.l 2) 4,_),(.b (.l 2) 5,_)],[]⟩) (B4 (⟨U J,U J,U J,O⟩) (⟨U J,U J,U J,U J,O⟩) (⟨(ak J (ak J (ak J (ak J (ak J (rfl)))))),(ak J (ak J (ak J (ak J (ak J (rfl)))))),(ak J (ak J (ak J (ak J (ak J (rfl)))))),(ak J (ak J (ak J (ak J (ak J (rfl)))))),(ak J (ak J (ak J (ak J (ak J (rfl)))))),O⟩)) ?_;refine I3 (.l 4) (.l 2) J J J J J ?_;refine B5 (s:=⟨[(2,_,_),(4,_,_),(5,_,_)],[(.l 2,_),(.l 4,_),(.l 5,_),(.o 0,_)],[(.b (.l 4) 1,_),(.b (.l 4) 2,_),(.b (.l 4) 3,_),(.b (.l 4) 4,_),(.b (.l 4) 5,_)],[]⟩) (B4 (⟨U J,U J,U J,O⟩) (⟨U J,U J,U J,U J,O⟩) (⟨rfl,rfl,rfl,rfl,rfl,O⟩)) ?_;refine C1 ?_
   repeat(first|refine tR ?_|refine bR ?_)
   refine J3 J ?_ ⟨⟨_,rfl,rfl⟩,O⟩ (by simp) J J J J J J;exact congrArg (fun z=>X.tup [.agg (narC n.name z (Fs.rows n.fresh) (strR n.tags) (Sp.rows n.steps) (Gl.rows n.goals)), .agg (pbx l (E9 l [59] (J7 l q).2))]) (Bi _ _).symm
  ·try simp only [nn,B3,T.rows_len,Tk.rows_len] at hcu1
   refine A8 (A6 ?_);refine A5 J J J (B7 J J gU gU J) ?_;refine A5 J J J (A9 J gU) ?_;refine B0 ?_;refine B5 (s:=⟨[(2,_,_),(3,_,_),(4,_,_),(5,_,_),(6,_,_),(28,_,_),(41,_,_)],[(.l 2,_),(.l 3,_),(.l 4,_),(.l 5,_),(.o 0,_)],[(.b (.l 2) 1,_),(.b (.l 2) 2,_),(.b (.l 2) 3,_),(.b (.l 2) 4,_),(.b (.l 2) 5,_)],[]⟩) (B4 (⟨U J,U J,U J,U J,U J,U J,U J,O⟩) (⟨U J,U J,U J,U J,U J,O⟩) (⟨rfl,rfl,rfl,rfl,rfl,O⟩)) ?_;refine B9 J (fun hcu2=>?_) (fun hcu2=>?_)
   ·try simp only [nn,B3,T.rows_len,Tk.rows_len] at hcu2
    subst hcu2
    rw[O2 hk hline (Oa l n (l.getD p.at' tk0).line q)]
    refine B5 (s:=⟨[(2,_,_),(3,_,_),(4,_,_),(5,_,_)],[(.l 2,_),(.l 3,_),(.l 4,_),(.l 5,_),(.o 0,_)],[(.b (.l 2) 1,_),(.b (.l 2) 2,_),(.b (.l 2) 3,_),(.b (.l 2) 4,_),(.b (.l 2) 5,_)],[]⟩) (B4 (⟨U J,U J,U J,U J,O⟩) (⟨U J,U J,U J,U J,U J,O⟩) (⟨rfl,rfl,rfl,rfl,rfl,O⟩)) ?_;refine H7 (.l 2) J (fun w1 w2 w3 w4 w5=>?_);refine B5 (s:=⟨[(2,_,_),(3,_,_),(4,_,_),(5,_,_)],[(.l 2,_),(.l 3,_),(.l 4,_),(.l 5,_),(.o 0,_)],[(.b (.l 2) 1,_),(.b (.l 2) 2,_),(.b (.l 2) 3,_),(.b (.l 2) 4,_),(.b (.l 2) 5,_)],[]⟩) (B4 (⟨U J,U J,U J,U J,O⟩) (⟨U J,U J,U J,U J,U J,O⟩) (⟨rfl,rfl,rfl,rfl,rfl,O⟩)) ?_;refine A6 ?_;refine A5 J J J (B8 J gU J J J J J) ?_;refine A5 J J J (B8 J gU J J J J J) ?_;refine W7 (.l 2) (.l 3) osR J J J J J J ⟨rfl,rfl,rfl,rfl,rfl,rfl⟩ ⟨rfl,rfl,rfl,rfl,rfl,rfl⟩ J J J J J J J J J ⟨rfl,rfl⟩ J (Bj l q n w1 w2 w3 w4 w5 hl hq1 (by omega)) J J J J J J J J ?_;refine B0 ?_;refine B5 (s:=⟨[(2,_,_),(3,_,_),(4,_,_),(5,_,_)],[(.l 2,_),(.l 3,_),(.l 4,_),(.l 5,_),(.o 0,_)],[(.b (.l 2) 1,_),(.b (.l 2) 2,_),(.b (.l 2) 3,_),(.b (.l 2) 4,_),(.b (.l 2) 5,_)],[]⟩) (B4 (⟨U J,U J,U J,U J,O⟩) (⟨U J,U J,U J,U J,U J,O⟩) (⟨rfl,rfl,rfl,rfl,rfl,O⟩)) ?_
    refine B5 (s:=⟨[(2,_,_),(3,_,_),(4,_,_),(5,_,_)],[(.l 2,_),(.l 3,_),(.l 4,_),(.l 5,_),(.o 0,_)],[(.b (.l 2) 1,_),(.b (.l 2) 2,_),(.b (.l 2) 3,_),(.b (.l 2) 4,_),(.b (.l 2) 5,_)],[]⟩) (B4 (⟨U J,U J,U J,U J,O⟩) (⟨U J,U J,U J,U J,U J,O⟩) (⟨rfl,rfl,rfl,rfl,rfl,O⟩)) ?_;refine H7 (.l 2) J (fun w1 w2 w3 w4 w5=>?_);refine B5 (s:=⟨[(2,_,_),(3,_,_),(4,_,_),(5,_,_)],[(.l 2,_),(.l 3,_),(.l 4,_),(.l 5,_),(.o 0,_)],[(.b (.l 2) 1,_),(.b (.l 2) 2,_),(.b (.l 2) 3,_),(.b (.l 2) 4,_),(.b (.l 2) 5,_)],[]⟩) (B4 (⟨U J,U J,U J,U J,O⟩) (⟨U J,U J,U J,U J,U J,O⟩) (⟨rfl,rfl,rfl,rfl,rfl,O⟩)) ?_;refine A8 ?_;refine awp_drawn' (by kernel_rfl) ?_;refine D7 J J J J J J J gU J J J J J ?_;refine D7 J J J J J J J gU J J J J J ?_;refine E7 J J J J J J J gU gU (up (F6 l _ _ (by omega) (le3 hl (by first|assumption|(dsimp only; first|assumption|exact hq4 _|exact hq5 _))))) J ?_;refine F0 J J J J J J J J J J J J ?_;refine F0 J J J J J J J J J J J J ?_;refine F9 (by kernel_rfl) ?_;refine B5 (s:=⟨[(2,_,_),(4,_,_),(5,_,_)],[(.l 2,_),(.l 4,_),(.l 5,_),(.o 0,_)],[(.b (.l 2) 1,_),(.b (.l 2) 2,_),(.b (.l 2) 3,_),(.b (.l 2) 4,_),(.b (.l 2) 5,_)],[]⟩) (B4 (⟨U J,U J,U J,O⟩) (⟨U J,U J,U J,U J,O⟩) (⟨(ak J (ak J (ak J (ak J (ak J (rfl)))))),(ak J (ak J (ak J (ak J (ak J (rfl)))))),(ak J (ak J (ak J (ak J (ak J (rfl)))))),(ak J (ak J (ak J (ak J (ak J (rfl)))))),(ak J (ak J (ak J (ak J (ak J (rfl)))))),O⟩)) ?_
    refine I3 (.l 4) (.l 2) J J J J J ?_;refine B5 (s:=⟨[(2,_,_),(4,_,_),(5,_,_)],[(.l 2,_),(.l 4,_),(.l 5,_),(.o 0,_)],[(.b (.l 4) 1,_),(.b (.l 4) 2,_),(.b (.l 4) 3,_),(.b (.l 4) 4,_),(.b (.l 4) 5,_)],[]⟩) (B4 (⟨U J,U J,U J,O⟩) (⟨U J,U J,U J,U J,O⟩) (⟨rfl,rfl,rfl,rfl,rfl,O⟩)) ?_;refine C1 ?_
    repeat(first|refine tR ?_|refine bR ?_)
    refine J3 J ?_ ⟨⟨_,rfl,rfl⟩,O⟩ (by simp) J J J J J J
    rfl
   ·try simp only [nn,B3,T.rows_len,Tk.rows_len] at hcu2
    refine A8 (A6 ?_);refine A5 J J J (B7 J J gU gU J) ?_;refine A5 J J J (A9 J gU) ?_;refine B0 ?_;refine B9 J (fun hcu3=>?_) (fun hcu3=>?_)
    ·try simp only [nn,B3,T.rows_len,Tk.rows_len] at hcu3
     subst hcu3
     rw[O2 hk hline (Qr l n (l.getD p.at' tk0).line q)]
     refine A8 (A6 ?_);refine A5 J J J (B8 J gU J J J J J) ?_;refine C8 J J J J J J gU gU (up (S5 l q (by omega) hq1)) J ?_;refine A5 J J J (A7 J gU) ?_;refine A5 J J J (C6 J gU J) ?_;refine A5 J J J (C6 J gU J) ?_;refine A5 J J J (A9 J gU) ?_;refine C3 J (C7 J J J J J J J) ?_;refine B0 ?_;refine B5 (s:=⟨[(2,_,_),(3,_,_),(4,_,_),(5,_,_),(8,_,_)],[(.l 2,_),(.l 3,_),(.l 4,_),(.l 5,_),(.o 0,_)],[(.b (.l 2) 1,_),(.b (.l 2) 2,_),(.b (.l 2) 3,_),(.b (.l 2) 4,_),(.b (.l 2) 5,_)],[]⟩) (B4 (⟨U J,U J,U J,U J,U J,O⟩) (⟨U J,U J,U J,U J,U J,O⟩) (⟨rfl,rfl,rfl,rfl,rfl,O⟩)) ?_;refine A6 ?_;refine A5 J J J (B1 J gU J J) ?_;refine C3 J (I5 J J J J J J J) ?_;refine A5 J J J (A7 J gU) ?_;refine C3 J (F7 J J J J J J J (by first|omega|(simp only [List.length_append,List.length_singleton,B3]; omega)) (by first|omega|(simp only [List.length_append,List.length_singleton,B3]; omega))) ?_;refine A5 J J J (B1 J gU J J) ?_;refine C3 J (H8 J J J J J J J) ?_
     refine B0 ?_;refine B5 (s:=⟨[(2,_,_),(3,_,_),(4,_,_),(5,_,_)],[(.l 2,_),(.l 3,_),(.l 4,_),(.l 5,_),(.o 0,_)],[(.b (.l 2) 1,_),(.b (.l 2) 2,_),(.b (.l 2) 3,_),(.b (.l 2) 4,_),(.b (.l 2) 5,_)],[]⟩) (B4 (⟨U J,U J,U J,U J,O⟩) (⟨U J,U J,U J,U J,U J,O⟩) (⟨rfl,rfl,rfl,rfl,rfl,O⟩)) ?_;refine B5 (s:=⟨[(2,_,_),(3,_,_),(4,_,_),(5,_,_)],[(.l 2,_),(.l 3,_),(.l 4,_),(.l 5,_),(.o 0,_)],[(.b (.l 2) 1,_),(.b (.l 2) 2,_),(.b (.l 2) 3,_),(.b (.l 2) 4,_),(.b (.l 2) 5,_)],[]⟩) (B4 (⟨U J,U J,U J,U J,O⟩) (⟨U J,U J,U J,U J,U J,O⟩) (⟨rfl,rfl,rfl,rfl,rfl,O⟩)) ?_;refine H7 (.l 2) J (fun w1 w2 w3 w4 w5=>?_);refine B5 (s:=⟨[(2,_,_),(3,_,_),(4,_,_),(5,_,_)],[(.l 2,_),(.l 3,_),(.l 4,_),(.l 5,_),(.o 0,_)],[(.b (.l 2) 1,_),(.b (.l 2) 2,_),(.b (.l 2) 3,_),(.b (.l 2) 4,_),(.b (.l 2) 5,_)],[]⟩) (B4 (⟨U J,U J,U J,U J,O⟩) (⟨U J,U J,U J,U J,U J,O⟩) (⟨rfl,rfl,rfl,rfl,rfl,O⟩)) ?_;refine A8 ?_;refine awp_drawn' (by kernel_rfl) ?_;refine D7 J J J J J J J gU J J J J J ?_;refine D7 J J J J J J J gU J J J J J ?_
     refine E7 J J J J J J J gU gU (up (F6 l _ _ (by omega) (le3 hl (by first|assumption|(dsimp only; first|assumption|exact hq4 _|exact hq5 _))))) J ?_;refine F0 J J J J J J J J J J J J ?_;refine F0 J J J J J J J J J J J J ?_;refine F9 (by kernel_rfl) ?_;refine B5 (s:=⟨[(2,_,_),(4,_,_),(5,_,_)],[(.l 2,_),(.l 4,_),(.l 5,_),(.o 0,_)],[(.b (.l 2) 1,_),(.b (.l 2) 2,_),(.b (.l 2) 3,_),(.b (.l 2) 4,_),(.b (.l 2) 5,_)],[]⟩) (B4 (⟨U J,U J,U J,O⟩) (⟨U J,U J,U J,U J,O⟩) (⟨(ak J (ak J (ak J (ak J (ak J (rfl)))))),(ak J (ak J (ak J (ak J (ak J (rfl)))))),(ak J (ak J (ak J (ak J (ak J (rfl)))))),(ak J (ak J (ak J (ak J (ak J (rfl)))))),(ak J (ak J (ak J (ak J (ak J (rfl)))))),O⟩)) ?_;refine I3 (.l 4) (.l 2) J J J J J ?_;refine B5 (s:=⟨[(2,_,_),(4,_,_),(5,_,_)],[(.l 2,_),(.l 4,_),(.l 5,_),(.o 0,_)],[(.b (.l 4) 1,_),(.b (.l 4) 2,_),(.b (.l 4) 3,_),(.b (.l 4) 4,_),(.b (.l 4) 5,_)],[]⟩) (B4 (⟨U J,U J,U J,O⟩) (⟨U J,U J,U J,U J,O⟩) (⟨rfl,rfl,rfl,rfl,rfl,O⟩)) ?_;refine C1 ?_
     repeat(first|refine tR ?_|refine bR ?_)
     refine J3 J ?_ ⟨⟨_,rfl,rfl⟩,O⟩ (by simp) J J J J J J;exact congrArg (fun z=>X.tup [.agg (narC n.name (strR n.roles) (Fs.rows n.fresh) z (Sp.rows n.steps) (Gl.rows n.goals)), .agg (pbx l (E9 l [59] (J7 l q).2))]) (Bi _ _).symm
    ·try simp only [nn,B3,T.rows_len,Tk.rows_len] at hcu3
     refine A8 (A6 ?_);refine A5 J J J (B7 J J gU gU J) ?_;refine A5 J J J (A9 J gU) ?_;refine B0 ?_;refine B9 J (fun hcu4=>?_) (fun hcu4=>?_)
     ·try simp only [nn,B3,T.rows_len,Tk.rows_len] at hcu4
      subst hcu4
      rw[O2 hk hline (Pr l n (l.getD p.at' tk0).line q)]
      refine B5 (s:=⟨[(2,_,_),(3,_,_),(4,_,_),(5,_,_),(6,_,_)],[(.l 2,_),(.l 3,_),(.l 4,_),(.l 5,_),(.o 0,_)],[(.b (.l 2) 1,_),(.b (.l 2) 2,_),(.b (.l 2) 3,_),(.b (.l 2) 4,_),(.b (.l 2) 5,_)],[]⟩) (B4 (⟨U J,U J,U J,U J,U J,O⟩) (⟨U J,U J,U J,U J,U J,O⟩) (⟨rfl,rfl,rfl,rfl,rfl,O⟩)) ?_;refine H7 (.l 2) J (fun w1 w2 w3 w4 w5=>?_);refine B5 (s:=⟨[(2,_,_),(3,_,_),(4,_,_),(5,_,_),(6,_,_)],[(.l 2,_),(.l 3,_),(.l 4,_),(.l 5,_),(.o 0,_)],[(.b (.l 2) 1,_),(.b (.l 2) 2,_),(.b (.l 2) 3,_),(.b (.l 2) 4,_),(.b (.l 2) 5,_)],[]⟩) (B4 (⟨U J,U J,U J,U J,U J,O⟩) (⟨U J,U J,U J,U J,U J,O⟩) (⟨rfl,rfl,rfl,rfl,rfl,O⟩)) ?_;refine A6 ?_;refine A5 J J J (B8 J gU J J J J J) ?_;refine A5 J J J (B8 J gU J J J J J) ?_;refine A5 J J J (A7 J gU) ?_;refine W7 (.l 2) (.l 3) osR J J J J J J ⟨rfl,rfl,rfl,rfl,rfl,rfl⟩ ⟨rfl,rfl,rfl,rfl,rfl,rfl⟩ J J J J J J J J J ⟨rfl,rfl⟩ J (Cn l q n ((l.getD p.at' tk0).line) w1 w2 w3 w4 w5 hl hq1 (by omega)) J J J J J J J J ?_;refine B0 ?_;refine B5 (s:=⟨[(2,_,_),(3,_,_),(4,_,_),(5,_,_)],[(.l 2,_),(.l 3,_),(.l 4,_),(.l 5,_),(.o 0,_)],[(.b (.l 2) 1,_),(.b (.l 2) 2,_),(.b (.l 2) 3,_),(.b (.l 2) 4,_),(.b (.l 2) 5,_)],[]⟩) (B4 (⟨U J,U J,U J,U J,O⟩) (⟨U J,U J,U J,U J,U J,O⟩) (⟨rfl,rfl,rfl,rfl,rfl,O⟩)) ?_
      refine B5 (s:=⟨[(2,_,_),(3,_,_),(4,_,_),(5,_,_)],[(.l 2,_),(.l 3,_),(.l 4,_),(.l 5,_),(.o 0,_)],[(.b (.l 2) 1,_),(.b (.l 2) 2,_),(.b (.l 2) 3,_),(.b (.l 2) 4,_),(.b (.l 2) 5,_)],[]⟩) (B4 (⟨U J,U J,U J,U J,O⟩) (⟨U J,U J,U J,U J,U J,O⟩) (⟨rfl,rfl,rfl,rfl,rfl,O⟩)) ?_;refine H7 (.l 2) J (fun w1 w2 w3 w4 w5=>?_);refine B5 (s:=⟨[(2,_,_),(3,_,_),(4,_,_),(5,_,_)],[(.l 2,_),(.l 3,_),(.l 4,_),(.l 5,_),(.o 0,_)],[(.b (.l 2) 1,_),(.b (.l 2) 2,_),(.b (.l 2) 3,_),(.b (.l 2) 4,_),(.b (.l 2) 5,_)],[]⟩) (B4 (⟨U J,U J,U J,U J,O⟩) (⟨U J,U J,U J,U J,U J,O⟩) (⟨rfl,rfl,rfl,rfl,rfl,O⟩)) ?_;refine A8 ?_;refine awp_drawn' (by kernel_rfl) ?_;refine D7 J J J J J J J gU J J J J J ?_;refine D7 J J J J J J J gU J J J J J ?_;refine E7 J J J J J J J gU gU (up (F6 l _ _ (by omega) (le3 hl (by first|assumption|(dsimp only; first|assumption|exact hq4 _|exact hq5 _))))) J ?_;refine F0 J J J J J J J J J J J J ?_;refine F0 J J J J J J J J J J J J ?_;refine F9 (by kernel_rfl) ?_;refine B5 (s:=⟨[(2,_,_),(4,_,_),(5,_,_)],[(.l 2,_),(.l 4,_),(.l 5,_),(.o 0,_)],[(.b (.l 2) 1,_),(.b (.l 2) 2,_),(.b (.l 2) 3,_),(.b (.l 2) 4,_),(.b (.l 2) 5,_)],[]⟩) (B4 (⟨U J,U J,U J,O⟩) (⟨U J,U J,U J,U J,O⟩) (⟨(ak J (ak J (ak J (ak J (ak J (rfl)))))),(ak J (ak J (ak J (ak J (ak J (rfl)))))),(ak J (ak J (ak J (ak J (ak J (rfl)))))),(ak J (ak J (ak J (ak J (ak J (rfl)))))),(ak J (ak J (ak J (ak J (ak J (rfl)))))),O⟩)) ?_
      refine I3 (.l 4) (.l 2) J J J J J ?_;refine B5 (s:=⟨[(2,_,_),(4,_,_),(5,_,_)],[(.l 2,_),(.l 4,_),(.l 5,_),(.o 0,_)],[(.b (.l 4) 1,_),(.b (.l 4) 2,_),(.b (.l 4) 3,_),(.b (.l 4) 4,_),(.b (.l 4) 5,_)],[]⟩) (B4 (⟨U J,U J,U J,O⟩) (⟨U J,U J,U J,U J,O⟩) (⟨rfl,rfl,rfl,rfl,rfl,O⟩)) ?_;refine C1 ?_
      repeat(first|refine tR ?_|refine bR ?_)
      refine J3 J ?_ ⟨⟨_,rfl,rfl⟩,O⟩ (by simp) J J J J J J
      rfl
     ·try simp only [nn,B3,T.rows_len,Tk.rows_len] at hcu4
      refine A8 (A6 ?_);refine A5 J J J (B7 J J gU gU J) ?_;refine A5 J J J (A9 J gU) ?_;refine B0 ?_;refine B5 (s:=⟨[(2,_,_),(3,_,_),(4,_,_),(5,_,_),(6,_,_),(70,_,_)],[(.l 2,_),(.l 3,_),(.l 4,_),(.l 5,_),(.o 0,_)],[(.b (.l 2) 1,_),(.b (.l 2) 2,_),(.b (.l 2) 3,_),(.b (.l 2) 4,_),(.b (.l 2) 5,_)],[]⟩) (B4 (⟨U J,U J,U J,U J,U J,U J,O⟩) (⟨U J,U J,U J,U J,U J,O⟩) (⟨rfl,rfl,rfl,rfl,rfl,O⟩)) ?_;refine B9 J (fun hcu5=>?_) (fun hcu5=>?_)
      ·try simp only [nn,B3,T.rows_len,Tk.rows_len] at hcu5
       subst hcu5
       rw[O2 hk hline (Rj l n (l.getD p.at' tk0).line q)]
       refine B5 (s:=⟨[(2,_,_),(3,_,_),(4,_,_),(5,_,_),(6,_,_)],[(.l 2,_),(.l 3,_),(.l 4,_),(.l 5,_),(.o 0,_)],[(.b (.l 2) 1,_),(.b (.l 2) 2,_),(.b (.l 2) 3,_),(.b (.l 2) 4,_),(.b (.l 2) 5,_)],[]⟩) (B4 (⟨U J,U J,U J,U J,U J,O⟩) (⟨U J,U J,U J,U J,U J,O⟩) (⟨rfl,rfl,rfl,rfl,rfl,O⟩)) ?_;refine H7 (.l 2) J (fun w1 w2 w3 w4 w5=>?_);refine B5 (s:=⟨[(2,_,_),(3,_,_),(4,_,_),(5,_,_),(6,_,_)],[(.l 2,_),(.l 3,_),(.l 4,_),(.l 5,_),(.o 0,_)],[(.b (.l 2) 1,_),(.b (.l 2) 2,_),(.b (.l 2) 3,_),(.b (.l 2) 4,_),(.b (.l 2) 5,_)],[]⟩) (B4 (⟨U J,U J,U J,U J,U J,O⟩) (⟨U J,U J,U J,U J,U J,O⟩) (⟨rfl,rfl,rfl,rfl,rfl,O⟩)) ?_;refine A6 ?_;refine A5 J J J (B8 J gU J J J J J) ?_;refine A5 J J J (B8 J gU J J J J J) ?_;refine A5 J J J (A7 J gU) ?_;refine W7 (.l 2) (.l 3) osR J J J J J J ⟨rfl,rfl,rfl,rfl,rfl,rfl⟩ ⟨rfl,rfl,rfl,rfl,rfl,rfl⟩ J J J J J J J J J ⟨rfl,rfl⟩ J (Cr l q n ((l.getD p.at' tk0).line) w1 w2 w3 w4 w5 hl hq1 (by omega)) J J J J J J J J ?_;refine B0 ?_;refine B5 (s:=⟨[(2,_,_),(3,_,_),(4,_,_),(5,_,_)],[(.l 2,_),(.l 3,_),(.l 4,_),(.l 5,_),(.o 0,_)],[(.b (.l 2) 1,_),(.b (.l 2) 2,_),(.b (.l 2) 3,_),(.b (.l 2) 4,_),(.b (.l 2) 5,_)],[]⟩) (B4 (⟨U J,U J,U J,U J,O⟩) (⟨U J,U J,U J,U J,U J,O⟩) (⟨rfl,rfl,rfl,rfl,rfl,O⟩)) ?_
       refine B5 (s:=⟨[(2,_,_),(3,_,_),(4,_,_),(5,_,_)],[(.l 2,_),(.l 3,_),(.l 4,_),(.l 5,_),(.o 0,_)],[(.b (.l 2) 1,_),(.b (.l 2) 2,_),(.b (.l 2) 3,_),(.b (.l 2) 4,_),(.b (.l 2) 5,_)],[]⟩) (B4 (⟨U J,U J,U J,U J,O⟩) (⟨U J,U J,U J,U J,U J,O⟩) (⟨rfl,rfl,rfl,rfl,rfl,O⟩)) ?_;refine H7 (.l 2) J (fun w1 w2 w3 w4 w5=>?_);refine B5 (s:=⟨[(2,_,_),(3,_,_),(4,_,_),(5,_,_)],[(.l 2,_),(.l 3,_),(.l 4,_),(.l 5,_),(.o 0,_)],[(.b (.l 2) 1,_),(.b (.l 2) 2,_),(.b (.l 2) 3,_),(.b (.l 2) 4,_),(.b (.l 2) 5,_)],[]⟩) (B4 (⟨U J,U J,U J,U J,O⟩) (⟨U J,U J,U J,U J,U J,O⟩) (⟨rfl,rfl,rfl,rfl,rfl,O⟩)) ?_;refine A8 ?_;refine awp_drawn' (by kernel_rfl) ?_;refine D7 J J J J J J J gU J J J J J ?_;refine D7 J J J J J J J gU J J J J J ?_;refine E7 J J J J J J J gU gU (up (F6 l _ _ (by omega) (le3 hl (by first|assumption|(dsimp only; first|assumption|exact hq4 _|exact hq5 _))))) J ?_;refine F0 J J J J J J J J J J J J ?_;refine F0 J J J J J J J J J J J J ?_;refine F9 (by kernel_rfl) ?_;refine B5 (s:=⟨[(2,_,_),(4,_,_),(5,_,_)],[(.l 2,_),(.l 4,_),(.l 5,_),(.o 0,_)],[(.b (.l 2) 1,_),(.b (.l 2) 2,_),(.b (.l 2) 3,_),(.b (.l 2) 4,_),(.b (.l 2) 5,_)],[]⟩) (B4 (⟨U J,U J,U J,O⟩) (⟨U J,U J,U J,U J,O⟩) (⟨(ak J (ak J (ak J (ak J (ak J (rfl)))))),(ak J (ak J (ak J (ak J (ak J (rfl)))))),(ak J (ak J (ak J (ak J (ak J (rfl)))))),(ak J (ak J (ak J (ak J (ak J (rfl)))))),(ak J (ak J (ak J (ak J (ak J (rfl)))))),O⟩)) ?_
       refine I3 (.l 4) (.l 2) J J J J J ?_;refine B5 (s:=⟨[(2,_,_),(4,_,_),(5,_,_)],[(.l 2,_),(.l 4,_),(.l 5,_),(.o 0,_)],[(.b (.l 4) 1,_),(.b (.l 4) 2,_),(.b (.l 4) 3,_),(.b (.l 4) 4,_),(.b (.l 4) 5,_)],[]⟩) (B4 (⟨U J,U J,U J,O⟩) (⟨U J,U J,U J,U J,O⟩) (⟨rfl,rfl,rfl,rfl,rfl,O⟩)) ?_;refine C1 ?_
       repeat(first|refine tR ?_|refine bR ?_)
       refine J3 J ?_ ⟨⟨_,rfl,rfl⟩,O⟩ (by simp) J J J J J J
       rfl
      ·try simp only [nn,B3,T.rows_len,Tk.rows_len] at hcu5
       rw[O2 hk hline (Qi l n (l.getD p.at' tk0).line q hcu1 hcu2 hcu3 hcu4 hcu5)]
       refine C0 ?_;refine B5 (s:=⟨[(2,_,_),(3,_,_),(4,_,_),(5,_,_)],[(.l 2,_),(.l 3,_),(.l 4,_),(.l 5,_),(.o 0,_)],[(.b (.l 2) 1,_),(.b (.l 2) 2,_),(.b (.l 2) 3,_),(.b (.l 2) 4,_),(.b (.l 2) 5,_)],[]⟩) (B4 (⟨U J,U J,U J,U J,O⟩) (⟨U J,U J,U J,U J,U J,O⟩) (⟨rfl,rfl,rfl,rfl,rfl,O⟩)) ?_;refine H7 (.l 2) J (fun w1 w2 w3 w4 w5=>?_);refine B5 (s:=⟨[(2,_,_),(3,_,_),(4,_,_),(5,_,_)],[(.l 2,_),(.l 3,_),(.l 4,_),(.l 5,_),(.o 0,_)],[(.b (.l 2) 1,_),(.b (.l 2) 2,_),(.b (.l 2) 3,_),(.b (.l 2) 4,_),(.b (.l 2) 5,_)],[]⟩) (B4 (⟨U J,U J,U J,U J,O⟩) (⟨U J,U J,U J,U J,U J,O⟩) (⟨rfl,rfl,rfl,rfl,rfl,O⟩)) ?_;refine A8 ?_;refine awp_drawn' (by kernel_rfl) ?_;refine D7 J J J J J J J gU J J J J J ?_;refine D7 J J J J J J J gU J J J J J ?_;refine E7 J J J J J J J gU gU (up (F6 l _ _ (by omega) (le3 hl (by first|assumption|(dsimp only; first|assumption|exact hq4 _|exact hq5 _))))) J ?_;refine F0 J J J J J J J J J J J J ?_;refine F0 J J J J J J J J J J J J ?_;refine F9 (by kernel_rfl) ?_;refine B5 (s:=⟨[(2,_,_),(4,_,_),(5,_,_)],[(.l 2,_),(.l 4,_),(.l 5,_),(.o 0,_)],[(.b (.l 2) 1,_),(.b (.l 2) 2,_),(.b (.l 2) 3,_),(.b (.l 2) 4,_),(.b (.l 2) 5,_)],[]⟩) (B4 (⟨U J,U J,U J,O⟩) (⟨U J,U J,U J,U J,O⟩) (⟨(ak J (ak J (ak J (ak J (ak J (rfl)))))),(ak J (ak J (ak J (ak J (ak J (rfl)))))),(ak J (ak J (ak J (ak J (ak J (rfl)))))),(ak J (ak J (ak J (ak J (ak J (rfl)))))),(ak J (ak J (ak J (ak J (ak J (rfl)))))),O⟩)) ?_
       refine I3 (.l 4) (.l 2) J J J J J ?_;refine B5 (s:=⟨[(2,_,_),(4,_,_),(5,_,_)],[(.l 2,_),(.l 4,_),(.l 5,_),(.o 0,_)],[(.b (.l 4) 1,_),(.b (.l 4) 2,_),(.b (.l 4) 3,_),(.b (.l 4) 4,_),(.b (.l 4) 5,_)],[]⟩) (B4 (⟨U J,U J,U J,O⟩) (⟨U J,U J,U J,U J,O⟩) (⟨rfl,rfl,rfl,rfl,rfl,O⟩)) ?_;refine C1 ?_
       repeat(first|refine tR ?_|refine bR ?_)
       refine J3 J ?_ ⟨⟨_,rfl,rfl⟩,O⟩ (by simp) J J J J J J
       rfl
 ·try simp only [nn,B3,T.rows_len,Tk.rows_len] at hcx
  have hline : P9 l p=0:=by rw[P9,if_neg (by omega)]
  refine C0 ?_;refine A8 (A6 ?_);refine A5 J J J (B8 J gU J J J J J) ?_;refine E8 (xs:=[_,_,_,_,_,_]) J J J J J J J J J gU J ?_;refine C8 J J J J J J gU gU (up hns) J ?_;refine A5 J J J (A7 J gU) ?_;refine A5 J J J (C6 J gU J) ?_;refine A5 J J J (C6 J gU J) ?_;refine A5 J J J (A9 J gU) ?_;refine C3 J (C7 J J J J J J J) ?_;refine B0 ?_;refine B5 (s:=⟨[(2,_,_),(3,_,_),(4,_,_),(5,_,_),(6,_,_),(7,_,_)],[(.l 2,_),(.l 3,_),(.l 4,_),(.l 5,_),(.o 0,_)],[(.b (.l 2) 1,_),(.b (.l 2) 2,_),(.b (.l 2) 3,_),(.b (.l 2) 4,_),(.b (.l 2) 5,_)],[]⟩) (B4 (⟨U J,U J,U J,U J,U J,U J,O⟩) (⟨U J,U J,U J,U J,U J,O⟩) (⟨rfl,rfl,rfl,rfl,rfl,O⟩)) ?_;refine A8 (A6 ?_);refine C3 J (H4 (.inr J) J J) ?_;refine B0 ?_;refine A8 ?_;refine A8 (A6 ?_);refine A5 J J J (A7 J gU) ?_;refine B0 ?_;refine C4 ?_;refine A8 (A6 ?_);refine A5 J J J (B7 J J gU gU J) ?_;refine A5 J J J (A9 J gU) ?_;refine B0 ?_;refine B9 J (fun hcv1=>?_) (fun hcv1=>?_)
  ·try simp only [nn,B3,T.rows_len,Tk.rows_len] at hcv1
   subst hcv1
   rw[O2 hk hline (Nv l n 0 q)]
   refine A8 (A6 ?_);refine A5 J J J (B8 J gU J J J J J) ?_;refine C8 J J J J J J gU gU (up (S5 l q (by omega) hq1)) J ?_;refine A5 J J J (A7 J gU) ?_;refine A5 J J J (C6 J gU J) ?_;refine A5 J J J (C6 J gU J) ?_;refine A5 J J J (A9 J gU) ?_;refine C3 J (C7 J J J J J J J) ?_;refine B0 ?_;refine B5 (s:=⟨[(2,_,_),(3,_,_),(4,_,_),(5,_,_),(8,_,_)],[(.l 2,_),(.l 3,_),(.l 4,_),(.l 5,_),(.o 0,_)],[(.b (.l 2) 1,_),(.b (.l 2) 2,_),(.b (.l 2) 3,_),(.b (.l 2) 4,_),(.b (.l 2) 5,_)],[]⟩) (B4 (⟨U J,U J,U J,U J,U J,O⟩) (⟨U J,U J,U J,U J,U J,O⟩) (⟨rfl,rfl,rfl,rfl,rfl,O⟩)) ?_;refine A6 ?_;refine A5 J J J (B1 J gU J J) ?_;refine C3 J (I5 J J J J J J J) ?_;refine A5 J J J (A7 J gU) ?_;refine C3 J (F7 J J J J J J J (by first|omega|(simp only [List.length_append,List.length_singleton,B3]; omega)) (by first|omega|(simp only [List.length_append,List.length_singleton,B3]; omega))) ?_;refine A5 J J J (B1 J gU J J) ?_;refine C3 J (H8 J J J J J J J) ?_
   refine B0 ?_;refine B5 (s:=⟨[(2,_,_),(3,_,_),(4,_,_),(5,_,_)],[(.l 2,_),(.l 3,_),(.l 4,_),(.l 5,_),(.o 0,_)],[(.b (.l 2) 1,_),(.b (.l 2) 2,_),(.b (.l 2) 3,_),(.b (.l 2) 4,_),(.b (.l 2) 5,_)],[]⟩) (B4 (⟨U J,U J,U J,U J,O⟩) (⟨U J,U J,U J,U J,U J,O⟩) (⟨rfl,rfl,rfl,rfl,rfl,O⟩)) ?_;refine B5 (s:=⟨[(2,_,_),(3,_,_),(4,_,_),(5,_,_)],[(.l 2,_),(.l 3,_),(.l 4,_),(.l 5,_),(.o 0,_)],[(.b (.l 2) 1,_),(.b (.l 2) 2,_),(.b (.l 2) 3,_),(.b (.l 2) 4,_),(.b (.l 2) 5,_)],[]⟩) (B4 (⟨U J,U J,U J,U J,O⟩) (⟨U J,U J,U J,U J,U J,O⟩) (⟨rfl,rfl,rfl,rfl,rfl,O⟩)) ?_;refine H7 (.l 2) J (fun w1 w2 w3 w4 w5=>?_);refine B5 (s:=⟨[(2,_,_),(3,_,_),(4,_,_),(5,_,_)],[(.l 2,_),(.l 3,_),(.l 4,_),(.l 5,_),(.o 0,_)],[(.b (.l 2) 1,_),(.b (.l 2) 2,_),(.b (.l 2) 3,_),(.b (.l 2) 4,_),(.b (.l 2) 5,_)],[]⟩) (B4 (⟨U J,U J,U J,U J,O⟩) (⟨U J,U J,U J,U J,U J,O⟩) (⟨rfl,rfl,rfl,rfl,rfl,O⟩)) ?_;refine A8 ?_;refine awp_drawn' (by kernel_rfl) ?_;refine D7 J J J J J J J gU J J J J J ?_;refine D7 J J J J J J J gU J J J J J ?_
   refine E7 J J J J J J J gU gU (up (F6 l _ _ (by omega) (le3 hl (by first|assumption|(dsimp only; first|assumption|exact hq4 _|exact hq5 _))))) J ?_;refine F0 J J J J J J J J J J J J ?_;refine F0 J J J J J J J J J J J J ?_;refine F9 (by kernel_rfl) ?_;refine B5 (s:=⟨[(2,_,_),(4,_,_),(5,_,_)],[(.l 2,_),(.l 4,_),(.l 5,_),(.o 0,_)],[(.b (.l 2) 1,_),(.b (.l 2) 2,_),(.b (.l 2) 3,_),(.b (.l 2) 4,_),(.b (.l 2) 5,_)],[]⟩) (B4 (⟨U J,U J,U J,O⟩) (⟨U J,U J,U J,U J,O⟩) (⟨(ak J (ak J (ak J (ak J (ak J (rfl)))))),(ak J (ak J (ak J (ak J (ak J (rfl)))))),(ak J (ak J (ak J (ak J (ak J (rfl)))))),(ak J (ak J (ak J (ak J (ak J (rfl)))))),(ak J (ak J (ak J (ak J (ak J (rfl)))))),O⟩)) ?_;refine I3 (.l 4) (.l 2) J J J J J ?_;refine B5 (s:=⟨[(2,_,_),(4,_,_),(5,_,_)],[(.l 2,_),(.l 4,_),(.l 5,_),(.o 0,_)],[(.b (.l 4) 1,_),(.b (.l 4) 2,_),(.b (.l 4) 3,_),(.b (.l 4) 4,_),(.b (.l 4) 5,_)],[]⟩) (B4 (⟨U J,U J,U J,O⟩) (⟨U J,U J,U J,U J,O⟩) (⟨rfl,rfl,rfl,rfl,rfl,O⟩)) ?_;refine C1 ?_
   repeat(first|refine tR ?_|refine bR ?_)
   refine J3 J ?_ ⟨⟨_,rfl,rfl⟩,O⟩ (by simp) J J J J J J;exact congrArg (fun z=>X.tup [.agg (narC n.name z (Fs.rows n.fresh) (strR n.tags) (Sp.rows n.steps) (Gl.rows n.goals)), .agg (pbx l (E9 l [59] (J7 l q).2))]) (Bi _ _).symm
  ·try simp only [nn,B3,T.rows_len,Tk.rows_len] at hcv1
   refine A8 (A6 ?_);refine A5 J J J (B7 J J gU gU J) ?_;refine A5 J J J (A9 J gU) ?_;refine B0 ?_;refine B5 (s:=⟨[(2,_,_),(3,_,_),(4,_,_),(5,_,_),(6,_,_),(28,_,_),(41,_,_)],[(.l 2,_),(.l 3,_),(.l 4,_),(.l 5,_),(.o 0,_)],[(.b (.l 2) 1,_),(.b (.l 2) 2,_),(.b (.l 2) 3,_),(.b (.l 2) 4,_),(.b (.l 2) 5,_)],[]⟩) (B4 (⟨U J,U J,U J,U J,U J,U J,U J,O⟩) (⟨U J,U J,U J,U J,U J,O⟩) (⟨rfl,rfl,rfl,rfl,rfl,O⟩)) ?_;refine B9 J (fun hcv2=>?_) (fun hcv2=>?_)
   ·try simp only [nn,B3,T.rows_len,Tk.rows_len] at hcv2
    subst hcv2
    rw[O2 hk hline (Oa l n 0 q)]
    refine B5 (s:=⟨[(2,_,_),(3,_,_),(4,_,_),(5,_,_)],[(.l 2,_),(.l 3,_),(.l 4,_),(.l 5,_),(.o 0,_)],[(.b (.l 2) 1,_),(.b (.l 2) 2,_),(.b (.l 2) 3,_),(.b (.l 2) 4,_),(.b (.l 2) 5,_)],[]⟩) (B4 (⟨U J,U J,U J,U J,O⟩) (⟨U J,U J,U J,U J,U J,O⟩) (⟨rfl,rfl,rfl,rfl,rfl,O⟩)) ?_;refine H7 (.l 2) J (fun w1 w2 w3 w4 w5=>?_);refine B5 (s:=⟨[(2,_,_),(3,_,_),(4,_,_),(5,_,_)],[(.l 2,_),(.l 3,_),(.l 4,_),(.l 5,_),(.o 0,_)],[(.b (.l 2) 1,_),(.b (.l 2) 2,_),(.b (.l 2) 3,_),(.b (.l 2) 4,_),(.b (.l 2) 5,_)],[]⟩) (B4 (⟨U J,U J,U J,U J,O⟩) (⟨U J,U J,U J,U J,U J,O⟩) (⟨rfl,rfl,rfl,rfl,rfl,O⟩)) ?_;refine A6 ?_;refine A5 J J J (B8 J gU J J J J J) ?_;refine A5 J J J (B8 J gU J J J J J) ?_;refine W7 (.l 2) (.l 3) osR J J J J J J ⟨rfl,rfl,rfl,rfl,rfl,rfl⟩ ⟨rfl,rfl,rfl,rfl,rfl,rfl⟩ J J J J J J J J J ⟨rfl,rfl⟩ J (Bj l q n w1 w2 w3 w4 w5 hl hq1 (by omega)) J J J J J J J J ?_;refine B0 ?_;refine B5 (s:=⟨[(2,_,_),(3,_,_),(4,_,_),(5,_,_)],[(.l 2,_),(.l 3,_),(.l 4,_),(.l 5,_),(.o 0,_)],[(.b (.l 2) 1,_),(.b (.l 2) 2,_),(.b (.l 2) 3,_),(.b (.l 2) 4,_),(.b (.l 2) 5,_)],[]⟩) (B4 (⟨U J,U J,U J,U J,O⟩) (⟨U J,U J,U J,U J,U J,O⟩) (⟨rfl,rfl,rfl,rfl,rfl,O⟩)) ?_
    refine B5 (s:=⟨[(2,_,_),(3,_,_),(4,_,_),(5,_,_)],[(.l 2,_),(.l 3,_),(.l 4,_),(.l 5,_),(.o 0,_)],[(.b (.l 2) 1,_),(.b (.l 2) 2,_),(.b (.l 2) 3,_),(.b (.l 2) 4,_),(.b (.l 2) 5,_)],[]⟩) (B4 (⟨U J,U J,U J,U J,O⟩) (⟨U J,U J,U J,U J,U J,O⟩) (⟨rfl,rfl,rfl,rfl,rfl,O⟩)) ?_;refine H7 (.l 2) J (fun w1 w2 w3 w4 w5=>?_);refine B5 (s:=⟨[(2,_,_),(3,_,_),(4,_,_),(5,_,_)],[(.l 2,_),(.l 3,_),(.l 4,_),(.l 5,_),(.o 0,_)],[(.b (.l 2) 1,_),(.b (.l 2) 2,_),(.b (.l 2) 3,_),(.b (.l 2) 4,_),(.b (.l 2) 5,_)],[]⟩) (B4 (⟨U J,U J,U J,U J,O⟩) (⟨U J,U J,U J,U J,U J,O⟩) (⟨rfl,rfl,rfl,rfl,rfl,O⟩)) ?_;refine A8 ?_;refine awp_drawn' (by kernel_rfl) ?_;refine D7 J J J J J J J gU J J J J J ?_;refine D7 J J J J J J J gU J J J J J ?_;refine E7 J J J J J J J gU gU (up (F6 l _ _ (by omega) (le3 hl (by first|assumption|(dsimp only; first|assumption|exact hq4 _|exact hq5 _))))) J ?_;refine F0 J J J J J J J J J J J J ?_;refine F0 J J J J J J J J J J J J ?_;refine F9 (by kernel_rfl) ?_;refine B5 (s:=⟨[(2,_,_),(4,_,_),(5,_,_)],[(.l 2,_),(.l 4,_),(.l 5,_),(.o 0,_)],[(.b (.l 2) 1,_),(.b (.l 2) 2,_),(.b (.l 2) 3,_),(.b (.l 2) 4,_),(.b (.l 2) 5,_)],[]⟩) (B4 (⟨U J,U J,U J,O⟩) (⟨U J,U J,U J,U J,O⟩) (⟨(ak J (ak J (ak J (ak J (ak J (rfl)))))),(ak J (ak J (ak J (ak J (ak J (rfl)))))),(ak J (ak J (ak J (ak J (ak J (rfl)))))),(ak J (ak J (ak J (ak J (ak J (rfl)))))),(ak J (ak J (ak J (ak J (ak J (rfl)))))),O⟩)) ?_
    refine I3 (.l 4) (.l 2) J J J J J ?_;refine B5 (s:=⟨[(2,_,_),(4,_,_),(5,_,_)],[(.l 2,_),(.l 4,_),(.l 5,_),(.o 0,_)],[(.b (.l 4) 1,_),(.b (.l 4) 2,_),(.b (.l 4) 3,_),(.b (.l 4) 4,_),(.b (.l 4) 5,_)],[]⟩) (B4 (⟨U J,U J,U J,O⟩) (⟨U J,U J,U J,U J,O⟩) (⟨rfl,rfl,rfl,rfl,rfl,O⟩)) ?_;refine C1 ?_
    repeat(first|refine tR ?_|refine bR ?_)
    refine J3 J ?_ ⟨⟨_,rfl,rfl⟩,O⟩ (by simp) J J J J J J
    rfl
   ·try simp only [nn,B3,T.rows_len,Tk.rows_len] at hcv2
    refine A8 (A6 ?_);refine A5 J J J (B7 J J gU gU J) ?_;refine A5 J J J (A9 J gU) ?_;refine B0 ?_;refine B9 J (fun hcv3=>?_) (fun hcv3=>?_)
    ·try simp only [nn,B3,T.rows_len,Tk.rows_len] at hcv3
     subst hcv3
     rw[O2 hk hline (Qr l n 0 q)]
     refine A8 (A6 ?_);refine A5 J J J (B8 J gU J J J J J) ?_;refine C8 J J J J J J gU gU (up (S5 l q (by omega) hq1)) J ?_;refine A5 J J J (A7 J gU) ?_;refine A5 J J J (C6 J gU J) ?_;refine A5 J J J (C6 J gU J) ?_;refine A5 J J J (A9 J gU) ?_;refine C3 J (C7 J J J J J J J) ?_;refine B0 ?_;refine B5 (s:=⟨[(2,_,_),(3,_,_),(4,_,_),(5,_,_),(8,_,_)],[(.l 2,_),(.l 3,_),(.l 4,_),(.l 5,_),(.o 0,_)],[(.b (.l 2) 1,_),(.b (.l 2) 2,_),(.b (.l 2) 3,_),(.b (.l 2) 4,_),(.b (.l 2) 5,_)],[]⟩) (B4 (⟨U J,U J,U J,U J,U J,O⟩) (⟨U J,U J,U J,U J,U J,O⟩) (⟨rfl,rfl,rfl,rfl,rfl,O⟩)) ?_;refine A6 ?_;refine A5 J J J (B1 J gU J J) ?_;refine C3 J (I5 J J J J J J J) ?_;refine A5 J J J (A7 J gU) ?_;refine C3 J (F7 J J J J J J J (by first|omega|(simp only [List.length_append,List.length_singleton,B3]; omega)) (by first|omega|(simp only [List.length_append,List.length_singleton,B3]; omega))) ?_;refine A5 J J J (B1 J gU J J) ?_;refine C3 J (H8 J J J J J J J) ?_
     refine B0 ?_;refine B5 (s:=⟨[(2,_,_),(3,_,_),(4,_,_),(5,_,_)],[(.l 2,_),(.l 3,_),(.l 4,_),(.l 5,_),(.o 0,_)],[(.b (.l 2) 1,_),(.b (.l 2) 2,_),(.b (.l 2) 3,_),(.b (.l 2) 4,_),(.b (.l 2) 5,_)],[]⟩) (B4 (⟨U J,U J,U J,U J,O⟩) (⟨U J,U J,U J,U J,U J,O⟩) (⟨rfl,rfl,rfl,rfl,rfl,O⟩)) ?_;refine B5 (s:=⟨[(2,_,_),(3,_,_),(4,_,_),(5,_,_)],[(.l 2,_),(.l 3,_),(.l 4,_),(.l 5,_),(.o 0,_)],[(.b (.l 2) 1,_),(.b (.l 2) 2,_),(.b (.l 2) 3,_),(.b (.l 2) 4,_),(.b (.l 2) 5,_)],[]⟩) (B4 (⟨U J,U J,U J,U J,O⟩) (⟨U J,U J,U J,U J,U J,O⟩) (⟨rfl,rfl,rfl,rfl,rfl,O⟩)) ?_;refine H7 (.l 2) J (fun w1 w2 w3 w4 w5=>?_);refine B5 (s:=⟨[(2,_,_),(3,_,_),(4,_,_),(5,_,_)],[(.l 2,_),(.l 3,_),(.l 4,_),(.l 5,_),(.o 0,_)],[(.b (.l 2) 1,_),(.b (.l 2) 2,_),(.b (.l 2) 3,_),(.b (.l 2) 4,_),(.b (.l 2) 5,_)],[]⟩) (B4 (⟨U J,U J,U J,U J,O⟩) (⟨U J,U J,U J,U J,U J,O⟩) (⟨rfl,rfl,rfl,rfl,rfl,O⟩)) ?_;refine A8 ?_;refine awp_drawn' (by kernel_rfl) ?_;refine D7 J J J J J J J gU J J J J J ?_;refine D7 J J J J J J J gU J J J J J ?_
     refine E7 J J J J J J J gU gU (up (F6 l _ _ (by omega) (le3 hl (by first|assumption|(dsimp only; first|assumption|exact hq4 _|exact hq5 _))))) J ?_;refine F0 J J J J J J J J J J J J ?_;refine F0 J J J J J J J J J J J J ?_;refine F9 (by kernel_rfl) ?_;refine B5 (s:=⟨[(2,_,_),(4,_,_),(5,_,_)],[(.l 2,_),(.l 4,_),(.l 5,_),(.o 0,_)],[(.b (.l 2) 1,_),(.b (.l 2) 2,_),(.b (.l 2) 3,_),(.b (.l 2) 4,_),(.b (.l 2) 5,_)],[]⟩) (B4 (⟨U J,U J,U J,O⟩) (⟨U J,U J,U J,U J,O⟩) (⟨(ak J (ak J (ak J (ak J (ak J (rfl)))))),(ak J (ak J (ak J (ak J (ak J (rfl)))))),(ak J (ak J (ak J (ak J (ak J (rfl)))))),(ak J (ak J (ak J (ak J (ak J (rfl)))))),(ak J (ak J (ak J (ak J (ak J (rfl)))))),O⟩)) ?_;refine I3 (.l 4) (.l 2) J J J J J ?_;refine B5 (s:=⟨[(2,_,_),(4,_,_),(5,_,_)],[(.l 2,_),(.l 4,_),(.l 5,_),(.o 0,_)],[(.b (.l 4) 1,_),(.b (.l 4) 2,_),(.b (.l 4) 3,_),(.b (.l 4) 4,_),(.b (.l 4) 5,_)],[]⟩) (B4 (⟨U J,U J,U J,O⟩) (⟨U J,U J,U J,U J,O⟩) (⟨rfl,rfl,rfl,rfl,rfl,O⟩)) ?_;refine C1 ?_
     repeat(first|refine tR ?_|refine bR ?_)
     refine J3 J ?_ ⟨⟨_,rfl,rfl⟩,O⟩ (by simp) J J J J J J;exact congrArg (fun z=>X.tup [.agg (narC n.name (strR n.roles) (Fs.rows n.fresh) z (Sp.rows n.steps) (Gl.rows n.goals)), .agg (pbx l (E9 l [59] (J7 l q).2))]) (Bi _ _).symm
    ·try simp only [nn,B3,T.rows_len,Tk.rows_len] at hcv3
     refine A8 (A6 ?_);refine A5 J J J (B7 J J gU gU J) ?_;refine A5 J J J (A9 J gU) ?_;refine B0 ?_;refine B9 J (fun hcv4=>?_) (fun hcv4=>?_)
     ·try simp only [nn,B3,T.rows_len,Tk.rows_len] at hcv4
      subst hcv4
      rw[O2 hk hline (Pr l n 0 q)]
      refine B5 (s:=⟨[(2,_,_),(3,_,_),(4,_,_),(5,_,_),(6,_,_)],[(.l 2,_),(.l 3,_),(.l 4,_),(.l 5,_),(.o 0,_)],[(.b (.l 2) 1,_),(.b (.l 2) 2,_),(.b (.l 2) 3,_),(.b (.l 2) 4,_),(.b (.l 2) 5,_)],[]⟩) (B4 (⟨U J,U J,U J,U J,U J,O⟩) (⟨U J,U J,U J,U J,U J,O⟩) (⟨rfl,rfl,rfl,rfl,rfl,O⟩)) ?_;refine H7 (.l 2) J (fun w1 w2 w3 w4 w5=>?_);refine B5 (s:=⟨[(2,_,_),(3,_,_),(4,_,_),(5,_,_),(6,_,_)],[(.l 2,_),(.l 3,_),(.l 4,_),(.l 5,_),(.o 0,_)],[(.b (.l 2) 1,_),(.b (.l 2) 2,_),(.b (.l 2) 3,_),(.b (.l 2) 4,_),(.b (.l 2) 5,_)],[]⟩) (B4 (⟨U J,U J,U J,U J,U J,O⟩) (⟨U J,U J,U J,U J,U J,O⟩) (⟨rfl,rfl,rfl,rfl,rfl,O⟩)) ?_;refine A6 ?_;refine A5 J J J (B8 J gU J J J J J) ?_;refine A5 J J J (B8 J gU J J J J J) ?_;refine A5 J J J (A7 J gU) ?_;refine W7 (.l 2) (.l 3) osR J J J J J J ⟨rfl,rfl,rfl,rfl,rfl,rfl⟩ ⟨rfl,rfl,rfl,rfl,rfl,rfl⟩ J J J J J J J J J ⟨rfl,rfl⟩ J (Cn l q n (0) w1 w2 w3 w4 w5 hl hq1 (by omega)) J J J J J J J J ?_;refine B0 ?_;refine B5 (s:=⟨[(2,_,_),(3,_,_),(4,_,_),(5,_,_)],[(.l 2,_),(.l 3,_),(.l 4,_),(.l 5,_),(.o 0,_)],[(.b (.l 2) 1,_),(.b (.l 2) 2,_),(.b (.l 2) 3,_),(.b (.l 2) 4,_),(.b (.l 2) 5,_)],[]⟩) (B4 (⟨U J,U J,U J,U J,O⟩) (⟨U J,U J,U J,U J,U J,O⟩) (⟨rfl,rfl,rfl,rfl,rfl,O⟩)) ?_
      refine B5 (s:=⟨[(2,_,_),(3,_,_),(4,_,_),(5,_,_)],[(.l 2,_),(.l 3,_),(.l 4,_),(.l 5,_),(.o 0,_)],[(.b (.l 2) 1,_),(.b (.l 2) 2,_),(.b (.l 2) 3,_),(.b (.l 2) 4,_),(.b (.l 2) 5,_)],[]⟩) (B4 (⟨U J,U J,U J,U J,O⟩) (⟨U J,U J,U J,U J,U J,O⟩) (⟨rfl,rfl,rfl,rfl,rfl,O⟩)) ?_;refine H7 (.l 2) J (fun w1 w2 w3 w4 w5=>?_);refine B5 (s:=⟨[(2,_,_),(3,_,_),(4,_,_),(5,_,_)],[(.l 2,_),(.l 3,_),(.l 4,_),(.l 5,_),(.o 0,_)],[(.b (.l 2) 1,_),(.b (.l 2) 2,_),(.b (.l 2) 3,_),(.b (.l 2) 4,_),(.b (.l 2) 5,_)],[]⟩) (B4 (⟨U J,U J,U J,U J,O⟩) (⟨U J,U J,U J,U J,U J,O⟩) (⟨rfl,rfl,rfl,rfl,rfl,O⟩)) ?_;refine A8 ?_;refine awp_drawn' (by kernel_rfl) ?_;refine D7 J J J J J J J gU J J J J J ?_;refine D7 J J J J J J J gU J J J J J ?_;refine E7 J J J J J J J gU gU (up (F6 l _ _ (by omega) (le3 hl (by first|assumption|(dsimp only; first|assumption|exact hq4 _|exact hq5 _))))) J ?_;refine F0 J J J J J J J J J J J J ?_;refine F0 J J J J J J J J J J J J ?_;refine F9 (by kernel_rfl) ?_;refine B5 (s:=⟨[(2,_,_),(4,_,_),(5,_,_)],[(.l 2,_),(.l 4,_),(.l 5,_),(.o 0,_)],[(.b (.l 2) 1,_),(.b (.l 2) 2,_),(.b (.l 2) 3,_),(.b (.l 2) 4,_),(.b (.l 2) 5,_)],[]⟩) (B4 (⟨U J,U J,U J,O⟩) (⟨U J,U J,U J,U J,O⟩) (⟨(ak J (ak J (ak J (ak J (ak J (rfl)))))),(ak J (ak J (ak J (ak J (ak J (rfl)))))),(ak J (ak J (ak J (ak J (ak J (rfl)))))),(ak J (ak J (ak J (ak J (ak J (rfl)))))),(ak J (ak J (ak J (ak J (ak J (rfl)))))),O⟩)) ?_
      refine I3 (.l 4) (.l 2) J J J J J ?_;refine B5 (s:=⟨[(2,_,_),(4,_,_),(5,_,_)],[(.l 2,_),(.l 4,_),(.l 5,_),(.o 0,_)],[(.b (.l 4) 1,_),(.b (.l 4) 2,_),(.b (.l 4) 3,_),(.b (.l 4) 4,_),(.b (.l 4) 5,_)],[]⟩) (B4 (⟨U J,U J,U J,O⟩) (⟨U J,U J,U J,U J,O⟩) (⟨rfl,rfl,rfl,rfl,rfl,O⟩)) ?_;refine C1 ?_
      repeat(first|refine tR ?_|refine bR ?_)
      refine J3 J ?_ ⟨⟨_,rfl,rfl⟩,O⟩ (by simp) J J J J J J
      rfl
     ·try simp only [nn,B3,T.rows_len,Tk.rows_len] at hcv4
      refine A8 (A6 ?_);refine A5 J J J (B7 J J gU gU J) ?_;refine A5 J J J (A9 J gU) ?_;refine B0 ?_;refine B5 (s:=⟨[(2,_,_),(3,_,_),(4,_,_),(5,_,_),(6,_,_),(70,_,_)],[(.l 2,_),(.l 3,_),(.l 4,_),(.l 5,_),(.o 0,_)],[(.b (.l 2) 1,_),(.b (.l 2) 2,_),(.b (.l 2) 3,_),(.b (.l 2) 4,_),(.b (.l 2) 5,_)],[]⟩) (B4 (⟨U J,U J,U J,U J,U J,U J,O⟩) (⟨U J,U J,U J,U J,U J,O⟩) (⟨rfl,rfl,rfl,rfl,rfl,O⟩)) ?_;refine B9 J (fun hcv5=>?_) (fun hcv5=>?_)
      ·try simp only [nn,B3,T.rows_len,Tk.rows_len] at hcv5
       subst hcv5
       rw[O2 hk hline (Rj l n 0 q)]
       refine B5 (s:=⟨[(2,_,_),(3,_,_),(4,_,_),(5,_,_),(6,_,_)],[(.l 2,_),(.l 3,_),(.l 4,_),(.l 5,_),(.o 0,_)],[(.b (.l 2) 1,_),(.b (.l 2) 2,_),(.b (.l 2) 3,_),(.b (.l 2) 4,_),(.b (.l 2) 5,_)],[]⟩) (B4 (⟨U J,U J,U J,U J,U J,O⟩) (⟨U J,U J,U J,U J,U J,O⟩) (⟨rfl,rfl,rfl,rfl,rfl,O⟩)) ?_;refine H7 (.l 2) J (fun w1 w2 w3 w4 w5=>?_);refine B5 (s:=⟨[(2,_,_),(3,_,_),(4,_,_),(5,_,_),(6,_,_)],[(.l 2,_),(.l 3,_),(.l 4,_),(.l 5,_),(.o 0,_)],[(.b (.l 2) 1,_),(.b (.l 2) 2,_),(.b (.l 2) 3,_),(.b (.l 2) 4,_),(.b (.l 2) 5,_)],[]⟩) (B4 (⟨U J,U J,U J,U J,U J,O⟩) (⟨U J,U J,U J,U J,U J,O⟩) (⟨rfl,rfl,rfl,rfl,rfl,O⟩)) ?_;refine A6 ?_;refine A5 J J J (B8 J gU J J J J J) ?_;refine A5 J J J (B8 J gU J J J J J) ?_;refine A5 J J J (A7 J gU) ?_;refine W7 (.l 2) (.l 3) osR J J J J J J ⟨rfl,rfl,rfl,rfl,rfl,rfl⟩ ⟨rfl,rfl,rfl,rfl,rfl,rfl⟩ J J J J J J J J J ⟨rfl,rfl⟩ J (Cr l q n (0) w1 w2 w3 w4 w5 hl hq1 (by omega)) J J J J J J J J ?_;refine B0 ?_;refine B5 (s:=⟨[(2,_,_),(3,_,_),(4,_,_),(5,_,_)],[(.l 2,_),(.l 3,_),(.l 4,_),(.l 5,_),(.o 0,_)],[(.b (.l 2) 1,_),(.b (.l 2) 2,_),(.b (.l 2) 3,_),(.b (.l 2) 4,_),(.b (.l 2) 5,_)],[]⟩) (B4 (⟨U J,U J,U J,U J,O⟩) (⟨U J,U J,U J,U J,U J,O⟩) (⟨rfl,rfl,rfl,rfl,rfl,O⟩)) ?_
       refine B5 (s:=⟨[(2,_,_),(3,_,_),(4,_,_),(5,_,_)],[(.l 2,_),(.l 3,_),(.l 4,_),(.l 5,_),(.o 0,_)],[(.b (.l 2) 1,_),(.b (.l 2) 2,_),(.b (.l 2) 3,_),(.b (.l 2) 4,_),(.b (.l 2) 5,_)],[]⟩) (B4 (⟨U J,U J,U J,U J,O⟩) (⟨U J,U J,U J,U J,U J,O⟩) (⟨rfl,rfl,rfl,rfl,rfl,O⟩)) ?_;refine H7 (.l 2) J (fun w1 w2 w3 w4 w5=>?_);refine B5 (s:=⟨[(2,_,_),(3,_,_),(4,_,_),(5,_,_)],[(.l 2,_),(.l 3,_),(.l 4,_),(.l 5,_),(.o 0,_)],[(.b (.l 2) 1,_),(.b (.l 2) 2,_),(.b (.l 2) 3,_),(.b (.l 2) 4,_),(.b (.l 2) 5,_)],[]⟩) (B4 (⟨U J,U J,U J,U J,O⟩) (⟨U J,U J,U J,U J,U J,O⟩) (⟨rfl,rfl,rfl,rfl,rfl,O⟩)) ?_;refine A8 ?_;refine awp_drawn' (by kernel_rfl) ?_;refine D7 J J J J J J J gU J J J J J ?_;refine D7 J J J J J J J gU J J J J J ?_;refine E7 J J J J J J J gU gU (up (F6 l _ _ (by omega) (le3 hl (by first|assumption|(dsimp only; first|assumption|exact hq4 _|exact hq5 _))))) J ?_;refine F0 J J J J J J J J J J J J ?_;refine F0 J J J J J J J J J J J J ?_;refine F9 (by kernel_rfl) ?_;refine B5 (s:=⟨[(2,_,_),(4,_,_),(5,_,_)],[(.l 2,_),(.l 4,_),(.l 5,_),(.o 0,_)],[(.b (.l 2) 1,_),(.b (.l 2) 2,_),(.b (.l 2) 3,_),(.b (.l 2) 4,_),(.b (.l 2) 5,_)],[]⟩) (B4 (⟨U J,U J,U J,O⟩) (⟨U J,U J,U J,U J,O⟩) (⟨(ak J (ak J (ak J (ak J (ak J (rfl)))))),(ak J (ak J (ak J (ak J (ak J (rfl)))))),(ak J (ak J (ak J (ak J (ak J (rfl)))))),(ak J (ak J (ak J (ak J (ak J (rfl)))))),(ak J (ak J (ak J (ak J (ak J (rfl)))))),O⟩)) ?_
       refine I3 (.l 4) (.l 2) J J J J J ?_;refine B5 (s:=⟨[(2,_,_),(4,_,_),(5,_,_)],[(.l 2,_),(.l 4,_),(.l 5,_),(.o 0,_)],[(.b (.l 4) 1,_),(.b (.l 4) 2,_),(.b (.l 4) 3,_),(.b (.l 4) 4,_),(.b (.l 4) 5,_)],[]⟩) (B4 (⟨U J,U J,U J,O⟩) (⟨U J,U J,U J,U J,O⟩) (⟨rfl,rfl,rfl,rfl,rfl,O⟩)) ?_;refine C1 ?_
       repeat(first|refine tR ?_|refine bR ?_)
       refine J3 J ?_ ⟨⟨_,rfl,rfl⟩,O⟩ (by simp) J J J J J J
       rfl
      ·try simp only [nn,B3,T.rows_len,Tk.rows_len] at hcv5
       rw[O2 hk hline (Qi l n 0 q hcv1 hcv2 hcv3 hcv4 hcv5)]
       refine C0 ?_;refine B5 (s:=⟨[(2,_,_),(3,_,_),(4,_,_),(5,_,_)],[(.l 2,_),(.l 3,_),(.l 4,_),(.l 5,_),(.o 0,_)],[(.b (.l 2) 1,_),(.b (.l 2) 2,_),(.b (.l 2) 3,_),(.b (.l 2) 4,_),(.b (.l 2) 5,_)],[]⟩) (B4 (⟨U J,U J,U J,U J,O⟩) (⟨U J,U J,U J,U J,U J,O⟩) (⟨rfl,rfl,rfl,rfl,rfl,O⟩)) ?_;refine H7 (.l 2) J (fun w1 w2 w3 w4 w5=>?_);refine B5 (s:=⟨[(2,_,_),(3,_,_),(4,_,_),(5,_,_)],[(.l 2,_),(.l 3,_),(.l 4,_),(.l 5,_),(.o 0,_)],[(.b (.l 2) 1,_),(.b (.l 2) 2,_),(.b (.l 2) 3,_),(.b (.l 2) 4,_),(.b (.l 2) 5,_)],[]⟩) (B4 (⟨U J,U J,U J,U J,O⟩) (⟨U J,U J,U J,U J,U J,O⟩) (⟨rfl,rfl,rfl,rfl,rfl,O⟩)) ?_;refine A8 ?_;refine awp_drawn' (by kernel_rfl) ?_;refine D7 J J J J J J J gU J J J J J ?_;refine D7 J J J J J J J gU J J J J J ?_;refine E7 J J J J J J J gU gU (up (F6 l _ _ (by omega) (le3 hl (by first|assumption|(dsimp only; first|assumption|exact hq4 _|exact hq5 _))))) J ?_;refine F0 J J J J J J J J J J J J ?_;refine F0 J J J J J J J J J J J J ?_;refine F9 (by kernel_rfl) ?_;refine B5 (s:=⟨[(2,_,_),(4,_,_),(5,_,_)],[(.l 2,_),(.l 4,_),(.l 5,_),(.o 0,_)],[(.b (.l 2) 1,_),(.b (.l 2) 2,_),(.b (.l 2) 3,_),(.b (.l 2) 4,_),(.b (.l 2) 5,_)],[]⟩) (B4 (⟨U J,U J,U J,O⟩) (⟨U J,U J,U J,U J,O⟩) (⟨(ak J (ak J (ak J (ak J (ak J (rfl)))))),(ak J (ak J (ak J (ak J (ak J (rfl)))))),(ak J (ak J (ak J (ak J (ak J (rfl)))))),(ak J (ak J (ak J (ak J (ak J (rfl)))))),(ak J (ak J (ak J (ak J (ak J (rfl)))))),O⟩)) ?_
       refine I3 (.l 4) (.l 2) J J J J J ?_;refine B5 (s:=⟨[(2,_,_),(4,_,_),(5,_,_)],[(.l 2,_),(.l 4,_),(.l 5,_),(.o 0,_)],[(.b (.l 4) 1,_),(.b (.l 4) 2,_),(.b (.l 4) 3,_),(.b (.l 4) 4,_),(.b (.l 4) 5,_)],[]⟩) (B4 (⟨U J,U J,U J,O⟩) (⟨U J,U J,U J,U J,O⟩) (⟨rfl,rfl,rfl,rfl,rfl,O⟩)) ?_;refine C1 ?_
       repeat(first|refine tR ?_|refine bR ?_)
       refine J3 J ?_ ⟨⟨_,rfl,rfl⟩,O⟩ (by simp) J J J J J J
       rfl
abbrev xnie (r : Nar × Int × Int) : X:=.tup [.agg r.1.cells, .c (.i .i64 r.2.1), .c (.i .i64 r.2.2)]
def Mx (l : List Tk) : Nar × Int × Int :=
 if (endE l (Z8 l).2).2≠0 then (nar0,(endE l (Z8 l).2).1,(endE l (Z8 l).2).2)
 else if narE E4 (Z8 l).1≠0 then (nar0,0,narE E4 (Z8 l).1)
 else ((Z8 l).1,0,0)
def Y2 (s : List UInt8) : Nar × Int × Int:=if (tokP s).2.2≠0 then (nar0,(tokP s).2.1,(tokP s).2.2) else Mx (tokP s).1
theorem Xp (l : List Tk) (n : Nar) (p : PS) : p.at'≤(Y9 l n p).2.at':=Nat.le_trans (G9 l K1 p).1 (Nat.le_trans (Ia l n (P9 l p) (C9 l K1 p).1 (C9 l K1 p).2).1 (J4 l [59] _).1)
theorem Vr (s : List UInt8) (hs : s.length≤9223372036854775807) : Ctr sys 103 [xs s] [] (uBy (tokP s)) none []:=by rw[← Xx s]; exact Ef s hs
theorem Rg {l : List Tk} {m : Nat} {n : Nar} {p : PS} (h : p.bad=true∨symQ l p [125]=true) : Q7 l m n p=(n,p):=by
 cases m with
 | zero=>rfl
 | succ m =>
  rw[Q7]
  split
  ·rfl
  ·rename_i hb
   rw[if_pos (h.resolve_left hb)]
theorem Xh {l : List Tk} {m : Nat} {n : Nar} {p : PS} (h : p.bad=false) (hq : symQ l p [125]=false) : Q7 l (m + 1) n p=Q7 l m (Z4 l n p).1 (Z4 l n p).2:=by
 rw[Q7,if_neg (by rw[h]; simp),if_neg (by rw[hq]; simp)]
theorem uAr {l : List Tk} {n : Nar} {p : PS} (h : (n,p)=Q7 l (l.length + 2) { nar0 with name:=(C9 l [] (chR l Q9 ⟨0,false⟩).2).1 } (E9 l [123] (C9 l [] (chR l Q9 ⟨0,false⟩).2).2)) : Qz l=(n,E9 l [125] p):=by
 unfold Qz; dsimp only; rw[← h]
set_option maxHeartbeats 8000000 in
theorem Mf (s : List UInt8) (hs : s.length≤100000) : Ctr sysO 69 [xs s] [] (xnie (Y2 s)) none []:=by
 have hcnt:=Si s
 have htl:=Tk.rows_len (tokP s).1
 obtain ⟨l,hl⟩ : ∃ l,(tokP s).1=l:=⟨_,rfl⟩
 have hll : l.length≤100000:=by rw[← hl]; omega
 have a1:=(Na l Q9 ⟨0,false⟩).2 (Nat.zero_le _)
 have a2:=(G9 l [] (chR l Q9 ⟨0,false⟩).2).2 a1
 have a3:=(J4 l [123] (C9 l [] (chR l Q9 ⟨0,false⟩).2).2).2 a2
 have hn1:=T8 l ⟨0,false⟩ Q9 (by omega) (by dsimp only; omega)
 have hn2:=K0 l (chR l Q9 ⟨0,false⟩).2 (by omega) (by omega)
 have hn3:=F6 l (C9 l [] (chR l Q9 ⟨0,false⟩).2).2 [123] (by omega) (by omega)
 obtain ⟨h1,h2⟩:=Zw l
 refine D1 Tryz.func69 J J J J J J ?_;refine A8 (A6 ?_);refine C3 J (E1 J J J) ?_;refine A5 J J J (A9 J gU) ?_;refine A5 J J J (A9 J gU) ?_;refine B0 ?_;refine A8 (A6 ?_);refine A5 J J J (A7 J gU) ?_;refine C8 J J J J J J gU gU (up (Vr _ (by omega))) J ?_;refine A5 J J J (A7 J gU) ?_;refine A5 J J J (C6 J gU J) ?_;refine A5 J J J (C6 J gU J) ?_;refine A5 J J J (C6 J gU J) ?_;refine A5 J J J (A9 J gU) ?_;refine A5 J J J (A9 J gU) ?_;refine A5 J J J (A9 J gU) ?_;refine B0 ?_;refine B5 (s:=⟨[(2,_,_),(5,_,_),(6,_,_),(7,_,_)],[(.l 2,_)],[],[]⟩) (B4 (⟨U J,U J,U J,U J,O⟩) (⟨U J,O⟩) O) ?_;refine A8 ?_;refine A8 (A6 ?_);refine A5 J J J (A7 J gU) ?_;refine A5 J J J (B7 J J gU gU J) ?_;refine B0 ?_;refine B9 J (fun hc=>?_) (fun hc=>?_)
 ·try simp only [nn,B3,T.rows_len,Tk.rows_len] at hc
  refine A8 (A6 ?_);refine A5 J J J (H6 J Tryz.underlying27 J gU) ?_;refine A5 J J J (A7 J gU) ?_;refine A5 J J J (A7 J gU) ?_;refine C3 J (C7 J J J J J J J) ?_;refine A5 J J J (A9 J gU) ?_;refine A5 J J J (A9 J gU) ?_;refine B0 ?_;refine C1 ?_
  repeat(first|refine tR ?_|refine bR ?_)
  refine C5 J ?_ O
  (rw[Y2,if_pos hc]; rfl)
 ·try simp only [nn,B3,T.rows_len,Tk.rows_len] at hc
  have hpe : Y2 s=Mx l:=by rw[Y2,if_neg (by simpa using hc),hl]
  rw[hpe]
  rw[hl]
  refine C0 ?_;refine A8 (A6 ?_);refine C3 J (Fp J J J J) ?_;refine B0 ?_;refine A8 (A6 ?_);refine A5 J J J (A7 J gU) ?_;refine A5 J J J (H6 J Tryz.underlying119 J gU) ?_;refine E8 (xs:=[_,_]) J J J J J J J J J gU J ?_;refine C8 J J J J J J gU gU (up hn1) J ?_;refine A5 J J J (A7 J gU) ?_;refine A5 J J J (C6 J gU J) ?_;refine A5 J J J (C6 J gU J) ?_;refine C3 J (E1 J J J) ?_;refine A5 J J J (A9 J gU) ?_;refine H3 (s:=⟨[(2,_,_),(5,_,_),(8,_,_),(10,_,_),(29,_,_)],[(.l 10,_),(.l 2,_),(.l 8,_)],[],[]⟩) (B4 (⟨U J,U J,U J,U J,U J,O⟩) (⟨U J,U J,U J,O⟩) O) ?_;refine C3 J (C7 J J J J J J J) ?_;refine B0 ?_;refine A8 (A6 ?_);refine A5 J J J (B8 J gU J J J J J) ?_;refine C8 J J J J J J gU gU (up hn2) J ?_;refine A5 J J J (A7 J gU) ?_;refine A5 J J J (C6 J gU J) ?_;refine A5 J J J (C6 J gU J) ?_;refine A5 J J J (B1 J gU J J) ?_;refine C3 J (C7 J J J J J J J) ?_;refine C3 J (C7 J J J J J J J) ?_
  refine B0 ?_;refine B5 (s:=⟨[(2,_,_),(5,_,_),(8,_,_),(10,_,_)],[(.l 10,_),(.l 2,_),(.l 8,_)],[],[]⟩) (B4 (⟨U J,U J,U J,U J,O⟩) (⟨U J,U J,U J,O⟩) O) ?_;refine A8 (A6 ?_);refine A5 J J J (B8 J gU J J J J J) ?_;refine C8 J J J J J J gU gU (up hn3) J ?_;refine C3 J (C7 J J J J J J J) ?_;refine B0 ?_;refine A8 ?_;refine C4 ?_;refine Cf (.l 8) 1 1 J J J ?_;refine Cf (.l 8) 2 3 J J J ?_;refine Cf (.l 8) 3 1 J J J ?_;refine Cf (.l 8) 4 7 J J J ?_;refine Cf (.l 8) 5 5 J J J ?_;refine F3 (ι:=PS × Nar) { t:=[(2,_,_),(5,_,_),(8,_,_),(10,_,_)],bx:=[(.l 2,_)],ow:=[(.b (.l 8) 1,_),(.b (.l 8) 2,_),(.b (.l 8) 3,_),(.b (.l 8) 4,_),(.b (.l 8) 5,_)] } (fun q=>[]) (fun q=>[((.l 10),pbx l q.1),((.l 8),q.2.cells)]) (fun q=>q.1.at'≤l.length∧(q.1.bad=false→q.2.Le q.1.at'∧q.2.Sm (2 * l.length + 2)) ∧ ∃ m,(q.1.bad=true∨l.length < m + q.1.at')∧Q7 l m q.2 q.1=Q7 l (l.length + 2) { nar0 with name:=(C9 l [] (chR l Q9 ⟨0,false⟩).2).1 } (E9 l [123] (C9 l [] (chR l Q9 ⟨0,false⟩).2).2)) (fun q=>(l.length - q.1.at') + (if q.1.bad=true then 0 else 1)) ((E9 l [123] (C9 l [] (chR l Q9 ⟨0,false⟩).2).2,{ nar0 with name:=(C9 l [] (chR l Q9 ⟨0,false⟩).2).1 })) (⟨a3,fun _=>⟨⟨Nat.zero_le _,Nat.zero_le _,Nat.zero_le _,Nat.zero_le _,Nat.zero_le _⟩,⟨fun s hs=>by simp [nar0] at hs,fun s hs=>by simp [nar0] at hs⟩⟩,l.length + 2, .inr (by omega),rfl⟩) (B4 (⟨U J,U J,U J,U J,O⟩) (⟨U J,U J,U J,O⟩) (⟨rfl,rfl,rfl,rfl,rfl,O⟩)) ?_
  intro q hok
  dsimp only [List.cons_append,List.nil_append] at *
  obtain ⟨q,n⟩:=q
  dsimp only at hok ⊢
  obtain ⟨hq,hln,m,hm,hi⟩:=hok
  refine A8 ?_;refine A8 (A6 ?_);refine A5 J J J (B1 J gU J J) ?_;refine A5 J J J (B2 J gU J J J J) ?_;refine A5 J J J (F8 J gU) ?_;refine A5 J J J (A7 J gU) ?_;refine A5 J J J (B8 J gU J J J J J) ?_;refine C8 J J J J J J gU (fun hh=>gA ((fun hh=>hh) hh) (gA J (rfl))) (up (P1 l q _ (by omega) (by omega))) J ?_;refine A5 J J J (F8 J (fun hh=>hh)) ?_;refine A5 J J J (E0 J J gU (fun _ hi=>gP J hi)) ?_;refine B0 ?_;refine B5 (s:=⟨[(2,_,_),(5,_,_),(8,_,_),(10,_,_),(45,_,_)],[(.l 10,_),(.l 2,_),(.l 8,_)],[(.b (.l 8) 1,_),(.b (.l 8) 2,_),(.b (.l 8) 3,_),(.b (.l 8) 4,_),(.b (.l 8) 5,_)],[]⟩) (B4 (⟨U J,U J,U J,U J,U J,O⟩) (⟨U J,U J,U J,O⟩) (⟨rfl,rfl,rfl,rfl,rfl,O⟩)) ?_;refine B9 J (fun hc2=>?_) (fun hc2=>?_)
  ·try simp only [nn,B3,T.rows_len,Tk.rows_len] at hc2
   obtain ⟨hb,hz⟩:=hc2
   obtain ⟨hle,hsm⟩:=hln hb
   have hm : l.length < m + q.at':=hm.resolve_left (by rw[hb]; simp)
   obtain ⟨m,rfl⟩ : ∃ j,m=j + 1:=⟨m - 1,by omega⟩
   rw[Xh hb hz] at hi
   obtain ⟨i1,i2⟩:=Ov l n q hq
   have i5:=Xp l n q
   have i3:=Zo (l:=l) (p:=q) hle
   have i4:=Zk (l:=l) (p:=q) hsm hq
   obtain ⟨e1,e2⟩:=Qa l n q
   rw[← e1] at i1 i2 i5 i3
   refine C0 ?_;refine C4 ?_;refine B5 (s:=⟨[(2,_,_),(5,_,_),(8,_,_),(10,_,_)],[(.l 10,_),(.l 2,_),(.l 8,_)],[(.b (.l 8) 1,_),(.b (.l 8) 2,_),(.b (.l 8) 3,_),(.b (.l 8) 4,_),(.b (.l 8) 5,_)],[]⟩) (B4 (⟨U J,U J,U J,U J,O⟩) (⟨U J,U J,U J,O⟩) (⟨rfl,rfl,rfl,rfl,rfl,O⟩)) ?_;refine H7 (.l 8) J (fun w1 w2 w3 w4 w5=>?_);refine B5 (s:=⟨[(2,_,_),(5,_,_),(8,_,_),(10,_,_)],[(.l 10,_),(.l 2,_),(.l 8,_)],[(.b (.l 8) 1,_),(.b (.l 8) 2,_),(.b (.l 8) 3,_),(.b (.l 8) 4,_),(.b (.l 8) 5,_)],[]⟩) (B4 (⟨U J,U J,U J,U J,O⟩) (⟨U J,U J,U J,O⟩) (⟨rfl,rfl,rfl,rfl,rfl,O⟩)) ?_;refine A6 ?_;refine A5 J J J (B8 J gU J J J J J) ?_;refine A5 J J J (B8 J gU J J J J J) ?_;refine W7 (.l 8) (.l 10) osR J J J J J J ⟨rfl,rfl,rfl,rfl,rfl,rfl⟩ ⟨rfl,rfl,rfl,rfl,rfl,rfl⟩ J J J J J J J J J ⟨rfl,rfl⟩ J (Ru l q n w1 w2 w3 w4 w5 (by omega) hq (hle.mono (by omega))) J J J J J J J J ?_;refine B0 ?_;refine ⟨((Z4 l n q).2,(Z4 l n q).1),?_,?_,B4 (⟨U J,U J,U J,U J,O⟩) (⟨⟨_,rfl,?_⟩,⟨⟨_,rfl,?_⟩,⟨U J,O⟩⟩⟩) (⟨rfl,rfl,rfl,rfl,rfl,O⟩)⟩
   ·refine ⟨i1,fun hb2=>?_,m,?_,hi⟩
    ·dsimp only at hb2 ⊢
     have he:=e2 hb2
     rw[he]; exact ⟨i3,i4⟩
    ·cases hz2 : (Z4 l n q).2.bad with
     | true=>exact .inl J
     | false=>exact .inr (by have := i2 hz2; dsimp only; omega)
   ·dsimp only
    rw[hb]
    cases hz2 : (Z4 l n q).2.bad with
    | true=>simp; omega
    | false=>have := i2 hz2; simp; omega
   all_goals rfl
  ·try simp only [nn,B3,T.rows_len,Tk.rows_len] at hc2
   have hst : q.bad=true∨symQ l q [125]=true:=by
    rcases hc2 with x | x
    ·exact .inl (by simpa using x)
    ·exact .inr (by simpa using x)
   rw[Rg hst] at hi
   have hR:=uAr hi
   rw[hR] at h1 h2
   dsimp only at h1 h2
   have hpl : Mx l=(if (endE l (E9 l [125] q)).2≠0 then (nar0,(endE l (E9 l [125] q)).1,(endE l (E9 l [125] q)).2) else if narE E4 (Z8 l).1≠0 then (nar0,0,narE E4 (Z8 l).1) else ((Z8 l).1,0,0)):=by
    rw[Mx,← h1]
   rw[← h1] at h2
   refine E2 ?_
   repeat(first|refine D5 ?_|refine D6 ?_|refine D2 J ?_)
   refine A8 (A6 ?_);refine A5 J J J (B8 J gU J J J J J) ?_;refine C8 J J J J J J gU gU (up (F6 l q [125] (by omega) (by omega))) J ?_;refine C3 J (C7 J J J J J J J) ?_;refine B0 ?_;refine A8 ?_;refine A8 (A6 ?_);refine A5 J J J (B1 J gU J J) ?_;refine A5 J J J (B2 J gU J J J J) ?_;refine A5 J J J (A7 J gU) ?_;refine A5 J J J (B1 J gU J J) ?_;refine A5 J J J (B2 J (fun hh=>hh) J J J J) ?_;refine A5 J J J (A7 J gU) ?_;refine A5 J J J (G7 J (fun hh=>hh) J J) ?_;refine A5 J J J (B7 J J (fun hh=>hh) (fun hh=>hh) J) ?_;refine A5 J J J (E5 J J gU (fun _ hi=>gP J hi)) ?_;refine B0 ?_;refine B5 (s:=⟨[(2,_,_),(8,_,_),(10,_,_),(62,_,_)],[(.l 10,_),(.l 2,_),(.l 8,_)],[(.b (.l 8) 1,_),(.b (.l 8) 2,_),(.b (.l 8) 3,_),(.b (.l 8) 4,_),(.b (.l 8) 5,_)],[]⟩) (B4 (⟨U J,U J,U J,U J,O⟩) (⟨U J,U J,U J,O⟩) (⟨rfl,rfl,rfl,rfl,rfl,O⟩)) ?_;refine B9 J (fun hc3=>?_) (fun hc3=>?_)
   ·try simp only [nn,B3,T.rows_len,Tk.rows_len] at hc3
    have he : endE l (E9 l [125] q)=(Nt l (E9 l [125] q),2):=by rw[endE,if_pos (by rcases hc3 with x | x; exact .inl x; exact .inr (by omega))]
    rw[he,if_pos (by simp)] at hpl
    refine A8 (A6 ?_);refine A5 J J J (H6 J Tryz.underlying27 J gU) ?_;refine A5 J J J (B8 J gU J J J J J) ?_;refine C8 J J J J J J gU gU (up (Tn _ _ (by omega))) J ?_;refine C3 J (C7 J J J J J J J) ?_;refine A5 J J J (A9 J gU) ?_;refine A5 J J J (A9 J gU) ?_;refine B0 ?_;refine C1 ?_
    repeat(first|refine tR ?_|refine bR ?_)
    refine C5 J ?_ O
    (rw[hpl]; rfl)
   ·try simp only [nn,B3,T.rows_len,Tk.rows_len] at hc3
    have he : endE l (E9 l [125] q)=(0,0) := by rw[endE,if_neg (by rintro (x | x); { rw[hc3.1] at x; cases x }; { have := hc3.2; omega })]
    rw[he,if_neg (by simp),← h2 hc3.1] at hpl
    have hb:=S3 hc3.1
    obtain ⟨hle,hsm⟩:=hln hb
    refine C0 ?_;refine A8 ?_;refine A8 (A6 ?_);refine A5 J J J (B8 J gU J J J J J) ?_;refine C8 J J J J J J gU gU (up (Fu n (fun s hs=>Nat.le_trans (hsm.steps s hs) (by omega)) (fun g hg=>Nat.le_trans (hsm.goals g hg) (by omega)))) J ?_;refine A5 J J J (A9 J gU) ?_;refine B0 ?_;refine A8 (A6 ?_);refine A5 J J J (A7 J gU) ?_;refine A5 J J J (B7 J J gU gU J) ?_;refine B0 ?_;refine B5 (s:=⟨[(2,_,_),(8,_,_),(11,_,_),(69,_,_)],[(.l 2,_),(.l 8,_)],[(.b (.l 8) 1,_),(.b (.l 8) 2,_),(.b (.l 8) 3,_),(.b (.l 8) 4,_),(.b (.l 8) 5,_)],[]⟩) (B4 (⟨U J,U J,U J,U J,O⟩) (⟨U J,U J,O⟩) (⟨rfl,rfl,rfl,rfl,rfl,O⟩)) ?_;refine B9 J (fun hc4=>?_) (fun hc4=>?_)
    ·try simp only [nn,B3,T.rows_len,Tk.rows_len] at hc4
     rw[if_pos hc4] at hpl
     refine A8 (A6 ?_);refine A5 J J J (H6 J Tryz.underlying27 J gU) ?_;refine A5 J J J (A7 J gU) ?_;refine C3 J (C7 J J J J J J J) ?_;refine A5 J J J (A9 J gU) ?_;refine A5 J J J (A9 J gU) ?_;refine B0 ?_;refine C1 ?_
     repeat(first|refine tR ?_|refine bR ?_)
     refine C5 J ?_ O
     (rw[hpl]; rfl)
    ·try simp only [nn,B3,T.rows_len,Tk.rows_len] at hc4
     rw[if_neg (by simpa using hc4)] at hpl
     refine C0 ?_;refine A8 (A6 ?_);refine A5 J J J (B8 J gU J J J J J) ?_;refine C3 J (C7 J J J J J J J) ?_;refine A5 J J J (A9 J gU) ?_;refine A5 J J J (A9 J gU) ?_;refine B0 ?_;refine C1 ?_
     repeat(first|refine tR ?_|refine bR ?_)
     refine C5 J ?_ O
     (rw[hpl]; rfl)
theorem Nu (s : List UInt8) (hs : s.length≤100000) : Ctr sys 69 [xs s] [] (xnie (Y2 s)) none []:=(Mf s hs).wk J fun _ h=>h
theorem Ho {R : List (List UInt8)} : ∀ (D : List (List UInt8 × Option (List UInt8))) (seen : List (List UInt8)),decA R seen D=0→seen.Nodup→(seen++D.map (·.1)).Nodup
 | [],seen,_,hs=>by simpa using hs
 | x :: r,seen,h,hs=>by
  rw[decA] at h
  split at h
  ·rename_i q; exact absurd h q
  ·rename_i q
   have q:=Decidable.not_not.1 q
   have hx : ¬ x.1 ∈ seen:=by
    intro hm
    have hc : seen.contains x.1=true:=List.contains_iff_mem.2 hm
    unfold dclE at q
    split at q
    ·simp at q
    split at q
    ·simp at q
    ·first|(rw[if_pos hc] at q; simp at q)|simp at q
   have h1 : (seen++[x.1]).Nodup:=by
    rw[List.nodup_append]
    refine ⟨hs,by simp,fun a ha b hb=>?_⟩
    rw[List.mem_singleton.1 hb]
    intro e; exact hx (e ▸ ha)
   have := Ho r (seen++[x.1]) h h1
   rw[List.append_assoc] at this
   exact this
theorem Wv {n : Nar} (h : decE n=0) : (H0 n).Nodup:=by
 have := Ho (dclL n) [] h (by simp)
 rw[List.nil_append,Hx] at this
 exact this
theorem uA0 {nm : NmB} {n : Nar} (h : (chkE nm n).2=0) : narE nm n=0∧decE n=0∧useE n=(0,0):=by
 unfold chkE at h
 split at h
 ·rename_i q; exact absurd h q
 rename_i q1
 split at h
 ·rename_i q; exact absurd h q
 rename_i q2
 refine ⟨Decidable.not_not.1 q1,Decidable.not_not.1 q2,?_⟩
 unfold useE at h ⊢
 split at h
 ·rename_i q; exact absurd h q
 ·rename_i q; rw[if_neg q]; exact Tm h
theorem Nj {p : List UInt8→Bool} : ∀ {l : List (List UInt8)},0≤idxF p l→(idxF p l).toNat < l.length∧p (l.getD (idxF p l).toNat [])=true
 | [],h=>by simp [idxF] at h
 | x :: r,h=>by
  rw[idxF] at h ⊢
  by_cases hp : p x=true
  ·rw[if_pos hp] at h ⊢
   exact ⟨by simp,by simpa using hp⟩
  ·rw[if_neg hp] at h ⊢
   by_cases hn : idxF p r < 0
   ·rw[if_pos hn] at h; omega
   ·rw[if_neg hn] at h ⊢
    obtain ⟨h1,h2⟩:=Nj (p:=p) (l:=r) (by omega)
    have e : (idxF p r + 1).toNat=(idxF p r).toNat + 1:=by omega
    rw[e]
    exact ⟨by simp only [List.length_cons]; omega,by simpa using h2⟩
theorem Vy {α : Type} {l : List α} (h : l.Nodup) {i j : Nat} {hi : i < l.length} {hj : j < l.length} (he : l[i]'hi=l[j]'hj) : i=j:=by
 have hp:=List.pairwise_iff_getElem.1 h
 rcases Nat.lt_trichotomy i j with q | q | q
 ·exact absurd he (hp i j hi hj q)
 ·exact q
 ·exact absurd he.symm (hp j i hj hi q)
theorem Sb {l : List (List UInt8 × Int)} {k : List UInt8} (hn : (l.map (·.1)).Nodup) (h : 0≤ixS (l.map (·.1)) k) : mapI l k=(l.map (·.2)).getD (ixS (l.map (·.1)) k).toNat 0∧(ixS (l.map (·.1)) k).toNat < l.length:=by
 obtain ⟨h1,h2⟩:=Nj (p:=fun x=>decide (k=x)) h
 generalize hj : (ixS (l.map (·.1)) k).toNat=j
 rw[show (idxF (fun x=>decide (k=x)) (l.map (·.1))).toNat=j from hj] at h1 h2
 have h2 : k=(l.map (·.1)).getD j []:=of_decide_eq_true h2
 have hlt : j < l.length:=by simpa using h1
 refine ⟨?_,hlt⟩
 have hk : (l[j]'hlt).1=k:=by rw[h2,List.getD_eq_getElem?_getD,List.getElem?_map,List.getElem?_eq_getElem hlt]; rfl
 have hsome : (l.reverse.find? fun x=>decide (x.1=k)).isSome=true:=by
  rw[List.find?_isSome]
  exact ⟨l[j],by simp,decide_eq_true hk⟩
 obtain ⟨e,he⟩:=Option.isSome_iff_exists.1 hsome
 have he1 : e.1=k:=of_decide_eq_true (List.find?_some (p:=fun x : List UInt8 × Int=>decide (x.1=k)) he)
 have he2 : e ∈ l:=by simpa using List.mem_of_find?_eq_some he
 obtain ⟨i,hi,hie⟩:=List.mem_iff_getElem.1 he2
 have hij : i=j:=by
  have h3 : (l.map (·.1))[i]'(by simpa using hi)=(l.map (·.1))[j]'(by simpa using hlt):=by
   rw[List.getElem_map,List.getElem_map,hie,he1,hk]
  exact Vy hn h3
 subst hij
 rw[mapI,he,List.getD_eq_getElem?_getD,List.getElem?_map,List.getElem?_eq_getElem hi,hie]
 first|done|rfl
abbrev ChG:=List UInt8→Int→List UInt8 × Int
mutual
def chT (g : ChG) : T→T
 | .mk k n s ks=>.mk k (if k=2 then (g n s).1 else n) (if k=2 then (g n s).2 else s) (chTs g ks)
def chTs (g : ChG) : List T→List T
 | []=>[]
 | t :: ts=>chT g t :: chTs g ts
end
theorem Jl (g : ChG) : ∀ l : List T,chTs g l=l.map (chT g)
 | []=>by rw[chTs]; rfl
 | t :: ts=>by rw[chTs,Jl g ts]; rfl
theorem Mu (g : ChG) (t : T) : chT g t=⟨t.kind,if t.kind=2 then (g t.name t.sort).1 else t.name,if t.kind=2 then (g t.name t.sort).2 else t.sort,t.kids.map (chT g)⟩:=by
 cases t; rw[chT,Jl]; rfl
mutual
theorem Ph (g : ChG) : ∀ t : T,(chT g t).size=t.size
 | .mk k n s ks=>by rw[chT,T.size,T.size,Fd g ks]
theorem Fd (g : ChG) : ∀ l : List T,T.sizes (chTs g l)=T.sizes l
 | []=>by rw[chTs]
 | t :: ts=>by rw[chTs,T.sizes,T.sizes,Ph g t,Fd g ts]
end
mutual
def knT (K : List (List UInt8)) : T→Bool
 | .mk k n _ ks=>(decide (k≠2) || K.contains n) && knTs K ks
def knTs (K : List (List UInt8)) : List T→Bool
 | []=>true
 | t :: ts=>knT K t && knTs K ts
end
theorem Od (K : List (List UInt8)) : ∀ l : List T,knTs K l=l.all (knT K)
 | []=>by rw[knTs]; rfl
 | t :: ts=>by rw[knTs,Od K ts]; rfl
theorem Mj (K : List (List UInt8)) (t : T) : knT K t=((decide (t.kind≠2) || K.contains t.name) && t.kids.all (knT K)):=by cases t; rw[knT,Od]; rfl
theorem Fj {K : List (List UInt8)} {t : T} (h3 : t.kind=3) (h : ∀ x ∈ t.kids,knT K x=true) : knT K t=true:=by
 rw[Mj,List.all_eq_true.2 h,h3]; rfl
theorem By {t : T} (h : gdB t=true) : ∀ x ∈ t.kids,gdB x=true:=by
 rw[Yw] at h
 simp only [Bool.and_eq_true] at h
 exact Pw h.2
theorem Zh {t : T} (h : gdB t=true) (h3 : t.kind≠3) : t.kind=2∧t.kids=[]:=by
 rw[Yw] at h
 simp only [Bool.and_eq_true,Bool.or_eq_true,decide_eq_true_eq,List.isEmpty_iff] at h
 rcases h.1.2 with q | q
 ·exact q
 ·exact absurd q h3
theorem Ly {R K : List (List UInt8)} (hRK : ∀ x ∈ R,x ∈ K) {t : T} (hg : gdB t=true) (h : Bk R t=true) : knT K t=true:=by
 rw[Bk,Bool.and_eq_true,decide_eq_true_eq] at h
 obtain ⟨_,hk⟩:=Zh hg (by omega)
 rw[Mj,hk,h.1]
 simp only [List.all_nil,Bool.and_true,Bool.or_eq_true]
 exact .inr (List.contains_iff_mem.2 (hRK _ (List.contains_iff_mem.1 h.2)))
theorem V8 {t : T} {w : List UInt8} {k : Int} (h : isT t w k=true) : t.kind=3∧t.name=w∧(t.kids.length : Int)=k:=by
 simp only [isT,Bool.and_eq_true,decide_eq_true_eq] at h
 exact ⟨h.1.1,h.1.2,h.2⟩
theorem Tw {t : T} (h : (t.kids.length : Int)=1) : t.kids=[kid t 0]:=by
 match hk : t.kids,h with
 | [a],_=>simp [kid,hk]
theorem Vb {t : T} (h : (t.kids.length : Int)=2) : t.kids=[kid t 0,kid t 1]:=by
 match hk : t.kids,h with
 | [a,b],_=>simp [kid,hk]
theorem Un {R K : List (List UInt8)} (hRK : ∀ x ∈ R,x ∈ K) {t : T} (hg : gdB t=true) (h : Aa R t=true) : knT K t=true:=by
 rw[Aa,Bool.and_eq_true] at h
 obtain ⟨h1,h2,h3⟩:=V8 h.1
 have hk:=Tw h3
 refine Fj h1 fun x hx=>?_
 have hgx:=By hg x hx
 rw[hk,List.mem_singleton] at hx
 subst hx
 exact Ly hRK hgx h.2
theorem Zt {R K : List (List UInt8)} (hRK : ∀ x ∈ R,x ∈ K) {t : T} (hg : gdB t=true) (h : pubT R t=true) : knT K t=true:=by
 rw[pubT,Bool.and_eq_true] at h
 obtain ⟨h1,h2,h3⟩:=V8 h.1
 have hk:=Tw h3
 refine Fj h1 fun x hx=>?_
 have hgx:=By hg x hx
 rw[hk,List.mem_singleton] at hx
 subst hx
 exact Un hRK hgx h.2
theorem uBA {R K : List (List UInt8)} (hRK : ∀ x ∈ R,x ∈ K) : ∀ (n : Nat) (t : T),t.size≤n→gdB t=true→O1 R K t=0→knT K t=true:=by
 intro n
 induction n with
 | zero=>intro t h; have := t.size_pos; omega
 | succ n ih =>
  intro t ht hg hc
  rw[R6] at hc
  split at hc
  ·rename_i h3
   obtain ⟨h2,hk⟩:=Zh hg h3
   split at hc
   ·rename_i hm
    rw[Mj,hk,hm]; simp
   ·cases hc
  ·rename_i h3
   have h3:=Decidable.not_not.1 h3
   split at hc
   ·cases hc
   ·rename_i k hl
    have hz:=errs_zero.1 hc
    have hin : ∀ x ∈ t.kids.take k,knT K x=true:=fun x hx=>by
     have hm:=List.mem_of_mem_take hx
     have := M5 hm
     exact ih x (by omega) (By hg x hm) (hz x hx)
    unfold J1 at hl
    split at hl
    ·rename_i q
     have hk2 : (t.kids.length : Int)=2:=by rcases q with q | q <;> exact (V8 q).2.2
     have e : 2=k:=Option.some.inj hl
     subst e
     rw[List.take_of_length_le (by omega)] at hin
     exact Fj h3 hin
    split at hl
    ·rename_i q
     have hk2:=(V8 q).2.2
     have e : 1=k:=Option.some.inj hl
     subst e
     rw[List.take_of_length_le (by omega)] at hin
     exact Fj h3 hin
    split at hl
    ·rename_i q
     have hk2 : (t.kids.length : Int)=2:=by rcases q with q | q <;> exact (V8 q.1).2.2
     have e : 1=k:=Option.some.inj hl
     subst e
     have hk:=Vb hk2
     have hg1 : gdB (kid t 1)=true:=By hg _ (by rw[hk]; simp)
     have h1 : knT K (kid t 1)=true:=by
      rcases q with q | q
      ·exact Zt hRK hg1 q.2
      ·exact Un hRK hg1 q.2
     refine Fj h3 fun x hx=>?_
     rw[hk] at hx hin
     rcases List.mem_cons.1 hx with e | e
     ·exact hin x (by rw[e]; simp)
     ·rw[List.mem_singleton.1 e]; exact h1
    split at hl
    ·rename_i q
     rcases q with q | q
     ·exact Zt hRK hg q
     ·obtain ⟨⟨⟨q1,q2⟩,q3⟩,q4⟩:=shkT_iff.1 q
      have hk:=Vb (V8 q1).2.2
      refine Fj h3 fun x hx=>?_
      have hgx:=By hg x hx
      rw[hk] at hx
      rcases List.mem_cons.1 hx with e | e
      ·subst e; exact Ly hRK hgx q2
      ·rw[List.mem_singleton.1 e] at hgx ⊢; exact Ly hRK hgx q3
    ·cases hl
def srtG (n : Nar) : ChG:=fun nm _=>(nm,mapI (nmsL n) nm)
structure ChkOk (n : Nar) : Prop where
 nar : NarOk n
 nd : (H0 n).Nodup
 msg : ∀ s ∈ n.steps,knT (H0 n) s.msg=true∧gdB s.msg=true∧s.msg.size≤40
 dat : ∀ g ∈ n.goals,∀ t ∈ g.data,knT (H0 n) t=true∧gdB t=true∧t.size≤40
theorem Hd (n : Nar) : ∀ x ∈ n.roles,x ∈ H0 n:=fun x hx=>by rw[Eg]; simp [hx]
theorem Ya {n : Nar} (h : (chkE E4 n).2=0) : ChkOk n:=by
 obtain ⟨c1,c2,c3⟩:=uA0 h
 have hok:=Mh c1
 have hu : (useE n).2=0:=by rw[c3]
 have hst : (lnE (T9 n) Sp.line n.steps).2=0∧(lnE (P6 n) Gl.line n.goals).2=0:=by
  unfold useE at hu
  split at hu
  ·rename_i q; exact absurd hu q
  ·rename_i q; exact ⟨Decidable.not_not.1 q,hu⟩
 refine ⟨hok,Wv c2,fun s hs=>?_,fun g hg t ht=>?_⟩
 ·have hm:=(hok.steps s hs).2.2
  have hz:=lnE_zero.1 hst.1 s hs
  have hgd:=Yi hm.raw
  have ht : O1 n.roles (H0 n) s.msg=0:=by
   unfold T9 at hz
   split at hz
   ·rename_i q; exact absurd hz q
   ·exact hz
  exact ⟨uBA (Hd n) _ _ (Nat.le_refl _) hgd ht,hgd,hm.size⟩
 ·have hm:=(hok.goals g hg).data t ht
  have hz:=lnE_zero.1 hst.2 g hg
  have hgd:=Yi hm.raw
  have he : errs (O1 n.roles (H0 n)) g.data=0:=by
   unfold P6 at hz
   split at hz
   ·cases hz
   split at hz
   ·rename_i q; exact absurd hz q.2
   ·exact hz
  exact ⟨uBA (Hd n) _ _ (Nat.le_refl _) hgd (errs_zero.1 he t ht),hgd,hm.size⟩
def tbC (R : List (List UInt8)) (b : Nat) : List C:=[.sl 1 (strR R), .o (.map (some b))]
theorem Vv (R : List (List UInt8)) (l : List (List UInt8 × Int)) (b : Nat) (t : T) : CtrO (sysO.add b (mapL l)) 57 [.v (.ptr (.o 0) 0), .v (.ptr (.o 1) 0)] [t.cells,tbC R b] [] (.tup []) [(⟨t.kind,t.name,mapI l t.name,t.kids⟩ : T).cells,tbC R b] .box:=by
 refine K8 Tryz.func57 J J J J J J J ?_;refine Ka b (mapL l) (List.mem_cons_self ..) ?_;refine awp_drawn' (by kernel_rfl) ?_;refine B6 J J J J (A7 J gU) ?_;refine B6 J J J J (B1 J gU J J) ?_;refine G5 J J J J J J J gU J J J J ?_;refine B6 J J J J (A7 J gU) ?_;refine B6 J J J J (O6 J gU) ?_;refine B6 J J J J (B1 J gU J J) ?_;refine G5 J J J J J J J gU J J J J ?_;refine B6 J J J J (Pe (i:=0) (c:=.i .i64 (mapI l t.name)) (z:=.int .i64 0) J J gU gU J Tryz.underlying61 Tryz.underlying9 (by kernel_rfl) (fun w S=>Mc l t.name)) ?_;refine B6 J J J J (O6 J gU) ?_;refine B6 J J J J (B1 J gU J J) ?_;refine F0 J J J J J J J J J J J J ?_;refine F9 (by kernel_rfl) ?_;refine Oo J ?_ (⟨⟨_,rfl,?_⟩,⟨⟨_,rfl,?_⟩,O⟩⟩) (by kernel_rfl)
 all_goals rfl
theorem Ud (l : List T) : ∀ (i : Nat) (row : List C),(T.rows l)[i]? = some row→row.length=4:=by
 intro i row h
 rw[T.rows_eq,List.getElem?_map] at h
 cases hx : l[i]? with
 | none=>rw[hx] at h; cases h
 | some t=>rw[hx] at h; cases h; rfl
theorem Cs (l : List T) : (T.rows l).flatten.length=l.length * 4:=by
 induction l with
 | nil=>simp [T.rows_eq]
 | cons x l ih =>
  have e : T.rows (x :: l)=x.cells :: T.rows l:=by simp [T.rows_eq]
  rw[e,List.flatten_cons,List.length_append,ih]
  have : x.cells.length=4:=rfl
  simp only [List.length_cons]; omega
theorem Yy (l : List T) (i : Nat) (t : T) : (T.rows l).set i t.cells=T.rows (l.set i t):=by
 rw[T.rows_eq,T.rows_eq,List.map_set]
theorem Jg (l : List T) (i : Nat) (t : T) (h : i < l.length) : I4 (T.rows l).flatten (i * 4) t.cells=(T.rows (l.set i t)).flatten:=by
 rw[Jk (Ud l) (by rw[T.rows_len]; exact h) J,Yy]
theorem uAj (l : List T) (i : Nat) (t : T) (h : i < l.length) : Nat.ble (0 + i * 4 + t.cells.length) (T.rows l).flatten.length=true:=by
 rw[Cs]
 exact Nat.ble_eq_true_of_le (by show 0 + i * 4 + 4≤_; omega)
def tZ : T:=⟨0,[],0,[]⟩
def padT (l : List T) (n : Nat) : List T:=l++List.replicate (n - l.length) tZ
theorem uAy {l : List T} {n : Nat} (h : l.length≤n) : (padT l n).length=n:=by rw[padT,List.length_append,List.length_replicate]; omega
theorem Xy {l : List T} {n : Nat} (h : l.length < n) (x : T) : (padT l n).set l.length x=padT (l++[x]) n:=by
 rw[padT,padT,List.set_append_right _ _ (Nat.le_refl _),Nat.sub_self]
 obtain ⟨m,hm⟩ : ∃ m,n - l.length=m + 1:=⟨n - l.length - 1,by omega⟩
 have e : n - (l++[x]).length=m:=by simp; omega
 rw[hm,e,List.replicate_succ,List.set_cons_zero,List.append_assoc]; rfl
theorem Wm {l : List T} {n : Nat} (h : l.length=n) : padT l n=l:=by rw[padT,h,Nat.sub_self]; simp
theorem uAw (n : Nat) : (List.replicate n tZ.cells).flatten=(T.rows (padT [] n)).flatten:=by
 rw[padT,T.rows_eq,List.nil_append,List.map_replicate]; rfl
abbrev mpG (l : List (List UInt8 × Int)) : ChG:=fun nm _=>(nm,mapI l nm)
theorem ps23 {st : St} {a b : Pass} (ha : st.box a.n=some a.cs) (hb : st.box b.n=some b.cs) : ∀ p ∈ [a,b],st.box p.n=some p.cs:=by
 intro p hp
 rcases List.mem_cons.1 hp with h | h
 ·rw[h]; exact ha
 ·rw[List.mem_singleton.1 h]; exact hb
set_option maxHeartbeats 4000000 in
theorem Ad (R : List (List UInt8)) (l : List (List UInt8 × Int)) (b : Nat) : ∀ (m : Nat) (t : T),t.size≤m→m≤900000→gdB t=true→Ctr (sysO.add b (mapL l)) 94 [xm t, .fn 57 [.ptr (.o 0) 0]] [tbC R b] (xm (chT (mpG l) t)) none [tbC R b]:=by
 intro m
 induction m with
 | zero=>intro t h; have := t.size_pos; omega
 | succ m ih =>
  intro t ht hm hgd
  have hr:=T.rows_len t.kids
  have hls:=T.len_sizes t.kids
  have hse:=t.size_eq
  have hgk:=By hgd
  refine D1 Tryz.func94 J J J J J J ?_;refine A8 (A6 ?_);refine C3 J (D8 J J J J) ?_;refine C3 J (E1 J J J) ?_;refine B0 ?_;refine A8 ?_;refine A8 (A6 ?_);refine A5 J J J (B1 J gU J J) ?_;refine A5 J J J (B2 J gU J J J J) ?_;refine A5 J J J (B7 J J gU gU J) ?_;refine B0 ?_;refine B5 (s:=⟨[(1,_,_),(2,_,_),(4,_,_),(10,_,_)],[(.l 2,_),(.l 4,_),(.o 0,_)],[],[]⟩) (B4 (⟨U J,U J,U J,U J,O⟩) (⟨U J,U J,U J,O⟩) O) ?_;refine B9 J (fun hc=>?_) (fun hc=>?_)
  ·try simp only [nn,B3,nq] at hc
   have hk : t.kids=[]:=(Zh hgd (by omega)).2
   have hE : chT (mpG l) t=⟨t.kind,t.name,mapI l t.name,t.kids⟩:=by rw[Mu,if_pos hc,if_pos hc,hk]; rfl
   refine A8 (A6 ?_);refine A5 J J J (A7 J gU) ?_;refine Bh [⟨.l 2,0,t.cells,(⟨t.kind,t.name,mapI l t.name,t.kids⟩ : T).cells⟩,⟨.o 0,0,tbC R b,tbC R b⟩] [] J J J J J J (ps23 J J) J J (Vv R l b t) J J J ?_
   rw[hE]
   refine B0 ?_;refine A8 (A6 ?_);refine A5 J J J (B8 J gU J J J J J) ?_;refine C3 J (C7 J J J J J J J) ?_;refine B0 ?_;refine C1 ?_
   repeat(first|refine tR ?_|refine bR ?_)
   refine C5 J ?_ (⟨⟨_,rfl,?_⟩,O⟩)
   all_goals rfl
  ·try simp only [nn,B3,nq] at hc
   have hE : chT (mpG l) t=⟨t.kind,t.name,t.sort,t.kids.map (chT (mpG l))⟩:=by rw[Mu,if_neg hc,if_neg hc]
   rw[hE]
   refine C0 ?_;refine A8 (A6 ?_);refine A5 J J J (B1 J gU J J) ?_;refine A5 J J J (B2 J gU J J J J) ?_;refine D9 J J J J J gU J J ?_ (fun hh=>by simp at hh); intro hlen;refine C3 J (Rd (n:=t.kids.length) J J J J J J J (by omega) (by omega) (by omega)) ?_;refine A5 J J J (A9 J gU) ?_;refine B0 ?_;refine B5 (s:=⟨[(1,_,_),(2,_,_),(4,_,_),(5,_,_)],[(.l 17,_),(.l 2,_),(.l 4,_),(.o 0,_)],[],[]⟩) (B4 (⟨U J,U J,U J,U J,O⟩) (⟨U J,U J,U J,U J,O⟩) O) ?_;refine A8 ?_;refine A8 (A6 ?_);refine A5 J J J (B1 J gU J J) ?_;refine A5 J J J (B2 J gU J J J J) ?_;refine D9 J J J J J gU J J ?_ (fun hh=>by simp at hh); intro hlen;refine A5 J J J (A7 J gU) ?_;refine B0 ?_;refine C4 ?_;refine F3 (ι:=Nat) { t:=[(1,_,_),(2,_,_),(4,_,_),(5,_,_),(19,_,_),(20,_,_)],bx:=[(.l 2,_),(.l 4,_),(.o 0,_)],ow:=[] } (fun k=>[(21,true,xi (k : Int))]) (fun k=>[((.l 17),(T.rows (padT ((t.kids.take k).map (chT (mpG l))) t.kids.length)).flatten)]) (fun k=>k≤t.kids.length) (fun k=>t.kids.length - k) (0) (by simp) (B4 (⟨U J,U J,U J,U J,U J,U J,U J,O⟩) (⟨⟨_,rfl,uAw _⟩,⟨U J,U J,U J,O⟩⟩) O) ?_
   intro k hok
   dsimp only [List.cons_append,List.nil_append]
   have hpl : ((t.kids.take k).map (chT (mpG l))).length=k:=by rw[List.length_map,List.length_take]; omega
   have hpn:=uAy (l:=(t.kids.take k).map (chT (mpG l))) (n:=t.kids.length) (by omega)
   refine A8 (A6 ?_);refine A5 J J J (B7 J J gU gU J) ?_;refine B0 ?_;refine A8 ?_;refine B9 J (fun hc2=>?_) (fun hc2=>?_)
   ·try simp only [nn,B3,nq] at hc2
    have hlt : k < t.kids.length:=by omega
    have hmm:=J5 (d:=default) hlt
    have hks:=M5 hmm
    have hT:=I0 (l:=t.kids) (d:=default) hlt
    have hset : I4 (T.rows (padT ((t.kids.take k).map (chT (mpG l))) t.kids.length)).flatten (k * 4) (chT (mpG l) (t.kids.getD k default)).cells=(T.rows (padT ((t.kids.take (k + 1)).map (chT (mpG l))) t.kids.length)).flatten:=by
     have h1:=Xy (l:=(t.kids.take k).map (chT (mpG l))) (n:=t.kids.length) (by omega) (chT (mpG l) (t.kids.getD k default))
     rw[hpl] at h1
     rw[Jg _ _ _ (by omega),h1,hT,List.map_append]; rfl
    refine C0 ?_;refine A8 ?_;refine C4 ?_;refine A8 (A6 ?_);refine A5 J J J (A7 J gU) ?_;refine A5 J J J (C2 J J gU gU J J J (fun hh=>T.rows_at (by first|omega|(simp at hh ⊢; omega)))) ?_;refine A5 J J J (D4 J gU J J J J) ?_;refine C3 J (E1 J J J) ?_;refine A5 J J J (A9 J gU) ?_;refine C3 J (C7 J J J J J J J) ?_;refine B0 ?_;refine B5 (s:=⟨[(1,_,_),(2,_,_),(4,_,_),(5,_,_),(6,_,_),(7,_,_),(19,_,_),(20,_,_),(21,_,_)],[(.l 17,_),(.l 2,_),(.l 4,_),(.l 7,_),(.o 0,_)],[],[]⟩) (B4 (⟨U J,U J,U J,U J,U J,U J,U J,U J,U J,O⟩) (⟨U J,U J,U J,U J,U J,O⟩) O) ?_;refine A6 ?_;refine A5 J J J (A7 J gU) ?_;refine A5 J J J (A7 J gU) ?_;refine A5 J J J (B8 J gU J J J J J) ?_;refine A5 J J J (A7 J gU) ?_;refine Jz (.o 0) J J J J J J (ih (t.kids.getD k default) (by omega) (by omega) (hgk _ hmm)) J J J J J J ?_;refine A5 J J J (L2 J J gU gU J J J (fun _=>by omega)) ?_;refine C3 J (C7 J J J J J J (uAj _ _ _ (by omega))) ?_;refine B0 ?_;refine B5 (s:=⟨[(1,_,_),(2,_,_),(4,_,_),(5,_,_),(19,_,_),(20,_,_),(21,_,_)],[(.l 17,_),(.l 2,_),(.l 4,_),(.o 0,_)],[],[]⟩) (B4 (⟨U J,U J,U J,U J,U J,U J,U J,O⟩) (⟨U J,U J,U J,U J,O⟩) O) ?_
    refine A6 ?_;refine A5 J J J (D0 J J gU gU J (IntWalk.i64_in _ (by omega))) ?_;refine A5 J J J (A7 J gU) ?_;refine B0 ?_;refine ⟨k + 1,?_,?_,B4 (⟨⟨_,rfl,?_⟩,⟨U J,U J,U J,U J,U J,U J,O⟩⟩) (⟨⟨_,rfl,?_⟩,⟨U J,U J,U J,O⟩⟩) O⟩
    all_goals (first|rfl|omega|(rw[Nat.zero_add,hset]; done))
   ·try simp only [nn,B3,nq] at hc2
    have hke : k=t.kids.length:=by omega
    subst hke
    rw[List.take_length,Wm (by rw[List.length_map])]
    refine E2 ?_
    repeat(first|refine D5 ?_|refine D6 ?_|refine D2 J ?_)
    refine A8 (A6 ?_);refine Kx 5 17 (T.rows (t.kids.map (chT (mpG l)))) J J (by rw[T.rows_len,List.length_map]) (by omega) (Ud _) J ?_;refine A5 J J J (A7 J gU) ?_;refine A5 J J J (B1 J gU J J) ?_;refine C3 J (C7 J J J J J J J) ?_;refine B0 ?_;refine A8 (A6 ?_);refine A5 J J J (B8 J gU J J J J J) ?_;refine C3 J (C7 J J J J J J J) ?_;refine B0 ?_;refine C1 ?_
    repeat(first|refine tR ?_|refine bR ?_)
    refine C5 J ?_ (⟨⟨_,rfl,?_⟩,O⟩)
    all_goals rfl
end Go.Proofs.YteidahabkfgfjaaGreat
namespace Go.Abs
variable {Z : Pg}
theorem uCb {P : Program} {o : Oper} {a : Act} {w : World} {K K' : Act→World→Prop} {A B : Act→World→Prop} (h : ∀ a w,K a w→K' a w) (hh : o.wp P a w K (Qn A)) : o.wp P a w K' (Qn B):=by
 unfold Oper.wp at *
 generalize (execOp a.eval o).run P w=r at *
 have hl : LetsOut (Qn A)→LetsOut (Qn B):=fun ⟨_,_,q⟩=>q.elim
 cases r with
 | ok n w' =>
  cases n <;> simp only [Oper.upon] at hh ⊢ <;>
   first
    | exact h _ _ hh
    | exact Calls.mono hh (fun e w'' he=>by cases e <;> first|exact h _ _ he|exact he.elim|exact hl he)
    | exact Rows.mono hh (fun _ _ he=>h _ _ he)
 | halt x w'=>cases x <;> simp only [Oper.upon] at hh ⊢ <;> first|exact hh|exact hh.elim
def Nd (Z : Pg) (N : Nat) (ops : Array Oper) (Q : St→Prop) (fuel : Nat) (listed : Array Bool) (st : St) : Prop :=
 ∀ (E : Env) (G : Gh) (a : Act) (w : World),Rel E G st a w→EOk Z N E→wpAny Z.P .any ops (Qn fun a' w'=>∃ G' st',Q st'∧Rel E G' st' a' w') fuel listed a w
theorem Gy {N : Nat} {ops : Array Oper} {Q : St→Prop} {listed : Array Bool} {st : St} (hr : Region.ready .any ops listed=[]) (h : Q st) : Nd Z N ops Q 0 listed st :=
 fun E G a w hrel _=>⟨hr,G,st,h,hrel⟩
def Zq (Z : Pg) (N : Nat) (ops : Array Oper) (Q : St→Prop) (fuel : Nat) (listed : Array Bool) (st : St) : List Nat→Prop
 | []=>True
 | i :: r=>(∃ o,ops[i]? = some o∧AL Z N ops [o] (Nd Z N ops Q fuel (listed.setIfInBounds i true)) st)∧Zq Z N ops Q fuel listed st r
theorem Re {N : Nat} {ops : Array Oper} {Q : St→Prop} {fuel : Nat} {listed : Array Bool} {st : St} : ∀ {rs : List Nat},Zq Z N ops Q fuel listed st rs → ∀ i ∈ rs,∃ o,ops[i]? = some o∧AL Z N ops [o] (Nd Z N ops Q fuel (listed.setIfInBounds i true)) st
 | [],_,i,hi=>absurd hi (List.not_mem_nil)
 | j :: r,h,i,hi=>by
  rcases List.mem_cons.1 hi with e | e
  ·subst e; exact h.1
  ·exact Re h.2 i e
theorem F5 {N : Nat} {ops : Array Oper} {Q : St→Prop} {fuel : Nat} {listed : Array Bool} {st : St} (i : Nat) (rs : List Nat) (hr : Region.ready .any ops listed=i :: rs) (h : Zq Z N ops Q fuel listed st (i :: rs)) : Nd Z N ops Q (fuel + 1) listed st:=by
 intro E G a w hrel hE
 refine ⟨fun e=>absurd (hr.symm.trans e) (List.cons_ne_nil _ _),fun j hj=>?_⟩
 rw[hr] at hj
 obtain ⟨o,ho,hal⟩:=Re h j hj
 have := hal E G a w hrel hE (wpAny Z.P .any ops (Qn fun a' w'=>∃ G' st',Q st'∧Rel E G' st' a' w') fuel (listed.setIfInBounds j true)) fun st' G' a' w' hn hr'=>hn E G' a' w' hr' hE
 unfold wpList at this
 unfold wpOp
 simp only [ho]
 split
 ·rename_i hw
  rw[if_pos hw] at this
  rcases this with q | q
  ·exact .inl (uCb (fun _ _ q=>q) q)
  ·obtain ⟨_,_,_,q⟩:=q
   exact q.elim
 ·rename_i hw
  rw[if_neg hw] at this
  exact this
theorem uBX {N : Nat} {Q : Exit→St→Prop} {st : St} {id : Nat} {ops : List Oper} (h : Nd Z N ops.toArray (Q .normal) ops.toArray.size (Array.replicate ops.toArray.size false) st) : AWP Z N (.region id ops.toArray true) Q st:=by
 intro E G a w hr hE
 refine wp_mono (wp_region_any Z.mix (h E G a _ hr.drew hE)) ?_
 intro e a' w' hq
 cases e <;> first|exact hq|exact hq.elim
end Go.Abs
namespace Go.Abs
variable {Z : Pg}
def CtrN (Z : Pg) (f : FuncId) (args : List X) (L : Nat) (cs : List C) : Prop :=
 P8 Z f ∧ ∀ (w : World) (G : Gh) (vs : List Value),All2 (XRep w G) args vs→(∀ b o,G.W b o ≠ .none→b < w.heap.size)→(∀ b o n,G.W b o ≠ .box n)→(∀ b o p,G.W b o ≠ .own p)→GlOk Z w G →
  Calls Z.P f vs.toArray w fun e w'=>∃ (v : Value) (G' : Gh) (b o0 cap : Nat),e = .returned v∧Fr (fun _ _=>False) w.heap.size w w' ∧
   (∀ b o,G.W b o = .imm→G'.W b o = .imm)∧(∀ b o,b < w.heap.size→G'.W b o = .imm→G.W b o = .imm)∧(∀ b o,G'.W b o ≠ .none→b < w'.heap.size)∧v = .slice (some ⟨b,o0,none⟩) L cap∧L≤cap∧w.heap.size≤b∧b < w'.heap.size ∧
   ∀ (j : Nat) (c : C),cs[j]? = some c→G'.W b (o0 + j) ≠ .imm∧w'.frozen? ⟨b,o0 + j,none⟩=false ∧ ∃ u,w'.cell? ⟨b,o0 + j,none⟩=some u∧CRep w' G'.S c u
def retN (T : List (Option TyI)) (rs : List ResultVar) (sz L : Nat) (cs : List C) : Exit→St→Prop
 | .normal,s | .ret,s=>∃ j : Nat,s.box (.l j)=some cs∧resX T s rs=some (.v (.ms (.l j) sz 0 L))
 | _,_=>False
theorem Bd {f : FuncId} {fn : Func} {c : Code} {N : Nat} {rs : List ResultVar} {args : List X} (sz : Nat) {L : Nat} {cs : List C} (hL : 0 < L) (hcs : cs≠[])
  (hf : Z.P.funcs[f]? = some fn) (hb : fn.body = some c) (hname : (fn.name == "runtime.NumGoroutine") = false) (hN : fn.ntmps = N) (hrs : fn.results = rs.toArray) (hlen' : Nat.ble args.length N = true)
  (h : AWP Z N c (retN Z.T rs sz L cs) (st0 args [])) (hx : ∀ A,Z.ex A:=by intro _; exact O) : CtrN Z f args L cs:=by
 have hlen : args.length≤N:=Nat.le_of_ble_eq_true hlen'
 refine ⟨⟨fn,hf,by rw[hb]; rfl,hname⟩,?_⟩
 intro w G vs hvs hwf hbox hown hgl
 let E : Env:={ B:=w.heap.size,w0:=w,W0:=G.W,A0:=fun j=>G.A (.o j),nt:=N }
 let a : Act:={ tmps:=vs.toArray++Array.replicate (fn.ntmps - vs.toArray.size) undef,defers:=[] }
 have hal : args.length=vs.length:=hvs.len
 have hrel : Rel E G (st0 args []) a w:={
  df:=rfl
  tm:=by
   intro k g x hk
   obtain ⟨i,y,h1,h2,h3⟩:=Z2 0 args k (g,x) hk
   simp only [Prod.mk.injEq] at h3
   obtain ⟨rfl,rfl⟩:=h3
   obtain ⟨v,hv,hx⟩:=hvs.get i x h2
   have hi : i < vs.length:=(List.getElem?_eq_some_iff.1 hv).1
   refine ⟨v,?_,fun _=>hx,fun hg=>by simp at hg⟩
   show (vs.toArray++_)[k]? = _
   rw[h1,Nat.zero_add,Array.getElem?_append_left (by simpa using hi)]
   simpa using hv
  bx:=by
   intro n cs hn
   obtain ⟨i,h1,h2⟩:=N8 0 [] n cs hn
   rw[h1,Nat.zero_add]
   simp at h2
  ow:=by intro p sz hp; simp [St.own,st0,getO] at hp
  wf:=hwf
  olB:=fun b o n _ hn=>.inl ⟨n,hn⟩
  olO:=fun b o p _ hn=>⟨p,hn⟩
  nt:=by
   show (vs.toArray++Array.replicate (fn.ntmps - vs.toArray.size) undef).size=N
   simp; omega
  oA:=fun _=>rfl
  im:=fun b o h=>h
  im':=fun b o _ h=>.inl h
  fr:=Fr.refl _ _ _
  hB:=Nat.le_refl _
  lo:=fun b o _=>⟨fun n hn=>by exact absurd hn (hbox b o n),fun _ p=>hown b o p⟩
  bd:=fun t k cs hn=>by
   obtain ⟨i,h1,_⟩:=N8 0 [] _ cs hn
   simp at h1
  mp:=fun x hx=>by cases hx }
 refine calls_of_wp hf hb ?_
 have hwp:=h E G a w hrel ⟨rfl,fun _=>rfl,fun g hg=>⟨(hgl g hg).1,(hgl g hg).2.1,fun o hm=>by
  rcases hm with ⟨n,hn⟩ | ⟨p,hp⟩
  ·exact (hgl g hg).2.2.1 o n hn
  ·exact (hgl g hg).2.2.2 o p hp⟩,hx _⟩
 refine wp_mono hwp ?_
 rintro e a' w' ⟨G',s,hq,hr'⟩
 have key : (∃ j : Nat,s.box (.l j)=some cs∧resX Z.T s rs=some (.v (.ms (.l j) sz 0 L))) →
   a'.defers=[] ∧ ∃ v,(results fn a'.tmps).run Z.P w' = .ok v w' ∧ ∃ (u : Value) (G' : Gh) (b o0 cap : Nat),Ending.returned v = .returned u∧Fr (fun _ _=>False) w.heap.size w w' ∧
    (∀ b o,G.W b o = .imm→G'.W b o = .imm)∧(∀ b o,b < w.heap.size→G'.W b o = .imm→G.W b o = .imm)∧(∀ b o,G'.W b o ≠ .none→b < w'.heap.size)∧u = .slice (some ⟨b,o0,none⟩) L cap∧L≤cap∧w.heap.size≤b∧b < w'.heap.size ∧
    ∀ (j : Nat) (c : C),cs[j]? = some c→G'.W b (o0 + j) ≠ .imm∧w'.frozen? ⟨b,o0 + j,none⟩=false ∧ ∃ u,w'.cell? ⟨b,o0 + j,none⟩=some u∧CRep w' G'.S c u:=by
  rintro ⟨j,hbj,hres⟩
  have hbx:=hr'.bx _ _ hbj
  refine ⟨hr'.df,?_⟩
  unfold resX at hres
  have hys : ∃ ys,Z1 Z.T s rs=some ys∧X.v (.ms (.l j) sz 0 L)=Ao ys:=by
   split at hres
   ·rename_i ys hy; simp only [Option.some.injEq] at hres; exact ⟨ys,hy,hres.symm⟩
   ·simp at hres
  obtain ⟨ys,hys,hrb⟩:=hys
  obtain ⟨us,hrun,hall,hone⟩:=T3 hr' hys
  have hresv : ∃ v,(results fn a'.tmps).run Z.P w' = .ok v w'∧XRep w' G' (Ao ys) v:=by
   have hr0 : (results fn a'.tmps).run Z.P w' = .ok (if h : us.toArray.size=1 then us.toArray[0] else .tuple us.toArray) w':=by
    rw[Av,hrs,List.mapM_toArray]
    simp only [Sem.run_bind,Sem.run_map,hrun,Result.andThen_ok,Sem.run_pure]
   exact ⟨_,hr0,Jo hall⟩
  obtain ⟨v,hv1,hv2⟩:=hresv
  refine ⟨v,hv1,?_⟩
  have hfr : Fr (fun _ _=>False) w.heap.size w w':=hr'.fr.mono (Nat.le_refl _) fun b o _ hm=>by
   rcases hm with ⟨n,hn⟩ | ⟨p,hp⟩
   ·exact absurd hn (hbox b o n)
   ·exact absurd hp (hown b o p)
  let G2 : Gh:={ A:=G'.A,W:=fun b o=>match G'.W b o with | .imm=>.imm | _=>.none }
  have hS : ∀ b o,G'.S b o→G2.S b o:=fun b o hs=>by unfold Gh.S at *; simp [G2,hs]
  have hI : ∀ b o,G2.W b o = .imm→G'.W b o = .imm:=fun b o hi=>by
   simp only [G2] at hi
   split at hi
   ·assumption
   ·simp at hi
  rw[← hrb] at hv2
  have hv3 : ∃ cap,L≤cap∧v = .slice (some ⟨(G'.A (.l j)).1,(G'.A (.l j)).2 + 0,none⟩) L cap:=by
   rcases hv2 with ⟨h0,_⟩ | h
   ·omega
   ·exact h
  obtain ⟨cap,hcap,hv4⟩:=hv3
  obtain ⟨c0,hc0⟩ : ∃ c,cs[0]? = some c:=by
   cases cs with
   | nil=>exact absurd J hcs
   | cons c r=>exact ⟨c,rfl⟩
  have hb0:=(hbx 0 c0 hc0).1
  refine ⟨v,G2,(G'.A (.l j)).1,(G'.A (.l j)).2,cap,rfl,hfr,fun b o hi=>hS b o (hr'.im b o hi),fun b o hb hi=>?_,fun b o hn=>?_,by rw[hv4]; rfl,hcap,?_,?_,fun k c hk=>?_⟩
  ·rcases hr'.im' b o hb (hI b o hi) with h1 | ⟨p,hp⟩
   ·exact h1
   ·exact absurd hp (hown b o p)
  ·refine hr'.wf b o ?_
   intro he; apply hn; simp [G2,he]
  ·refine Nat.le_of_not_lt fun hlt=>?_
   obtain ⟨i,hi⟩:=(hr'.lo _ _ hlt).1 _ hb0
   cases hi
  ·exact hr'.wf _ _ (by rw[hb0]; simp)
  ·obtain ⟨h1,h2,u,h3,h4⟩:=hbx k c hk
   refine ⟨fun hi=>?_,h2,u,h3,h4.mono hS fun _ _ _=>rfl⟩
   have := hI _ _ hi
   rw[h1] at this; cases this
 cases e <;> first
  | exact key hq
  | exact hq.elim
theorem I9 {N : Nat} {ops : Array Oper} {rest : List Oper} {K : St→Prop} {st : St} {o : Oper} {d : Nat} {fo : Operand} {args : Array Operand} {ts : Array TypeId} {f : FuncId} {xs : List X} (sz : Nat) {L : Nat} {cs : List C}
  (ho : o.op = .call { callee:=.value fo,args:=args,argTypes:=ts }) (hg : G8 ops st o=some true) (hd : o.dst=some d) (hN : Nat.ble (d + 1) N=true)
  (hf : lk Z.T st 0 fo=some (true, .fn f [])) (ha : M2 Z.T st ts.toList args.toList=some (true,xs)) (hfr0 : st.freshO (.l d,true)=true)
  (hs : CtrN Z f xs L cs) (h : AL Z N ops rest K ((st.addBox (.l d) cs).put d (true, .v (.ms (.l d) sz 0 L)))) : AL Z N ops (o :: rest) K st:=by
 intro E G a w hr hE K' hK
 have hfr1 : FreshG st (.l d,true):=St.freshO_ok hfr0
 have hdN : d < E.nt:=by rw[hE.nt]; exact Nat.le_of_ble_eq_true hN
 unfold wpList
 rw[J6 hr hg,if_pos J]
 refine .inl ?_
 obtain ⟨cvs,hfv,hcv⟩:=F4 hr hf rfl
 have hcv0 : cvs=[]:=by cases cvs with
  | nil=>rfl
  | cons _ _=>exact hcv.elim
 subst hcv0
 have hav:=P5 hr ha J
 obtain ⟨hen,hsp⟩:=hs
 unfold Oper.wp
 rw[U1 ho hfv hen,Oper.upon_enter,List.append_nil]
 have hmono : ∀ {x : X} {v : Value},XRep w G x v→XRep w G.pure x v:=fun hx=>hx.mono (fun b o hs=>(G.pure_imm b o).2 hs) (fun _ _ _=>rfl) (fun _ _=>rfl)
 refine (hsp w G.pure _ (hav.mono fun _ _=>hmono) ?_ ?_ ?_ ((hE.at hr).pure)).mono ?_
 ·intro b o' hb
  refine hr.wf b o' ?_
  intro e; apply hb; unfold Gh.pure; simp [e]
 ·intro b o' n hn; rcases G.pure_cases b o' with h' | h' <;> rw[h'] at hn <;> simp at hn
 ·intro b o' p hn; rcases G.pure_cases b o' with h' | h' <;> rw[h'] at hn <;> simp at hn
 ·rintro e w' ⟨v,G',b,o0,cap,rfl,hfr,h1,h2,h3,hv,hcap,hb1,hb2,hcells⟩
  dsimp only
  have g2 : ∀ b o',b < w.heap.size→G'.W b o' = .imm→G.W b o' = .imm:=fun b o' hb hi=>(G.pure_imm b o').1 (h2 b o' hb hi)
  let G2:=G.back G' w.heap.size .none
  let G3 : Gh:={ A:=fun m=>if m = .l d then (b,o0) else G.A m,W:=fun b' o'=>if b'=b∧o0≤o'∧o' < o0 + cs.length then .box (.l d) else G2.W b' o' }
  have hnb : ∀ b',b' < w.heap.size → ¬ b'=b:=fun b' hb' e=>by omega
  have hS3 : ∀ b' o',G'.S b' o'→G3.S b' o':=fun b' o' hs=>by
   unfold Gh.S at *
   dsimp only [G3]
   rw[if_neg]
   ·exact Gh.back_imm g2 b' o' hs
   ·rintro ⟨e1,e2,e3⟩
    subst e1
    obtain ⟨k,rfl⟩ : ∃ k,o'=o0 + k:=⟨o' - o0,by omega⟩
    exact (hcells k _ (List.getElem?_eq_getElem (by omega))).1 hs
  have hrel : Rel E G3 (st.addBox (.l d) cs) a w':=by
   refine Rel.addBox ?_ ?_ J
   ·refine (hr.sub (St.drop_sub _ (.l d))).grow hfr ?_ (St.drop_same (st:=st) J (fun k g x hk=>hfr1.1 J k g x hk) _ _) ?_
    ·intro b' o' hb'
     dsimp only [G3]
     rw[if_neg (fun q=>hnb b' hb' q.1)]
     simp [G2,Gh.back,hb']
    ·intro b' o' hne
     dsimp only [G3] at hne
     split at hne
     ·rename_i q; rw[q.1]; exact hb2
     ·dsimp only [G2,Gh.back] at hne
      split at hne
      ·rename_i hlt; exact Nat.lt_of_lt_of_le hlt hfr.size
      ·refine h3 b' o' ?_
       intro e; rw[e] at hne; simp at hne
   ·intro k c hk
    obtain ⟨q1,q2,u,q3,q4⟩:=hcells k c hk
    have hkl : k < cs.length:=(List.getElem?_eq_some_iff.1 hk).1
    have hA : G3.A (.l d)=(b,o0):=by dsimp only [G3]; rw[if_pos J]
    rw[hA]
    refine ⟨?_,q2,u,q3,q4.mono hS3 fun _ _ _=>rfl⟩
    dsimp only [G3]
    rw[if_pos ⟨rfl,by omega,by omega⟩]
  have hput:=hrel.put hdN (g:=true) (x:=.v (.ms (.l d) sz 0 L)) (v:=v) (fun _=>.inr ⟨cap,hcap,by rw[hv]; dsimp only [G3]; rw[if_pos J]; rfl⟩) (fun hf=>by simp at hf)
  rw[hd]
  exact h E G3 _ _ hput hE K' hK
theorem Lx {N : Nat} {ops : Array Oper} {rest : List Oper} {K : St→Prop} {st : St} (k m : Nat) {sz : Nat} (hs : st.get k=some (true, .v (.c (.sl sz [])))) (hw : st.own (.t k)=some sz) (hfr : st.freshO (.l m,true)=true) (h : AL Z N ops rest K (st.thw k m sz)) : AL Z N ops rest K st:=fun E G a w hr hE=>by
 obtain ⟨G',h'⟩:=hr.thaw hs hw (St.freshO_ok hfr)
 exact h E G' a w h' hE
end Go.Abs
namespace Go.Proofs.YteidahabkfgfjaaGreat
open Go Go.Abs
theorem X4 (l : List (List UInt8)) (h : l.length≤100000) : Ctr sys 90 [.v (.c (.sl 1 (strR l)))] [] (.v (.c (.sl 1 (strR l)))) none []:=by
 have hr : (strR l).length≤100000:=by rw[B3]; exact h
 refine D1 Tryz.func90 J J J J J J ?_;refine A8 (A6 ?_);refine C3 J (H4 (.inr J) J J) ?_;refine B0 ?_;refine A8 ?_;refine A8 (A6 ?_);refine A5 J J J (A7 J gU) ?_;refine Y7 J J J J J J J J (fun b hb=>?_);refine B0 ?_;refine B9 J (fun hc=>?_) (fun hc=>?_)
 ·refine A8 (A6 ?_)
  refine C3 J (H4 (.inr J) J J) ?_;refine B0 ?_;refine C1 ?_
  repeat(first|refine tR ?_|refine bR ?_)
  refine C5 J ?_ O
  have := hb hc
  exact congrArg (fun z=>X.v (.c (.sl 1 z))) this.symm
 ·refine C0 ?_
  refine A8 (A6 ?_);refine E8 (xs:=[]) J J J J J J J J J gU J ?_;refine A5 J J J (A7 J gU) ?_;refine C3 J (F7 J J J J J J J (by simp; omega) (by simp; omega)) ?_;refine C3 J (F2 (.inr J) J J J) ?_;refine B0 ?_;refine C1 ?_
  repeat(first|refine tR ?_|refine bR ?_)
  refine C5 J ?_ O
  rfl
theorem Ge (l : List Fs) (h : l.length≤100000) : Ctr sys 91 [.v (.c (.sl 3 (Fs.rows l)))] [] (.v (.c (.sl 3 (Fs.rows l)))) none []:=by
 have hr : (Fs.rows l).length≤100000:=by rw[Fs.rows_len]; exact h
 refine D1 Tryz.func91 J J J J J J ?_;refine A8 (A6 ?_);refine C3 J (H4 (.inr J) J J) ?_;refine B0 ?_;refine A8 ?_;refine A8 (A6 ?_);refine A5 J J J (A7 J gU) ?_;refine Y7 J J J J J J J J (fun b hb=>?_);refine B0 ?_;refine B9 J (fun hc=>?_) (fun hc=>?_)
 ·refine A8 (A6 ?_)
  refine C3 J (H4 (.inr J) J J) ?_;refine B0 ?_;refine C1 ?_
  repeat(first|refine tR ?_|refine bR ?_)
  refine C5 J ?_ O
  have := hb hc
  exact congrArg (fun z=>X.v (.c (.sl 3 z))) this.symm
 ·refine C0 ?_
  refine A8 (A6 ?_);refine E8 (xs:=[]) J J J J J J J J J gU J ?_;refine A5 J J J (A7 J gU) ?_;refine C3 J (F7 J J J J J J J (by simp; omega) (by simp; omega)) ?_;refine C3 J (F2 (.inr J) J J J) ?_;refine B0 ?_;refine C1 ?_
  repeat(first|refine tR ?_|refine bR ?_)
  refine C5 J ?_ O
  rfl
theorem Mk : Ctr sys 93 [.v (.c (.sl 5 []))] [] (.v (.c (.sl 5 []))) none []:=by
 refine D1 Tryz.func93 J J J J J J ?_;refine A8 (A6 ?_);refine C3 J (H4 (.inr J) J J) ?_;refine B0 ?_;refine A8 ?_;refine A8 (A6 ?_);refine A5 J J J (A7 J gU) ?_;refine Y7 J J J J J J J J (fun b hb=>?_);refine B0 ?_;refine B9 J (fun hc=>?_) (fun hc=>?_)
 ·refine A8 (A6 ?_)
  refine C3 J (H4 (.inr J) J J) ?_;refine B0 ?_;refine C1 ?_
  repeat(first|refine tR ?_|refine bR ?_)
  refine C5 J ?_ O
  rfl
 ·refine C0 ?_
  refine A8 (A6 ?_);refine E8 (xs:=[]) J J J J J J J J J gU J ?_;refine A5 J J J (A7 J gU) ?_;refine C3 J (F7 J J J J J J J (by simp) (by simp)) ?_;refine C3 J (F2 (.inr J) J J J) ?_;refine B0 ?_;refine C1 ?_
  repeat(first|refine tR ?_|refine bR ?_)
  refine C5 J ?_ O
  rfl
theorem Gb (l : List Sp) (h : l.length≤100000) (h0 : l≠[]) : CtrN sys 92 [.v (.c (.sl 7 (Sp.rows l)))] l.length (Sp.rows l).flatten:=by
 have hr : (Sp.rows l).length=l.length:=Sp.rows_len l
 have hp : 0 < l.length:=List.length_pos_iff.2 h0
 have hf : (Sp.rows l).flatten≠[]:=by
  cases l with
  | nil=>exact absurd J h0
  | cons x r=>intro q; have := congrArg List.length q; simp [Sp.rows,Sp.cells] at this
 refine Bd 7 (hp) (hf) Tryz.func92 J J J J J ?_;refine A8 (A6 ?_);refine C3 J (H4 (.inr J) J J) ?_;refine B0 ?_;refine A8 ?_;refine A8 (A6 ?_);refine A5 J J J (A7 J gU) ?_;refine Y7 J J J J J J J J (fun b hb=>?_);refine B0 ?_;refine B9 J (fun hc=>?_) (fun hc=>?_)
 ·exfalso
  have := congrArg List.length (hb hc)
  rw[hr] at this; simp at this; exact h0 this
 ·refine C0 ?_
  refine A8 (A6 ?_);refine E8 (xs:=[]) J J J J J J J J J gU J ?_;refine A5 J J J (A7 J gU) ?_;refine Lx 5 5 J J J ?_;refine Bm 7 J J J J J J J J J J J J J (by simp) (by omega) (by simp; omega) (by omega) ?_
  rw[Nat.zero_add,hr]
  trace_state
  refine C3 J (F2 (.inr J) J J J) ?_;refine B0 ?_;refine C1 ?_
  repeat(first|refine tR ?_|refine bR ?_)
  refine ⟨7,rfl,?_⟩
  rfl
theorem Ou (l : List Gl) (h : l.length≤100000) (h0 : l≠[]) : CtrN sys 93 [.v (.c (.sl 5 (Gl.rows l)))] l.length (Gl.rows l).flatten:=by
 have hr : (Gl.rows l).length=l.length:=Gl.rows_len l
 have hp : 0 < l.length:=List.length_pos_iff.2 h0
 have hf : (Gl.rows l).flatten≠[]:=by
  cases l with
  | nil=>exact absurd J h0
  | cons x r=>intro q; have := congrArg List.length q; simp [Gl.rows,Gl.cells] at this
 refine Bd 5 (hp) (hf) Tryz.func93 J J J J J ?_;refine A8 (A6 ?_);refine C3 J (H4 (.inr J) J J) ?_;refine B0 ?_;refine A8 ?_;refine A8 (A6 ?_);refine A5 J J J (A7 J gU) ?_;refine Y7 J J J J J J J J (fun b hb=>?_);refine B0 ?_;refine B9 J (fun hc=>?_) (fun hc=>?_)
 ·exfalso
  have := congrArg List.length (hb hc)
  rw[hr] at this; simp at this; exact h0 this
 ·refine C0 ?_
  refine A8 (A6 ?_);refine E8 (xs:=[]) J J J J J J J J J gU J ?_;refine A5 J J J (A7 J gU) ?_;refine Lx 5 5 J J J ?_;refine Bm 7 J J J J J J J J J J J J J (by simp) (by omega) (by simp; omega) (by omega) ?_
  rw[Nat.zero_add,hr]
  trace_state
  refine C3 J (F2 (.inr J) J J J) ?_;refine B0 ?_;refine C1 ?_
  repeat(first|refine tR ?_|refine bR ?_)
  refine ⟨7,rfl,?_⟩
  rfl
theorem Rr (l : List T) (h : l.length≤100000) (h0 : l≠[]) : CtrN sys 95 [.v (.c (.sl 4 (T.rows l)))] l.length (T.rows l).flatten:=by
 have hr : (T.rows l).length=l.length:=T.rows_len l
 have hp : 0 < l.length:=List.length_pos_iff.2 h0
 have hf : (T.rows l).flatten≠[]:=by
  cases l with
  | nil=>exact absurd J h0
  | cons x r=>intro q; have := congrArg List.length q; simp [T.rows_eq,T.cells] at this
 refine Bd 4 (hp) (hf) Tryz.func95 J J J J J ?_;refine A8 (A6 ?_);refine C3 J (H4 (.inr J) J J) ?_;refine B0 ?_;refine A8 ?_;refine A8 (A6 ?_);refine A5 J J J (A7 J gU) ?_;refine Y7 J J J J J J J J (fun b hb=>?_);refine B0 ?_;refine B9 J (fun hc=>?_) (fun hc=>?_)
 ·exfalso
  have := congrArg List.length (hb hc)
  rw[hr] at this; simp at this; exact h0 this
 ·refine C0 ?_
  refine A8 (A6 ?_);refine E8 (xs:=[]) J J J J J J J J J gU J ?_;refine A5 J J J (A7 J gU) ?_;refine Lx 5 5 J J J ?_;refine Bm 7 J J J J J J J J J J J J J (by simp) (by omega) (by simp; omega) (by omega) ?_
  rw[Nat.zero_add,hr]
  trace_state
  refine C3 J (F2 (.inr J) J J J) ?_;refine B0 ?_;refine C1 ?_
  repeat(first|refine tR ?_|refine bR ?_)
  refine ⟨7,rfl,?_⟩
  rfl
end Go.Proofs.YteidahabkfgfjaaGreat
namespace Go.Abs
variable {Z : Pg}
theorem CtrN.wk {Z Z' : Pg} {f : FuncId} {args : List X} {L : Nat} {cs : List C} (hP : Z'.P=Z.P) (hg : ∀ g ∈ Z.gv,g ∈ Z'.gv) (h : CtrN Z f args L cs) : CtrN Z' f args L cs:=by
 obtain ⟨⟨fn,h1,h2,h3⟩,h4⟩:=h
 refine ⟨⟨fn,by rw[hP]; exact h1,h2,h3⟩,fun w G vs a b c d e=>?_⟩
 rw[hP]
 exact h4 w G vs a b c d fun x hx=>e x (hg x hx)
theorem Lm {N : Nat} {α : Type} {c : Code} {Q : Exit→St→Prop} {st : St} {id : Nat} {ops : List Oper} (S : α→St) (rest : ∀ x,AWP Z N c Q (S x)) (h : Nd Z N ops.toArray (fun s=>∃ x,Sub (S x) s) ops.toArray.size (Array.replicate ops.toArray.size false) st) : AWP Z N (.seq (.region id ops.toArray true) c) Q st :=
 A8 (Rp (uBX (Q:=fun e s=>match e with | .normal=>∃ x,Sub (S x) s | _=>False) h) fun e s hq=>by
  cases e with
  | normal=>obtain ⟨x,hs⟩:=hq; exact B5 hs (rest x)
  | _=>exact hq.elim)
theorem Uh {N : Nat} {α : Type} {ops : Array Oper} {Q : St→Prop} {F : Nat} {listed0 : Array Bool} {st0 : St} (f : Nat) (L : Array Bool) (S : α→St) (tail : ∀ x,Nd Z N ops Q f L (S x)) (h : (∀ (x : α) {listed : Array Bool} {st : St},listed=L→Sub (S x) st→Nd Z N ops Q f listed st)→Nd Z N ops Q F listed0 st0) : Nd Z N ops Q F listed0 st0 :=
 h fun x {listed st} hl hs=>by subst hl; exact fun E G a w hr hE=>tail x E G a w (hr.sub hs) hE
end Go.Abs
namespace Go.Abs
variable {Z : Pg}
theorem Jq {st : St} {ty : TypeId} {gate : Bool} {t : TypeId} {x : Operand} {g : Bool} {n m : Nm} {off j sz o1 len : Nat} {ti : TyI} {cs : List C} {u : Value} (h : lk Z.T st ty x=some (g, .v (.ptr n off))) (hg : gate=true→g=true)
  (ht : tyAt Z.T t=some ti) (hagg : ti.agg=false) (hb : st.box n=some cs) (hc : cs[off]? = some (.o u)) (hj : st.get j=some (true, .v (.msv m sz o1 len u))) : PureOk Z st (.load t x) ty gate (.v (.ms m sz o1 len)):=by
 intro o E G a w ho hn hr hgt
 obtain ⟨v,hv,hrun⟩:=B2 h hg ht hagg hb hc o E G a w ho hn hr hgt
 refine ⟨v,?_,hrun⟩
 have e : v=u:=by cases hv; rfl
 subst e
 obtain ⟨vj,_,h1,_⟩:=hr.tm j true _ hj
 obtain ⟨e2,cap,h3,h4⟩:=h1 rfl
 rw[← e2]
 exact .inr ⟨cap,h3,h4⟩
section
variable {N : Nat} {st s0 : St} {ops : Array Oper} {B : List Nat} {k : Nat} {rest : List Oper} {acc : List Lnk} {o : Oper} {Q : St→Prop} {d : Nat} {gate : Bool}
def Px (ops : Array Oper) (o : Oper) (n : Nm) (j : Nat) : Foot:={ rt:=j :: Uc ops o,rb:=[n],ro:=[] }
theorem Y1 (j : Nat) {t : TypeId} {x : Operand} {g0 g : Bool} {n m : Nm} {off sz o1 len : Nat} {ti : TyI} {cs : List C} {u : Value} (hk : ops[k]? = some o) (ho : o.op = .load t x) (h0 : lk Z.T st o.type x=some (g0, .v (.ptr n off))) (hg : G8 ops (rs (Px ops o n j) st) o=some gate) (hd : o.dst=some d) (hN : Nat.ble (d + 1) N=true)
  (h : lk Z.T (rs (Px ops o n j) st) o.type x=some (g, .v (.ptr n off))) (hgg : gate=true→g=true) (ht : tyAt Z.T t=some ti) (hagg : ti.agg=false) (hb : (rs (Px ops o n j) st).box n=some cs) (hc : cs[off]? = some (.o u)) (hj : (rs (Px ops o n j) st).get j=some (true, .v (.msv m sz o1 len u)))
  (hr : Draw Z N s0 ops B (k + 1) rest (acc++[(k,{ d:=some (d,gate, .v (.ms m sz o1 len)),drop:=[.t d] },Px ops o n j)]) (ap { d:=some (d,gate, .v (.ms m sz o1 len)),drop:=[.t d] } st) Q) : Draw Z N s0 ops B k (o :: rest) acc st Q :=
 let _:=h0; Q3 hk (Gx hg hd hN (by rw[ho]; exact Jq h hgg ht hagg hb hc hj)) hr
end
theorem Rel.setBox {E : Env} {G : Gh} {st : St} {a : Act} {w : World} {n : Nm} {cs : List C} (h : Rel E G st a w) (hb : R8 w G n cs) (hnb : n.isBd=false) : Rel E G { st with bx:=(n,cs) :: st.bx } a w where
 df:=h.df
 tm:=h.tm
 bx:=by
  intro m ds hm
  have : St.box { st with bx:=(n,cs) :: st.bx } m=if n=m then some cs else st.box m:=G6 _ _ _ _
  rw[this] at hm
  split at hm
  ·rename_i he; subst he; simp at hm; subst hm; exact hb
  ·exact h.bx m ds hm
 ow:=h.ow
 wf:=h.wf
 olB:=h.olB
 olO:=h.olO
 nt:=h.nt
 oA:=h.oA
 im:=h.im
 im':=h.im'
 fr:=h.fr
 hB:=h.hB
 lo:=h.lo
 bd:=by
  intro t k ds hm hne
  have : St.box { st with bx:=(n,cs) :: st.bx } (.bd t k)=if n = .bd t k then some cs else st.box (.bd t k):=G6 _ _ _ _
  rw[this] at hm
  split at hm
  ·rename_i he; subst he; simp [Nm.isBd] at hnb
  ·exact h.bd t k ds hm hne
 mp:=h.mp
theorem Km (cs : List C) (off : Nat) (c : C) : I4 cs off [c]=cs.set off c:=rfl
theorem Rel.frzIn {E : Env} {G : Gh} {st : St} {a : Act} {w : World} (h : Rel E G st a w) {k m sz L off : Nat} {u : Value} {n : Nm} {cs : List C} {es : List (List C)} (hs : st.get k=some (true, .v (.msv (.l m) sz 0 L u)))
  (hb : st.box (.l m)=some es.flatten) (hL : es.length=L) (hm : L≤9223372036854775807) (hrow : ∀ (i : Nat) (row : List C),es[i]? = some row→row.length=sz) (hf : FreshG st (.l m,false)) (hn : st.box n=some cs) (hnm : Nm.beq (.l m) n=false) (hc : cs[off]? = some (.o u)) (hnb : n.isBd=false) :
  ∃ G',Rel E G' { st.frz k m sz es with bx:=(n,I4 cs off [.sl sz es]) :: (st.frz k m sz es).bx } a w:=by
 obtain ⟨v,hv1,hv2,_⟩:=h.tm k true _ hs
 obtain ⟨e1,cap,hcap,hv3⟩:=hv2 rfl
 have h0 : Rel E G (st.same k (.l m) sz 0 L) a w:=by
  refine { df:=h.df,tm:=?_,bx:=h.bx,ow:=h.ow,wf:=h.wf,olB:=h.olB,olO:=h.olO,nt:=h.nt,oA:=h.oA,im:=h.im,im':=h.im',fr:=h.fr,hB:=h.hB,lo:=h.lo,bd:=h.bd,mp:=h.mp }
  intro j g x hj
  have e : (st.same k (.l m) sz 0 L).get j=if k=j then some (true, .v (.ms (.l m) sz 0 L)) else st.get j:=J9 _ _ _ _
  rw[e] at hj
  split at hj
  ·rename_i q; subst q
   simp only [Option.some.injEq,Prod.mk.injEq] at hj
   obtain ⟨rfl,rfl⟩:=hj
   exact ⟨v,hv1,fun _=>.inr ⟨cap,hcap,hv3⟩,fun q=>by cases q⟩
  ·exact h.tm j g x hj
 have hfz:=h0.freeze (k:=k) (m:=m) (sz:=sz) (L:=L) (es:=es) (by
  show getT ((k,true,_) :: st.t) k=_
  rw[J9,if_pos J]) hb hL hm hrow (by
   exact ⟨fun q=>(by cases q),hf.2⟩)
 have hsub : Sub (st.frz k m sz es) ((st.same k (.l m) sz 0 L).frz k m sz es):=by
  refine ⟨fun j x hj=>?_,fun _ _ hb=>hb,fun _ _ ho=>ho, .inr J⟩
  have e1 : (st.frz k m sz es).get j=if k=j then some (true, .v (.c (.sl sz es))) else st.get j:=J9 _ _ _ _
  have e2 : ((st.same k (.l m) sz 0 L).frz k m sz es).get j=if k=j then some (true, .v (.c (.sl sz es))) else (st.same k (.l m) sz 0 L).get j:=J9 _ _ _ _
  have e3 : (st.same k (.l m) sz 0 L).get j=if k=j then some (true, .v (.ms (.l m) sz 0 L)) else st.get j:=J9 _ _ _ _
  rw[e1] at hj
  rw[e2]
  split
  ·rename_i q; rw[if_pos q] at hj; exact hj
  ·rename_i q; rw[if_neg q] at hj; rw[e3,if_neg q]; exact hj
 refine ⟨_,(hfz.sub hsub).setBox ?_ hnb⟩
 have hbn : (st.frz k m sz es).box n=some cs:=by
  have e : (st.frz k m sz es).box n=if (Nm.l m)=n then some [] else st.box n:=G6 _ _ _ _
  rw[e,if_neg]
  ·exact hn
  ·intro q; rw[q,Nm.beq_self] at hnm; cases hnm
 have hold:=(hfz.sub hsub).bx n cs hbn
 have htk:=(hfz.sub hsub).tm k true (.v (.c (.sl sz es))) (by
  show getT ((k,true,_) :: st.t) k=_
  rw[J9,if_pos J])
 obtain ⟨v2,hw1,hw2,_⟩:=htk
 have e2 : v2=v:=by rw[hv1] at hw1; exact (Option.some.inj hw1).symm
 have hslr:=hw2 J
 rw[e2,e1] at hslr
 have hoff : off < cs.length:=(List.getElem?_eq_some_iff.1 hc).1
 intro j c hj
 by_cases q : j=off
 ·subst q
  obtain ⟨p1,p2,v3,p3,p4⟩:=hold j _ hc
  have e3 : v3=u:=by cases p4; rfl
  subst e3
  have ec : c = .sl sz es:=by
   have : (I4 cs j [C.sl sz es])[j]? = some (.sl sz es):=by
    rw[Km]; simp [hoff]
   rw[this] at hj; exact (Option.some.inj hj).symm
  subst ec
  exact ⟨p1,p2,v3,p3,hslr⟩
 ·have : (I4 cs off [C.sl sz es])[j]? = cs[j]? := by
   rw[Km,List.getElem?_set,if_neg (fun e=>q e.symm)]
  rw[this] at hj
  exact hold j c hj
theorem Fi {N : Nat} {c : Code} {Q : Exit→St→Prop} {st : St} (k m : Nat) (n : Nm) (off : Nat) {sz L : Nat} {u : Value} {cs : List C} (es : List (List C)) (hs : st.get k=some (true, .v (.msv (.l m) sz 0 L u)))
  (hb : st.box (.l m)=some es.flatten) (hL : es.length=L) (hm : L≤9223372036854775807) (hrow : ∀ (i : Nat) (row : List C),es[i]? = some row→row.length=sz) (hfo : st.freshO (.l m,false)=true) (hn : st.box n=some cs) (hnm : Nm.beq (.l m) n=false) (hc : cs[off]? = some (.o u)) (hnb : n.isBd=false)
  (h : AWP Z N c Q { st.frz k m sz es with bx:=(n,I4 cs off [.sl sz es]) :: (st.frz k m sz es).bx }) : AWP Z N c Q st:=fun E G a w hr hE=>by
 obtain ⟨G',h'⟩:=hr.frzIn hs hb hL hm hrow (St.freshO_ok hfo) hn hnm hc hnb
 exact h E G' a w h' hE
end Go.Abs
namespace Go.Proofs.YteidahabkfgfjaaGreat
open Go Go.Abs
theorem uAh {n : Nar} (hnd : (H0 n).Nodup) {s : List UInt8} (h : (H0 n).contains s=true) : (srtL n).getD (ixS (H0 n) s).toNat 0=mapI (nmsL n) s∧(ixS (H0 n) s).toNat < (srtL n).length∧0≤ixS (H0 n) s:=by
 have h0 : 0≤ixS (H0 n) s:=(Cd _ _).2 h
 obtain ⟨m1,m2⟩:=Sb (l:=nmsL n) (k:=s) hnd h0
 exact ⟨m1.symm,by rw[srtL,List.length_map]; exact m2,h0⟩
theorem Ek (n : Nar) (h1 : n.roles.length≤900000) (h2 : n.fresh.length≤900000) (h4 : n.tags.length≤900000) (hnd : (H0 n).Nodup) : ∀ (m : Nat) (t : T),t.size≤m→m≤900000→knT (H0 n) t=true→Ctr sys 58 [xn n,xm t] [] (xm (chT (srtG n) t)) none []:=by
 intro m
 induction m with
 | zero=>intro t h; have := t.size_pos; omega
 | succ m ih =>
  intro t ht hm hkn
  have hr:=T.rows_len t.kids
  have hls:=T.len_sizes t.kids
  have hse:=t.size_eq
  rw[Mj,Bool.and_eq_true] at hkn
  have hkk : ∀ x ∈ t.kids,knT (H0 n) x=true:=List.all_eq_true.1 hkn.2
  refine D1 Tryz.func58 J J J J J J ?_;refine A8 (A6 ?_);refine C3 J (D8 J J J J) ?_;refine C3 J (D8 J J J J) ?_;refine C3 J (E1 J J J) ?_;refine B0 ?_;refine A8 ?_;refine A8 (A6 ?_);refine A5 J J J (B1 J gU J J) ?_;refine A5 J J J (B2 J gU J J J J) ?_;refine A5 J J J (B7 J J gU gU J) ?_;refine B0 ?_;refine B5 (s:=⟨[(2,_,_),(3,_,_),(4,_,_),(11,_,_)],[(.l 2,_),(.l 3,_),(.l 4,_)],[],[]⟩) (B4 (⟨U J,U J,U J,U J,O⟩) (⟨U J,U J,U J,O⟩) O) ?_;refine B9 J (fun hc=>?_) (fun hc=>?_)
  ·try simp only [nn,B3,D3,nq] at hc
   have hkey : (H0 n).contains t.name=true:=by
    have := hkn.1
    simp only [Bool.or_eq_true,decide_eq_true_eq] at this
    rcases this with q | q
    ·exact absurd hc q
    ·exact q
   obtain ⟨k1,k2,k3⟩:=uAh hnd hkey
   refine A8 (A6 ?_);refine A5 J J J (B8 J gU J J J J J) ?_;refine C8 J J J J J J gU gU (Bs n h1 h2 h4) J ?_;refine A5 J J J (A7 J gU) ?_;refine A5 J J J (C6 J gU J) ?_;refine A5 J J J (C6 J gU J) ?_;refine A5 J J J (A9 J gU) ?_;refine A5 J J J (A9 J gU) ?_;refine B0 ?_;refine B5 (s:=⟨[(2,_,_),(3,_,_),(4,_,_),(5,_,_),(6,_,_)],[(.l 2,_),(.l 3,_),(.l 4,_)],[],[]⟩) (B4 (⟨U J,U J,U J,U J,U J,O⟩) (⟨U J,U J,U J,O⟩) O) ?_;refine A6 ?_;refine A5 J J J (A7 J gU) ?_;refine A5 J J J (A7 J gU) ?_;refine A5 J J J (B1 J gU J J) ?_;refine A5 J J J (B2 J gU J J J J) ?_;refine C8 J J J J J J gU gU (R4 _ _) J ?_;refine A5 J J J (C2 (j:=(ixS (H0 n) t.name).toNat) J J gU gU J J (by first|omega|(simp at hh ⊢; omega)) (fun hh=>Me (by first|omega|(simp at hh ⊢; omega)))) ?_;refine A5 J J J (E3 J gU J J J) ?_;refine A5 J J J (B1 J gU J J) ?_;refine C3 J (C7 J J J J J J J) ?_;refine B0 ?_;refine B5 (s:=⟨[(2,_,_),(3,_,_),(4,_,_)],[(.l 2,_),(.l 3,_),(.l 4,_)],[],[]⟩) (B4 (⟨U J,U J,U J,O⟩) (⟨U J,U J,U J,O⟩) O) ?_
   refine A8 (A6 ?_);refine C3 J (H4 (.inr J) J J) ?_;refine B0 ?_;refine A8 ?_;refine A8 (A6 ?_);refine A5 J J J (A9 J gU) ?_;refine B0 ?_;refine C4 ?_;refine F3 (ι:=Nat) { t:=[(2,_,_),(3,_,_),(4,_,_)],bx:=[(.l 2,_),(.l 3,_),(.l 4,_)],ow:=[(.t 7,_)] } (fun j=>[(8,true,xi (j : Int)),(7,true,xl ((t.kids.take j).map (chT (srtG n))))]) (fun j=>[]) (fun j=>j≤t.kids.length) (fun j=>t.kids.length - j) (0) (by simp) (B4 (⟨U J,U J,U J,U J,U J,O⟩) (⟨U J,U J,U J,O⟩) (⟨rfl,O⟩)) ?_
   intro j hoka
   dsimp only [List.cons_append,List.nil_append]
   have hrl:=T.rows_len ((t.kids.take j).map (chT (srtG n)))
   rw[List.length_map,List.length_take] at hrl
   refine A8 ?_;refine A8 (A6 ?_);refine A5 J J J (A7 J gU) ?_;refine A5 J J J (B1 J gU J J) ?_;refine A5 J J J (B2 J gU J J J J) ?_;refine D9 J J J J J gU J J ?_ (fun hh=>by simp at hh); intro hlen;refine A5 J J J (B7 J J gU gU J) ?_;refine B0 ?_;refine B5 (s:=⟨[(2,_,_),(3,_,_),(4,_,_),(7,_,_),(8,_,_),(29,_,_)],[(.l 2,_),(.l 3,_),(.l 4,_)],[(.t 7,_)],[]⟩) (B4 (⟨U J,U J,U J,U J,U J,U J,O⟩) (⟨U J,U J,U J,O⟩) (⟨rfl,O⟩)) ?_;refine B9 J (fun hc2=>?_) (fun hc2=>?_)
   ·try simp only [nn,B3,D3,nq] at hc2
    have hlt : j < t.kids.length:=by omega
    have hT:=I0 (l:=t.kids) (d:=default) hlt
    have hm:=J5 (d:=default) hlt
    have hks:=M5 hm
    refine C0 ?_;refine A8 ?_;refine C4 ?_;refine awp_drawn' (by kernel_rfl) ?_;refine Q5 J (.inl J) J J J J J ?_;refine D7 J J J J J J J gU J J J J J ?_;refine B6 J J J J (B1 J gU J J) ?_;refine G5 J J J J J J J gU J J J J ?_;refine B6 J J J J (A7 J gU) ?_;refine B6 J J J J (C2 J J gU gU J J J (fun hh=>T.rows_at (by first|omega|(simp at hh ⊢; omega)))) ?_;refine B6 J J J J (D4 J gU J J J J) ?_;refine E7 J J J J J J J gU gU (ih (t.kids.getD j default) (by omega) (by omega) (hkk _ hm)) J ?_;refine U4 (xs:=[_]) J J J J J J J J J J gU J ?_;refine W1 J J J J J (rko (ak2 J (ak J (ak J (ak J (ak J (ak J (ak J (ak J (rfl)))))))))) J J J J J (by first|omega|(simp only [List.length_append,List.length_singleton,T.rows_len,Sp.rows_len,Gl.rows_len,List.length_map,List.length_take]; omega)) (by first|omega|(simp only [List.length_append,List.length_singleton,T.rows_len,Sp.rows_len,Gl.rows_len,List.length_map,List.length_take]; omega)) ?_;refine Q5 J (.inr J) J J J J J ?_;refine F9 (by kernel_rfl) ?_;refine B5 (s:=⟨[(2,_,_),(3,_,_),(4,_,_),(7,_,_),(8,_,_)],[(.l 2,_),(.l 3,_),(.l 4,_)],[(.t 7,_)],[]⟩) (B4 (⟨U J,U J,U J,U J,U J,O⟩) (⟨U J,U J,U J,O⟩) (⟨rfl,O⟩)) ?_
    refine A6 ?_;refine A5 J J J (A7 J gU) ?_;refine A5 J J J (D0 J J gU gU J (IntWalk.i64_in _ (by omega))) ?_;refine A5 J J J (A9 J gU) ?_;refine B0 ?_;refine ⟨j + 1,?_,?_,B4 (⟨⟨_,rfl,?_⟩,⟨⟨_,rfl,?_⟩,⟨U J,U J,U J,O⟩⟩⟩) (⟨U J,U J,U J,O⟩) (⟨rfl,O⟩)⟩
    all_goals (first|rfl|omega|exact tx ((Eb _ _).trans (by rw[hT,List.map_append]; rfl)))
   ·try simp only [nn,B3,D3,nq] at hc2
    have hke : j=t.kids.length:=by omega
    subst hke
    rw[List.take_length]
    refine E2 ?_
    repeat(first|refine D5 ?_|refine D6 ?_|refine D2 J ?_)
    refine A8 (A6 ?_);refine C3 J (F2 (.inl J) J J J) ?_;refine A5 J J J (B1 J gU J J) ?_;refine C3 J (H8 J J J J J J J) ?_;refine B0 ?_;refine A8 (A6 ?_);refine A5 J J J (B8 J gU J J J J J) ?_;refine C3 J (C7 J J J J J J J) ?_;refine B0 ?_;refine C1 ?_
    repeat(first|refine tR ?_|refine bR ?_)
    refine C5 J ?_ O
    (rw[Mu,if_pos hc,if_pos hc,k1]; rfl)
  ·try simp only [nn,B3,D3,nq] at hc
   refine C0 ?_;refine A8 (A6 ?_);refine C3 J (H4 (.inr J) J J) ?_;refine B0 ?_;refine A8 ?_;refine A8 (A6 ?_);refine A5 J J J (A9 J gU) ?_;refine B0 ?_;refine C4 ?_;refine F3 (ι:=Nat) { t:=[(2,_,_),(3,_,_),(4,_,_)],bx:=[(.l 2,_),(.l 3,_),(.l 4,_)],ow:=[(.t 7,_)] } (fun j=>[(8,true,xi (j : Int)),(7,true,xl ((t.kids.take j).map (chT (srtG n))))]) (fun j=>[]) (fun j=>j≤t.kids.length) (fun j=>t.kids.length - j) (0) (by simp) (B4 (⟨U J,U J,U J,U J,U J,O⟩) (⟨U J,U J,U J,O⟩) (⟨rfl,O⟩)) ?_
   intro j hokb
   dsimp only [List.cons_append,List.nil_append]
   have hrl:=T.rows_len ((t.kids.take j).map (chT (srtG n)))
   rw[List.length_map,List.length_take] at hrl
   refine A8 ?_;refine A8 (A6 ?_);refine A5 J J J (A7 J gU) ?_;refine A5 J J J (B1 J gU J J) ?_;refine A5 J J J (B2 J gU J J J J) ?_;refine D9 J J J J J gU J J ?_ (fun hh=>by simp at hh); intro hlen;refine A5 J J J (B7 J J gU gU J) ?_;refine B0 ?_;refine B5 (s:=⟨[(2,_,_),(3,_,_),(4,_,_),(7,_,_),(8,_,_),(29,_,_)],[(.l 2,_),(.l 3,_),(.l 4,_)],[(.t 7,_)],[]⟩) (B4 (⟨U J,U J,U J,U J,U J,U J,O⟩) (⟨U J,U J,U J,O⟩) (⟨rfl,O⟩)) ?_;refine B9 J (fun hc2=>?_) (fun hc2=>?_)
   ·try simp only [nn,B3,D3,nq] at hc2
    have hlt : j < t.kids.length:=by omega
    have hT:=I0 (l:=t.kids) (d:=default) hlt
    have hm:=J5 (d:=default) hlt
    have hks:=M5 hm
    refine C0 ?_;refine A8 ?_;refine C4 ?_;refine awp_drawn' (by kernel_rfl) ?_;refine Q5 J (.inl J) J J J J J ?_;refine D7 J J J J J J J gU J J J J J ?_;refine B6 J J J J (B1 J gU J J) ?_;refine G5 J J J J J J J gU J J J J ?_;refine B6 J J J J (A7 J gU) ?_;refine B6 J J J J (C2 J J gU gU J J J (fun hh=>T.rows_at (by first|omega|(simp at hh ⊢; omega)))) ?_;refine B6 J J J J (D4 J gU J J J J) ?_;refine E7 J J J J J J J gU gU (ih (t.kids.getD j default) (by omega) (by omega) (hkk _ hm)) J ?_;refine U4 (xs:=[_]) J J J J J J J J J J gU J ?_;refine W1 J J J J J (rko (ak2 J (ak J (ak J (ak J (ak J (ak J (ak J (ak J (rfl)))))))))) J J J J J (by first|omega|(simp only [List.length_append,List.length_singleton,T.rows_len,Sp.rows_len,Gl.rows_len,List.length_map,List.length_take]; omega)) (by first|omega|(simp only [List.length_append,List.length_singleton,T.rows_len,Sp.rows_len,Gl.rows_len,List.length_map,List.length_take]; omega)) ?_;refine Q5 J (.inr J) J J J J J ?_;refine F9 (by kernel_rfl) ?_;refine B5 (s:=⟨[(2,_,_),(3,_,_),(4,_,_),(7,_,_),(8,_,_)],[(.l 2,_),(.l 3,_),(.l 4,_)],[(.t 7,_)],[]⟩) (B4 (⟨U J,U J,U J,U J,U J,O⟩) (⟨U J,U J,U J,O⟩) (⟨rfl,O⟩)) ?_
    refine A6 ?_;refine A5 J J J (A7 J gU) ?_;refine A5 J J J (D0 J J gU gU J (IntWalk.i64_in _ (by omega))) ?_;refine A5 J J J (A9 J gU) ?_;refine B0 ?_;refine ⟨j + 1,?_,?_,B4 (⟨⟨_,rfl,?_⟩,⟨⟨_,rfl,?_⟩,⟨U J,U J,U J,O⟩⟩⟩) (⟨U J,U J,U J,O⟩) (⟨rfl,O⟩)⟩
    all_goals (first|rfl|omega|exact tx ((Eb _ _).trans (by rw[hT,List.map_append]; rfl)))
   ·try simp only [nn,B3,D3,nq] at hc2
    have hke : j=t.kids.length:=by omega
    subst hke
    rw[List.take_length]
    refine E2 ?_
    repeat(first|refine D5 ?_|refine D6 ?_|refine D2 J ?_)
    refine A8 (A6 ?_);refine C3 J (F2 (.inl J) J J J) ?_;refine A5 J J J (B1 J gU J J) ?_;refine C3 J (H8 J J J J J J J) ?_;refine B0 ?_;refine A8 (A6 ?_);refine A5 J J J (B8 J gU J J J J J) ?_;refine C3 J (C7 J J J J J J J) ?_;refine B0 ?_;refine C1 ?_
    repeat(first|refine tR ?_|refine bR ?_)
    refine C5 J ?_ O
    (rw[Mu,if_neg hc,if_neg hc]; rfl)
def chS (g : ChG) (s : Sp) : Sp:=⟨s.frm,s.dst,chT g s.msg,s.line⟩
def chL (g : ChG) (x : Gl) : Gl:=⟨x.kind,x.role,x.wth,x.data.map (chT g),x.line⟩
def chN (g : ChG) (n : Nar) : Nar:=⟨n.name,n.roles,n.fresh,n.tags,n.steps.map (chS g),n.goals.map (chL g)⟩
def resE (n : Nar) : Nar × Int × Int:=if (chkE E4 n).2≠0 then (nar0,(chkE E4 n).1,(chkE E4 n).2) else (chN (srtG n) n,0,0)
theorem uA9 (l : List Sp) (s : Sp) : Sp.rows l++[s.cells]=Sp.rows (l++[s]):=by simp [Sp.rows]
theorem uBh (l : List Gl) (s : Gl) : Gl.rows l++[s.cells]=Gl.rows (l++[s]):=by simp [Gl.rows]
theorem uB3 (l : List T) (s : T) : T.rows l++[s.cells]=T.rows (l++[s]):=by simp [T.rows_eq]
set_option maxHeartbeats 4000000 in
theorem Jr (n : Nar) (hs : ∀ s ∈ n.steps,s.msg.size≤900000) (hg : ∀ g ∈ n.goals,T.sizes g.data≤900000) : Ctr sys 26 [xn n] [] (xnie (resE n)) none []:=by
 have l5:=Sp.rows_len n.steps
 have l6:=Gl.rows_len n.goals
 refine D1 Tryz.func26 J J J J J J ?_;refine A8 (A6 ?_);refine C3 J (D8 J J J J) ?_;refine C3 J (E1 J J J) ?_;refine A5 J J J (A9 J gU) ?_;refine A5 J J J (A9 J gU) ?_;refine B0 ?_;refine A8 ?_;refine A8 (A6 ?_);refine A5 J J J (B8 J gU J J J J J) ?_;refine C8 J J J J J J gU gU (Qd n hs hg) J ?_;refine A5 J J J (A7 J gU) ?_;refine A5 J J J (C6 J gU J) ?_;refine A5 J J J (C6 J gU J) ?_;refine A5 J J J (A9 J gU) ?_;refine A5 J J J (A9 J gU) ?_;refine B0 ?_;refine B5 (s:=⟨[(1,_,_),(2,_,_),(5,_,_),(6,_,_)],[(.l 1,_),(.l 2,_)],[],[]⟩) (B4 (⟨U J,U J,U J,U J,O⟩) (⟨U J,U J,O⟩) O) ?_;refine A8 (A6 ?_);refine A5 J J J (A7 J gU) ?_;refine A5 J J J (B7 J J gU gU J) ?_;refine B0 ?_;refine B9 J (fun hc=>?_) (fun hc=>?_)
 ·try simp only [nn,B3,D3,nq] at hc
  refine A8 (A6 ?_);refine A5 J J J (H6 J Tryz.underlying27 J gU) ?_;refine A5 J J J (A7 J gU) ?_;refine A5 J J J (A7 J gU) ?_;refine C3 J (C7 J J J J J J J) ?_;refine A5 J J J (A9 J gU) ?_;refine A5 J J J (A9 J gU) ?_;refine B0 ?_;refine C1 ?_
  repeat(first|refine tR ?_|refine bR ?_)
  refine C5 J ?_ O
  (rw[resE,if_pos hc]; rfl)
 ·try simp only [nn,B3,D3,nq] at hc
  have hE : resE n=(chN (srtG n) n,0,0):=by rw[resE,if_neg (by simpa using hc)]
  have hok:=Ya (n:=n) hc
  have b1 : n.roles.length≤900000 := by have := hok.nar.r2; omega
  have b2 : n.fresh.length≤900000 := by have := hok.nar.f2; omega
  have b3 : n.tags.length≤900000 := by have := hok.nar.t2; omega
  have b5:=hok.nar.s2
  have b6:=hok.nar.g2
  rw[hE]
  refine C0 ?_;refine A8 (A6 ?_);refine A5 J J J (B8 J gU J J J J J) ?_;refine C3 J (E1 J J J) ?_;refine C3 J (C7 J J J J J J J) ?_;refine B0 ?_;refine A8 (A6 ?_);refine A5 J J J (B1 J gU J J) ?_;refine C3 J (Y5 J J J J J J) ?_;refine A5 J J J (B1 J gU J J) ?_;refine C3 J (Y5 J J J J J J) ?_;refine B0 ?_;refine B5 (s:=⟨[(1,_,_),(2,_,_),(7,_,_)],[(.l 1,_),(.l 2,_),(.l 7,_)],[(.b (.l 7) 4,_),(.b (.l 7) 5,_)],[]⟩) (B4 (⟨U J,U J,U J,O⟩) (⟨U J,U J,U J,O⟩) (⟨rfl,rfl,O⟩)) ?_;refine A8 ?_;refine A8 (A6 ?_);refine A5 J J J (A9 J gU) ?_;refine B0 ?_;refine C4 ?_;refine F3 (ι:=Nat) { t:=[(1,_,_),(2,_,_),(7,_,_)],bx:=[(.l 1,_),(.l 2,_)],ow:=[(.b (.l 7) 4,_),(.b (.l 7) 5,_)] } (fun k=>[(8,true,xi (k : Int))]) (fun k=>[((.l 7),[.s n.name, .sl 1 (strR n.roles), .sl 3 (Fs.rows n.fresh), .sl 1 (strR n.tags), .sl 7 (Sp.rows ((n.steps.take k).map (chS (srtG n)))), .sl 5 []])]) (fun k=>k≤n.steps.length) (fun k=>n.steps.length - k) (0) (by simp) (B4 (⟨U J,U J,U J,U J,O⟩) (⟨U J,U J,U J,O⟩) (⟨rfl,rfl,O⟩)) ?_
  intro k hoka
  dsimp only [List.cons_append,List.nil_append]
  have hrl:=Sp.rows_len ((n.steps.take k).map (chS (srtG n)))
  rw[List.length_map,List.length_take] at hrl
  refine A8 ?_;refine A8 (A6 ?_);refine A5 J J J (A7 J gU) ?_;refine A5 J J J (B1 J gU J J) ?_;refine A5 J J J (B2 J gU J J J J) ?_;refine D9 J J J J J gU J J ?_ (fun hh=>by simp at hh); intro hlen;refine A5 J J J (B7 J J gU gU J) ?_;refine B0 ?_;refine B5 (s:=⟨[(1,_,_),(2,_,_),(7,_,_),(8,_,_),(30,_,_)],[(.l 1,_),(.l 2,_),(.l 7,_)],[(.b (.l 7) 4,_),(.b (.l 7) 5,_)],[]⟩) (B4 (⟨U J,U J,U J,U J,U J,O⟩) (⟨U J,U J,U J,O⟩) (⟨rfl,rfl,O⟩)) ?_;refine B9 J (fun hc2=>?_) (fun hc2=>?_)
  ·try simp only [nn,B3,D3,nq] at hc2
   have hlt : k < n.steps.length:=by omega
   have hT:=I0 (l:=n.steps) (d:=default) hlt
   obtain ⟨m1,m2,m3⟩:=hok.msg _ (J5 (d:=default) hlt)
   refine C0 ?_;refine A8 ?_;refine C4 ?_;refine A8 (A6 ?_);refine A5 J J J (B1 J gU J J) ?_;refine A5 J J J (B2 J gU J J J J) ?_;refine A5 J J J (A7 J gU) ?_;refine A5 J J J (C2 J J gU gU J J J (fun hh=>Sp.rows_at (by first|omega|(simp at hh ⊢; omega)))) ?_;refine A5 J J J (D4 J gU J J J J) ?_;refine C3 J (E1 J J J) ?_;refine C3 J (C7 J J J J J J J) ?_;refine B0 ?_;refine B5 (s:=⟨[(1,_,_),(2,_,_),(7,_,_),(8,_,_),(9,_,_)],[(.l 1,_),(.l 2,_),(.l 7,_),(.l 9,_)],[(.b (.l 7) 4,_),(.b (.l 7) 5,_)],[]⟩) (B4 (⟨U J,U J,U J,U J,U J,O⟩) (⟨U J,U J,U J,U J,O⟩) (⟨rfl,rfl,O⟩)) ?_;refine A8 (A6 ?_);refine A5 J J J (B8 J gU J J J J J) ?_;refine A5 J J J (B1 J gU J J) ?_;refine A5 J J J (B8 J gU J J J J J) ?_;refine C8 J J J J J J gU gU (Ek n b1 b2 b3 hok.nd _ (n.steps.getD k default).msg (Nat.le_refl _) (by omega) m1) J ?_;refine A5 J J J (B1 J gU J J) ?_;refine C3 J (C7 J J J J J J J) ?_;refine B0 ?_;refine B5 (s:=⟨[(1,_,_),(2,_,_),(7,_,_),(8,_,_),(9,_,_)],[(.l 1,_),(.l 2,_),(.l 7,_),(.l 9,_)],[(.b (.l 7) 4,_),(.b (.l 7) 5,_)],[]⟩) (B4 (⟨U J,U J,U J,U J,U J,O⟩) (⟨U J,U J,U J,U J,O⟩) (⟨rfl,rfl,O⟩)) ?_
   refine A6 ?_;refine A5 J J J (B1 J gU J J) ?_;refine C3 J (I5 J J J J J J J) ?_;refine A5 J J J (B8 J gU J J J J J) ?_;refine E8 (xs:=[_]) J J J J J J J J J gU J ?_;refine C3 J (F7 J J J J J J J (by first|omega|(simp only [List.length_append,List.length_singleton,T.rows_len,Sp.rows_len,Gl.rows_len,List.length_map,List.length_take]; omega)) (by first|omega|(simp only [List.length_append,List.length_singleton,T.rows_len,Sp.rows_len,Gl.rows_len,List.length_map,List.length_take]; omega))) ?_;refine A5 J J J (B1 J gU J J) ?_;refine C3 J (H8 J J J J J J J) ?_;refine B0 ?_;refine B5 (s:=⟨[(1,_,_),(2,_,_),(7,_,_),(8,_,_)],[(.l 1,_),(.l 2,_),(.l 7,_)],[(.b (.l 7) 4,_),(.b (.l 7) 5,_)],[]⟩) (B4 (⟨U J,U J,U J,U J,O⟩) (⟨U J,U J,U J,O⟩) (⟨rfl,rfl,O⟩)) ?_;refine A6 ?_;refine A5 J J J (A7 J gU) ?_;refine A5 J J J (D0 J J gU gU J (IntWalk.i64_in _ (by omega))) ?_;refine A5 J J J (A9 J gU) ?_;refine B0 ?_;refine ⟨k + 1,?_,?_,B4 (⟨⟨_,rfl,?_⟩,⟨U J,U J,U J,O⟩⟩) (⟨⟨_,rfl,?_⟩,⟨U J,U J,O⟩⟩) (⟨rfl,rfl,O⟩)⟩
   all_goals (first|rfl|omega|(rw[hT,List.map_append]; exact congrArg (fun z=>[C.s n.name,C.sl 1 (strR n.roles),C.sl 3 (Fs.rows n.fresh),C.sl 1 (strR n.tags),C.sl 7 z,C.sl 5 []]) (uA9 _ (chS (srtG n) (n.steps.getD k default)))))
  ·try simp only [nn,B3,D3,nq] at hc2
   have hke : k=n.steps.length:=by omega
   subst hke
   rw[List.take_length]
   refine E2 ?_
   repeat(first|refine D5 ?_|refine D6 ?_|refine D2 J ?_)
   refine A8 ?_;refine A8 (A6 ?_);refine A5 J J J (A9 J gU) ?_;refine B0 ?_;refine C4 ?_;refine F3 (ι:=Nat) { t:=[(1,_,_),(2,_,_),(7,_,_)],bx:=[(.l 1,_),(.l 2,_)],ow:=[(.b (.l 7) 4,_),(.b (.l 7) 5,_)] } (fun j=>[(10,true,xi (j : Int))]) (fun j=>[((.l 7),[.s n.name, .sl 1 (strR n.roles), .sl 3 (Fs.rows n.fresh), .sl 1 (strR n.tags), .sl 7 (Sp.rows (n.steps.map (chS (srtG n)))), .sl 5 (Gl.rows ((n.goals.take j).map (chL (srtG n))))])]) (fun j=>j≤n.goals.length) (fun j=>n.goals.length - j) (0) (by simp) (B4 (⟨U J,U J,U J,U J,O⟩) (⟨U J,U J,U J,O⟩) (⟨rfl,rfl,O⟩)) ?_
   intro j hokb
   dsimp only [List.cons_append,List.nil_append]
   have hrl2:=Gl.rows_len ((n.goals.take j).map (chL (srtG n)))
   rw[List.length_map,List.length_take] at hrl2
   refine A8 ?_;refine A8 (A6 ?_);refine A5 J J J (A7 J gU) ?_;refine A5 J J J (B1 J gU J J) ?_;refine A5 J J J (B2 J gU J J J J) ?_;refine D9 J J J J J gU J J ?_ (fun hh=>by simp at hh); intro hlen;refine A5 J J J (B7 J J gU gU J) ?_;refine B0 ?_;refine B5 (s:=⟨[(1,_,_),(2,_,_),(7,_,_),(10,_,_),(53,_,_)],[(.l 1,_),(.l 2,_),(.l 7,_)],[(.b (.l 7) 4,_),(.b (.l 7) 5,_)],[]⟩) (B4 (⟨U J,U J,U J,U J,U J,O⟩) (⟨U J,U J,U J,O⟩) (⟨rfl,rfl,O⟩)) ?_;refine B9 J (fun hc3=>?_) (fun hc3=>?_)
   ·try simp only [nn,B3,D3,nq] at hc3
    have hlt : j < n.goals.length:=by omega
    have hT:=I0 (l:=n.goals) (d:=default) hlt
    have hd:=hok.dat _ (J5 (d:=default) hlt)
    have hdl:=(hok.nar.goals _ (J5 (d:=default) hlt)).d2
    have hdr:=T.rows_len (n.goals.getD j default).data
    refine C0 ?_;refine A8 ?_;refine C4 ?_;refine A8 (A6 ?_);refine A5 J J J (B1 J gU J J) ?_;refine A5 J J J (B2 J gU J J J J) ?_;refine A5 J J J (A7 J gU) ?_;refine A5 J J J (C2 J J gU gU J J J (fun hh=>Gl.rows_at (by first|omega|(simp at hh ⊢; omega)))) ?_;refine A5 J J J (D4 J gU J J J J) ?_;refine C3 J (E1 J J J) ?_;refine C3 J (C7 J J J J J J J) ?_;refine B0 ?_;refine B5 (s:=⟨[(1,_,_),(2,_,_),(7,_,_),(10,_,_),(11,_,_)],[(.l 1,_),(.l 11,_),(.l 2,_),(.l 7,_)],[(.b (.l 7) 4,_),(.b (.l 7) 5,_)],[]⟩) (B4 (⟨U J,U J,U J,U J,U J,O⟩) (⟨U J,U J,U J,U J,O⟩) (⟨rfl,rfl,O⟩)) ?_;refine A8 (A6 ?_);refine A5 J J J (B1 J gU J J) ?_;refine C3 J (Y5 J J J J J J) ?_;refine B0 ?_;refine A8 ?_;refine A8 (A6 ?_);refine A5 J J J (A9 J gU) ?_;refine B0 ?_;refine C4 ?_;refine F3 (ι:=Nat) { t:=[(1,_,_),(2,_,_),(7,_,_),(10,_,_),(11,_,_)],bx:=[(.l 1,_),(.l 2,_),(.l 7,_)],ow:=[(.b (.l 11) 3,_),(.b (.l 7) 4,_),(.b (.l 7) 5,_)] } (fun i=>[(12,true,xi (i : Int))]) (fun i=>[((.l 11),[.i .i64 (n.goals.getD j default).kind, .s (n.goals.getD j default).role, .s (n.goals.getD j default).wth, .sl 4 (T.rows (((n.goals.getD j default).data.take i).map (chT (srtG n)))), .i .i64 (n.goals.getD j default).line])]) (fun i=>i≤(n.goals.getD j default).data.length) (fun i=>(n.goals.getD j default).data.length - i) (0) (by simp) (B4 (⟨U J,U J,U J,U J,U J,U J,O⟩) (⟨U J,U J,U J,U J,O⟩) (⟨rfl,rfl,rfl,O⟩)) ?_
    intro i hokc
    dsimp only [List.cons_append,List.nil_append]
    have hrl3:=T.rows_len (((n.goals.getD j default).data.take i).map (chT (srtG n)))
    rw[List.length_map,List.length_take] at hrl3
    refine A8 ?_;refine A8 (A6 ?_);refine A5 J J J (A7 J gU) ?_;refine A5 J J J (B1 J gU J J) ?_;refine A5 J J J (B2 J gU J J J J) ?_;refine A5 J J J (A7 J gU) ?_;refine A5 J J J (C2 J J gU gU J J J (fun hh=>Gl.rows_at (by first|omega|(simp at hh ⊢; omega)))) ?_;refine A5 J J J (F1 J gU J J) ?_;refine A5 J J J (E3 J gU J J J) ?_;refine D9 J J J J J gU J J ?_ (fun hh=>by simp at hh); intro hlen;refine A5 J J J (B7 J J gU gU J) ?_;refine B0 ?_;refine B5 (s:=⟨[(1,_,_),(2,_,_),(7,_,_),(10,_,_),(11,_,_),(12,_,_),(70,_,_)],[(.l 1,_),(.l 11,_),(.l 2,_),(.l 7,_)],[(.b (.l 11) 3,_),(.b (.l 7) 4,_),(.b (.l 7) 5,_)],[]⟩) (B4 (⟨U J,U J,U J,U J,U J,U J,U J,O⟩) (⟨U J,U J,U J,U J,O⟩) (⟨rfl,rfl,rfl,O⟩)) ?_;refine B9 J (fun hc4=>?_) (fun hc4=>?_)
    ·try simp only [nn,B3,D3,nq] at hc4
     have hlt4 : i < (n.goals.getD j default).data.length:=by omega
     have hT4:=I0 (l:=(n.goals.getD j default).data) (d:=default) hlt4
     obtain ⟨m1,m2,m3⟩:=hd _ (J5 (d:=default) hlt4)
     refine C0 ?_;refine A8 ?_;refine C4 ?_;refine awp_drawn' (by kernel_rfl) ?_;refine B6 J J J J (B1 J gU J J) ?_;refine Ot J J J J J J J J J J J J ?_;refine D7 J J J J J J J gU J J J J J ?_;refine B6 J J J J (B1 J gU J J) ?_;refine G5 J J J J J J J gU J J J J ?_;refine B6 J J J J (A7 J gU) ?_;refine B6 J J J J (C2 J J gU gU J J J (fun hh=>Gl.rows_at (by first|omega|(simp at hh ⊢; omega)))) ?_;refine B6 J J J J (F1 J gU J J) ?_;refine B6 J J J J (E3 J gU J J J) ?_;refine B6 J J J J (A7 J gU) ?_;refine B6 J J J J (C2 J J gU gU J J J (fun hh=>T.rows_at (by first|omega|(simp at hh ⊢; omega)))) ?_;refine B6 J J J J (D4 J gU J J J J) ?_;refine E7 J J J J J J J gU gU (Ek n b1 b2 b3 hok.nd _ ((n.goals.getD j default).data.getD i default) (Nat.le_refl _) (by omega) m1) J ?_;refine U4 (xs:=[_]) J J J J J J J J J J gU J ?_;refine W1 J J J J J (rko (ak2 J (ak J (ak J (ak J (ak J (ak J (ak J (ak J (ak J (ak J (ak J (ak J (rfl)))))))))))))) J J J J J (by first|omega|(simp only [List.length_append,List.length_singleton,T.rows_len,Sp.rows_len,Gl.rows_len,List.length_map,List.length_take]; omega)) (by first|omega|(simp only [List.length_append,List.length_singleton,T.rows_len,Sp.rows_len,Gl.rows_len,List.length_map,List.length_take]; omega)) ?_
     refine B6 J J J J (B1 J gU J J) ?_;refine Nl J J J J J J J J J J J J ?_;refine F9 (by kernel_rfl) ?_;refine B5 (s:=⟨[(1,_,_),(2,_,_),(7,_,_),(10,_,_),(11,_,_),(12,_,_)],[(.l 1,_),(.l 11,_),(.l 2,_),(.l 7,_)],[(.b (.l 11) 3,_),(.b (.l 7) 4,_),(.b (.l 7) 5,_)],[]⟩) (B4 (⟨U J,U J,U J,U J,U J,U J,O⟩) (⟨U J,U J,U J,U J,O⟩) (⟨rfl,(ak2 J (ak J (ak2 J (ak2 J (ak J (ak J (ak J (ak J (ak J (ak J (ak J (ak J (ak J (ak J (ak J (ak2 J (ak J (rfl)))))))))))))))))),(ak2 J (ak J (ak2 J (ak2 J (ak J (ak J (ak J (ak J (ak J (ak J (ak J (ak J (ak J (ak J (ak J (ak2 J (ak J (rfl)))))))))))))))))),O⟩)) ?_;refine A6 ?_;refine A5 J J J (A7 J gU) ?_;refine A5 J J J (D0 J J gU gU J (IntWalk.i64_in _ (by omega))) ?_;refine A5 J J J (A9 J gU) ?_;refine B0 ?_;refine ⟨i + 1,?_,?_,B4 (⟨⟨_,rfl,?_⟩,⟨U J,U J,U J,U J,U J,O⟩⟩) (⟨⟨_,rfl,?_⟩,⟨U J,U J,U J,O⟩⟩) (⟨rfl,rfl,rfl,O⟩)⟩
     all_goals (first|rfl|omega|(rw[hT4,List.map_append]; exact congrArg (fun z=>[C.i .i64 (n.goals.getD j default).kind,C.s (n.goals.getD j default).role,C.s (n.goals.getD j default).wth,C.sl 4 z,C.i .i64 (n.goals.getD j default).line]) (uB3 _ (chT (srtG n) ((n.goals.getD j default).data.getD i default)))))
    ·try simp only [nn,B3,D3,nq] at hc4
     have hie : i=(n.goals.getD j default).data.length:=by omega
     subst hie
     rw[List.take_length]
     refine E2 ?_
     repeat(first|refine D5 ?_|refine D6 ?_|refine D2 J ?_)
     refine A6 ?_;refine A5 J J J (B1 J gU J J) ?_;refine C3 J (I5 J J J J J J J) ?_;refine A5 J J J (B8 J gU J J J J J) ?_;refine E8 (xs:=[_]) J J J J J J J J J gU J ?_;refine C3 J (F7 J J J J J J J (by first|omega|(simp only [List.length_append,List.length_singleton,T.rows_len,Sp.rows_len,Gl.rows_len,List.length_map,List.length_take]; omega)) (by first|omega|(simp only [List.length_append,List.length_singleton,T.rows_len,Sp.rows_len,Gl.rows_len,List.length_map,List.length_take]; omega))) ?_;refine A5 J J J (B1 J gU J J) ?_;refine C3 J (H8 J J J J J J J) ?_;refine B0 ?_;refine B5 (s:=⟨[(1,_,_),(2,_,_),(7,_,_),(10,_,_)],[(.l 1,_),(.l 2,_),(.l 7,_)],[(.b (.l 7) 4,_),(.b (.l 7) 5,_)],[]⟩) (B4 (⟨U J,U J,U J,U J,O⟩) (⟨U J,U J,U J,O⟩) (⟨rfl,rfl,O⟩)) ?_;refine A6 ?_;refine A5 J J J (A7 J gU) ?_;refine A5 J J J (D0 J J gU gU J (IntWalk.i64_in _ (by omega))) ?_;refine A5 J J J (A9 J gU) ?_;refine B0 ?_;refine ⟨j + 1,?_,?_,B4 (⟨⟨_,rfl,?_⟩,⟨U J,U J,U J,O⟩⟩) (⟨⟨_,rfl,?_⟩,⟨U J,U J,O⟩⟩) (⟨rfl,rfl,O⟩)⟩
     all_goals (first|rfl|omega|(rw[hT,List.map_append]; exact congrArg (fun z=>[C.s n.name,C.sl 1 (strR n.roles),C.sl 3 (Fs.rows n.fresh),C.sl 1 (strR n.tags),C.sl 7 (Sp.rows (n.steps.map (chS (srtG n)))),C.sl 5 z]) (uBh _ (chL (srtG n) (n.goals.getD j default)))))
   ·try simp only [nn,B3,D3,nq] at hc3
    have hje : j=n.goals.length:=by omega
    subst hje
    rw[List.take_length]
    refine E2 ?_
    repeat(first|refine D5 ?_|refine D6 ?_|refine D2 J ?_)
    refine A8 (A6 ?_);refine A5 J J J (B8 J gU J J J J J) ?_;refine C3 J (C7 J J J J J J J) ?_;refine A5 J J J (A9 J gU) ?_;refine A5 J J J (A9 J gU) ?_;refine B0 ?_;refine C1 ?_
    repeat(first|refine tR ?_|refine bR ?_)
    refine C5 J ?_ O
    rfl
theorem Yf {sz : Nat} {xs : List (List C)} {i j m : Nat} {row : List C} (h : ∀ (i : Nat) (row : List C),xs[i]? = some row→row.length=sz) (hi : xs[i]? = some row) (hjm : j + m≤sz) : (xs.flatten.drop (i * sz + j)).take m=(row.drop j).take m:=by
 have hr:=Im h hi
 have e : row.drop j=(xs.flatten.drop (i * sz + j)).take (sz - j):=by
  rw[← hr,List.drop_take,List.drop_drop]
 rw[e,List.take_take,Nat.min_eq_left (by omega)]
theorem Uz {sz : Nat} {xs : List (List C)} {i j : Nat} {row ds : List C} (h : ∀ (i : Nat) (row : List C),xs[i]? = some row→row.length=sz) (hi : xs[i]? = some row) (hjm : j + ds.length≤sz) : I4 xs.flatten (i * sz + j) ds=(xs.set i (I4 row j ds)).flatten:=by
 have hil : i < xs.length:=(List.getElem?_eq_some_iff.1 hi).1
 have hrl:=h i row hi
 have hlen : (I4 row j ds).length=sz:=by rw[L3,hrl]
 rw[← Jk h hil hlen]
 have hfl : i * sz + sz≤xs.flatten.length:=by
  cases hz : sz with
  | zero =>
   have : ds.length=0:=by omega
   rw[Nat.mul_zero]; omega
  | succ z =>
   have hg : row[z]? = some (row[z]'(by omega)):=List.getElem?_eq_getElem (by omega)
   have := Dz h hi hg
   have := (List.getElem?_eq_some_iff.1 this).1
   rw[hz] at this; omega
 refine List.ext_getElem? fun k=>?_
 rw[S0 _ _ _ _ (by omega),S0 _ _ _ _ (by omega),hlen]
 by_cases h1 : i * sz≤k∧k < i * sz + sz
 ·obtain ⟨k',rfl⟩ : ∃ k',k=i * sz + k':=⟨k - i * sz,by omega⟩
  have hrk : row[k']? = some (row[k']'(by omega)):=List.getElem?_eq_getElem (by omega)
  have hfk:=Dz h hi hrk
  rw[if_pos h1,Nat.add_sub_cancel_left,S0 _ _ _ _ (by omega)]
  by_cases h2 : j≤k'∧k' < j + ds.length
  ·rw[if_pos (by omega),if_pos h2]
   congr 1; omega
  ·rw[if_neg (by omega),if_neg h2,hfk,hrk]
 ·rw[if_neg (by omega),if_neg h1]
theorem Ur (l : List Sp) : ∀ (i : Nat) (row : List C),(Sp.rows l)[i]? = some row→row.length=7:=by
 intro i row h
 rw[Sp.rows,List.getElem?_map] at h
 cases hx : l[i]? with
 | none=>rw[hx] at h; cases h
 | some t=>rw[hx] at h; cases h; rfl
theorem Zp (l : List Gl) : ∀ (i : Nat) (row : List C),(Gl.rows l)[i]? = some row→row.length=5:=by
 intro i row h
 rw[Gl.rows,List.getElem?_map] at h
 cases hx : l[i]? with
 | none=>rw[hx] at h; cases h
 | some t=>rw[hx] at h; cases h; rfl
def upto {α : Type} (f : α→α) (l : List α) (k : Nat) : List α:=(l.take k).map f++l.drop k
theorem Ck {α : Type} (f : α→α) (l : List α) : upto f l 0=l:=by simp [upto]
theorem Ch {α : Type} (f : α→α) (l : List α) : upto f l l.length=l.map f:=by simp [upto]
theorem Ei {α : Type} (f : α→α) (l : List α) (k : Nat) : (upto f l k).length=l.length:=by
 simp only [upto,List.length_append,List.length_map,List.length_take,List.length_drop]; omega
theorem Gq {α : Type} {f : α→α} {l : List α} {k : Nat} {d : α} (h : k < l.length) : (upto f l k)[k]? = some (l.getD k d):=by
 rw[upto,List.getElem?_append_right (by simp; omega),List.length_map,List.length_take,Nat.min_eq_left (by omega),Nat.sub_self,List.getElem?_drop,Nat.add_zero,List.getD_eq_getElem?_getD,List.getElem?_eq_getElem h]; rfl
theorem Eo {α : Type} {f : α→α} {l : List α} {k : Nat} {d : α} (h : k < l.length) : (upto f l k).set k (f (l.getD k d))=upto f l (k + 1):=by
 rw[upto,List.set_append_right _ _ (by simp; omega),upto,I0 (d:=d) h,List.map_append,List.append_assoc]
 congr 1
 have e : k - ((l.take k).map f).length=0:=by simp; omega
 rw[e,List.drop_eq_getElem_cons h,List.set_cons_zero]
 rfl
theorem uBt {l : List Sp} {k : Nat} {s : Sp} (h : l[k]? = some s) : ((Sp.rows l).flatten.drop (k * 7 + 2)).take 4=s.msg.cells:=by
 rw[Yf (Ur l) (row:=s.cells) (by rw[Sp.rows,List.getElem?_map,h]; rfl) (by omega)]; rfl
theorem Pc {l : List Sp} {k : Nat} {s : Sp} (h : l[k]? = some s) (t : T) : I4 (Sp.rows l).flatten (k * 7 + 2) t.cells=(Sp.rows (l.set k { s with msg:=t })).flatten:=by
 rw[Uz (Ur l) (row:=s.cells) (by rw[Sp.rows,List.getElem?_map,h]; rfl) (by show 2 + 4≤7; omega),Sp.rows,Sp.rows,List.map_set]; rfl
theorem uAR {l : List Gl} {k : Nat} {g : Gl} (h : l[k]? = some g) : (Gl.rows l).flatten[k * 5 + 3]? = some (.sl 4 (T.rows g.data)) :=
 Dz (Zp l) (row:=g.cells) (by rw[Gl.rows,List.getElem?_map,h]; rfl) J
theorem uAn {l : List Gl} {k : Nat} {g : Gl} (h : l[k]? = some g) (d : List T) : I4 (Gl.rows l).flatten (k * 5 + 3) [.sl 4 (T.rows d)]=(Gl.rows (l.set k { g with data:=d })).flatten:=by
 rw[Uz (Zp l) (row:=g.cells) (by rw[Gl.rows,List.getElem?_map,h]; rfl) (by show 3 + 1≤5; omega),Gl.rows,Gl.rows,List.map_set]; rfl
theorem X8 (l : List Sp) : (Sp.rows l).flatten.length=l.length * 7:=by
 induction l with
 | nil=>simp [Sp.rows]
 | cons x l ih =>
  have e : Sp.rows (x :: l)=x.cells :: Sp.rows l:=by simp [Sp.rows]
  have : x.cells.length=7:=rfl
  rw[e,List.flatten_cons,List.length_append,ih]
  simp only [List.length_cons]; omega
theorem Gd (l : List Gl) : (Gl.rows l).flatten.length=l.length * 5:=by
 induction l with
 | nil=>simp [Gl.rows]
 | cons x l ih =>
  have e : Gl.rows (x :: l)=x.cells :: Gl.rows l:=by simp [Gl.rows]
  have : x.cells.length=5:=rfl
  rw[e,List.flatten_cons,List.length_append,ih]
  simp only [List.length_cons]; omega
theorem Pd {l : List Sp} {k : Nat} {s : Sp} (h : l[k]? = some s) : ((Sp.rows l).flatten.drop (0 + k * 7 + 2)).take 4=s.msg.cells:=by
 rw[Nat.zero_add]; exact uBt h
theorem Zx {l : List Gl} {k : Nat} {g : Gl} (h : l[k]? = some g) : (Gl.rows l).flatten[0 + k * 5 + 3]? = some (.sl 4 (T.rows g.data)):=by
 rw[Nat.zero_add]; exact uAR h
theorem Rw {l : List T} {i : Nat} {t : T} (h : l[i]? = some t) : ((T.rows l).flatten.drop (0 + i * 4)).take 4=t.cells:=by
 rw[Nat.zero_add,Im (Ud l) (row:=t.cells) (by rw[T.rows_eq,List.getElem?_map,h]; rfl)]
noncomputable abbrev zR (n : Nar) (b : Nat) : Pg:=sysO.add b (mapL (nmsL n))
set_option maxHeartbeats 4000000 in
theorem Yt (n : Nar) (b : Nat) (hr : n.roles.length≤100) (hf : n.fresh.length≤100) (ht : n.tags.length≤100) (hs : n.steps.length≤100) (hg : n.goals.length≤100) (hs0 : n.steps≠[]) (hg0 : n.goals≠[])
  (hm : ∀ s ∈ n.steps,gdB s.msg=true∧s.msg.size≤900000) (hd : ∀ g ∈ n.goals,g.data≠[]∧g.data.length≤100 ∧ ∀ t ∈ g.data,gdB t=true∧t.size≤900000) : CtrO (zR n b) 56 [xn n, .fn 57 [.ptr (.o 0) 0]] [tbC n.roles b] [] (xn (chN (srtG n) n)) [tbC n.roles b] .box:=by
 have p1 : 0 < n.steps.length:=List.length_pos_iff.2 hs0
 have p2 : 0 < n.goals.length:=List.length_pos_iff.2 hg0
 have cs1 : CtrN (zR n b) 92 [.v (.c (.sl 7 (Sp.rows n.steps)))] n.steps.length (Sp.rows n.steps).flatten:=CtrN.wk (Z:=sys) J (fun g hg=>by cases hg) (Gb n.steps (by omega) hs0)
 have cs2 : CtrN (zR n b) 93 [.v (.c (.sl 5 (Gl.rows n.goals)))] n.goals.length (Gl.rows n.goals).flatten:=CtrN.wk (Z:=sys) J (fun g hg=>by cases hg) (Ou n.goals (by omega) hg0)
 have hfs:=X8 n.steps
 have hfg:=Gd n.goals
 refine K8 Tryz.func56 J J J J J J J ?_;refine A8 (A6 ?_);refine C3 J (D8 J J J J) ?_;refine C3 J (E1 J J J) ?_;refine B0 ?_;refine A8 ?_;refine awp_drawn' (by kernel_rfl) ?_;refine B6 J J J J (B1 J gU J J) ?_;refine G5 J J J J J J J gU J J J J ?_;refine E7 J J J J J J J gU gU (Ctr.add (up (X4 _ (by omega)))) J ?_;refine B6 J J J J (B1 J gU J J) ?_;refine G5 J J J J J J J gU J J J J ?_;refine E7 J J J J J J J gU gU (Ctr.add (up (Ge _ (by omega)))) J ?_;refine B6 J J J J (B1 J gU J J) ?_;refine G5 J J J J J J J gU J J J J ?_;refine E7 J J J J J J J gU gU (Ctr.add (up (X4 _ (by omega)))) J ?_;refine B6 J J J J (B1 J gU J J) ?_;refine F0 J J J J J J J J J J J J ?_;refine B6 J J J J (B1 J gU J J) ?_;refine F0 J J J J J J J J J J J J ?_;refine B6 J J J J (B1 J gU J J) ?_;refine F0 J J J J J J J J J J J J ?_;refine F9 (by kernel_rfl) ?_;refine B5 (s:=⟨[(1,_,_),(2,_,_),(4,_,_)],[(.l 2,_),(.l 4,_),(.o 0,_)],[],[]⟩) (B4 (⟨U J,U J,U J,O⟩) (⟨U J,U J,U J,O⟩) O) ?_
 refine Lm (fun x : Value × Value=>{ t:=[(1,true, .fn 57 [.ptr (.o 0) 0]),(2,true, .v (.ptr (.l 2) 0)),(4,true, .v (.ptr (.l 4) 0)),(23,true, .v (.msv (.l 23) 7 0 n.steps.length x.1)),(26,true, .v (.msv (.l 26) 5 0 n.goals.length x.2))],bx:=[((.l 2),[.s n.name, .sl 1 (strR n.roles), .sl 3 (Fs.rows n.fresh), .sl 1 (strR n.tags), .o x.1, .o x.2]),((.l 4),[.s [], .sl 1 [], .sl 3 [], .sl 1 [], .sl 7 [], .sl 5 []]),((.l 23),(Sp.rows n.steps).flatten),((.l 26),(Gl.rows n.goals).flatten),((.o 0),tbC n.roles b)],ow:=[] }) (fun x=>?_) ?_
 rotate_left
 ·refine Uh 5 #[true,true,true,true,true,false,false,false,false,false] (fun u1 : Value=>{ t:=[(1,true, .fn 57 [.ptr (.o 0) 0]),(2,true, .v (.ptr (.l 2) 0)),(4,true, .v (.ptr (.l 4) 0)),(23,true, .v (.msv (.l 23) 7 0 n.steps.length u1)),(25,true, .v (.c (.sl 5 (Gl.rows n.goals))))],bx:=[((.l 2),[.s n.name, .sl 1 (strR n.roles), .sl 3 (Fs.rows n.fresh), .sl 1 (strR n.tags), .sl 7 (Sp.rows n.steps), .sl 5 (Gl.rows n.goals)]),((.l 4),[.s [], .sl 1 [], .sl 3 [], .sl 1 [], .sl 7 [], .sl 5 []]),((.l 23),(Sp.rows n.steps).flatten),((.o 0),tbC n.roles b)],ow:=[] }) (fun u1=>?_) (fun go=>?_)
  ·refine F5 5 [6] (by kernel_rfl) ⟨⟨_,rfl,?_⟩,⟨_,rfl,?_⟩,O⟩
   ·refine I9 5 J J J J J J J cs2 ?_
    refine M3 26 J p2 (fun u2=>B0 ?_);refine F5 6 [] (by kernel_rfl) ⟨⟨_,rfl,?_⟩,O⟩;refine A5 J J J (B1 J gU J J) (B0 ?_);refine F5 7 [] (by kernel_rfl) ⟨⟨_,rfl,?_⟩,O⟩;refine C3 J (C7 J J J J J J J) (B0 ?_);refine F5 8 [] (by kernel_rfl) ⟨⟨_,rfl,?_⟩,O⟩;refine A5 J J J (B1 J gU J J) (B0 ?_);refine F5 9 [] (by kernel_rfl) ⟨⟨_,rfl,?_⟩,O⟩;refine C3 J (C7 J J J J J J J) (B0 ?_);exact Gy (by kernel_rfl) ⟨(u1,u2),B4 ⟨U J,U J,U J,U J,U J,O⟩ ⟨U J,U J,U J,U J,U J,O⟩ O⟩
   ·refine A5 J J J (B1 J gU J J) (B0 ?_)
    refine F5 5 [] (by kernel_rfl) ⟨⟨_,rfl,?_⟩,O⟩;refine I9 5 J J J J J J J cs2 ?_;refine M3 26 J p2 (fun u2=>B0 ?_);refine F5 7 [] (by kernel_rfl) ⟨⟨_,rfl,?_⟩,O⟩;refine C3 J (C7 J J J J J J J) (B0 ?_);refine F5 8 [] (by kernel_rfl) ⟨⟨_,rfl,?_⟩,O⟩;refine A5 J J J (B1 J gU J J) (B0 ?_);refine F5 9 [] (by kernel_rfl) ⟨⟨_,rfl,?_⟩,O⟩;refine C3 J (C7 J J J J J J J) (B0 ?_);exact Gy (by kernel_rfl) ⟨(u1,u2),B4 ⟨U J,U J,U J,U J,U J,O⟩ ⟨U J,U J,U J,U J,U J,O⟩ O⟩
  ·refine F5 0 [3] (by kernel_rfl) ⟨⟨_,rfl,?_⟩,⟨_,rfl,?_⟩,O⟩
   ·refine A5 J J J (B1 J gU J J) (B0 ?_)
    refine F5 1 [3] (by kernel_rfl) ⟨⟨_,rfl,?_⟩,⟨_,rfl,?_⟩,O⟩
    ·refine A5 J J J (B2 J gU J J J J) (B0 ?_)
     refine F5 2 [3] (by kernel_rfl) ⟨⟨_,rfl,?_⟩,⟨_,rfl,?_⟩,O⟩
     ·refine I9 7 J J J J J J J cs1 ?_
      refine M3 23 J p1 (fun u1=>B0 ?_);refine F5 3 [] (by kernel_rfl) ⟨⟨_,rfl,?_⟩,O⟩;refine A5 J J J (B1 J gU J J) (B0 ?_);refine F5 4 [] (by kernel_rfl) ⟨⟨_,rfl,?_⟩,O⟩;refine A5 J J J (B2 J gU J J J J) (B0 ?_);exact go u1 (by kernel_rfl) (B4 ⟨U J,U J,U J,U J,U J,O⟩ ⟨U J,U J,U J,U J,O⟩ O)
     ·refine A5 J J J (B1 J gU J J) (B0 ?_)
      refine F5 2 [4] (by kernel_rfl) ⟨⟨_,rfl,?_⟩,⟨_,rfl,?_⟩,O⟩
      ·refine I9 7 J J J J J J J cs1 ?_
       refine M3 23 J p1 (fun u1=>B0 ?_);refine F5 4 [] (by kernel_rfl) ⟨⟨_,rfl,?_⟩,O⟩;refine A5 J J J (B2 J gU J J J J) (B0 ?_);exact go u1 (by kernel_rfl) (B4 ⟨U J,U J,U J,U J,U J,O⟩ ⟨U J,U J,U J,U J,O⟩ O)
      ·refine A5 J J J (B2 J gU J J J J) (B0 ?_)
       refine F5 2 [] (by kernel_rfl) ⟨⟨_,rfl,?_⟩,O⟩;refine I9 7 J J J J J J J cs1 ?_;refine M3 23 J p1 (fun u1=>B0 ?_);exact go u1 (by kernel_rfl) (B4 ⟨U J,U J,U J,U J,U J,O⟩ ⟨U J,U J,U J,U J,O⟩ O)
    ·refine A5 J J J (B1 J gU J J) (B0 ?_)
     refine F5 1 [4] (by kernel_rfl) ⟨⟨_,rfl,?_⟩,⟨_,rfl,?_⟩,O⟩
     ·refine A5 J J J (B2 J gU J J J J) (B0 ?_)
      refine F5 2 [4] (by kernel_rfl) ⟨⟨_,rfl,?_⟩,⟨_,rfl,?_⟩,O⟩
      ·refine I9 7 J J J J J J J cs1 ?_
       refine M3 23 J p1 (fun u1=>B0 ?_);refine F5 4 [] (by kernel_rfl) ⟨⟨_,rfl,?_⟩,O⟩;refine A5 J J J (B2 J gU J J J J) (B0 ?_);exact go u1 (by kernel_rfl) (B4 ⟨U J,U J,U J,U J,U J,O⟩ ⟨U J,U J,U J,U J,O⟩ O)
      ·refine A5 J J J (B2 J gU J J J J) (B0 ?_)
       refine F5 2 [] (by kernel_rfl) ⟨⟨_,rfl,?_⟩,O⟩;refine I9 7 J J J J J J J cs1 ?_;refine M3 23 J p1 (fun u1=>B0 ?_);exact go u1 (by kernel_rfl) (B4 ⟨U J,U J,U J,U J,U J,O⟩ ⟨U J,U J,U J,U J,O⟩ O)
     ·refine A5 J J J (B2 J gU J J J J) (B0 ?_)
      refine F5 1 [] (by kernel_rfl) ⟨⟨_,rfl,?_⟩,O⟩;refine A5 J J J (B2 J gU J J J J) (B0 ?_);refine F5 2 [] (by kernel_rfl) ⟨⟨_,rfl,?_⟩,O⟩;refine I9 7 J J J J J J J cs1 ?_;refine M3 23 J p1 (fun u1=>B0 ?_);exact go u1 (by kernel_rfl) (B4 ⟨U J,U J,U J,U J,U J,O⟩ ⟨U J,U J,U J,U J,O⟩ O)
   ·refine A5 J J J (B1 J gU J J) (B0 ?_)
    refine F5 0 [4] (by kernel_rfl) ⟨⟨_,rfl,?_⟩,⟨_,rfl,?_⟩,O⟩
    ·refine A5 J J J (B1 J gU J J) (B0 ?_)
     refine F5 1 [4] (by kernel_rfl) ⟨⟨_,rfl,?_⟩,⟨_,rfl,?_⟩,O⟩
     ·refine A5 J J J (B2 J gU J J J J) (B0 ?_)
      refine F5 2 [4] (by kernel_rfl) ⟨⟨_,rfl,?_⟩,⟨_,rfl,?_⟩,O⟩
      ·refine I9 7 J J J J J J J cs1 ?_
       refine M3 23 J p1 (fun u1=>B0 ?_);refine F5 4 [] (by kernel_rfl) ⟨⟨_,rfl,?_⟩,O⟩;refine A5 J J J (B2 J gU J J J J) (B0 ?_);exact go u1 (by kernel_rfl) (B4 ⟨U J,U J,U J,U J,U J,O⟩ ⟨U J,U J,U J,U J,O⟩ O)
      ·refine A5 J J J (B2 J gU J J J J) (B0 ?_)
       refine F5 2 [] (by kernel_rfl) ⟨⟨_,rfl,?_⟩,O⟩;refine I9 7 J J J J J J J cs1 ?_;refine M3 23 J p1 (fun u1=>B0 ?_);exact go u1 (by kernel_rfl) (B4 ⟨U J,U J,U J,U J,U J,O⟩ ⟨U J,U J,U J,U J,O⟩ O)
     ·refine A5 J J J (B2 J gU J J J J) (B0 ?_)
      refine F5 1 [] (by kernel_rfl) ⟨⟨_,rfl,?_⟩,O⟩;refine A5 J J J (B2 J gU J J J J) (B0 ?_);refine F5 2 [] (by kernel_rfl) ⟨⟨_,rfl,?_⟩,O⟩;refine I9 7 J J J J J J J cs1 ?_;refine M3 23 J p1 (fun u1=>B0 ?_);exact go u1 (by kernel_rfl) (B4 ⟨U J,U J,U J,U J,U J,O⟩ ⟨U J,U J,U J,U J,O⟩ O)
    ·refine A5 J J J (B2 J gU J J J J) (B0 ?_)
     refine F5 0 [] (by kernel_rfl) ⟨⟨_,rfl,?_⟩,O⟩;refine A5 J J J (B1 J gU J J) (B0 ?_);refine F5 1 [] (by kernel_rfl) ⟨⟨_,rfl,?_⟩,O⟩;refine A5 J J J (B2 J gU J J J J) (B0 ?_);refine F5 2 [] (by kernel_rfl) ⟨⟨_,rfl,?_⟩,O⟩;refine I9 7 J J J J J J J cs1 ?_;refine M3 23 J p1 (fun u1=>B0 ?_);exact go u1 (by kernel_rfl) (B4 ⟨U J,U J,U J,U J,U J,O⟩ ⟨U J,U J,U J,U J,O⟩ O)
 obtain ⟨u1,u2⟩:=x
 dsimp only
 refine A8 ?_;refine A8 (A6 ?_);refine A5 J J J (B1 J gU J J) ?_;refine A5 J J J (B2 J gU J J J J) ?_;refine Eh 30 23 J J ?_;refine A5 J J J (Ap J gU J J) ?_;refine A5 J J J (A7 J gU) ?_;refine B0 ?_;refine C4 ?_;refine F3 (ι:=Nat) { t:=[(1,_,_),(2,_,_),(4,_,_),(23,_,_),(26,_,_),(31,_,_)],bx:=[(.l 2,_),(.l 26,_),(.l 4,_),(.o 0,_)],ow:=[] } (fun k=>[(32,true,xi (k : Int))]) (fun k=>[((.l 23),(Sp.rows (upto (chS (srtG n)) n.steps k)).flatten)]) (fun k=>k≤n.steps.length) (fun k=>n.steps.length - k) (0) (by simp) (B4 (⟨U J,U J,U J,U J,U J,U J,U J,O⟩) (⟨⟨_,rfl,by rw[Ck]⟩,⟨U J,U J,U J,U J,O⟩⟩) O) ?_
 intro k hoka
 dsimp only [List.cons_append,List.nil_append]
 have hul:=Ei (chS (srtG n)) n.steps k
 have hfl:=X8 (upto (chS (srtG n)) n.steps k)
 refine A8 (A6 ?_);refine A5 J J J (B7 J J gU gU J) ?_;refine B0 ?_;refine A8 ?_;refine B9 J (fun hc=>?_) (fun hc=>?_)
 ·try simp only [nn,B3,nq] at hc
  have hlt : k < n.steps.length:=by omega
  have hat:=Gq (f:=chS (srtG n)) (d:=default) hlt
  have hset:=Eo (f:=chS (srtG n)) (d:=default) hlt
  have hmk:=hm _ (J5 (d:=default) hlt)
  refine C0 ?_;refine A8 ?_;refine C4 ?_;refine A8 (A6 ?_);refine A5 J J J (A7 J gU) ?_;refine A5 J J J (A9 J gU) ?_;refine B0 ?_;refine awp_drawn' (by kernel_rfl) ?_;refine B6 J J J J (B1 J gU J J) ?_;refine Y1 23 J J J J J J J gU J J J J J ?_;refine B6 J J J J (A7 J gU) ?_;refine B6 J J J J (B1 J gU J J) ?_;refine Y1 23 J J J J J J J gU J J J J J ?_;refine B6 J J J J (A7 J gU) ?_;refine B6 J J J J (L2 J J gU gU J J J (fun _=>by omega)) ?_;refine B6 J J J J (B1 J gU J J) ?_;refine D7 J J J J J J J gU J J J (Pd hat) J ?_;refine B6 J J J J (A7 J gU) ?_;refine Lk (.o 0) J J J J J J J (Ad n.roles (nmsL n) b _ (n.steps.getD k default).msg (Nat.le_refl _) hmk.2 hmk.1) J J J J J J ?_;refine B6 J J J J (L2 J J gU gU J J J (fun _=>by omega)) ?_;refine B6 J J J J (B1 J gU J J) ?_;refine F0 J J J J J J J J J J J (Nat.ble_eq_true_of_le (by rw[hfl,hul]; show 0 + k * 7 + 2 + 4≤_; omega)) ?_;refine F9 (by kernel_rfl) ?_;refine B5 (s:=⟨[(1,_,_),(2,_,_),(4,_,_),(23,_,_),(26,_,_),(31,_,_),(32,_,_)],[(.l 2,_),(.l 23,_),(.l 26,_),(.l 4,_),(.o 0,_)],[],[]⟩) (B4 (⟨U J,U J,U J,U J,U J,U J,U J,O⟩) (⟨U J,U J,U J,U J,U J,O⟩) O) ?_
  refine A6 ?_;refine A5 J J J (D0 J J gU gU J (IntWalk.i64_in _ (by omega))) ?_;refine A5 J J J (A7 J gU) ?_;refine B0 ?_;refine ⟨k + 1,?_,?_,B4 (⟨⟨_,rfl,?_⟩,⟨U J,U J,U J,U J,U J,U J,O⟩⟩) (⟨⟨_,rfl,?_⟩,⟨U J,U J,U J,U J,O⟩⟩) O⟩
  all_goals (first|rfl|omega|(rw[Nat.zero_add,Pc hat,← hset]; rfl))
 ·try simp only [nn,B3,nq] at hc
  have hke : k=n.steps.length:=by omega
  subst hke
  rw[Ch]
  refine E2 ?_
  repeat(first|refine D5 ?_|refine D6 ?_|refine D2 J ?_)
  refine A8 ?_;refine A8 (A6 ?_);refine A5 J J J (B1 J gU J J) ?_;refine A5 J J J (B2 J gU J J J J) ?_;refine Eh 50 26 J J ?_;refine A5 J J J (Ap J gU J J) ?_;refine A5 J J J (A7 J gU) ?_;refine B0 ?_;refine B5 (s:=⟨[(1,_,_),(2,_,_),(4,_,_),(23,_,_),(26,_,_),(51,_,_),(52,_,_)],[(.l 2,_),(.l 23,_),(.l 26,_),(.l 4,_),(.o 0,_)],[],[]⟩) (B4 (⟨U J,U J,U J,U J,U J,U J,U J,O⟩) (⟨U J,U J,U J,U J,U J,O⟩) O) ?_;refine C4 ?_;refine F3 (ι:=Nat) { t:=[(1,_,_),(2,_,_),(4,_,_),(23,_,_),(26,_,_),(51,_,_)],bx:=[(.l 2,_),(.l 23,_),(.l 4,_),(.o 0,_)],ow:=[] } (fun j=>[(52,true,xi (j : Int))]) (fun j=>[((.l 26),(Gl.rows (upto (chL (srtG n)) n.goals j)).flatten)]) (fun j=>j≤n.goals.length) (fun j=>n.goals.length - j) (0) (by simp) (B4 (⟨U J,U J,U J,U J,U J,U J,U J,O⟩) (⟨⟨_,rfl,by rw[Ck]⟩,⟨U J,U J,U J,U J,O⟩⟩) O) ?_
  intro j hokb
  dsimp only [List.cons_append,List.nil_append]
  have hul:=Ei (chL (srtG n)) n.goals j
  have hfl:=Gd (upto (chL (srtG n)) n.goals j)
  refine A8 (A6 ?_);refine A5 J J J (B7 J J gU gU J) ?_;refine B0 ?_;refine A8 ?_;refine B9 J (fun hc2=>?_) (fun hc2=>?_)
  ·try simp only [nn,B3,nq] at hc2
   have hlt : j < n.goals.length:=by omega
   have hat:=Gq (f:=chL (srtG n)) (d:=default) hlt
   have hset:=Eo (f:=chL (srtG n)) (d:=default) hlt
   obtain ⟨d1,d2,d3⟩:=hd _ (J5 (d:=default) hlt)
   refine C0 ?_;refine A8 ?_;refine C4 ?_;refine A8 (A6 ?_);refine A5 J J J (A7 J gU) ?_;refine A5 J J J (A9 J gU) ?_;refine B0 ?_;refine A8 (A6 ?_);refine A5 J J J (B1 J gU J J) ?_;refine A5 J J J (B2 J gU J J J J) ?_;refine Eh 56 26 J J ?_;refine A5 J J J (A7 J gU) ?_;refine A5 J J J (L2 J J gU gU J J J (fun _=>by omega)) ?_;refine A5 J J J (B1 J gU J J) ?_;refine A5 J J J (B2 J gU J J J (Zx hat)) ?_;refine I9 4 J J J J J J J (CtrN.wk (Z:=sys) J (fun g hg=>by cases hg) (Rr (n.goals.getD j default).data (by omega) d1)) ?_;refine A5 J J J (A9 J gU) ?_;refine B0 ?_;refine B5 (s:=⟨[(1,_,_),(2,_,_),(4,_,_),(6,_,_),(7,_,_),(23,_,_),(26,_,_),(51,_,_),(52,_,_)],[(.l 2,_),(.l 23,_),(.l 26,_),(.l 4,_),(.l 61,_),(.o 0,_)],[],[]⟩) (B4 (⟨U J,U J,U J,U J,U J,U J,U J,U J,U J,O⟩) (⟨U J,U J,U J,U J,U J,U J,O⟩) O) ?_;refine A8 ?_;refine A8 (A6 ?_);refine A5 J J J (A7 J gU) ?_;refine A5 J J J (Ap J gU J J) ?_;refine A5 J J J (A7 J gU) ?_
   refine B0 ?_;refine C4 ?_;refine F3 (ι:=Nat) { t:=[(1,_,_),(2,_,_),(4,_,_),(6,_,_),(7,_,_),(23,_,_),(26,_,_),(51,_,_),(52,_,_),(63,_,_)],bx:=[(.l 2,_),(.l 23,_),(.l 26,_),(.l 4,_),(.o 0,_)],ow:=[] } (fun i=>[(64,true,xi (i : Int))]) (fun i=>[((.l 61),(T.rows (upto (chT (srtG n)) (n.goals.getD j default).data i)).flatten)]) (fun i=>i≤(n.goals.getD j default).data.length) (fun i=>(n.goals.getD j default).data.length - i) (0) (by simp) (B4 (⟨U J,U J,U J,U J,U J,U J,U J,U J,U J,U J,U J,O⟩) (⟨⟨_,rfl,by rw[Ck]⟩,⟨U J,U J,U J,U J,U J,O⟩⟩) O) ?_
   intro i hokc
   dsimp only [List.cons_append,List.nil_append]
   have hul2:=Ei (chT (srtG n)) (n.goals.getD j default).data i
   have hfl2:=Cs (upto (chT (srtG n)) (n.goals.getD j default).data i)
   refine A8 (A6 ?_);refine A5 J J J (B7 J J gU gU J) ?_;refine B0 ?_;refine A8 ?_;refine B9 J (fun hc3=>?_) (fun hc3=>?_)
   ·try simp only [nn,B3,nq] at hc3
    have hlt3 : i < (n.goals.getD j default).data.length:=by omega
    have hat3:=Gq (f:=chT (srtG n)) (d:=default) hlt3
    have hset3:=Eo (f:=chT (srtG n)) (d:=default) hlt3
    obtain ⟨e1,e2⟩:=d3 _ (J5 (d:=default) hlt3)
    refine C0 ?_;refine A8 ?_;refine C4 ?_;refine A8 (A6 ?_);refine A5 J J J (A7 J gU) ?_;refine A5 J J J (A9 J gU) ?_;refine B0 ?_;refine A6 ?_;refine A5 J J J (A7 J gU) ?_;refine A5 J J J (A7 J gU) ?_;refine A5 J J J (A7 J gU) ?_;refine A5 J J J (A7 J gU) ?_;refine A5 J J J (L2 J J gU gU J J J (fun _=>by omega)) ?_;refine A5 J J J (B8 J gU J J J (Rw hat3) J) ?_;refine A5 J J J (A7 J gU) ?_;refine Jz (.o 0) J J J J J J (Ad n.roles (nmsL n) b _ ((n.goals.getD j default).data.getD i default) (Nat.le_refl _) e2 e1) J J J J J J ?_;refine A5 J J J (L2 J J gU gU J J J (fun _=>by omega)) ?_;refine C3 J (C7 J J J J J J (Nat.ble_eq_true_of_le (by rw[hfl2,hul2]; show 0 + i * 4 + 4≤_; omega))) ?_;refine B0 ?_;refine B5 (s:=⟨[(1,_,_),(2,_,_),(4,_,_),(6,_,_),(7,_,_),(23,_,_),(26,_,_),(51,_,_),(52,_,_),(63,_,_),(64,_,_)],[(.l 2,_),(.l 23,_),(.l 26,_),(.l 4,_),(.l 61,_),(.o 0,_)],[],[]⟩) (B4 (⟨U J,U J,U J,U J,U J,U J,U J,U J,U J,U J,U J,O⟩) (⟨U J,U J,U J,U J,U J,U J,O⟩) O) ?_
    refine A6 ?_;refine A5 J J J (D0 J J gU gU J (IntWalk.i64_in _ (by omega))) ?_;refine A5 J J J (A7 J gU) ?_;refine B0 ?_;refine ⟨i + 1,?_,?_,B4 (⟨⟨_,rfl,?_⟩,⟨U J,U J,U J,U J,U J,U J,U J,U J,U J,U J,O⟩⟩) (⟨⟨_,rfl,?_⟩,⟨U J,U J,U J,U J,U J,O⟩⟩) O⟩
    all_goals (first|rfl|omega|(rw[Nat.zero_add,Jg _ _ _ (by rw[hul2]; omega),← hset3]; rfl))
   ·try simp only [nn,B3,nq] at hc3
    have hie : i=(n.goals.getD j default).data.length:=by omega
    subst hie
    rw[Ch]
    refine E2 ?_
    repeat(first|refine D5 ?_|refine D6 ?_|refine D2 J ?_)
    refine A6 ?_;refine Kx 7 61 (T.rows ((n.goals.getD j default).data.map (chT (srtG n)))) J J (by rw[T.rows_len,List.length_map]) (by omega) (Ud _) J ?_;refine A5 J J J (B1 J gU J J) ?_;refine A5 J J J (B2 J gU J J J J) ?_;refine Eh 78 26 J J ?_;refine A5 J J J (A7 J gU) ?_;refine A5 J J J (A7 J gU) ?_;refine A5 J J J (L2 J J gU gU J J J (fun _=>by omega)) ?_;refine A5 J J J (B1 J gU J J) ?_;refine C3 J (C7 J J J J J J (Nat.ble_eq_true_of_le (by rw[hfl,hul]; show 0 + j * 5 + 3 + 1≤_; omega))) ?_;refine B0 ?_;refine B5 (s:=⟨[(1,_,_),(2,_,_),(4,_,_),(23,_,_),(26,_,_),(51,_,_),(52,_,_)],[(.l 2,_),(.l 23,_),(.l 26,_),(.l 4,_),(.o 0,_)],[],[]⟩) (B4 (⟨U J,U J,U J,U J,U J,U J,U J,O⟩) (⟨U J,U J,U J,U J,U J,O⟩) O) ?_;refine A6 ?_;refine A5 J J J (D0 J J gU gU J (IntWalk.i64_in _ (by omega))) ?_;refine A5 J J J (A7 J gU) ?_;refine B0 ?_;refine ⟨j + 1,?_,?_,B4 (⟨⟨_,rfl,?_⟩,⟨U J,U J,U J,U J,U J,U J,O⟩⟩) (⟨⟨_,rfl,?_⟩,⟨U J,U J,U J,U J,O⟩⟩) O⟩
    all_goals (first|rfl|omega|(rw[Nat.zero_add,uAn hat,← hset]; rfl))
  ·try simp only [nn,B3,nq] at hc2
   have hje : j=n.goals.length:=by omega
   subst hje
   rw[Ch]
   refine E2 ?_
   repeat(first|refine D5 ?_|refine D6 ?_|refine D2 J ?_)
   refine Fi 23 23 (.l 2) 4 (Sp.rows (n.steps.map (chS (srtG n)))) J J (by rw[Sp.rows_len,List.length_map]) (by omega) (Ur _) J J J J J ?_;refine Fi 26 26 (.l 2) 5 (Gl.rows (n.goals.map (chL (srtG n)))) J J (by rw[Gl.rows_len,List.length_map]) (by omega) (Zp _) J J J J J ?_;refine A8 (A6 ?_);refine A5 J J J (B8 J gU J J J J J) ?_;refine C3 J (C7 J J J J J J J) ?_;refine B0 ?_;refine C1 ?_
   repeat(first|refine tR ?_|refine bR ?_)
   refine S7 J ?_ (⟨⟨_,rfl,?_⟩,O⟩) (by kernel_rfl)
   all_goals rfl
set_option maxHeartbeats 4000000 in
theorem Wy (n : Nar) (b : Nat) (hr : n.roles.length≤100) (hf : n.fresh.length≤100) (ht : n.tags.length≤100) (hs : n.steps.length≤100) (hg : n.goals.length≤100) (hs0 : n.steps≠[]) (hg0 : n.goals=[])
  (hm : ∀ s ∈ n.steps,gdB s.msg=true∧s.msg.size≤900000) (hd : ∀ g ∈ n.goals,g.data≠[]∧g.data.length≤100 ∧ ∀ t ∈ g.data,gdB t=true∧t.size≤900000) : CtrO (zR n b) 56 [xn n, .fn 57 [.ptr (.o 0) 0]] [tbC n.roles b] [] (xn (chN (srtG n) n)) [tbC n.roles b] .box:=by
 have p1 : 0 < n.steps.length:=List.length_pos_iff.2 hs0
 have hz : Gl.rows n.goals=[]:=by rw[hg0]; rfl
 have hz2 : Gl.rows (n.goals.map (chL (srtG n)))=[]:=by rw[hg0]; rfl
 have hx : xn (chN (srtG n) n)=X.v (.agg [.s n.name, .sl 1 (strR n.roles), .sl 3 (Fs.rows n.fresh), .sl 1 (strR n.tags), .sl 7 (Sp.rows (n.steps.map (chS (srtG n)))), .sl 5 []]):=by
  show X.v (.agg [.s n.name, .sl 1 (strR n.roles), .sl 3 (Fs.rows n.fresh), .sl 1 (strR n.tags), .sl 7 (Sp.rows (n.steps.map (chS (srtG n)))), .sl 5 (Gl.rows (n.goals.map (chL (srtG n))))])=_
  rw[hz2]
 rw[hx]
 have cs1 : CtrN (zR n b) 92 [.v (.c (.sl 7 (Sp.rows n.steps)))] n.steps.length (Sp.rows n.steps).flatten:=CtrN.wk (Z:=sys) J (fun g hg=>by cases hg) (Gb n.steps (by omega) hs0)
 have cs2 : Ctr (zR n b) 93 [.v (.c (.sl 5 (Gl.rows n.goals)))] [] (.v (.c (.sl 5 []))) none []:=by
  rw[hz]; exact Ctr.add (up Mk)
 have hfs:=X8 n.steps
 refine K8 Tryz.func56 J J J J J J J ?_;refine A8 (A6 ?_);refine C3 J (D8 J J J J) ?_;refine C3 J (E1 J J J) ?_;refine B0 ?_;refine A8 ?_;refine awp_drawn' (by kernel_rfl) ?_;refine B6 J J J J (B1 J gU J J) ?_;refine G5 J J J J J J J gU J J J J ?_;refine E7 J J J J J J J gU gU (Ctr.add (up (X4 _ (by omega)))) J ?_;refine B6 J J J J (B1 J gU J J) ?_;refine G5 J J J J J J J gU J J J J ?_;refine E7 J J J J J J J gU gU (Ctr.add (up (Ge _ (by omega)))) J ?_;refine B6 J J J J (B1 J gU J J) ?_;refine G5 J J J J J J J gU J J J J ?_;refine E7 J J J J J J J gU gU (Ctr.add (up (X4 _ (by omega)))) J ?_;refine B6 J J J J (B1 J gU J J) ?_;refine F0 J J J J J J J J J J J J ?_;refine B6 J J J J (B1 J gU J J) ?_;refine F0 J J J J J J J J J J J J ?_;refine B6 J J J J (B1 J gU J J) ?_;refine F0 J J J J J J J J J J J J ?_;refine F9 (by kernel_rfl) ?_;refine B5 (s:=⟨[(1,_,_),(2,_,_),(4,_,_)],[(.l 2,_),(.l 4,_),(.o 0,_)],[],[]⟩) (B4 (⟨U J,U J,U J,O⟩) (⟨U J,U J,U J,O⟩) O) ?_
 refine Lm (fun x : Value=>{ t:=[(1,true, .fn 57 [.ptr (.o 0) 0]),(2,true, .v (.ptr (.l 2) 0)),(4,true, .v (.ptr (.l 4) 0)),(23,true, .v (.msv (.l 23) 7 0 n.steps.length x))],bx:=[((.l 2),[.s n.name, .sl 1 (strR n.roles), .sl 3 (Fs.rows n.fresh), .sl 1 (strR n.tags), .o x, .sl 5 []]),((.l 4),[.s [], .sl 1 [], .sl 3 [], .sl 1 [], .sl 7 [], .sl 5 []]),((.l 23),(Sp.rows n.steps).flatten),((.o 0),tbC n.roles b)],ow:=[] }) (fun x=>?_) ?_
 rotate_left
 ·refine Uh 5 #[true,true,true,true,true,false,false,false,false,false] (fun u1 : Value=>{ t:=[(1,true, .fn 57 [.ptr (.o 0) 0]),(2,true, .v (.ptr (.l 2) 0)),(4,true, .v (.ptr (.l 4) 0)),(23,true, .v (.msv (.l 23) 7 0 n.steps.length u1)),(25,true, .v (.c (.sl 5 (Gl.rows n.goals))))],bx:=[((.l 2),[.s n.name, .sl 1 (strR n.roles), .sl 3 (Fs.rows n.fresh), .sl 1 (strR n.tags), .sl 7 (Sp.rows n.steps), .sl 5 (Gl.rows n.goals)]),((.l 4),[.s [], .sl 1 [], .sl 3 [], .sl 1 [], .sl 7 [], .sl 5 []]),((.l 23),(Sp.rows n.steps).flatten),((.o 0),tbC n.roles b)],ow:=[] }) (fun u1=>?_) (fun go=>?_)
  ·refine F5 5 [6] (by kernel_rfl) ⟨⟨_,rfl,?_⟩,⟨_,rfl,?_⟩,O⟩
   ·refine C8 J J J J J J gU gU cs2 J (B0 ?_)
    refine F5 6 [] (by kernel_rfl) ⟨⟨_,rfl,?_⟩,O⟩;refine A5 J J J (B1 J gU J J) (B0 ?_);refine F5 7 [] (by kernel_rfl) ⟨⟨_,rfl,?_⟩,O⟩;refine C3 J (C7 J J J J J J J) (B0 ?_);refine F5 8 [] (by kernel_rfl) ⟨⟨_,rfl,?_⟩,O⟩;refine A5 J J J (B1 J gU J J) (B0 ?_);refine F5 9 [] (by kernel_rfl) ⟨⟨_,rfl,?_⟩,O⟩;refine C3 J (C7 J J J J J J J) (B0 ?_);exact Gy (by kernel_rfl) ⟨u1,B4 ⟨U J,U J,U J,U J,O⟩ ⟨U J,U J,U J,U J,O⟩ O⟩
   ·refine A5 J J J (B1 J gU J J) (B0 ?_)
    refine F5 5 [] (by kernel_rfl) ⟨⟨_,rfl,?_⟩,O⟩;refine C8 J J J J J J gU gU cs2 J (B0 ?_);refine F5 7 [] (by kernel_rfl) ⟨⟨_,rfl,?_⟩,O⟩;refine C3 J (C7 J J J J J J J) (B0 ?_);refine F5 8 [] (by kernel_rfl) ⟨⟨_,rfl,?_⟩,O⟩;refine A5 J J J (B1 J gU J J) (B0 ?_);refine F5 9 [] (by kernel_rfl) ⟨⟨_,rfl,?_⟩,O⟩;refine C3 J (C7 J J J J J J J) (B0 ?_);exact Gy (by kernel_rfl) ⟨u1,B4 ⟨U J,U J,U J,U J,O⟩ ⟨U J,U J,U J,U J,O⟩ O⟩
  ·refine F5 0 [3] (by kernel_rfl) ⟨⟨_,rfl,?_⟩,⟨_,rfl,?_⟩,O⟩
   ·refine A5 J J J (B1 J gU J J) (B0 ?_)
    refine F5 1 [3] (by kernel_rfl) ⟨⟨_,rfl,?_⟩,⟨_,rfl,?_⟩,O⟩
    ·refine A5 J J J (B2 J gU J J J J) (B0 ?_)
     refine F5 2 [3] (by kernel_rfl) ⟨⟨_,rfl,?_⟩,⟨_,rfl,?_⟩,O⟩
     ·refine I9 7 J J J J J J J cs1 ?_
      refine M3 23 J p1 (fun u1=>B0 ?_);refine F5 3 [] (by kernel_rfl) ⟨⟨_,rfl,?_⟩,O⟩;refine A5 J J J (B1 J gU J J) (B0 ?_);refine F5 4 [] (by kernel_rfl) ⟨⟨_,rfl,?_⟩,O⟩;refine A5 J J J (B2 J gU J J J J) (B0 ?_);exact go u1 (by kernel_rfl) (B4 ⟨U J,U J,U J,U J,U J,O⟩ ⟨U J,U J,U J,U J,O⟩ O)
     ·refine A5 J J J (B1 J gU J J) (B0 ?_)
      refine F5 2 [4] (by kernel_rfl) ⟨⟨_,rfl,?_⟩,⟨_,rfl,?_⟩,O⟩
      ·refine I9 7 J J J J J J J cs1 ?_
       refine M3 23 J p1 (fun u1=>B0 ?_);refine F5 4 [] (by kernel_rfl) ⟨⟨_,rfl,?_⟩,O⟩;refine A5 J J J (B2 J gU J J J J) (B0 ?_);exact go u1 (by kernel_rfl) (B4 ⟨U J,U J,U J,U J,U J,O⟩ ⟨U J,U J,U J,U J,O⟩ O)
      ·refine A5 J J J (B2 J gU J J J J) (B0 ?_)
       refine F5 2 [] (by kernel_rfl) ⟨⟨_,rfl,?_⟩,O⟩;refine I9 7 J J J J J J J cs1 ?_;refine M3 23 J p1 (fun u1=>B0 ?_);exact go u1 (by kernel_rfl) (B4 ⟨U J,U J,U J,U J,U J,O⟩ ⟨U J,U J,U J,U J,O⟩ O)
    ·refine A5 J J J (B1 J gU J J) (B0 ?_)
     refine F5 1 [4] (by kernel_rfl) ⟨⟨_,rfl,?_⟩,⟨_,rfl,?_⟩,O⟩
     ·refine A5 J J J (B2 J gU J J J J) (B0 ?_)
      refine F5 2 [4] (by kernel_rfl) ⟨⟨_,rfl,?_⟩,⟨_,rfl,?_⟩,O⟩
      ·refine I9 7 J J J J J J J cs1 ?_
       refine M3 23 J p1 (fun u1=>B0 ?_);refine F5 4 [] (by kernel_rfl) ⟨⟨_,rfl,?_⟩,O⟩;refine A5 J J J (B2 J gU J J J J) (B0 ?_);exact go u1 (by kernel_rfl) (B4 ⟨U J,U J,U J,U J,U J,O⟩ ⟨U J,U J,U J,U J,O⟩ O)
      ·refine A5 J J J (B2 J gU J J J J) (B0 ?_)
       refine F5 2 [] (by kernel_rfl) ⟨⟨_,rfl,?_⟩,O⟩;refine I9 7 J J J J J J J cs1 ?_;refine M3 23 J p1 (fun u1=>B0 ?_);exact go u1 (by kernel_rfl) (B4 ⟨U J,U J,U J,U J,U J,O⟩ ⟨U J,U J,U J,U J,O⟩ O)
     ·refine A5 J J J (B2 J gU J J J J) (B0 ?_)
      refine F5 1 [] (by kernel_rfl) ⟨⟨_,rfl,?_⟩,O⟩;refine A5 J J J (B2 J gU J J J J) (B0 ?_);refine F5 2 [] (by kernel_rfl) ⟨⟨_,rfl,?_⟩,O⟩;refine I9 7 J J J J J J J cs1 ?_;refine M3 23 J p1 (fun u1=>B0 ?_);exact go u1 (by kernel_rfl) (B4 ⟨U J,U J,U J,U J,U J,O⟩ ⟨U J,U J,U J,U J,O⟩ O)
   ·refine A5 J J J (B1 J gU J J) (B0 ?_)
    refine F5 0 [4] (by kernel_rfl) ⟨⟨_,rfl,?_⟩,⟨_,rfl,?_⟩,O⟩
    ·refine A5 J J J (B1 J gU J J) (B0 ?_)
     refine F5 1 [4] (by kernel_rfl) ⟨⟨_,rfl,?_⟩,⟨_,rfl,?_⟩,O⟩
     ·refine A5 J J J (B2 J gU J J J J) (B0 ?_)
      refine F5 2 [4] (by kernel_rfl) ⟨⟨_,rfl,?_⟩,⟨_,rfl,?_⟩,O⟩
      ·refine I9 7 J J J J J J J cs1 ?_
       refine M3 23 J p1 (fun u1=>B0 ?_);refine F5 4 [] (by kernel_rfl) ⟨⟨_,rfl,?_⟩,O⟩;refine A5 J J J (B2 J gU J J J J) (B0 ?_);exact go u1 (by kernel_rfl) (B4 ⟨U J,U J,U J,U J,U J,O⟩ ⟨U J,U J,U J,U J,O⟩ O)
      ·refine A5 J J J (B2 J gU J J J J) (B0 ?_)
       refine F5 2 [] (by kernel_rfl) ⟨⟨_,rfl,?_⟩,O⟩;refine I9 7 J J J J J J J cs1 ?_;refine M3 23 J p1 (fun u1=>B0 ?_);exact go u1 (by kernel_rfl) (B4 ⟨U J,U J,U J,U J,U J,O⟩ ⟨U J,U J,U J,U J,O⟩ O)
     ·refine A5 J J J (B2 J gU J J J J) (B0 ?_)
      refine F5 1 [] (by kernel_rfl) ⟨⟨_,rfl,?_⟩,O⟩;refine A5 J J J (B2 J gU J J J J) (B0 ?_);refine F5 2 [] (by kernel_rfl) ⟨⟨_,rfl,?_⟩,O⟩;refine I9 7 J J J J J J J cs1 ?_;refine M3 23 J p1 (fun u1=>B0 ?_);exact go u1 (by kernel_rfl) (B4 ⟨U J,U J,U J,U J,U J,O⟩ ⟨U J,U J,U J,U J,O⟩ O)
    ·refine A5 J J J (B2 J gU J J J J) (B0 ?_)
     refine F5 0 [] (by kernel_rfl) ⟨⟨_,rfl,?_⟩,O⟩;refine A5 J J J (B1 J gU J J) (B0 ?_);refine F5 1 [] (by kernel_rfl) ⟨⟨_,rfl,?_⟩,O⟩;refine A5 J J J (B2 J gU J J J J) (B0 ?_);refine F5 2 [] (by kernel_rfl) ⟨⟨_,rfl,?_⟩,O⟩;refine I9 7 J J J J J J J cs1 ?_;refine M3 23 J p1 (fun u1=>B0 ?_);exact go u1 (by kernel_rfl) (B4 ⟨U J,U J,U J,U J,U J,O⟩ ⟨U J,U J,U J,U J,O⟩ O)
 obtain ⟨u1,hu1⟩ : ∃ u,u=x:=⟨x,rfl⟩
 rw[← hu1]
 refine A8 ?_;refine A8 (A6 ?_);refine A5 J J J (B1 J gU J J) ?_;refine A5 J J J (B2 J gU J J J J) ?_;refine Eh 30 23 J J ?_;refine A5 J J J (Ap J gU J J) ?_;refine A5 J J J (A7 J gU) ?_;refine B0 ?_;refine C4 ?_;refine F3 (ι:=Nat) { t:=[(1,_,_),(2,_,_),(4,_,_),(23,_,_),(31,_,_)],bx:=[(.l 2,_),(.l 4,_),(.o 0,_)],ow:=[] } (fun k=>[(32,true,xi (k : Int))]) (fun k=>[((.l 23),(Sp.rows (upto (chS (srtG n)) n.steps k)).flatten)]) (fun k=>k≤n.steps.length) (fun k=>n.steps.length - k) (0) (by simp) (B4 (⟨U J,U J,U J,U J,U J,U J,O⟩) (⟨⟨_,rfl,by rw[Ck]⟩,⟨U J,U J,U J,O⟩⟩) O) ?_
 intro k hoka
 dsimp only [List.cons_append,List.nil_append]
 have hul:=Ei (chS (srtG n)) n.steps k
 have hfl:=X8 (upto (chS (srtG n)) n.steps k)
 refine A8 (A6 ?_);refine A5 J J J (B7 J J gU gU J) ?_;refine B0 ?_;refine A8 ?_;refine B9 J (fun hc=>?_) (fun hc=>?_)
 ·try simp only [nn,B3,nq] at hc
  have hlt : k < n.steps.length:=by omega
  have hat:=Gq (f:=chS (srtG n)) (d:=default) hlt
  have hset:=Eo (f:=chS (srtG n)) (d:=default) hlt
  have hmk:=hm _ (J5 (d:=default) hlt)
  refine C0 ?_;refine A8 ?_;refine C4 ?_;refine A8 (A6 ?_);refine A5 J J J (A7 J gU) ?_;refine A5 J J J (A9 J gU) ?_;refine B0 ?_;refine awp_drawn' (by kernel_rfl) ?_;refine B6 J J J J (B1 J gU J J) ?_;refine Y1 23 J J J J J J J gU J J J J J ?_;refine B6 J J J J (A7 J gU) ?_;refine B6 J J J J (B1 J gU J J) ?_;refine Y1 23 J J J J J J J gU J J J J J ?_;refine B6 J J J J (A7 J gU) ?_;refine B6 J J J J (L2 J J gU gU J J J (fun _=>by omega)) ?_;refine B6 J J J J (B1 J gU J J) ?_;refine D7 J J J J J J J gU J J J (Pd hat) J ?_;refine B6 J J J J (A7 J gU) ?_;refine Lk (.o 0) J J J J J J J (Ad n.roles (nmsL n) b _ (n.steps.getD k default).msg (Nat.le_refl _) hmk.2 hmk.1) J J J J J J ?_;refine B6 J J J J (L2 J J gU gU J J J (fun _=>by omega)) ?_;refine B6 J J J J (B1 J gU J J) ?_;refine F0 J J J J J J J J J J J (Nat.ble_eq_true_of_le (by rw[hfl,hul]; show 0 + k * 7 + 2 + 4≤_; omega)) ?_;refine F9 (by kernel_rfl) ?_;refine B5 (s:=⟨[(1,_,_),(2,_,_),(4,_,_),(23,_,_),(31,_,_),(32,_,_)],[(.l 2,_),(.l 23,_),(.l 4,_),(.o 0,_)],[],[]⟩) (B4 (⟨U J,U J,U J,U J,U J,U J,O⟩) (⟨U J,U J,U J,U J,O⟩) O) ?_
  refine A6 ?_;refine A5 J J J (D0 J J gU gU J (IntWalk.i64_in _ (by omega))) ?_;refine A5 J J J (A7 J gU) ?_;refine B0 ?_;refine ⟨k + 1,?_,?_,B4 (⟨⟨_,rfl,?_⟩,⟨U J,U J,U J,U J,U J,O⟩⟩) (⟨⟨_,rfl,?_⟩,⟨U J,U J,U J,O⟩⟩) O⟩
  all_goals (first|rfl|omega|(rw[Nat.zero_add,Pc hat,← hset]; rfl))
 ·try simp only [nn,B3,nq] at hc
  have hke : k=n.steps.length:=by omega
  subst hke
  rw[Ch]
  refine E2 ?_
  repeat(first|refine D5 ?_|refine D6 ?_|refine D2 J ?_)
  refine A8 ?_;refine A8 (A6 ?_);refine A5 J J J (B1 J gU J J) ?_;refine A5 J J J (B2 J gU J J J J) ?_;refine D9 J J J J J gU J J ?_ (fun hh=>by simp at hh); intro hlen;refine A5 J J J (A7 J gU) ?_;refine B0 ?_;refine B5 (s:=⟨[(1,_,_),(2,_,_),(4,_,_),(23,_,_),(51,_,_),(52,_,_)],[(.l 2,_),(.l 23,_),(.l 4,_),(.o 0,_)],[],[]⟩) (B4 (⟨U J,U J,U J,U J,U J,U J,O⟩) (⟨U J,U J,U J,U J,O⟩) O) ?_;refine C4 ?_;refine F3 (ι:=Nat) { t:=[(1,_,_),(2,_,_),(4,_,_),(23,_,_),(51,_,_)],bx:=[(.l 2,_),(.l 23,_),(.l 4,_),(.o 0,_)],ow:=[] } (fun j=>[(52,true,xi (j : Int))]) (fun j=>[]) (fun j=>j=0) (fun j=>0) (0) (rfl) (B4 (⟨U J,U J,U J,U J,U J,U J,O⟩) (⟨U J,U J,U J,U J,O⟩) O) ?_
  intro j hokb
  dsimp only [List.cons_append,List.nil_append]
  refine A8 (A6 ?_);refine A5 J J J (B7 J J gU gU J) ?_;refine B0 ?_;refine A8 ?_;refine B9 J (fun hc2=>?_) (fun hc2=>?_)
  ·exfalso
   simp at hc2
   omega
  ·try simp only [nn,B3,nq] at hc2
   refine E2 ?_
   repeat(first|refine D5 ?_|refine D6 ?_|refine D2 J ?_)
   refine Fi 23 23 (.l 2) 4 (Sp.rows (n.steps.map (chS (srtG n)))) J J (by rw[Sp.rows_len,List.length_map]) (by omega) (Ur _) J J J J J ?_;refine A8 (A6 ?_);refine A5 J J J (B8 J gU J J J J J) ?_;refine C3 J (C7 J J J J J J J) ?_;refine B0 ?_;refine C1 ?_
   repeat(first|refine tR ?_|refine bR ?_)
   refine S7 J ?_ (⟨⟨_,rfl,?_⟩,O⟩) (by kernel_rfl)
   all_goals rfl
def exP : List UInt8:=[112,114,111,116,111,99,111,108,32,112,32,123,32,114,111,108,101,32,65,44,32,66,59,32,102,114,101,115,104,32,65,58,32,110,32,110,111,110,99,101,59,32,109,101,115,115,97,103,101,32,65,32,45,62,32,66,58,32]
def exQ : List UInt8:=[59,32,125]
def exW0 : List UInt8:=[97,101,110,99,40,60,110,44,32,65,62,44,32,112,107,40,115,107,40,66,41,41,41]
def exN0 : Nar:=⟨[112],[[65],[66]],[⟨[65],[110],2⟩],[],[⟨[65],[66],⟨3,[97,101,110,99],0,[⟨3,[112,97,105,114],0,[⟨2,[110],0,[]⟩,⟨2,[65],0,[]⟩]⟩,⟨3,[112,107],0,[⟨3,[115,107],0,[⟨2,[66],0,[]⟩]⟩]⟩]⟩,1⟩],[]⟩
set_option maxRecDepth 100000 in
theorem exR0 : Y2 (exP++exW0++exQ)=(exN0,0,0):=by kernel_rfl
def exW1 : List UInt8:=[101,110,99,40,110,44,32,107,41]
def exN1 : Nar:=⟨[112],[[65],[66]],[⟨[65],[110],2⟩],[],[⟨[65],[66],⟨3,[101,110,99],0,[⟨2,[110],0,[]⟩,⟨2,[107],0,[]⟩]⟩,1⟩],[]⟩
set_option maxRecDepth 100000 in
theorem exR1 : Y2 (exP++exW1++exQ)=(exN1,0,0):=by kernel_rfl
def exW2 : List UInt8:=[115,105,103,110,40,110,44,32,110,41]
def exN2 : Nar:=⟨[112],[[65],[66]],[⟨[65],[110],2⟩],[],[⟨[65],[66],⟨3,[115,105,103,110],0,[⟨2,[110],0,[]⟩,⟨2,[110],0,[]⟩]⟩,1⟩],[]⟩
set_option maxRecDepth 100000 in
theorem exR2 : Y2 (exP++exW2++exQ)=(exN2,0,0):=by kernel_rfl
def exW3 : List UInt8:=[115,107,40,66,41]
def exN3 : Nar:=⟨[112],[[65],[66]],[⟨[65],[110],2⟩],[],[⟨[65],[66],⟨3,[115,107],0,[⟨2,[66],0,[]⟩]⟩,1⟩],[]⟩
set_option maxRecDepth 100000 in
theorem exR3 : Y2 (exP++exW3++exQ)=(exN3,0,0):=by kernel_rfl
set_option maxRecDepth 100000 in
theorem exC0 : chkE E4 exN0=(0,0):=by decide +kernel
set_option maxRecDepth 100000 in
theorem exC1 : chkE E4 exN1=(1,13):=by decide +kernel
set_option maxRecDepth 100000 in
theorem exC2 : chkE E4 exN2=(1,10):=by decide +kernel
set_option maxRecDepth 100000 in
theorem exC3 : chkE E4 exN3=(1,10):=by decide +kernel
set_option maxRecDepth 100000 in
theorem exS1 : Rq exN0 [110]=(2,0):=by decide +kernel
set_option maxRecDepth 100000 in
theorem exS2 : Rq exN0 [65]=(1,0):=by decide +kernel
set_option maxRecDepth 100000 in
theorem exU : Vd exN0 [110]=[0]:=by decide +kernel
theorem V1 (s : List UInt8) (h : s.length≤1000) : Ctr sys 35 [xs s] [] (xn (Y2 (exP++s++exQ)).1) none []:=by
 refine D1 Tryz.func35 J J J J J J ?_;refine A8 (A6 ?_);refine C3 J (E1 J J J) ?_;refine B0 ?_;refine A8 (A6 ?_);refine A5 J J J (A7 J gU) ?_;refine A5 J J J (Bu J J gU gU (by simp; omega)) ?_;refine A5 J J J (Bu J J gU gU (by simp; omega)) ?_;refine C8 J J J J J J gU gU (Nu (exP++s++exQ) (by have e1 : exP.length=58:=rfl; have e2 : exQ.length=3:=rfl; rw[List.length_append,List.length_append]; omega)) J ?_;refine A5 J J J (A7 J gU) ?_;refine A5 J J J (C6 J gU J) ?_;refine A5 J J J (C6 J gU J) ?_;refine A5 J J J (C6 J gU J) ?_;refine C3 J (E1 J J J) ?_;refine C3 J (C7 J J J J J J J) ?_;refine A5 J J J (A9 J gU) ?_;refine A5 J J J (A9 J gU) ?_;refine B0 ?_;refine B5 (s:=⟨[(2,_,_),(3,_,_)],[(.l 2,_),(.l 3,_)],[],[]⟩) (B4 (⟨U J,U J,O⟩) (⟨U J,U J,O⟩) O) ?_;refine A8 (A6 ?_);refine A5 J J J (B8 J gU J J J J J) ?_;refine C3 J (C7 J J J J J J J) ?_;refine B0 ?_;refine C1 ?_
 repeat(first|refine tR ?_|refine bR ?_)
 refine C5 J ?_ O
 rfl
theorem Hg : Ctr sys 11 [] [] (xb true) none []:=by
 have a0:=V1 exW0 (by decide)
 rw[exR0] at a0
 have c0:=P4 exN0 (by decide) (by decide)
 rw[exC0] at c0
 have a1:=V1 exW1 (by decide)
 rw[exR1] at a1
 have c1:=P4 exN1 (by decide) (by decide)
 rw[exC1] at c1
 have a2:=V1 exW2 (by decide)
 rw[exR2] at a2
 have c2:=P4 exN2 (by decide) (by decide)
 rw[exC2] at c2
 have a3:=V1 exW3 (by decide)
 rw[exR3] at a3
 have c3:=P4 exN3 (by decide) (by decide)
 rw[exC3] at c3
 have s1:=Ib exN0 [110] (by decide) (by decide)
 rw[exS1] at s1
 have s2:=Ib exN0 [65] (by decide) (by decide)
 rw[exS2] at s2
 have u1:=Ss exN0 [110] (by decide) (by decide)
 rw[exU] at u1
 refine D1 Tryz.func11 J J J J J J ?_;refine A8 (A6 ?_);refine A5 J J J (A9 J gU) ?_;refine B0 ?_;refine A8 (A6 ?_);refine C8 J J J J J J gU gU (a0) J ?_;refine C3 J (E1 J J J) ?_;refine C3 J (C7 J J J J J J J) ?_;refine B0 ?_;refine A8 (A6 ?_);refine A5 J J J (B8 J gU J J J J J) ?_;refine C8 J J J J J J gU gU (c0) J ?_;refine A5 J J J (A7 J gU) ?_;refine A5 J J J (C6 J gU J) ?_;refine A5 J J J (C6 J gU J) ?_;refine A5 J J J (A9 J gU) ?_;refine A5 J J J (A9 J gU) ?_;refine B0 ?_;refine B5 (s:=⟨[(1,_,_),(2,_,_),(3,_,_)],[(.l 1,_)],[],[]⟩) (B4 (⟨U J,U J,U J,O⟩) (⟨U J,O⟩) O) ?_;refine A8 (A6 ?_);refine A5 J J J (B8 J gU J J J J J) ?_;refine C8 J J J J J J gU gU (s1) J ?_;refine A5 J J J (A7 J gU) ?_;refine A5 J J J (C6 J gU J) ?_;refine A5 J J J (C6 J gU J) ?_;refine A5 J J J (A9 J gU) ?_;refine A5 J J J (A9 J gU) ?_;refine B0 ?_;refine B5 (s:=⟨[(1,_,_),(2,_,_),(3,_,_),(4,_,_),(5,_,_)],[(.l 1,_)],[],[]⟩) (B4 (⟨U J,U J,U J,U J,U J,O⟩) (⟨U J,O⟩) O) ?_
 refine A8 (A6 ?_);refine A5 J J J (B8 J gU J J J J J) ?_;refine C8 J J J J J J gU gU (s2) J ?_;refine A5 J J J (A7 J gU) ?_;refine A5 J J J (C6 J gU J) ?_;refine A5 J J J (C6 J gU J) ?_;refine A5 J J J (A9 J gU) ?_;refine A5 J J J (A9 J gU) ?_;refine B0 ?_;refine B5 (s:=⟨[(1,_,_),(2,_,_),(3,_,_),(4,_,_),(5,_,_),(6,_,_),(7,_,_)],[(.l 1,_)],[],[]⟩) (B4 (⟨U J,U J,U J,U J,U J,U J,U J,O⟩) (⟨U J,O⟩) O) ?_;refine A8 (A6 ?_);refine C8 J J J J J J gU gU (a1) J ?_;refine C8 J J J J J J gU gU (c1) J ?_;refine A5 J J J (A7 J gU) ?_;refine A5 J J J (C6 J gU J) ?_;refine A5 J J J (C6 J gU J) ?_;refine A5 J J J (A9 J gU) ?_;refine A5 J J J (A9 J gU) ?_;refine B0 ?_;refine B5 (s:=⟨[(1,_,_),(2,_,_),(3,_,_),(4,_,_),(5,_,_),(6,_,_),(7,_,_),(8,_,_),(9,_,_)],[(.l 1,_)],[],[]⟩) (B4 (⟨U J,U J,U J,U J,U J,U J,U J,U J,U J,O⟩) (⟨U J,O⟩) O) ?_;refine A8 (A6 ?_);refine C8 J J J J J J gU gU (a2) J ?_
 refine C8 J J J J J J gU gU (c2) J ?_;refine A5 J J J (A7 J gU) ?_;refine A5 J J J (C6 J gU J) ?_;refine A5 J J J (C6 J gU J) ?_;refine A5 J J J (A9 J gU) ?_;refine A5 J J J (A9 J gU) ?_;refine B0 ?_;refine B5 (s:=⟨[(1,_,_),(2,_,_),(3,_,_),(4,_,_),(5,_,_),(6,_,_),(7,_,_),(8,_,_),(9,_,_),(11,_,_)],[(.l 1,_)],[],[]⟩) (B4 (⟨U J,U J,U J,U J,U J,U J,U J,U J,U J,U J,O⟩) (⟨U J,O⟩) O) ?_;refine A8 (A6 ?_);refine C8 J J J J J J gU gU (a3) J ?_;refine C8 J J J J J J gU gU (c3) J ?_;refine A5 J J J (A7 J gU) ?_;refine A5 J J J (C6 J gU J) ?_;refine A5 J J J (C6 J gU J) ?_;refine A5 J J J (A9 J gU) ?_;refine A5 J J J (A9 J gU) ?_;refine B0 ?_;refine B5 (s:=⟨[(1,_,_),(2,_,_),(3,_,_),(4,_,_),(5,_,_),(6,_,_),(7,_,_),(8,_,_),(9,_,_),(11,_,_),(13,_,_)],[(.l 1,_)],[],[]⟩) (B4 (⟨U J,U J,U J,U J,U J,U J,U J,U J,U J,U J,U J,O⟩) (⟨U J,O⟩) O) ?_;refine A8 (A6 ?_);refine A5 J J J (A7 J gU) ?_
 refine A5 J J J (B7 J J gU gU J) ?_;refine A5 J J J (A7 J gU) ?_;refine A5 J J J (A7 J gU) ?_;refine A5 J J J (B7 J J (fun hh=>hh) gU J) ?_;refine A5 J J J (E0 J J gU (fun _ hi=>gP J hi)) ?_;refine A5 J J J (A7 J gU) ?_;refine A5 J J J (A7 J gU) ?_;refine A5 J J J (B7 J J (fun hh=>hh) gU J) ?_;refine A5 J J J (E0 J J gU (fun _ hi=>gP J hi)) ?_;refine A5 J J J (A7 J gU) ?_;refine A5 J J J (A7 J gU) ?_;refine H3 (s:=⟨[(1,_,_),(6,_,_),(7,_,_),(8,_,_),(9,_,_),(11,_,_),(13,_,_),(55,_,_),(56,_,_)],[(.l 1,_)],[],[]⟩) (B4 (⟨U J,U J,U J,U J,U J,U J,U J,U J,U J,O⟩) (⟨U J,O⟩) O) ?_;refine A5 J J J (B7 J J (fun hh=>hh) gU J) ?_;refine A5 J J J (E0 J J gU (fun _ hi=>gP J hi)) ?_;refine A5 J J J (A7 J gU) ?_;refine A5 J J J (A7 J gU) ?_;refine A5 J J J (B7 J J (fun hh=>hh) gU J) ?_;refine A5 J J J (E0 J J gU (fun _ hi=>gP J hi)) ?_;refine A5 J J J (A7 J gU) ?_;refine A5 J J J (A7 J gU) ?_;refine A5 J J J (B7 J J (fun hh=>hh) gU J) ?_
 refine A5 J J J (E0 J J gU (fun _ hi=>gP J hi)) ?_;refine A5 J J J (A7 J gU) ?_;refine A5 J J J (B8 J gU J J J J J) ?_;refine H3 (s:=⟨[(8,_,_),(9,_,_),(11,_,_),(13,_,_),(67,_,_),(68,_,_)],[],[],[]⟩) (B4 (⟨U J,U J,U J,U J,U J,U J,O⟩) O O) ?_;refine C8 J J J J J J gU (fun hh=>gA ((fun hh=>hh) hh) (gA J (rfl))) (u1) J ?_;refine Hy (xs:=[_]) J J J J J J J J J (by first|exact fun hh=>hh|exact fun _=>rfl|exact fun hh=>gL hh|exact fun hh=>gL (gL hh)|(intro hh; simp_all)) J ?_;refine C8 J J J J J J gU (fun hh=>gA ((fun hh=>hh) hh) (gA ((fun hh=>hh) hh) (rfl))) (Fm [0] [0] J) J ?_;refine A5 J J J (E0 J J gU (fun _ hi=>gP J hi)) ?_;refine A5 J J J (A7 J gU) ?_;refine A5 J J J (A7 J gU) ?_;refine A5 J J J (B7 J J (fun hh=>hh) gU J) ?_;refine A5 J J J (E0 J J gU (fun _ hi=>gP J hi)) ?_;refine A5 J J J (A7 J gU) ?_;refine A5 J J J (A7 J gU) ?_;refine A5 J J J (B7 J J (fun hh=>hh) gU J) ?_;refine A5 J J J (E0 J J gU (fun _ hi=>gP J hi)) ?_;refine H3 (s:=⟨[(11,_,_),(13,_,_),(80,_,_)],[],[],[]⟩) (B4 (⟨U J,U J,U J,O⟩) O O) ?_
 refine A5 J J J (A7 J gU) ?_;refine A5 J J J (A7 J gU) ?_;refine A5 J J J (B7 J J (fun hh=>hh) gU J) ?_;refine A5 J J J (E0 J J gU (fun _ hi=>gP J hi)) ?_;refine A5 J J J (A7 J gU) ?_;refine A5 J J J (A7 J gU) ?_;refine A5 J J J (B7 J J (fun hh=>hh) gU J) ?_;refine A5 J J J (E0 J J gU (fun _ hi=>gP J hi)) ?_;refine A5 J J J (A9 J gU) ?_;refine B0 ?_;refine C1 ?_
 repeat(first|refine tR ?_|refine bR ?_)
 refine C5 J ?_ O
 rfl
theorem upM {f : FuncId} {args : List X} {res : Nat→X} {es : List (List UInt8 × Value)} (h : CtrM sys f args res es) : CtrM sysO f args res es:=by
 obtain ⟨h1,h4⟩:=h
 exact ⟨h1,fun w G vs a b c d e=>h4 w G vs a b c d fun x hx=>e x hx⟩
theorem Xu (n : Nar) (b : Nat) (h : ChkOk n) : CtrO (zR n b) 56 [xn n, .fn 57 [.ptr (.o 0) 0]] [tbC n.roles b] [] (xn (chN (srtG n) n)) [tbC n.roles b] .box:=by
 have b1:=h.nar.r2
 have b2:=h.nar.f2
 have b3:=h.nar.t2
 have b4:=h.nar.s1
 have b5:=h.nar.s2
 have b6:=h.nar.g2
 have s0 : n.steps≠[]:=fun q=>by rw[q] at b4; simp at b4
 have hm : ∀ s ∈ n.steps,gdB s.msg=true∧s.msg.size≤900000 := fun s hs=>⟨(h.msg s hs).2.1,by have := (h.msg s hs).2.2; omega⟩
 have hd : ∀ g ∈ n.goals,g.data≠[]∧g.data.length≤100 ∧ ∀ t ∈ g.data,gdB t=true∧t.size≤900000:=fun g hg=>by
  have d1:=(h.nar.goals g hg).d1
  have d2:=(h.nar.goals g hg).d2
  exact ⟨fun q=>by rw[q] at d1; simp at d1,by omega,fun t ht=>⟨(h.dat g hg t ht).2.1,by have := (h.dat g hg t ht).2.2; omega⟩⟩
 by_cases hg0 : n.goals=[]
 ·exact Wy n b (by omega) (by omega) (by omega) (by omega) (by omega) s0 hg0 hm hd
 ·exact Yt n b (by omega) (by omega) (by omega) (by omega) (by omega) s0 hg0 hm hd
theorem Ik (n : Nar) (hs : ∀ s ∈ n.steps,s.msg.size≤900000) (hg : ∀ g ∈ n.goals,T.sizes g.data≤900000) : Ctr sysO 25 [xn n] [] (xnie (resE n)) none []:=by
 refine D1 Tryz.func25 J J J J J J ?_;refine A8 (A6 ?_);refine C3 J (D8 J J J J) ?_;refine C3 J (E1 J J J) ?_;refine A5 J J J (A9 J gU) ?_;refine A5 J J J (A9 J gU) ?_;refine B0 ?_;refine A8 ?_;refine A8 (A6 ?_);refine A5 J J J (B8 J gU J J J J J) ?_;refine C8 J J J J J J gU gU (up (P4 n hs hg)) J ?_;refine A5 J J J (A7 J gU) ?_;refine A5 J J J (C6 J gU J) ?_;refine A5 J J J (C6 J gU J) ?_;refine A5 J J J (A9 J gU) ?_;refine A5 J J J (A9 J gU) ?_;refine B0 ?_;refine B5 (s:=⟨[(1,_,_),(2,_,_),(5,_,_),(6,_,_)],[(.l 1,_),(.l 2,_)],[],[]⟩) (B4 (⟨U J,U J,U J,U J,O⟩) (⟨U J,U J,O⟩) O) ?_;refine A8 (A6 ?_);refine A5 J J J (A7 J gU) ?_;refine A5 J J J (B7 J J gU gU J) ?_;refine B0 ?_;refine B9 J (fun hc=>?_) (fun hc=>?_)
 ·try simp only [nn,B3,nq] at hc
  refine A8 (A6 ?_);refine A5 J J J (H6 J Tryz.underlying27 J gU) ?_;refine A5 J J J (A7 J gU) ?_;refine A5 J J J (A7 J gU) ?_;refine C3 J (C7 J J J J J J J) ?_;refine A5 J J J (A9 J gU) ?_;refine A5 J J J (A9 J gU) ?_;refine B0 ?_;refine C1 ?_
  repeat(first|refine tR ?_|refine bR ?_)
  refine C5 J ?_ O
  (rw[resE,if_pos hc]; rfl)
 ·try simp only [nn,B3,nq] at hc
  have hE : resE n=(chN (srtG n) n,0,0):=by rw[resE,if_neg (by simpa using hc)]
  have hok:=Ya (n:=n) hc
  rw[hE]
  refine C0 ?_;refine A8 (A6 ?_);refine A5 J J J (B8 J gU J J J J J) ?_;refine Hs J J J J J J (upM (Bq n)) (fun _=>rfl) (fun bm=>?_);refine C3 J (E1 J J J) ?_;refine C3 J (C7 J J J J J J J) ?_;refine B0 ?_;refine B5 (s:={ t:=[(1,_,_),(2,_,_),(7,_,_)],bx:=[(.l 1,_),(.l 2,_),(.l 7,_)],ow:=[],mp:=_ }) (B4 (⟨U J,U J,U J,O⟩) (⟨U J,U J,U J,O⟩) O (.inr J)) ?_;refine A8 (A6 ?_);refine A5 J J J (B8 J gU J J J J J) ?_;refine A5 J J J (Y6 (ys:=[.ptr (.l 7) 0]) J) ?_;refine Xr 0 J [⟨.l 7,0,tbC n.roles bm,tbC n.roles bm⟩] [] J J J J J J (ps1 J) J J (Xu n bm hok) J J J ?_;refine C3 J (C7 J J J J J J J) ?_;refine A5 J J J (A9 J gU) ?_;refine A5 J J J (A9 J gU) ?_;refine B0 ?_;refine C1 ?_
  repeat(first|refine tR ?_|refine bR ?_)
  refine C5 J ?_ O
  all_goals rfl
theorem Jy (n : Nar) (hs : ∀ s ∈ n.steps,s.msg.size≤900000) (hg : ∀ g ∈ n.goals,T.sizes g.data≤900000) : Ctr sys 25 [xn n] [] (xnie (resE n)) none []:=(Ik n hs hg).wk J fun _ h=>h
theorem Wi (n : Nar) (h1 : n.steps.length≤16) (h2 : n.goals.length≤16) (hs : ∀ s ∈ n.steps,s.msg.size≤900000) (hg : ∀ g ∈ n.goals,T.sizes g.data≤900000) : (resE n).1.steps.length≤16∧(resE n).1.goals.length≤16∧(∀ s ∈ (resE n).1.steps,s.msg.size≤900000) ∧ ∀ g ∈ (resE n).1.goals,T.sizes g.data≤900000:=by
 unfold resE
 split
 ·refine ⟨Nat.zero_le _,Nat.zero_le _,fun x hx=>?_,fun x hx=>?_⟩ <;> simp [nar0] at hx
 ·refine ⟨by simpa [chN] using h1,by simpa [chN] using h2,fun x hx=>?_,fun x hx=>?_⟩
  ·obtain ⟨y,hy,rfl⟩:=List.mem_map.1 (show x ∈ n.steps.map (chS (srtG n)) from hx)
   show (chT (srtG n) y.msg).size≤900000
   rw[Ph]; exact hs y hy
  ·obtain ⟨y,hy,rfl⟩:=List.mem_map.1 (show x ∈ n.goals.map (chL (srtG n)) from hx)
   show T.sizes (y.data.map (chT (srtG n)))≤900000
   rw[← Jl,Fd]; exact hg y hy
theorem Cw (n : Nar) (hd : ∀ g ∈ n.goals,g.data.length≤2097152) : Ctr sys 7 [xn n] [] (xb true) none []:=by
 refine D1 Tryz.func7 J J J J J J ?_;refine A8 (A6 ?_);refine C3 J (D8 J J J J) ?_;refine A5 J J J (A9 J gU) ?_;refine B0 ?_;refine A8 ?_;refine A8 (A6 ?_);refine C8 J J J J J J gU gU (Hg) J ?_;refine A5 J J J (F8 J gU) ?_;refine A5 J J J (A7 J gU) ?_;refine A5 J J J (B8 J gU J J J J J) ?_;refine C8 J J J J J J gU (fun hh=>gA ((fun hh=>hh) hh) (rfl)) (Th n hd) J ?_;refine A5 J J J (F8 J (fun hh=>hh)) ?_;refine A5 J J J (E5 J J gU (fun _ hi=>gP J hi)) ?_;refine B0 ?_;refine B5 (s:=⟨[(1,_,_),(15,_,_)],[(.l 1,_)],[],[]⟩) (B4 (⟨U J,U J,O⟩) (⟨U J,O⟩) O) ?_;refine B9 J (fun hc=>?_) (fun hc=>?_)
 ·refine A8 (A6 ?_)
  refine C8 J J J J J J gU gU (Hg) J ?_;refine A5 J J J (A9 J gU) ?_;refine B0 ?_;refine C1 ?_
  repeat(first|refine tR ?_|refine bR ?_)
  refine C5 J ?_ O
  rfl
 ·try simp only [nn,B3,nq] at hc
  obtain ⟨p1,p2,p3,p4⟩:=uA8 (n:=n) (by simpa using hc)
  obtain ⟨q1,q2,q3,q4⟩:=Wi n p1 p2 p3 p4
  refine C0 ?_;refine A8 (A6 ?_);refine A5 J J J (B8 J gU J J J J J) ?_;refine C8 J J J J J J gU gU (Jy n p3 p4) J ?_;refine A5 J J J (A7 J gU) ?_;refine A5 J J J (C6 J gU J) ?_;refine A5 J J J (C6 J gU J) ?_;refine A5 J J J (C6 J gU J) ?_;refine C3 J (E1 J J J) ?_;refine C3 J (C7 J J J J J J J) ?_;refine A5 J J J (A9 J gU) ?_;refine A5 J J J (A9 J gU) ?_;refine B0 ?_;refine B5 (s:=⟨[(1,_,_),(3,_,_),(4,_,_),(5,_,_)],[(.l 1,_),(.l 3,_)],[],[]⟩) (B4 (⟨U J,U J,U J,U J,O⟩) (⟨U J,U J,O⟩) O) ?_;refine A8 (A6 ?_);refine A5 J J J (B8 J gU J J J J J) ?_;refine C8 J J J J J J gU gU (Jr n p3 p4) J ?_;refine A5 J J J (A7 J gU) ?_;refine A5 J J J (C6 J gU J) ?_;refine A5 J J J (C6 J gU J) ?_;refine A5 J J J (C6 J gU J) ?_;refine C3 J (E1 J J J) ?_;refine C3 J (C7 J J J J J J J) ?_;refine A5 J J J (A9 J gU) ?_;refine A5 J J J (A9 J gU) ?_;refine B0 ?_;refine B5 (s:=⟨[(3,_,_),(4,_,_),(5,_,_),(6,_,_),(7,_,_),(8,_,_)],[(.l 3,_),(.l 6,_)],[],[]⟩) (B4 (⟨U J,U J,U J,U J,U J,U J,O⟩) (⟨U J,U J,O⟩) O) ?_
  refine A8 ?_;refine awp_drawn' (by kernel_rfl) ?_;refine B6 J J J J (A7 J gU) ?_;refine B6 J J J J (A7 J gU) ?_;refine B6 J J J J (B7 J J gU gU J) ?_;refine B6 J J J J (A7 J gU) ?_;refine B6 J J J J (A7 J gU) ?_;refine B6 J J J J (A7 J gU) ?_;refine B6 J J J J (B7 J J (fun hh=>hh) (fun hh=>hh) J) ?_;refine B6 J J J J (E0 J J gU (fun _ hi=>gP J hi)) ?_;refine B6 J J J J (A7 J gU) ?_;refine D7 J J J J J J J gU J J J J J ?_;refine D7 J J J J J J J gU J J J J J ?_;refine E7 J J J J J J J gU (fun hh=>gA ((fun hh=>hh) hh) (gA ((fun hh=>hh) hh) (rfl))) (Ny _ _ J q3 q4) J ?_;refine B6 J J J J (E0 J J gU (fun _ hi=>gP J hi)) ?_;refine B6 J J J J (A7 J gU) ?_;refine D7 J J J J J J J gU J J J J J ?_;refine E7 J J J J J J J gU (fun hh=>gA ((fun hh=>hh) hh) (rfl)) (Du _ (by omega) (by omega)) J ?_;refine D7 J J J J J J J gU J J J J J ?_;refine E7 J J J J J J J gU (fun hh=>gA ((fun hh=>hh) hh) (rfl)) (Du _ (by omega) (by omega)) J ?_;refine E7 J J J J J J J gU (fun hh=>gA ((fun hh=>hh) hh) (gA ((fun hh=>hh) hh) (rfl))) (Fm _ _ J) J ?_
  refine B6 J J J J (E0 J J gU (fun _ hi=>gP J hi)) ?_;refine B6 J J J J (A9 J gU) ?_;refine F9 (by kernel_rfl) ?_;refine C1 ?_
  repeat(first|refine tR ?_|refine bR ?_)
  refine C5 J ?_ O;refine M0 ?_
  simp
end Go.Proofs.YteidahabkfgfjaaGreat
