/- Our abstract program logic and contracts of this seat's functions, part 7: no statement of its own (long names of ours are shortened by a program). -/
import Derived.Test.YteidahabkfgfjaaGreatM6
import Derived.KernelRfl
import Derived.SizedLaws
import Derived.Test.YteidahabkfgfjaaGreatChecked
import Derived.Handed
import Derived.Test.YteidahabkfgfjaaGreatRows
import Derived.Deep.DeepHandedRow
import Derived.Stop.Joined
set_option linter.unusedVariables false
set_option linter.unusedSimpArgs false
namespace Go.Proofs.YteidahabkfgfjaaGreat
open Go Go.Abs
set_option maxHeartbeats 8000000 in
theorem Od (n : Nar) (fr tn : List UInt8) (hs : ∀ s ∈ n.steps,s.msg.size≤900000) (hg : ∀ g ∈ n.goals,T.sizes g.data≤900000) : Ctr sys 33 [xn n,xs fr,xs tn] [] (xne (rnE n fr tn)) none []:=by
 refine D1 Tryz.func33 J J J J J J ?_;refine A8 (A6 ?_);refine C3 J (D8 J J J J) ?_;refine C3 J (D8 J J J J) ?_;refine C3 J (D8 J J J J) ?_;refine C3 J (D9 J J J) ?_;refine A5 J J J (A9 J gU) ?_;refine B0 ?_;refine B6 (s:=⟨[(3,_,_),(4,_,_),(5,_,_),(6,_,_)],[(.l 3,_),(.l 4,_),(.l 5,_),(.l 6,_)],[],[]⟩) (B4 (⟨U J,U J,U J,U J,O⟩) (⟨U J,U J,U J,U J,O⟩) O) ?_;refine A8 ?_;refine A8 (A6 ?_);refine A5 J J J (B8 J gU J J J J J) ?_;refine C7 J J J J J J gU gU (O0 n hs hg) J ?_;refine A5 J J J (A7 J gU) ?_;refine A5 J J J (C6 J gU J) ?_;refine A5 J J J (C6 J gU J) ?_;refine A5 J J J (A9 J gU) ?_;refine A5 J J J (A9 J gU) ?_;refine B0 ?_;refine B6 (s:=⟨[(3,_,_),(4,_,_),(5,_,_),(6,_,_),(9,_,_)],[(.l 3,_),(.l 4,_),(.l 5,_),(.l 6,_)],[],[]⟩) (B4 (⟨U J,U J,U J,U J,U J,O⟩) (⟨U J,U J,U J,U J,O⟩) O) ?_;refine A8 (A6 ?_);refine A5 J J J (A7 J gU) ?_;refine A5 J J J (B7 J J gU gU J) ?_
 refine B0 ?_;refine B9 J (fun hc=>?_) (fun hc=>?_)
 ·try simp only [nn,B3,nq] at hc
  refine A8 (A6 ?_);refine A5 J J J (G7 J Tryz.underlying27 J gU) ?_;refine A5 J J J (A7 J gU) ?_;refine C3 J (C8 J J J J J J J) ?_;refine A5 J J J (A9 J gU) ?_;refine B0 ?_;refine C1 ?_
  repeat(first|refine tR ?_|refine bR ?_)
  refine C5 J ?_ O
  (rw[rnE,if_pos hc]; rfl)
 ·try simp only [nn,B3,nq] at hc
  have hok:=Zk (n:=n) hc
  rw[rnE,if_neg (by simpa using hc)]
  refine C0 ?_;refine A8 (A6 ?_);refine A5 J J J (B8 J gU J J J J J) ?_;refine Iq J J J J J J (Cn n) (fun _=>rfl) (fun bm=>?_);refine A5 J J J (Dw J gU (Tryz.underlying63) J J J J J J) ?_;refine A5 J J J (A9 J gU) ?_;refine B0 ?_;refine B6 (s:={ t:=[(3,_,_),(4,_,_),(5,_,_),(6,_,_),(10,_,_)],bx:=[(.l 3,_),(.l 4,_),(.l 5,_),(.l 6,_)],ow:=[],mp:=_ }) (B4 (⟨U J,U J,U J,U J,U J,O⟩) (⟨U J,U J,U J,U J,O⟩) O (.inr J)) ?_;refine A8 ?_;refine A8 (A6 ?_);refine A5 J J J (A7 J gU) ?_;refine A5 J J J (B2 J gU J J J J) ?_;refine A5 J J J (U4 (i:=0) (c:=.i .i64 (mapI (nmsL n) fr)) (z:=.int .i64 0) J J gU gU J Tryz.underlying61 Tryz.underlying9 (by kernel_rfl) (fun w S=>Hn (nmsL n) fr) J) ?_;refine A5 J J J (A7 J gU) ?_;refine A5 J J J (C6 J gU J) ?_;refine A5 J J J (C6 J gU J) ?_;refine A5 J J J (A9 J gU) ?_;refine A5 J J J (A9 J gU) ?_;refine B0 ?_;refine B6 (s:={ t:=[(3,_,_),(4,_,_),(5,_,_),(6,_,_),(10,_,_),(12,_,_)],bx:=[(.l 3,_),(.l 4,_),(.l 5,_),(.l 6,_)],ow:=[],mp:=_ }) (B4 (⟨U J,U J,U J,U J,U J,U J,O⟩) (⟨U J,U J,U J,U J,O⟩) O (.inr J)) ?_
  refine A8 (A6 ?_);refine A5 J J J (A7 J gU) ?_;refine A5 J J J (F9 J gU) ?_;refine B0 ?_;refine B9 J (fun hc2=>?_) (fun hc2=>?_)
  ·try simp only [nn,B3,nq] at hc2
   rw[S0] at hc2
   have h2 : (H2 n).contains fr=false:=hc2
   rw[if_pos h2]
   refine A8 (A6 ?_);refine A5 J J J (G7 J Tryz.underlying27 J gU) ?_;refine C3 J (C8 J J J J J J J) ?_;refine A5 J J J (A9 J gU) ?_;refine B0 ?_;refine C1 ?_
   repeat(first|refine tR ?_|refine bR ?_)
   refine C5 J ?_ O
   rfl
  ·try simp only [nn,B3,nq] at hc2
   rw[S0] at hc2
   have h2 : (H2 n).contains fr=true:=hc2
   rw[if_neg (by rw[h2]; simp)]
   refine C0 ?_;refine A8 ?_;refine A8 (A6 ?_);refine A5 J J J (A7 J gU) ?_;refine A5 J J J (B2 J gU J J J J) ?_;refine A5 J J J (U4 (i:=0) (c:=.i .i64 (mapI (nmsL n) tn)) (z:=.int .i64 0) J J gU gU J Tryz.underlying61 Tryz.underlying9 (by kernel_rfl) (fun w S=>Hn (nmsL n) tn) J) ?_;refine A5 J J J (A7 J gU) ?_;refine A5 J J J (C6 J gU J) ?_;refine A5 J J J (C6 J gU J) ?_;refine A5 J J J (A9 J gU) ?_;refine A5 J J J (A9 J gU) ?_;refine B0 ?_;refine B6 (s:={ t:=[(3,_,_),(4,_,_),(5,_,_),(6,_,_),(14,_,_)],bx:=[(.l 3,_),(.l 4,_),(.l 5,_),(.l 6,_)],ow:=[],mp:=_ }) (B4 (⟨U J,U J,U J,U J,U J,O⟩) (⟨U J,U J,U J,U J,O⟩) O (.inr J)) ?_;refine A8 (A6 ?_);refine A5 J J J (A7 J gU) ?_;refine B0 ?_;refine B9 J (fun hc3=>?_) (fun hc3=>?_)
   ·try simp only [nn,B3,nq] at hc3
    rw[S0] at hc3
    have h3 : (H2 n).contains tn=true:=hc3
    rw[if_pos h3]
    refine A8 (A6 ?_);refine A5 J J J (G7 J Tryz.underlying27 J gU) ?_;refine C3 J (C8 J J J J J J J) ?_;refine A5 J J J (A9 J gU) ?_;refine B0 ?_;refine C1 ?_
    repeat(first|refine tR ?_|refine bR ?_)
    refine C5 J ?_ O
    rfl
   ·try simp only [nn,B3,nq] at hc3
    rw[S0] at hc3
    have h3 : (H2 n).contains tn=false:=hc3
    rw[if_neg (by rw[h3]; simp)]
    have b1:=hok.nar.r2
    have b2:=hok.nar.f2
    have b3:=hok.nar.t2
    have b4:=hok.nar.s1
    have b5:=hok.nar.s2
    have b6:=hok.nar.g2
    have s0 : n.steps≠[]:=fun q=>by rw[q] at b4; simp at b4
    have hm : ∀ s ∈ n.steps,gdB s.msg=true∧s.msg.size≤900000 := fun s hs=>⟨(hok.msg s hs).2.1,by have := (hok.msg s hs).2.2; omega⟩
    have hd : ∀ g ∈ n.goals,g.data≠[]∧g.data.length≤100 ∧ ∀ t ∈ g.data,gdB t=true∧t.size≤900000:=fun g hg=>by
     have d1:=(hok.nar.goals g hg).d1
     have d2:=(hok.nar.goals g hg).d2
     exact ⟨fun q=>by rw[q] at d1; simp at d1,by omega,fun t ht=>⟨(hok.dat g hg t ht).2.1,by have := (hok.dat g hg t ht).2.2; omega⟩⟩
    refine C0 ?_;refine A8 (A6 ?_);refine A5 J J J (V1 (ys:=[.ptr (.l 4) 0, .ptr (.l 5) 0]) J) ?_;refine uA6 53 J (fun fv=>?_);refine C3 J (D9 J J J) ?_;refine C3 J (Se J J J J J J) ?_;refine B0 ?_;refine A8 (A6 ?_);refine A5 J J J (B8 J gU J J J J J) ?_;refine A5 J J J (V1 (ys:=[.ptr (.l 15) 0]) J) ?_;refine J6 (Z':=zK fv 1 2) 1000 [⟨.l 15,0,[.o fv],[.o fv]⟩,⟨.l 4,0,[.s fr],[.s fr]⟩,⟨.l 5,0,[.s tn],[.s tn]⟩] false (fun x : V5=>[.s n.name, .o x.1, .o x.2.1, .o x.2.2.1, .o x.2.2.2.1, .o x.2.2.2.2]) [(1,11,n.roles.length),(2,14,n.fresh.length),(3,17,n.tags.length),(4,23,n.steps.length),(5,26,n.goals.length)] J J J J J J J J (ps3 J J J) J (Zd n fv fr tn (by omega) (by omega) (by omega) (by omega) (by omega) s0 hm hd) (fun _=>rfl) J (by simp) J J J (fun E G a w hr hE=>uBQ (k:=53) (i':=1) (j':=2) J J J J J J J E G a w hr hE) (fun x=>?_)
    obtain ⟨u1,u2,u3,u4,u5⟩:=x
    dsimp only [List.map_cons,List.map_nil]
    refine C3 J (D9 J J J) ?_;refine C3 J (R9 J J J J J J) ?_
    have hlla : n.roles.length=n.roles.length:=rfl
    refine B0 ?_;refine B6 (s:={ t:=[(6,_,_),(15,_,_),(16,_,_),(53,_,_),(56,_,_)],bx:=[(.l 1011,_),(.l 1014,_),(.l 1017,_),(.l 1023,_),(.l 1026,_),(.l 15,_),(.l 16,_),(.l 4,_),(.l 5,_),(.l 6,_)],ow:=[],mp:=_ }) (B4 (⟨U J,U J,U J,U J,U J,O⟩) (⟨U J,U J,U J,U J,U J,U J,U J,U J,U J,U J,O⟩) O (.inr J)) ?_;refine A8 ?_;refine A8 (A6 ?_);refine A5 J J J (B1 J gU J J) ?_;refine A5 J J J (B2 J gU J J J J) ?_;refine A5 J J J (T9 56 1 0 J gU J J J J J) ?_;refine A5 J J J (A7 J gU) ?_;refine B0 ?_;refine C4 ?_;refine F2 (ι:=Nat) { t:=[(6,_,_),(15,_,_),(16,_,_),(53,_,_),(56,_,_),(59,_,_)],bx:=[(.l 1014,_),(.l 1017,_),(.l 1023,_),(.l 1026,_),(.l 15,_),(.l 16,_),(.l 4,_),(.l 5,_),(.l 6,_)],ow:=[],mp:=_ } (fun k=>[(60,true,xi (k : Int))]) (fun k=>[((.l 1011),(strR (upto (swp fr tn) n.roles k)).flatten)]) (fun k=>k≤n.roles.length) (fun k=>n.roles.length - k) (0) (by simp) (B4 (⟨U J,U J,U J,U J,U J,U J,U J,O⟩) (⟨⟨_,rfl,by rw[S3]⟩,⟨U J,U J,U J,U J,U J,U J,U J,U J,U J,O⟩⟩) O (.inr J)) ?_
    intro k hoka
    dsimp only [List.cons_append,List.nil_append]
    have hul:=W3 (swp fr tn) n.roles k
    have hfl : (strR (upto (swp fr tn) n.roles k)).flatten.length=n.roles.length * 1:=by rw[P7 (Lp _),B3,hul]
    refine A8 (A6 ?_);refine A5 J J J (B7 J J gU gU J) ?_;refine B0 ?_;refine A8 ?_;refine B9 J (fun hc4a=>?_) (fun hc4a=>?_)
    ·try simp only [nn,B3,nq] at hc4a
     have hlt : k < n.roles.length:=by omega
     have hat:=Z9 (f:=swp fr tn) (d:=[]) hlt
     have hset:=W7 (f:=swp fr tn) (d:=[]) hlt
     have hold:=uCi hat
     have hb0 : 0 + k * 1 + 1≤(strR (upto (swp fr tn) n.roles k)).flatten.length:=by rw[hfl]; omega
     refine C0 ?_;refine A8 ?_;refine C4 ?_;refine A8 (A6 ?_);refine A5 J J J (A7 J gU) ?_;refine A5 J J J (A9 J gU) ?_;refine B0 ?_;refine awp_drawn' (by kernel_rfl) ?_;refine K9 53 J J J J J J (Q2 53 J gU J J J J J) ?_;refine B5 J J J J (B1 J gU J J) ?_;refine K9 56 J J J J J J (N2 (L:=n.roles.length) 56 1 0 1 J gU J J J J J J J (by omega)) ?_;refine B5 J J J J (A7 J gU) ?_;refine B5 J J J J (I6 J J gU gU J J J (fun _=>by omega)) ?_;refine T3 (Z':=sysO) ⟨.l 1011,0 + k * 1,_,[.s (swp fr tn (n.roles.getD k []))]⟩ [⟨.l 4,0,[.s fr],[.s fr]⟩,⟨.l 5,0,[.s tn],[.s tn]⟩] J J J J J J J J J (ps3 J J J) (Aa (Nat.ble_eq_true_of_le hb0) J) (Ch hold) J J J (fun _ _ _ _ _ _ _=>O) (Ep J J) ?_;refine F6 (by kernel_rfl) ?_;refine B6 (s:={ t:=[(6,_,_),(15,_,_),(16,_,_),(53,_,_),(56,_,_),(59,_,_),(60,_,_)],bx:=[(.l 1011,_),(.l 1014,_),(.l 1017,_),(.l 1023,_),(.l 1026,_),(.l 15,_),(.l 16,_),(.l 4,_),(.l 5,_),(.l 6,_)],ow:=[],mp:=_ }) (B4 (⟨U J,U J,U J,U J,U J,U J,U J,O⟩) (⟨U J,U J,U J,U J,U J,U J,U J,U J,U J,U J,O⟩) O (.inr J)) ?_
     refine A6 ?_;refine A5 J J J (D0 J J gU gU J (IntWalk.i64_in _ (by omega))) ?_;refine A5 J J J (A7 J gU) ?_;refine B0 ?_;refine ⟨k + 1,?_,?_,B4 (⟨⟨_,rfl,?_⟩,⟨U J,U J,U J,U J,U J,U J,O⟩⟩) (⟨⟨_,rfl,?_⟩,⟨U J,U J,U J,U J,U J,U J,U J,U J,U J,O⟩⟩) O (.inr J)⟩
     all_goals (first|rfl|omega|exact (uCo hat _).trans (congrArg (fun z=>(strR z).flatten) hset))
    ·try simp only [nn,B3,nq] at hc4a
     have hke : k=n.roles.length:=by omega
     subst hke
     rw[S2]
     have hllb : n.tags.length=n.tags.length:=rfl
     refine E1 ?_
     repeat(first|refine D5 ?_|refine D6 ?_|refine D2 J ?_)
     refine A8 ?_;refine A8 (A6 ?_);refine A5 J J J (B1 J gU J J) ?_;refine A5 J J J (B2 J gU J J J J) ?_;refine A5 J J J (T9 56 3 2 J gU J J J J J) ?_;refine A5 J J J (A7 J gU) ?_;refine B0 ?_;refine B6 (s:={ t:=[(6,_,_),(15,_,_),(16,_,_),(53,_,_),(56,_,_),(72,_,_),(73,_,_)],bx:=[(.l 1011,_),(.l 1014,_),(.l 1017,_),(.l 1023,_),(.l 1026,_),(.l 15,_),(.l 16,_),(.l 4,_),(.l 5,_),(.l 6,_)],ow:=[],mp:=_ }) (B4 (⟨U J,U J,U J,U J,U J,U J,U J,O⟩) (⟨U J,U J,U J,U J,U J,U J,U J,U J,U J,U J,O⟩) O (.inr J)) ?_;refine C4 ?_;refine F2 (ι:=Nat) { t:=[(6,_,_),(15,_,_),(16,_,_),(53,_,_),(56,_,_),(72,_,_)],bx:=[(.l 1011,_),(.l 1014,_),(.l 1023,_),(.l 1026,_),(.l 15,_),(.l 16,_),(.l 4,_),(.l 5,_),(.l 6,_)],ow:=[],mp:=_ } (fun k=>[(73,true,xi (k : Int))]) (fun k=>[((.l 1017),(strR (upto (swp fr tn) n.tags k)).flatten)]) (fun k=>k≤n.tags.length) (fun k=>n.tags.length - k) (0) (by simp) (B4 (⟨U J,U J,U J,U J,U J,U J,U J,O⟩) (⟨⟨_,rfl,by rw[S3]⟩,⟨U J,U J,U J,U J,U J,U J,U J,U J,U J,O⟩⟩) O (.inr J)) ?_
     intro k hokb
     dsimp only [List.cons_append,List.nil_append]
     have hul:=W3 (swp fr tn) n.tags k
     have hfl : (strR (upto (swp fr tn) n.tags k)).flatten.length=n.tags.length * 1:=by rw[P7 (Lp _),B3,hul]
     refine A8 (A6 ?_);refine A5 J J J (B7 J J gU gU J) ?_;refine B0 ?_;refine A8 ?_;refine B9 J (fun hc4b=>?_) (fun hc4b=>?_)
     ·try simp only [nn,B3,nq] at hc4b
      have hlt : k < n.tags.length:=by omega
      have hat:=Z9 (f:=swp fr tn) (d:=[]) hlt
      have hset:=W7 (f:=swp fr tn) (d:=[]) hlt
      have hold:=uCi hat
      have hb0 : 0 + k * 1 + 1≤(strR (upto (swp fr tn) n.tags k)).flatten.length:=by rw[hfl]; omega
      refine C0 ?_;refine A8 ?_;refine C4 ?_;refine A8 (A6 ?_);refine A5 J J J (A7 J gU) ?_;refine A5 J J J (A9 J gU) ?_;refine B0 ?_;refine awp_drawn' (by kernel_rfl) ?_;refine K9 53 J J J J J J (Q2 53 J gU J J J J J) ?_;refine B5 J J J J (B1 J gU J J) ?_;refine K9 56 J J J J J J (N2 (L:=n.tags.length) 56 3 2 1 J gU J J J J J J J (by omega)) ?_;refine B5 J J J J (A7 J gU) ?_;refine B5 J J J J (I6 J J gU gU J J J (fun _=>by omega)) ?_;refine T3 (Z':=sysO) ⟨.l 1017,0 + k * 1,_,[.s (swp fr tn (n.tags.getD k []))]⟩ [⟨.l 4,0,[.s fr],[.s fr]⟩,⟨.l 5,0,[.s tn],[.s tn]⟩] J J J J J J J J J (ps3 J J J) (Aa (Nat.ble_eq_true_of_le hb0) J) (Ch hold) J J J (fun _ _ _ _ _ _ _=>O) (Ep J J) ?_;refine F6 (by kernel_rfl) ?_;refine B6 (s:={ t:=[(6,_,_),(15,_,_),(16,_,_),(53,_,_),(56,_,_),(72,_,_),(73,_,_)],bx:=[(.l 1011,_),(.l 1014,_),(.l 1017,_),(.l 1023,_),(.l 1026,_),(.l 15,_),(.l 16,_),(.l 4,_),(.l 5,_),(.l 6,_)],ow:=[],mp:=_ }) (B4 (⟨U J,U J,U J,U J,U J,U J,U J,O⟩) (⟨U J,U J,U J,U J,U J,U J,U J,U J,U J,U J,O⟩) O (.inr J)) ?_
      refine A6 ?_;refine A5 J J J (D0 J J gU gU J (IntWalk.i64_in _ (by omega))) ?_;refine A5 J J J (A7 J gU) ?_;refine B0 ?_;refine ⟨k + 1,?_,?_,B4 (⟨⟨_,rfl,?_⟩,⟨U J,U J,U J,U J,U J,U J,O⟩⟩) (⟨⟨_,rfl,?_⟩,⟨U J,U J,U J,U J,U J,U J,U J,U J,U J,O⟩⟩) O (.inr J)⟩
      all_goals (first|rfl|omega|exact (uCo hat _).trans (congrArg (fun z=>(strR z).flatten) hset))
     ·try simp only [nn,B3,nq] at hc4b
      have hke : k=n.tags.length:=by omega
      subst hke
      rw[S2]
      have hllc : n.fresh.length=n.fresh.length:=rfl
      refine E1 ?_
      repeat(first|refine D5 ?_|refine D6 ?_|refine D2 J ?_)
      refine A8 ?_;refine A8 (A6 ?_);refine A5 J J J (B1 J gU J J) ?_;refine A5 J J J (B2 J gU J J J J) ?_;refine A5 J J J (T9 56 2 1 J gU J J J J J) ?_;refine A5 J J J (A7 J gU) ?_;refine B0 ?_;refine B6 (s:={ t:=[(6,_,_),(15,_,_),(16,_,_),(53,_,_),(56,_,_),(85,_,_),(86,_,_)],bx:=[(.l 1011,_),(.l 1014,_),(.l 1017,_),(.l 1023,_),(.l 1026,_),(.l 15,_),(.l 16,_),(.l 4,_),(.l 5,_),(.l 6,_)],ow:=[],mp:=_ }) (B4 (⟨U J,U J,U J,U J,U J,U J,U J,O⟩) (⟨U J,U J,U J,U J,U J,U J,U J,U J,U J,U J,O⟩) O (.inr J)) ?_;refine C4 ?_;refine F2 (ι:=Nat) { t:=[(6,_,_),(15,_,_),(16,_,_),(53,_,_),(56,_,_),(85,_,_)],bx:=[(.l 1011,_),(.l 1017,_),(.l 1023,_),(.l 1026,_),(.l 15,_),(.l 16,_),(.l 4,_),(.l 5,_),(.l 6,_)],ow:=[],mp:=_ } (fun k=>[(86,true,xi (k : Int))]) (fun k=>[((.l 1014),(Fs.rows (upto (rnF fr tn) n.fresh k)).flatten)]) (fun k=>k≤n.fresh.length) (fun k=>n.fresh.length - k) (0) (by simp) (B4 (⟨U J,U J,U J,U J,U J,U J,U J,O⟩) (⟨⟨_,rfl,by rw[S3]⟩,⟨U J,U J,U J,U J,U J,U J,U J,U J,U J,O⟩⟩) O (.inr J)) ?_
      intro k hokc
      dsimp only [List.cons_append,List.nil_append]
      have hul:=W3 (rnF fr tn) n.fresh k
      have hfl : (Fs.rows (upto (rnF fr tn) n.fresh k)).flatten.length=n.fresh.length * 3:=by rw[P7 (Mf _),Fs.rows_len,hul]
      refine A8 (A6 ?_);refine A5 J J J (B7 J J gU gU J) ?_;refine B0 ?_;refine A8 ?_;refine B9 J (fun hc4c=>?_) (fun hc4c=>?_)
      ·try simp only [nn,B3,nq] at hc4c
       have hlt : k < n.fresh.length:=by omega
       have hat:=Z9 (f:=rnF fr tn) (d:=default) hlt
       have hset:=W7 (f:=rnF fr tn) (d:=default) hlt
       have hold:=U1 (j:=0) (Mf _) (Ob hat) J
       have hw0:=uC3 hat (swp fr tn (n.fresh.getD k default).role)
       have hat1:=Uu (b:=(⟨swp fr tn (n.fresh.getD k default).role,(n.fresh.getD k default).name,(n.fresh.getD k default).sort⟩ : Fs)) hat
       have hold1:=U1 (j:=1) (Mf _) (Ob hat1) J
       have hw1:=uCX hat1 (swp fr tn (n.fresh.getD k default).name)
       rw[← hw0] at hold1 hw1
       rw[List.set_set] at hw1
       have hfl1 : (H6 (Fs.rows (upto (rnF fr tn) n.fresh k)).flatten (0 + k * 3 + 0) [.s (swp fr tn (n.fresh.getD k default).role)]).length=n.fresh.length * 3:=by rw[J7,hfl]
       have hb0 : 0 + k * 3 + 0 + 1≤(Fs.rows (upto (rnF fr tn) n.fresh k)).flatten.length:=by rw[hfl]; omega
       have hb1 : 0 + k * 3 + 1 + 1≤(H6 (Fs.rows (upto (rnF fr tn) n.fresh k)).flatten (0 + k * 3 + 0) [.s (swp fr tn (n.fresh.getD k default).role)]).length:=by rw[hfl1]; omega
       refine C0 ?_;refine A8 ?_;refine C4 ?_;refine A8 (A6 ?_);refine A5 J J J (A7 J gU) ?_;refine A5 J J J (A9 J gU) ?_;refine B0 ?_;refine A8 ?_;refine awp_drawn' (by kernel_rfl) ?_;refine K9 53 J J J J J J (Q2 53 J gU J J J J J) ?_;refine B5 J J J J (B1 J gU J J) ?_;refine K9 56 J J J J J J (N2 (L:=n.fresh.length) 56 2 1 3 J gU J J J J J J J (by omega)) ?_;refine B5 J J J J (A7 J gU) ?_;refine B5 J J J J (I6 J J gU gU J J J (fun _=>by omega)) ?_;refine B5 J J J J (B1 J gU J J) ?_;refine T3 (Z':=sysO) ⟨.l 1014,0 + k * 3 + 0,_,[.s (swp fr tn (n.fresh.getD k default).role)]⟩ [⟨.l 4,0,[.s fr],[.s fr]⟩,⟨.l 5,0,[.s tn],[.s tn]⟩] J J J J J J J J J (ps3 J J J) (Aa (Nat.ble_eq_true_of_le hb0) J) (Ch hold) J J J (fun _ _ _ _ _ _ _=>O) (Ep J J) ?_;refine F6 (by kernel_rfl) ?_;refine B6 (s:={ t:=[(6,_,_),(15,_,_),(16,_,_),(19,_,_),(53,_,_),(56,_,_),(85,_,_),(86,_,_)],bx:=[(.l 1011,_),(.l 1014,_),(.l 1017,_),(.l 1023,_),(.l 1026,_),(.l 15,_),(.l 16,_),(.l 4,_),(.l 5,_),(.l 6,_)],ow:=[],mp:=_ }) (B4 (⟨U J,U J,U J,U J,U J,U J,U J,U J,O⟩) (⟨U J,U J,U J,U J,U J,U J,U J,U J,U J,U J,O⟩) O (.inr J)) ?_
       refine awp_drawn' (by kernel_rfl) ?_;refine K9 53 J J J J J J (Q2 53 J gU J J J J J) ?_;refine B5 J J J J (B1 J gU J J) ?_;refine K9 56 J J J J J J (N2 (L:=n.fresh.length) 56 2 1 3 J gU J J J J J J J (by omega)) ?_;refine B5 J J J J (A7 J gU) ?_;refine B5 J J J J (I6 J J gU gU J J J (fun _=>by omega)) ?_;refine B5 J J J J (B1 J gU J J) ?_;refine T3 (Z':=sysO) ⟨.l 1014,0 + k * 3 + 1,_,[.s (swp fr tn (n.fresh.getD k default).name)]⟩ [⟨.l 4,0,[.s fr],[.s fr]⟩,⟨.l 5,0,[.s tn],[.s tn]⟩] J J J J J J J J J (ps3 J J J) (Aa (Nat.ble_eq_true_of_le hb1) J) (Ch hold1) J J J (fun _ _ _ _ _ _ _=>O) (Ep J J) ?_;refine F6 (by kernel_rfl) ?_;refine B6 (s:={ t:=[(6,_,_),(15,_,_),(16,_,_),(53,_,_),(56,_,_),(85,_,_),(86,_,_)],bx:=[(.l 1011,_),(.l 1014,_),(.l 1017,_),(.l 1023,_),(.l 1026,_),(.l 15,_),(.l 16,_),(.l 4,_),(.l 5,_),(.l 6,_)],ow:=[],mp:=_ }) (B4 (⟨U J,U J,U J,U J,U J,U J,U J,O⟩) (⟨U J,U J,U J,U J,U J,U J,U J,U J,U J,U J,O⟩) O (.inr J)) ?_;refine A6 ?_;refine A5 J J J (D0 J J gU gU J (IntWalk.i64_in _ (by omega))) ?_
       refine A5 J J J (A7 J gU) ?_;refine B0 ?_;refine ⟨k + 1,?_,?_,B4 (⟨⟨_,rfl,?_⟩,⟨U J,U J,U J,U J,U J,U J,O⟩⟩) (⟨⟨_,rfl,?_⟩,⟨U J,U J,U J,U J,U J,U J,U J,U J,U J,O⟩⟩) O (.inr J)⟩
       all_goals (first|rfl|omega|exact hw1.trans (congrArg (fun z=>(Fs.rows z).flatten) hset))
      ·try simp only [nn,B3,nq] at hc4c
       have hke : k=n.fresh.length:=by omega
       subst hke
       rw[S2]
       have hlld : (n.steps.map (chS (swG fr tn))).length=n.steps.length:=List.length_map _
       refine E1 ?_
       repeat(first|refine D5 ?_|refine D6 ?_|refine D2 J ?_)
       refine A8 ?_;refine A8 (A6 ?_);refine A5 J J J (B1 J gU J J) ?_;refine A5 J J J (B2 J gU J J J J) ?_;refine A5 J J J (T9 56 4 3 J gU J J J J J) ?_;refine A5 J J J (A7 J gU) ?_;refine B0 ?_;refine B6 (s:={ t:=[(6,_,_),(15,_,_),(16,_,_),(53,_,_),(56,_,_),(106,_,_),(107,_,_)],bx:=[(.l 1011,_),(.l 1014,_),(.l 1017,_),(.l 1023,_),(.l 1026,_),(.l 15,_),(.l 16,_),(.l 4,_),(.l 5,_),(.l 6,_)],ow:=[],mp:=_ }) (B4 (⟨U J,U J,U J,U J,U J,U J,U J,O⟩) (⟨U J,U J,U J,U J,U J,U J,U J,U J,U J,U J,O⟩) O (.inr J)) ?_;refine C4 ?_;refine F2 (ι:=Nat) { t:=[(6,_,_),(15,_,_),(16,_,_),(53,_,_),(56,_,_),(106,_,_)],bx:=[(.l 1011,_),(.l 1014,_),(.l 1017,_),(.l 1026,_),(.l 15,_),(.l 16,_),(.l 4,_),(.l 5,_),(.l 6,_)],ow:=[],mp:=_ } (fun k=>[(107,true,xi (k : Int))]) (fun k=>[((.l 1023),(Sp.rows (upto (rnS0 fr tn) (n.steps.map (chS (swG fr tn))) k)).flatten)]) (fun k=>k≤n.steps.length) (fun k=>n.steps.length - k) (0) (by simp) (B4 (⟨U J,U J,U J,U J,U J,U J,U J,O⟩) (⟨⟨_,rfl,by rw[S3]⟩,⟨U J,U J,U J,U J,U J,U J,U J,U J,U J,O⟩⟩) O (.inr J)) ?_
       intro k hokd
       dsimp only [List.cons_append,List.nil_append]
       have hul:=W3 (rnS0 fr tn) (n.steps.map (chS (swG fr tn))) k
       have hfl : (Sp.rows (upto (rnS0 fr tn) (n.steps.map (chS (swG fr tn))) k)).flatten.length=(n.steps.map (chS (swG fr tn))).length * 7:=by rw[P7 (Gv _),Sp.rows_len,hul]
       refine A8 (A6 ?_);refine A5 J J J (B7 J J gU gU J) ?_;refine B0 ?_;refine A8 ?_;refine B9 J (fun hc4d=>?_) (fun hc4d=>?_)
       ·try simp only [nn,B3,nq] at hc4d
        have hlt : k < (n.steps.map (chS (swG fr tn))).length:=by omega
        have hat:=Z9 (f:=rnS0 fr tn) (d:=default) hlt
        have hset:=W7 (f:=rnS0 fr tn) (d:=default) hlt
        have hold:=U1 (j:=0) (Gv _) (No hat) J
        have hw0:=uC6 hat (swp fr tn ((n.steps.map (chS (swG fr tn))).getD k default).frm)
        have hat1:=Uu (b:=(⟨swp fr tn ((n.steps.map (chS (swG fr tn))).getD k default).frm,((n.steps.map (chS (swG fr tn))).getD k default).dst,((n.steps.map (chS (swG fr tn))).getD k default).msg,((n.steps.map (chS (swG fr tn))).getD k default).line⟩ : Sp)) hat
        have hold1:=U1 (j:=1) (Gv _) (No hat1) J
        have hw1:=uC1 hat1 (swp fr tn ((n.steps.map (chS (swG fr tn))).getD k default).dst)
        rw[← hw0] at hold1 hw1
        rw[List.set_set] at hw1
        have hfl1 : (H6 (Sp.rows (upto (rnS0 fr tn) (n.steps.map (chS (swG fr tn))) k)).flatten (0 + k * 7 + 0) [.s (swp fr tn ((n.steps.map (chS (swG fr tn))).getD k default).frm)]).length=(n.steps.map (chS (swG fr tn))).length * 7:=by rw[J7,hfl]
        have hb0 : 0 + k * 7 + 0 + 1≤(Sp.rows (upto (rnS0 fr tn) (n.steps.map (chS (swG fr tn))) k)).flatten.length:=by rw[hfl]; omega
        have hb1 : 0 + k * 7 + 1 + 1≤(H6 (Sp.rows (upto (rnS0 fr tn) (n.steps.map (chS (swG fr tn))) k)).flatten (0 + k * 7 + 0) [.s (swp fr tn ((n.steps.map (chS (swG fr tn))).getD k default).frm)]).length:=by rw[hfl1]; omega
        refine C0 ?_;refine A8 ?_;refine C4 ?_;refine A8 (A6 ?_);refine A5 J J J (A7 J gU) ?_;refine A5 J J J (A9 J gU) ?_;refine B0 ?_;refine A8 ?_;refine awp_drawn' (by kernel_rfl) ?_;refine K9 53 J J J J J J (Q2 53 J gU J J J J J) ?_;refine B5 J J J J (B1 J gU J J) ?_;refine K9 56 J J J J J J (N2 (L:=n.steps.length) 56 4 3 7 J gU J J J J J J J (by omega)) ?_;refine B5 J J J J (A7 J gU) ?_;refine B5 J J J J (I6 J J gU gU J J J (fun _=>by omega)) ?_;refine B5 J J J J (B1 J gU J J) ?_;refine T3 (Z':=sysO) ⟨.l 1023,0 + k * 7 + 0,_,[.s (swp fr tn ((n.steps.map (chS (swG fr tn))).getD k default).frm)]⟩ [⟨.l 4,0,[.s fr],[.s fr]⟩,⟨.l 5,0,[.s tn],[.s tn]⟩] J J J J J J J J J (ps3 J J J) (Aa (Nat.ble_eq_true_of_le hb0) J) (Ch hold) J J J (fun _ _ _ _ _ _ _=>O) (Ep J J) ?_;refine F6 (by kernel_rfl) ?_;refine B6 (s:={ t:=[(6,_,_),(15,_,_),(16,_,_),(20,_,_),(53,_,_),(56,_,_),(106,_,_),(107,_,_)],bx:=[(.l 1011,_),(.l 1014,_),(.l 1017,_),(.l 1023,_),(.l 1026,_),(.l 15,_),(.l 16,_),(.l 4,_),(.l 5,_),(.l 6,_)],ow:=[],mp:=_ }) (B4 (⟨U J,U J,U J,U J,U J,U J,U J,U J,O⟩) (⟨U J,U J,U J,U J,U J,U J,U J,U J,U J,U J,O⟩) O (.inr J)) ?_
        refine awp_drawn' (by kernel_rfl) ?_;refine K9 53 J J J J J J (Q2 53 J gU J J J J J) ?_;refine B5 J J J J (B1 J gU J J) ?_;refine K9 56 J J J J J J (N2 (L:=n.steps.length) 56 4 3 7 J gU J J J J J J J (by omega)) ?_;refine B5 J J J J (A7 J gU) ?_;refine B5 J J J J (I6 J J gU gU J J J (fun _=>by omega)) ?_;refine B5 J J J J (B1 J gU J J) ?_;refine T3 (Z':=sysO) ⟨.l 1023,0 + k * 7 + 1,_,[.s (swp fr tn ((n.steps.map (chS (swG fr tn))).getD k default).dst)]⟩ [⟨.l 4,0,[.s fr],[.s fr]⟩,⟨.l 5,0,[.s tn],[.s tn]⟩] J J J J J J J J J (ps3 J J J) (Aa (Nat.ble_eq_true_of_le hb1) J) (Ch hold1) J J J (fun _ _ _ _ _ _ _=>O) (Ep J J) ?_;refine F6 (by kernel_rfl) ?_;refine B6 (s:={ t:=[(6,_,_),(15,_,_),(16,_,_),(53,_,_),(56,_,_),(106,_,_),(107,_,_)],bx:=[(.l 1011,_),(.l 1014,_),(.l 1017,_),(.l 1023,_),(.l 1026,_),(.l 15,_),(.l 16,_),(.l 4,_),(.l 5,_),(.l 6,_)],ow:=[],mp:=_ }) (B4 (⟨U J,U J,U J,U J,U J,U J,U J,O⟩) (⟨U J,U J,U J,U J,U J,U J,U J,U J,U J,U J,O⟩) O (.inr J)) ?_;refine A6 ?_;refine A5 J J J (D0 J J gU gU J (IntWalk.i64_in _ (by omega))) ?_
        refine A5 J J J (A7 J gU) ?_;refine B0 ?_;refine ⟨k + 1,?_,?_,B4 (⟨⟨_,rfl,?_⟩,⟨U J,U J,U J,U J,U J,U J,O⟩⟩) (⟨⟨_,rfl,?_⟩,⟨U J,U J,U J,U J,U J,U J,U J,U J,U J,O⟩⟩) O (.inr J)⟩
        all_goals (first|rfl|omega|exact hw1.trans (congrArg (fun z=>(Sp.rows z).flatten) hset))
       ·try simp only [nn,B3,nq] at hc4d
        have hke : k=(n.steps.map (chS (swG fr tn))).length:=by omega
        subst hke
        rw[S2,uB4]
        have hlle : (n.goals.map (chL (swG fr tn))).length=n.goals.length:=List.length_map _
        refine E1 ?_
        repeat(first|refine D5 ?_|refine D6 ?_|refine D2 J ?_)
        refine A8 ?_;refine A8 (A6 ?_);refine A5 J J J (B1 J gU J J) ?_;refine A5 J J J (B2 J gU J J J J) ?_;refine A5 J J J (T9 56 5 4 J gU J J J J J) ?_;refine A5 J J J (A7 J gU) ?_;refine B0 ?_;refine B6 (s:={ t:=[(6,_,_),(15,_,_),(16,_,_),(53,_,_),(56,_,_),(127,_,_),(128,_,_)],bx:=[(.l 1011,_),(.l 1014,_),(.l 1017,_),(.l 1023,_),(.l 1026,_),(.l 15,_),(.l 16,_),(.l 4,_),(.l 5,_),(.l 6,_)],ow:=[],mp:=_ }) (B4 (⟨U J,U J,U J,U J,U J,U J,U J,O⟩) (⟨U J,U J,U J,U J,U J,U J,U J,U J,U J,U J,O⟩) O (.inr J)) ?_;refine C4 ?_;refine F2 (ι:=Nat) { t:=[(6,_,_),(15,_,_),(16,_,_),(53,_,_),(56,_,_),(127,_,_)],bx:=[(.l 1011,_),(.l 1014,_),(.l 1017,_),(.l 1023,_),(.l 15,_),(.l 16,_),(.l 4,_),(.l 5,_),(.l 6,_)],ow:=[],mp:=_ } (fun k=>[(128,true,xi (k : Int))]) (fun k=>[((.l 1026),(Gl.rows (upto (rnL0 fr tn) (n.goals.map (chL (swG fr tn))) k)).flatten)]) (fun k=>k≤n.goals.length) (fun k=>n.goals.length - k) (0) (by simp) (B4 (⟨U J,U J,U J,U J,U J,U J,U J,O⟩) (⟨⟨_,rfl,by rw[S3]⟩,⟨U J,U J,U J,U J,U J,U J,U J,U J,U J,O⟩⟩) O (.inr J)) ?_
        intro k hoke
        dsimp only [List.cons_append,List.nil_append]
        have hul:=W3 (rnL0 fr tn) (n.goals.map (chL (swG fr tn))) k
        have hfl : (Gl.rows (upto (rnL0 fr tn) (n.goals.map (chL (swG fr tn))) k)).flatten.length=(n.goals.map (chL (swG fr tn))).length * 5:=by rw[P7 (Gu _),Gl.rows_len,hul]
        refine A8 (A6 ?_);refine A5 J J J (B7 J J gU gU J) ?_;refine B0 ?_;refine A8 ?_;refine B9 J (fun hc4e=>?_) (fun hc4e=>?_)
        ·try simp only [nn,B3,nq] at hc4e
         have hlt : k < (n.goals.map (chL (swG fr tn))).length:=by omega
         have hat:=Z9 (f:=rnL0 fr tn) (d:=default) hlt
         have hset:=W7 (f:=rnL0 fr tn) (d:=default) hlt
         have hold:=U1 (j:=1) (Gu _) (Nr hat) J
         have hw0:=uC8 hat (swp fr tn ((n.goals.map (chL (swG fr tn))).getD k default).role)
         have hat1:=Uu (b:=(⟨((n.goals.map (chL (swG fr tn))).getD k default).kind,swp fr tn ((n.goals.map (chL (swG fr tn))).getD k default).role,((n.goals.map (chL (swG fr tn))).getD k default).wth,((n.goals.map (chL (swG fr tn))).getD k default).data,((n.goals.map (chL (swG fr tn))).getD k default).line⟩ : Gl)) hat
         have hold1:=U1 (j:=2) (Gu _) (Nr hat1) J
         have hw1:=uC0 hat1 (swp fr tn ((n.goals.map (chL (swG fr tn))).getD k default).wth)
         rw[← hw0] at hold1 hw1
         rw[List.set_set] at hw1
         have hfl1 : (H6 (Gl.rows (upto (rnL0 fr tn) (n.goals.map (chL (swG fr tn))) k)).flatten (0 + k * 5 + 1) [.s (swp fr tn ((n.goals.map (chL (swG fr tn))).getD k default).role)]).length=(n.goals.map (chL (swG fr tn))).length * 5:=by rw[J7,hfl]
         have hb0 : 0 + k * 5 + 1 + 1≤(Gl.rows (upto (rnL0 fr tn) (n.goals.map (chL (swG fr tn))) k)).flatten.length:=by rw[hfl]; omega
         have hb1 : 0 + k * 5 + 2 + 1≤(H6 (Gl.rows (upto (rnL0 fr tn) (n.goals.map (chL (swG fr tn))) k)).flatten (0 + k * 5 + 1) [.s (swp fr tn ((n.goals.map (chL (swG fr tn))).getD k default).role)]).length:=by rw[hfl1]; omega
         refine C0 ?_;refine A8 ?_;refine C4 ?_;refine A8 (A6 ?_);refine A5 J J J (A7 J gU) ?_;refine A5 J J J (A9 J gU) ?_;refine B0 ?_;refine A8 ?_;refine awp_drawn' (by kernel_rfl) ?_;refine K9 53 J J J J J J (Q2 53 J gU J J J J J) ?_;refine B5 J J J J (B1 J gU J J) ?_;refine K9 56 J J J J J J (N2 (L:=n.goals.length) 56 5 4 5 J gU J J J J J J J (by omega)) ?_;refine B5 J J J J (A7 J gU) ?_;refine B5 J J J J (I6 J J gU gU J J J (fun _=>by omega)) ?_;refine B5 J J J J (B1 J gU J J) ?_;refine T3 (Z':=sysO) ⟨.l 1026,0 + k * 5 + 1,_,[.s (swp fr tn ((n.goals.map (chL (swG fr tn))).getD k default).role)]⟩ [⟨.l 4,0,[.s fr],[.s fr]⟩,⟨.l 5,0,[.s tn],[.s tn]⟩] J J J J J J J J J (ps3 J J J) (Aa (Nat.ble_eq_true_of_le hb0) J) (Ch hold) J J J (fun _ _ _ _ _ _ _=>O) (Ep J J) ?_;refine F6 (by kernel_rfl) ?_;refine B6 (s:={ t:=[(6,_,_),(15,_,_),(16,_,_),(21,_,_),(53,_,_),(56,_,_),(127,_,_),(128,_,_)],bx:=[(.l 1011,_),(.l 1014,_),(.l 1017,_),(.l 1023,_),(.l 1026,_),(.l 15,_),(.l 16,_),(.l 4,_),(.l 5,_),(.l 6,_)],ow:=[],mp:=_ }) (B4 (⟨U J,U J,U J,U J,U J,U J,U J,U J,O⟩) (⟨U J,U J,U J,U J,U J,U J,U J,U J,U J,U J,O⟩) O (.inr J)) ?_
         refine awp_drawn' (by kernel_rfl) ?_;refine K9 53 J J J J J J (Q2 53 J gU J J J J J) ?_;refine B5 J J J J (B1 J gU J J) ?_;refine K9 56 J J J J J J (N2 (L:=n.goals.length) 56 5 4 5 J gU J J J J J J J (by omega)) ?_;refine B5 J J J J (A7 J gU) ?_;refine B5 J J J J (I6 J J gU gU J J J (fun _=>by omega)) ?_;refine B5 J J J J (B1 J gU J J) ?_;refine T3 (Z':=sysO) ⟨.l 1026,0 + k * 5 + 2,_,[.s (swp fr tn ((n.goals.map (chL (swG fr tn))).getD k default).wth)]⟩ [⟨.l 4,0,[.s fr],[.s fr]⟩,⟨.l 5,0,[.s tn],[.s tn]⟩] J J J J J J J J J (ps3 J J J) (Aa (Nat.ble_eq_true_of_le hb1) J) (Ch hold1) J J J (fun _ _ _ _ _ _ _=>O) (Ep J J) ?_;refine F6 (by kernel_rfl) ?_;refine B6 (s:={ t:=[(6,_,_),(15,_,_),(16,_,_),(53,_,_),(56,_,_),(127,_,_),(128,_,_)],bx:=[(.l 1011,_),(.l 1014,_),(.l 1017,_),(.l 1023,_),(.l 1026,_),(.l 15,_),(.l 16,_),(.l 4,_),(.l 5,_),(.l 6,_)],ow:=[],mp:=_ }) (B4 (⟨U J,U J,U J,U J,U J,U J,U J,O⟩) (⟨U J,U J,U J,U J,U J,U J,U J,U J,U J,U J,O⟩) O (.inr J)) ?_;refine A6 ?_;refine A5 J J J (D0 J J gU gU J (IntWalk.i64_in _ (by omega))) ?_
         refine A5 J J J (A7 J gU) ?_;refine B0 ?_;refine ⟨k + 1,?_,?_,B4 (⟨⟨_,rfl,?_⟩,⟨U J,U J,U J,U J,U J,U J,O⟩⟩) (⟨⟨_,rfl,?_⟩,⟨U J,U J,U J,U J,U J,U J,U J,U J,U J,O⟩⟩) O (.inr J)⟩
         all_goals (first|rfl|omega|exact hw1.trans (congrArg (fun z=>(Gl.rows z).flatten) hset))
        ·try simp only [nn,B3,nq] at hc4e
         have hke : k=(n.goals.map (chL (swG fr tn))).length:=by omega
         subst hke
         rw[S2,uB2]
         obtain ⟨z1,z2⟩:=Jm fr tn hs hg
         refine E1 ?_
         repeat(first|refine D5 ?_|refine D6 ?_|refine D2 J ?_)
         refine Bt (L:=n.roles.length) 56 1 0 1011 (.l 16) 1 (strR (n.roles.map (swp fr tn))) J J J J (by rw[B3,List.length_map]) (by omega) (Lp _) J J J J J ?_;refine Bt (L:=n.fresh.length) 56 2 1 1014 (.l 16) 2 (Fs.rows (n.fresh.map (rnF fr tn))) J J J J (by rw[Fs.rows_len,List.length_map]) (by omega) (Mf _) J J J J J ?_;refine Bt (L:=n.tags.length) 56 3 2 1017 (.l 16) 3 (strR (n.tags.map (swp fr tn))) J J J J (by rw[B3,List.length_map]) (by omega) (Lp _) J J J J J ?_;refine Bt (L:=n.steps.length) 56 4 3 1023 (.l 16) 4 (Sp.rows (n.steps.map (rnS fr tn))) J J J J (by rw[Sp.rows_len,List.length_map]) (by omega) (Gv _) J J J J J ?_;refine Bt (L:=n.goals.length) 56 5 4 1026 (.l 16) 5 (Gl.rows (n.goals.map (rnL fr tn))) J J J J (by rw[Gl.rows_len,List.length_map]) (by omega) (Gu _) J J J J J ?_;refine A8 ?_;refine A8 (A6 ?_);refine A5 J J J (B8 J gU J J J J J) ?_;refine C7 J J J J J J gU gU (O0 (rnN fr tn n) z1 z2) J ?_;refine A5 J J J (A7 J gU) ?_;refine A5 J J J (C6 J gU J) ?_;refine A5 J J J (C6 J gU J) ?_;refine A5 J J J (A9 J gU) ?_;refine A5 J J J (A9 J gU) ?_;refine B0 ?_;refine B6 (s:={ t:=[(6,_,_),(16,_,_),(23,_,_),(53,_,_),(56,_,_)],bx:=[(.l 1011,_),(.l 1014,_),(.l 1017,_),(.l 1023,_),(.l 1026,_),(.l 15,_),(.l 16,_),(.l 4,_),(.l 5,_),(.l 6,_)],ow:=[],mp:=_ }) (B4 (⟨U J,U J,U J,U J,U J,O⟩) (⟨U J,U J,U J,U J,U J,U J,U J,U J,U J,U J,O⟩) O (.inr J)) ?_
         refine A8 (A6 ?_);refine A5 J J J (A7 J gU) ?_;refine A5 J J J (B7 J J gU gU J) ?_;refine B0 ?_;refine B9 J (fun hc5=>?_) (fun hc5=>?_)
         ·have h5 : (chkE E3 (rnN fr tn n)).2≠0:=by simpa using hc5
          rw[if_pos h5]
          refine A8 (A6 ?_);refine A5 J J J (G7 J Tryz.underlying27 J gU) ?_;refine A5 J J J (A7 J gU) ?_;refine C3 J (C8 J J J J J J J) ?_;refine A5 J J J (A9 J gU) ?_;refine B0 ?_;refine C1 ?_
          repeat(first|refine tR ?_|refine bR ?_)
          refine C5 J ?_ O
          rfl
         ·have h5 : (chkE E3 (rnN fr tn n)).2=0:=by simpa using hc5
          rw[if_neg (by rw[h5]; simp)]
          refine C0 ?_;refine A8 (A6 ?_);refine A5 J J J (B8 J gU J J J J J) ?_;refine C3 J (C8 J J J J J J J) ?_;refine A5 J J J (A9 J gU) ?_;refine B0 ?_;refine C1 ?_
          repeat(first|refine tR ?_|refine bR ?_)
          refine C5 J ?_ O
          rfl
theorem R8 (s fr tn : List UInt8) : Ctr sys 101 [xs s,xs fr,xs tn] [] (xs (swp fr tn s)) none []:=by
 refine D1 Tryz.func101 J J J J J J ?_;refine A8 (A6 ?_);refine A5 J J J (A9 J gU) ?_;refine B0 ?_;refine A8 ?_;refine A8 (A6 ?_);refine A5 J J J (A7 J gU) ?_;refine A5 J J J (A7 J gU) ?_;refine A5 J J J (G0 J J gU gU J) ?_;refine B0 ?_;refine B9 J (fun hc=>?_) (fun hc=>?_)
 ·try simp only [nn,B3,D3,nq] at hc
  rw[show swp fr tn s=tn from if_pos hc]
  refine A8 (A6 ?_);refine A5 J J J (A7 J gU) ?_;refine A5 J J J (A9 J gU) ?_;refine B0 ?_;refine C1 ?_
  repeat(first|refine tR ?_|refine bR ?_)
  refine C5 J ?_ O
  rfl
 ·try simp only [nn,B3,D3,nq] at hc
  rw[show swp fr tn s=s from if_neg hc]
  refine C0 ?_;refine A8 (A6 ?_);refine A5 J J J (A7 J gU) ?_;refine A5 J J J (A9 J gU) ?_;refine B0 ?_;refine C1 ?_
  repeat(first|refine tR ?_|refine bR ?_)
  refine C5 J ?_ O
  rfl
theorem Kr (l : List (List UInt8)) (fr tn : List UInt8) (hl : l.length≤900000) : Ctr sys 100 [xss l,xs fr,xs tn] [] (xss (l.map (swp fr tn))) none []:=by
 have hr:=B3 l
 refine D1 Tryz.func100 J J J J J J ?_;refine A8 (A6 ?_);refine C3 J (H4 (.inr J) J J) ?_;refine B0 ?_;refine A8 (A6 ?_);refine C3 J (H4 (.inr J) J J) ?_;refine B0 ?_;refine A8 ?_;refine A8 (A6 ?_);refine A5 J J J (A9 J gU) ?_;refine B0 ?_;refine C4 ?_;refine F2 (ι:=Nat) { t:=[(0,_,_),(1,_,_),(2,_,_)],bx:=[],ow:=[(.t 7,_)] } (fun k=>[(8,true,xi (k : Int)),(7,true,xss ((l.take k).map (swp fr tn)))]) (fun k=>[]) (fun k=>k≤l.length) (fun k=>l.length - k) (0) (by simp) (B4 (⟨U J,U J,U J,U J,U J,O⟩) O (⟨rfl,O⟩)) ?_
 intro k hok
 dsimp only [List.cons_append,List.nil_append]
 have hrl:=B3 ((l.take k).map (swp fr tn))
 rw[List.length_map,List.length_take] at hrl
 refine A8 ?_;refine A8 (A6 ?_);refine A5 J J J (A7 J gU) ?_;refine A5 J J J (A7 J gU) ?_;refine E0 J J J J J gU J J ?_ (fun hh=>by simp at hh); intro hlen;refine A5 J J J (B7 J J gU gU J) ?_;refine B0 ?_;refine B9 J (fun hc=>?_) (fun hc=>?_)
 ·try simp only [nn,B3,D3,nq] at hc
  have hlt : k < l.length:=by omega
  have hT:=I2 (l:=l) (d:=[]) hlt
  refine C0 ?_;refine A8 ?_;refine C4 ?_;refine A6 ?_;refine C3 J (E8 (.inl J) J J J) ?_;refine A5 J J J (A7 J gU) ?_;refine A5 J J J (A7 J gU) ?_;refine A5 J J J (C2 J J gU gU J J J (fun hh=>L5 (by first|omega|(simp at hh ⊢; omega)))) ?_;refine A5 J J J (E4 J gU J J J) ?_;refine A5 J J J (A7 J gU) ?_;refine A5 J J J (A7 J gU) ?_;refine C7 J J J J J J gU gU (R8 _ _ _) J ?_;refine H3 (s:=⟨[(0,_,_),(1,_,_),(2,_,_),(8,_,_),(15,_,_),(22,_,_)],[],[(.t 15,_)],[]⟩) (B4 (⟨U J,U J,U J,U J,U J,U J,O⟩) O (⟨rfl,O⟩)) ?_;refine E6 (xs:=[_]) J J J J J J J J J gU J ?_;refine C3 J (F8 J J J J J J J (by first|omega|(simp only [List.length_append,List.length_singleton,T.rows_len,Sp.rows_len,Gl.rows_len,Fs.rows_len,B3,List.length_map,List.length_take]; omega)) (by first|omega|(simp only [List.length_append,List.length_singleton,T.rows_len,Sp.rows_len,Gl.rows_len,Fs.rows_len,B3,List.length_map,List.length_take]; omega))) ?_;refine C3 J (E8 (.inr J) J J J) ?_;refine B0 ?_;refine A6 ?_;refine A5 J J J (A7 J gU) ?_;refine A5 J J J (D0 J J gU gU J (IntWalk.i64_in _ (by omega))) ?_
  refine A5 J J J (A9 J gU) ?_;refine B0 ?_;refine ⟨k + 1,?_,?_,B4 (⟨⟨_,rfl,?_⟩,⟨⟨_,rfl,?_⟩,⟨U J,U J,U J,O⟩⟩⟩) O (⟨rfl,O⟩)⟩
  all_goals (first|rfl|omega|exact tx ((Y3 _ _).trans (by rw[hT,List.map_append]; rfl)))
 ·try simp only [nn,B3,D3,nq] at hc
  have hke : k=l.length:=by omega
  subst hke
  rw[List.take_length]
  refine E1 ?_
  repeat(first|refine D5 ?_|refine D6 ?_|refine D2 J ?_)
  refine A8 (A6 ?_);refine C3 J (E8 (.inl J) J J J) ?_;refine C3 J (E8 (.inr J) J J J) ?_;refine B0 ?_;refine C1 ?_
  repeat(first|refine tR ?_|refine bR ?_)
  refine C5 J ?_ O
  rfl
theorem Mb (fr tn : List UInt8) : ∀ (m : Nat) (t : T),t.size≤m→m≤900000→Ctr sys 102 [xm t,xs fr,xs tn] [] (xm (chT (swG fr tn) t)) none []:=by
 intro m
 induction m with
 | zero=>intro t h; have := t.size_pos; omega
 | succ m ih =>
  intro t ht hm
  have hr:=T.rows_len t.kids
  have hls:=T.len_sizes t.kids
  have hse:=t.size_eq
  refine D1 Tryz.func102 J J J J J J ?_;refine A8 (A6 ?_);refine C3 J (D8 J J J J) ?_;refine C3 J (D9 J J J) ?_;refine B0 ?_;refine A8 ?_;refine A8 (A6 ?_);refine A5 J J J (B1 J gU J J) ?_;refine A5 J J J (B2 J gU J J J J) ?_;refine A5 J J J (B7 J J gU gU J) ?_;refine B0 ?_;refine B6 (s:=⟨[(1,_,_),(2,_,_),(3,_,_),(6,_,_),(11,_,_)],[(.l 3,_),(.l 6,_)],[],[]⟩) (B4 (⟨U J,U J,U J,U J,U J,O⟩) (⟨U J,U J,O⟩) O) ?_;refine B9 J (fun hc=>?_) (fun hc=>?_)
  ·try simp only [nn,B3,D3,nq] at hc
   refine A6 ?_;refine A5 J J J (B1 J gU J J) ?_;refine A5 J J J (B2 J gU J J J J) ?_;refine A5 J J J (A7 J gU) ?_;refine A5 J J J (A7 J gU) ?_;refine C7 J J J J J J gU gU (R8 _ _ _) J ?_;refine A5 J J J (B1 J gU J J) ?_;refine C3 J (C8 J J J J J J J) ?_;refine B0 ?_;refine B6 (s:=⟨[(1,_,_),(2,_,_),(3,_,_),(6,_,_)],[(.l 3,_),(.l 6,_)],[],[]⟩) (B4 (⟨U J,U J,U J,U J,O⟩) (⟨U J,U J,O⟩) O) ?_;refine A8 (A6 ?_);refine C3 J (H4 (.inr J) J J) ?_;refine B0 ?_;refine A8 ?_;refine A8 (A6 ?_);refine A5 J J J (A9 J gU) ?_;refine B0 ?_;refine C4 ?_;refine F2 (ι:=Nat) { t:=[(1,_,_),(2,_,_),(3,_,_),(6,_,_)],bx:=[(.l 3,_),(.l 6,_)],ow:=[(.t 7,_)] } (fun j=>[(8,true,xi (j : Int)),(7,true,xl ((t.kids.take j).map (chT (swG fr tn))))]) (fun j=>[]) (fun j=>j≤t.kids.length) (fun j=>t.kids.length - j) (0) (by simp) (B4 (⟨U J,U J,U J,U J,U J,U J,O⟩) (⟨U J,U J,O⟩) (⟨rfl,O⟩)) ?_
   intro j hoka
   dsimp only [List.cons_append,List.nil_append]
   have hrl:=T.rows_len ((t.kids.take j).map (chT (swG fr tn)))
   rw[List.length_map,List.length_take] at hrl
   refine A8 ?_;refine A8 (A6 ?_);refine A5 J J J (A7 J gU) ?_;refine A5 J J J (B1 J gU J J) ?_;refine A5 J J J (B2 J gU J J J J) ?_;refine E0 J J J J J gU J J ?_ (fun hh=>by simp at hh); intro hlen;refine A5 J J J (B7 J J gU gU J) ?_;refine B0 ?_;refine B6 (s:=⟨[(1,_,_),(2,_,_),(3,_,_),(6,_,_),(7,_,_),(8,_,_),(22,_,_)],[(.l 3,_),(.l 6,_)],[(.t 7,_)],[]⟩) (B4 (⟨U J,U J,U J,U J,U J,U J,U J,O⟩) (⟨U J,U J,O⟩) (⟨rfl,O⟩)) ?_;refine B9 J (fun hc2=>?_) (fun hc2=>?_)
   ·try simp only [nn,B3,D3,nq] at hc2
    have hlt : j < t.kids.length:=by omega
    have hT:=I2 (l:=t.kids) (d:=default) hlt
    have hm:=K8 (d:=default) hlt
    have hks:=M8 hm
    refine C0 ?_;refine A8 ?_;refine C4 ?_;refine A6 ?_;refine C3 J (E8 (.inl J) J J J) ?_;refine A5 J J J (B1 J gU J J) ?_;refine A5 J J J (B2 J gU J J J J) ?_;refine A5 J J J (A7 J gU) ?_;refine A5 J J J (C2 J J gU gU J J J (fun hh=>T.rows_at (by first|omega|(simp at hh ⊢; omega)))) ?_;refine A5 J J J (D4 J gU J J J J) ?_;refine A5 J J J (A7 J gU) ?_;refine A5 J J J (A7 J gU) ?_;refine C7 J J J J J J gU gU (ih (t.kids.getD j default) (by omega) (by omega)) J ?_;refine E6 (xs:=[_]) J J J J J J J J J gU J ?_;refine C3 J (F8 J J J J J J J (by first|omega|(simp only [List.length_append,List.length_singleton,T.rows_len,Sp.rows_len,Gl.rows_len,Fs.rows_len,B3,List.length_map,List.length_take]; omega)) (by first|omega|(simp only [List.length_append,List.length_singleton,T.rows_len,Sp.rows_len,Gl.rows_len,Fs.rows_len,B3,List.length_map,List.length_take]; omega))) ?_;refine C3 J (E8 (.inr J) J J J) ?_;refine B0 ?_;refine B6 (s:=⟨[(1,_,_),(2,_,_),(3,_,_),(6,_,_),(7,_,_),(8,_,_)],[(.l 3,_),(.l 6,_)],[(.t 7,_)],[]⟩) (B4 (⟨U J,U J,U J,U J,U J,U J,O⟩) (⟨U J,U J,O⟩) (⟨rfl,O⟩)) ?_
    refine A6 ?_;refine A5 J J J (A7 J gU) ?_;refine A5 J J J (D0 J J gU gU J (IntWalk.i64_in _ (by omega))) ?_;refine A5 J J J (A9 J gU) ?_;refine B0 ?_;refine ⟨j + 1,?_,?_,B4 (⟨⟨_,rfl,?_⟩,⟨⟨_,rfl,?_⟩,⟨U J,U J,U J,U J,O⟩⟩⟩) (⟨U J,U J,O⟩) (⟨rfl,O⟩)⟩
    all_goals (first|rfl|omega|exact tx ((Ey _ _).trans (by rw[hT,List.map_append]; rfl)))
   ·try simp only [nn,B3,D3,nq] at hc2
    have hke : j=t.kids.length:=by omega
    subst hke
    rw[List.take_length]
    refine E1 ?_
    repeat(first|refine D5 ?_|refine D6 ?_|refine D2 J ?_)
    refine A8 (A6 ?_);refine C3 J (E8 (.inl J) J J J) ?_;refine A5 J J J (B1 J gU J J) ?_;refine C3 J (I4 J J J J J J J) ?_;refine B0 ?_;refine A8 (A6 ?_);refine A5 J J J (B8 J gU J J J J J) ?_;refine C3 J (C8 J J J J J J J) ?_;refine B0 ?_;refine C1 ?_
    repeat(first|refine tR ?_|refine bR ?_)
    refine C5 J ?_ O
    (rw[Nn,if_pos hc,if_pos hc]; rfl)
  ·try simp only [nn,B3,D3,nq] at hc
   refine C0 ?_;refine A8 (A6 ?_);refine C3 J (H4 (.inr J) J J) ?_;refine B0 ?_;refine A8 ?_;refine A8 (A6 ?_);refine A5 J J J (A9 J gU) ?_;refine B0 ?_;refine C4 ?_;refine F2 (ι:=Nat) { t:=[(1,_,_),(2,_,_),(3,_,_),(6,_,_)],bx:=[(.l 3,_),(.l 6,_)],ow:=[(.t 7,_)] } (fun j=>[(8,true,xi (j : Int)),(7,true,xl ((t.kids.take j).map (chT (swG fr tn))))]) (fun j=>[]) (fun j=>j≤t.kids.length) (fun j=>t.kids.length - j) (0) (by simp) (B4 (⟨U J,U J,U J,U J,U J,U J,O⟩) (⟨U J,U J,O⟩) (⟨rfl,O⟩)) ?_
   intro j hokb
   dsimp only [List.cons_append,List.nil_append]
   have hrl:=T.rows_len ((t.kids.take j).map (chT (swG fr tn)))
   rw[List.length_map,List.length_take] at hrl
   refine A8 ?_;refine A8 (A6 ?_);refine A5 J J J (A7 J gU) ?_;refine A5 J J J (B1 J gU J J) ?_;refine A5 J J J (B2 J gU J J J J) ?_;refine E0 J J J J J gU J J ?_ (fun hh=>by simp at hh); intro hlen;refine A5 J J J (B7 J J gU gU J) ?_;refine B0 ?_;refine B6 (s:=⟨[(1,_,_),(2,_,_),(3,_,_),(6,_,_),(7,_,_),(8,_,_),(22,_,_)],[(.l 3,_),(.l 6,_)],[(.t 7,_)],[]⟩) (B4 (⟨U J,U J,U J,U J,U J,U J,U J,O⟩) (⟨U J,U J,O⟩) (⟨rfl,O⟩)) ?_;refine B9 J (fun hc2=>?_) (fun hc2=>?_)
   ·try simp only [nn,B3,D3,nq] at hc2
    have hlt : j < t.kids.length:=by omega
    have hT:=I2 (l:=t.kids) (d:=default) hlt
    have hm:=K8 (d:=default) hlt
    have hks:=M8 hm
    refine C0 ?_;refine A8 ?_;refine C4 ?_;refine A6 ?_;refine C3 J (E8 (.inl J) J J J) ?_;refine A5 J J J (B1 J gU J J) ?_;refine A5 J J J (B2 J gU J J J J) ?_;refine A5 J J J (A7 J gU) ?_;refine A5 J J J (C2 J J gU gU J J J (fun hh=>T.rows_at (by first|omega|(simp at hh ⊢; omega)))) ?_;refine A5 J J J (D4 J gU J J J J) ?_;refine A5 J J J (A7 J gU) ?_;refine A5 J J J (A7 J gU) ?_;refine C7 J J J J J J gU gU (ih (t.kids.getD j default) (by omega) (by omega)) J ?_;refine E6 (xs:=[_]) J J J J J J J J J gU J ?_;refine C3 J (F8 J J J J J J J (by first|omega|(simp only [List.length_append,List.length_singleton,T.rows_len,Sp.rows_len,Gl.rows_len,Fs.rows_len,B3,List.length_map,List.length_take]; omega)) (by first|omega|(simp only [List.length_append,List.length_singleton,T.rows_len,Sp.rows_len,Gl.rows_len,Fs.rows_len,B3,List.length_map,List.length_take]; omega))) ?_;refine C3 J (E8 (.inr J) J J J) ?_;refine B0 ?_;refine B6 (s:=⟨[(1,_,_),(2,_,_),(3,_,_),(6,_,_),(7,_,_),(8,_,_)],[(.l 3,_),(.l 6,_)],[(.t 7,_)],[]⟩) (B4 (⟨U J,U J,U J,U J,U J,U J,O⟩) (⟨U J,U J,O⟩) (⟨rfl,O⟩)) ?_
    refine A6 ?_;refine A5 J J J (A7 J gU) ?_;refine A5 J J J (D0 J J gU gU J (IntWalk.i64_in _ (by omega))) ?_;refine A5 J J J (A9 J gU) ?_;refine B0 ?_;refine ⟨j + 1,?_,?_,B4 (⟨⟨_,rfl,?_⟩,⟨⟨_,rfl,?_⟩,⟨U J,U J,U J,U J,O⟩⟩⟩) (⟨U J,U J,O⟩) (⟨rfl,O⟩)⟩
    all_goals (first|rfl|omega|exact tx ((Ey _ _).trans (by rw[hT,List.map_append]; rfl)))
   ·try simp only [nn,B3,D3,nq] at hc2
    have hke : j=t.kids.length:=by omega
    subst hke
    rw[List.take_length]
    refine E1 ?_
    repeat(first|refine D5 ?_|refine D6 ?_|refine D2 J ?_)
    refine A8 (A6 ?_);refine C3 J (E8 (.inl J) J J J) ?_;refine A5 J J J (B1 J gU J J) ?_;refine C3 J (I4 J J J J J J J) ?_;refine B0 ?_;refine A8 (A6 ?_);refine A5 J J J (B8 J gU J J J J J) ?_;refine C3 J (C8 J J J J J J J) ?_;refine B0 ?_;refine C1 ?_
    repeat(first|refine tR ?_|refine bR ?_)
    refine C5 J ?_ O
    (rw[Nn,if_neg hc,if_neg hc]; rfl)
theorem uCc (l : List Fs) (s : Fs) : Fs.rows l++[s.cells]=Fs.rows (l++[s]):=by simp [Fs.rows]
set_option maxHeartbeats 8000000 in
theorem Ko (n : Nar) (fr tn : List UInt8) (b1 : n.roles.length≤900000) (b2 : n.fresh.length≤900000) (b3 : n.tags.length≤900000) (b5 : n.steps.length≤900000) (b6 : n.goals.length≤900000)
  (hm : ∀ s ∈ n.steps,s.msg.size≤900000) (hd : ∀ g ∈ n.goals,g.data.length≤900000 ∧ ∀ t ∈ g.data,t.size≤900000) : Ctr sys 68 [xn n,xs fr,xs tn] [] (xn (rnN fr tn n)) none []:=by
 have l1:=B3 n.roles
 have l2:=Fs.rows_len n.fresh
 have l3:=B3 n.tags
 have l5:=Sp.rows_len n.steps
 have l6:=Gl.rows_len n.goals
 refine D1 Tryz.func68 J J J J J J ?_;refine A8 (A6 ?_);refine C3 J (D8 J J J J) ?_;refine C3 J (D9 J J J) ?_;refine B0 ?_;refine A8 ?_;refine awp_drawn' (by kernel_rfl) ?_;refine B5 J J J J (B1 J gU J J) ?_;refine G4 J J J J J J J gU J J J J ?_;refine B5 J J J J (B1 J gU J J) ?_;refine G4 J J J J J J J gU J J J J ?_;refine B5 J J J J (A7 J gU) ?_;refine B5 J J J J (A7 J gU) ?_;refine E9 J J J J J J J gU gU (Kr _ _ _ (by omega)) J ?_;refine B5 J J J J (B1 J gU J J) ?_;refine G4 J J J J J J J gU J J J J ?_;refine B5 J J J J (A7 J gU) ?_;refine B5 J J J J (A7 J gU) ?_;refine E9 J J J J J J J gU gU (Kr _ _ _ (by omega)) J ?_;refine B5 J J J J (Hd J Tryz.underlying27 J gU) ?_;refine Qf J J J J J J J ?_;refine F3 J J J J J J J J J J J J ?_;refine F6 (by kernel_rfl) ?_;refine B6 (s:=⟨[(1,_,_),(2,_,_),(3,_,_),(6,_,_),(7,_,_)],[(.l 3,_),(.l 6,_),(.l 7,_)],[],[]⟩) (B4 (⟨U J,U J,U J,U J,U J,O⟩) (⟨U J,U J,U J,O⟩) O) ?_
 refine U9 (.l 7) 2 3 J J J ?_;refine U9 (.l 7) 4 7 J J J ?_;refine U9 (.l 7) 5 5 J J J ?_;refine A8 ?_;refine A8 (A6 ?_);refine A5 J J J (A9 J gU) ?_;refine B0 ?_;refine C4 ?_;refine F2 (ι:=Nat) { t:=[(1,_,_),(2,_,_),(3,_,_),(6,_,_),(7,_,_)],bx:=[(.l 3,_),(.l 6,_)],ow:=[(.b (.l 7) 2,_),(.b (.l 7) 4,_),(.b (.l 7) 5,_)] } (fun k=>[(8,true,xi (k : Int))]) (fun k=>[((.l 7),[.s n.name, .sl 1 (strR (n.roles.map (swp fr tn))), .sl 3 (Fs.rows ((n.fresh.take k).map (rnF fr tn))), .sl 1 (strR (n.tags.map (swp fr tn))), .sl 7 [], .sl 5 []])]) (fun k=>k≤n.fresh.length) (fun k=>n.fresh.length - k) (0) (by simp) (B4 (⟨U J,U J,U J,U J,U J,U J,O⟩) (⟨U J,U J,U J,O⟩) (⟨rfl,rfl,rfl,O⟩)) ?_
 intro k hoka
 dsimp only [List.cons_append,List.nil_append]
 have hrl:=Fs.rows_len ((n.fresh.take k).map (rnF fr tn))
 rw[List.length_map,List.length_take] at hrl
 refine A8 ?_;refine A8 (A6 ?_);refine A5 J J J (A7 J gU) ?_;refine A5 J J J (B1 J gU J J) ?_;refine A5 J J J (B2 J gU J J J J) ?_;refine E0 J J J J J gU J J ?_ (fun hh=>by simp at hh); intro hlen;refine A5 J J J (B7 J J gU gU J) ?_;refine B0 ?_;refine B6 (s:=⟨[(1,_,_),(2,_,_),(3,_,_),(6,_,_),(7,_,_),(8,_,_),(33,_,_)],[(.l 3,_),(.l 6,_),(.l 7,_)],[(.b (.l 7) 2,_),(.b (.l 7) 4,_),(.b (.l 7) 5,_)],[]⟩) (B4 (⟨U J,U J,U J,U J,U J,U J,U J,O⟩) (⟨U J,U J,U J,O⟩) (⟨rfl,rfl,rfl,O⟩)) ?_;refine B9 J (fun hc=>?_) (fun hc=>?_)
 ·try simp only [nn,B3,D3,nq] at hc
  have hlt : k < n.fresh.length:=by omega
  have hT:=I2 (l:=n.fresh) (d:=default) hlt
  refine C0 ?_;refine A8 ?_;refine C4 ?_;refine A8 (A6 ?_);refine A5 J J J (B1 J gU J J) ?_;refine A5 J J J (B2 J gU J J J J) ?_;refine A5 J J J (A7 J gU) ?_;refine A5 J J J (C2 J J gU gU J J J (fun hh=>Fs.rows_at (by first|omega|(simp at hh ⊢; omega)))) ?_;refine A5 J J J (D4 J gU J J J J) ?_;refine C3 J (D9 J J J) ?_;refine C3 J (C8 J J J J J J J) ?_;refine B0 ?_;refine B6 (s:=⟨[(1,_,_),(2,_,_),(3,_,_),(6,_,_),(7,_,_),(8,_,_),(9,_,_)],[(.l 3,_),(.l 6,_),(.l 7,_),(.l 9,_)],[(.b (.l 7) 2,_),(.b (.l 7) 4,_),(.b (.l 7) 5,_)],[]⟩) (B4 (⟨U J,U J,U J,U J,U J,U J,U J,O⟩) (⟨U J,U J,U J,U J,O⟩) (⟨rfl,rfl,rfl,O⟩)) ?_;refine awp_drawn' (by kernel_rfl) ?_;refine B5 J J J J (B1 J gU J J) ?_;refine Cc J J J J J J J J J J J J ?_;refine B5 J J J J (B1 J gU J J) ?_;refine G4 J J J J J J J gU J J J J ?_;refine B5 J J J J (A7 J gU) ?_;refine B5 J J J J (A7 J gU) ?_;refine E9 J J J J J J J gU gU (R8 _ _ _) J ?_;refine B5 J J J J (B1 J gU J J) ?_
  refine G4 J J J J J J J gU J J J J ?_;refine B5 J J J J (A7 J gU) ?_;refine B5 J J J J (A7 J gU) ?_;refine E9 J J J J J J J gU gU (R8 _ _ _) J ?_;refine B5 J J J J (B1 J gU J J) ?_;refine G4 J J J J J J J gU J J J J ?_;refine B5 J J J J (G7 J Tryz.underlying79 J gU) ?_;refine W6 (xs:=[_]) J J J J J J J J J J gU J ?_;refine Y1 J J J J J (rko (ak2 J (ak J (ak J (ak J (ak J (ak J (ak J (ak J (ak J (ak J (ak J (ak J (ak J (ak J (rfl)))))))))))))))) J J J J J (by first|omega|(simp only [List.length_append,List.length_singleton,T.rows_len,Sp.rows_len,Gl.rows_len,Fs.rows_len,B3,List.length_map,List.length_take]; omega)) (by first|omega|(simp only [List.length_append,List.length_singleton,T.rows_len,Sp.rows_len,Gl.rows_len,Fs.rows_len,B3,List.length_map,List.length_take]; omega)) ?_;refine B5 J J J J (B1 J gU J J) ?_;refine Bu J J J J J J J J J J J J ?_;refine F6 (by kernel_rfl) ?_;refine B6 (s:=⟨[(1,_,_),(2,_,_),(3,_,_),(6,_,_),(7,_,_),(8,_,_)],[(.l 3,_),(.l 6,_),(.l 7,_)],[(.b (.l 7) 2,_),(.b (.l 7) 4,_),(.b (.l 7) 5,_)],[]⟩) (B4 (⟨U J,U J,U J,U J,U J,U J,O⟩) (⟨U J,U J,U J,O⟩) (⟨rfl,(ak2 J (ak J (ak2 J (ak2 J (ak J (ak J (ak J (ak J (ak J (ak J (ak J (ak J (ak J (ak J (ak J (ak J (ak J (ak2 J (ak J (rfl)))))))))))))))))))),(ak2 J (ak J (ak2 J (ak2 J (ak J (ak J (ak J (ak J (ak J (ak J (ak J (ak J (ak J (ak J (ak J (ak J (ak J (ak2 J (ak J (rfl)))))))))))))))))))),O⟩)) ?_
  refine A6 ?_;refine A5 J J J (A7 J gU) ?_;refine A5 J J J (D0 J J gU gU J (IntWalk.i64_in _ (by omega))) ?_;refine A5 J J J (A9 J gU) ?_;refine B0 ?_;refine ⟨k + 1,?_,?_,B4 (⟨⟨_,rfl,?_⟩,⟨U J,U J,U J,U J,U J,O⟩⟩) (⟨⟨_,rfl,?_⟩,⟨U J,U J,O⟩⟩) (⟨rfl,rfl,rfl,O⟩)⟩
  all_goals (first|rfl|omega|(rw[hT,List.map_append]; exact congrArg (fun z=>[C.s n.name,C.sl 1 (strR (n.roles.map (swp fr tn))),C.sl 3 z,C.sl 1 (strR (n.tags.map (swp fr tn))),C.sl 7 [],C.sl 5 []]) (uCc _ (rnF fr tn (n.fresh.getD k default)))))
 ·try simp only [nn,B3,D3,nq] at hc
  have hke : k=n.fresh.length:=by omega
  subst hke
  rw[List.take_length]
  refine E1 ?_
  repeat(first|refine D5 ?_|refine D6 ?_|refine D2 J ?_)
  refine A8 ?_;refine A8 (A6 ?_);refine A5 J J J (A9 J gU) ?_;refine B0 ?_;refine C4 ?_;refine F2 (ι:=Nat) { t:=[(1,_,_),(2,_,_),(3,_,_),(6,_,_),(7,_,_)],bx:=[(.l 3,_),(.l 6,_)],ow:=[(.b (.l 7) 2,_),(.b (.l 7) 4,_),(.b (.l 7) 5,_)] } (fun k=>[(10,true,xi (k : Int))]) (fun k=>[((.l 7),[.s n.name, .sl 1 (strR (n.roles.map (swp fr tn))), .sl 3 (Fs.rows (n.fresh.map (rnF fr tn))), .sl 1 (strR (n.tags.map (swp fr tn))), .sl 7 (Sp.rows ((n.steps.take k).map (rnS fr tn))), .sl 5 []])]) (fun k=>k≤n.steps.length) (fun k=>n.steps.length - k) (0) (by simp) (B4 (⟨U J,U J,U J,U J,U J,U J,O⟩) (⟨U J,U J,U J,O⟩) (⟨rfl,rfl,rfl,O⟩)) ?_
  intro k hokb
  dsimp only [List.cons_append,List.nil_append]
  have hrl:=Sp.rows_len ((n.steps.take k).map (rnS fr tn))
  rw[List.length_map,List.length_take] at hrl
  refine A8 ?_;refine A8 (A6 ?_);refine A5 J J J (A7 J gU) ?_;refine A5 J J J (B1 J gU J J) ?_;refine A5 J J J (B2 J gU J J J J) ?_;refine E0 J J J J J gU J J ?_ (fun hh=>by simp at hh); intro hlen;refine A5 J J J (B7 J J gU gU J) ?_;refine B0 ?_;refine B6 (s:=⟨[(1,_,_),(2,_,_),(3,_,_),(6,_,_),(7,_,_),(10,_,_),(63,_,_)],[(.l 3,_),(.l 6,_),(.l 7,_)],[(.b (.l 7) 2,_),(.b (.l 7) 4,_),(.b (.l 7) 5,_)],[]⟩) (B4 (⟨U J,U J,U J,U J,U J,U J,U J,O⟩) (⟨U J,U J,U J,O⟩) (⟨rfl,rfl,rfl,O⟩)) ?_;refine B9 J (fun hc2=>?_) (fun hc2=>?_)
  ·try simp only [nn,B3,D3,nq] at hc2
   have hlt : k < n.steps.length:=by omega
   have hT:=I2 (l:=n.steps) (d:=default) hlt
   have m1:=hm _ (K8 (d:=default) hlt)
   refine C0 ?_;refine A8 ?_;refine C4 ?_;refine A8 (A6 ?_);refine A5 J J J (B1 J gU J J) ?_;refine A5 J J J (B2 J gU J J J J) ?_;refine A5 J J J (A7 J gU) ?_;refine A5 J J J (C2 J J gU gU J J J (fun hh=>Sp.rows_at (by first|omega|(simp at hh ⊢; omega)))) ?_;refine A5 J J J (D4 J gU J J J J) ?_;refine C3 J (D9 J J J) ?_;refine C3 J (C8 J J J J J J J) ?_;refine B0 ?_;refine B6 (s:=⟨[(1,_,_),(2,_,_),(3,_,_),(6,_,_),(7,_,_),(10,_,_),(11,_,_)],[(.l 11,_),(.l 3,_),(.l 6,_),(.l 7,_)],[(.b (.l 7) 2,_),(.b (.l 7) 4,_),(.b (.l 7) 5,_)],[]⟩) (B4 (⟨U J,U J,U J,U J,U J,U J,U J,O⟩) (⟨U J,U J,U J,U J,O⟩) (⟨rfl,rfl,rfl,O⟩)) ?_;refine awp_drawn' (by kernel_rfl) ?_;refine B5 J J J J (B1 J gU J J) ?_;refine Cc J J J J J J J J J J J J ?_;refine B5 J J J J (B1 J gU J J) ?_;refine G4 J J J J J J J gU J J J J ?_;refine B5 J J J J (A7 J gU) ?_;refine B5 J J J J (A7 J gU) ?_;refine E9 J J J J J J J gU gU (R8 _ _ _) J ?_;refine B5 J J J J (B1 J gU J J) ?_
   refine G4 J J J J J J J gU J J J J ?_;refine B5 J J J J (A7 J gU) ?_;refine B5 J J J J (A7 J gU) ?_;refine E9 J J J J J J J gU gU (R8 _ _ _) J ?_;refine B5 J J J J (B1 J gU J J) ?_;refine D7 J J J J J J J gU J J J J J ?_;refine B5 J J J J (A7 J gU) ?_;refine B5 J J J J (A7 J gU) ?_;refine E9 J J J J J J J gU gU (Mb fr tn _ (n.steps.getD k default).msg (Nat.le_refl _) m1) J ?_;refine B5 J J J J (B1 J gU J J) ?_;refine G4 J J J J J J J gU J J J J ?_;refine B5 J J J J (G7 J Tryz.underlying49 J gU) ?_;refine W6 (xs:=[_]) J J J J J J J J J J gU J ?_;refine Y1 J J J J J (rko (ak2 J (ak J (ak J (ak J (ak J (ak J (ak J (ak J (ak J (ak J (ak J (ak J (ak J (ak J (ak J (ak J (ak J (ak J (ak J (rfl))))))))))))))))))))) J J J J J (by first|omega|(simp only [List.length_append,List.length_singleton,T.rows_len,Sp.rows_len,Gl.rows_len,Fs.rows_len,B3,List.length_map,List.length_take]; omega)) (by first|omega|(simp only [List.length_append,List.length_singleton,T.rows_len,Sp.rows_len,Gl.rows_len,Fs.rows_len,B3,List.length_map,List.length_take]; omega)) ?_
   refine B5 J J J J (B1 J gU J J) ?_;refine Bu J J J J J J J J J J J J ?_;refine F6 (by kernel_rfl) ?_;refine B6 (s:=⟨[(1,_,_),(2,_,_),(3,_,_),(6,_,_),(7,_,_),(10,_,_)],[(.l 3,_),(.l 6,_),(.l 7,_)],[(.b (.l 7) 2,_),(.b (.l 7) 4,_),(.b (.l 7) 5,_)],[]⟩) (B4 (⟨U J,U J,U J,U J,U J,U J,O⟩) (⟨U J,U J,U J,O⟩) (⟨(ak2 J (ak J (ak2 J (ak2 J (ak J (ak J (ak J (ak J (ak J (ak J (ak J (ak J (ak J (ak J (ak J (ak J (ak J (ak J (ak J (ak J (ak J (ak J (ak2 J (ak J (rfl))))))))))))))))))))))))),rfl,(ak2 J (ak J (ak2 J (ak2 J (ak J (ak J (ak J (ak J (ak J (ak J (ak J (ak J (ak J (ak J (ak J (ak J (ak J (ak J (ak J (ak J (ak J (ak J (ak2 J (ak J (rfl))))))))))))))))))))))))),O⟩)) ?_;refine A6 ?_;refine A5 J J J (A7 J gU) ?_;refine A5 J J J (D0 J J gU gU J (IntWalk.i64_in _ (by omega))) ?_;refine A5 J J J (A9 J gU) ?_;refine B0 ?_;refine ⟨k + 1,?_,?_,B4 (⟨⟨_,rfl,?_⟩,⟨U J,U J,U J,U J,U J,O⟩⟩) (⟨⟨_,rfl,?_⟩,⟨U J,U J,O⟩⟩) (⟨rfl,rfl,rfl,O⟩)⟩
   all_goals (first|rfl|omega|(rw[hT,List.map_append]; exact congrArg (fun z=>[C.s n.name,C.sl 1 (strR (n.roles.map (swp fr tn))),C.sl 3 (Fs.rows (n.fresh.map (rnF fr tn))),C.sl 1 (strR (n.tags.map (swp fr tn))),C.sl 7 z,C.sl 5 []]) (uBP _ (rnS fr tn (n.steps.getD k default)))))
  ·try simp only [nn,B3,D3,nq] at hc2
   have hke : k=n.steps.length:=by omega
   subst hke
   rw[List.take_length]
   refine E1 ?_
   repeat(first|refine D5 ?_|refine D6 ?_|refine D2 J ?_)
   refine A8 ?_;refine A8 (A6 ?_);refine A5 J J J (A9 J gU) ?_;refine B0 ?_;refine C4 ?_;refine F2 (ι:=Nat) { t:=[(1,_,_),(2,_,_),(3,_,_),(6,_,_),(7,_,_)],bx:=[(.l 3,_),(.l 6,_)],ow:=[(.b (.l 7) 2,_),(.b (.l 7) 4,_),(.b (.l 7) 5,_)] } (fun j=>[(12,true,xi (j : Int))]) (fun j=>[((.l 7),[.s n.name, .sl 1 (strR (n.roles.map (swp fr tn))), .sl 3 (Fs.rows (n.fresh.map (rnF fr tn))), .sl 1 (strR (n.tags.map (swp fr tn))), .sl 7 (Sp.rows (n.steps.map (rnS fr tn))), .sl 5 (Gl.rows ((n.goals.take j).map (rnL fr tn)))])]) (fun j=>j≤n.goals.length) (fun j=>n.goals.length - j) (0) (by simp) (B4 (⟨U J,U J,U J,U J,U J,U J,O⟩) (⟨U J,U J,U J,O⟩) (⟨rfl,rfl,rfl,O⟩)) ?_
   intro j hokc
   dsimp only [List.cons_append,List.nil_append]
   have hrl2:=Gl.rows_len ((n.goals.take j).map (rnL fr tn))
   rw[List.length_map,List.length_take] at hrl2
   refine A8 ?_;refine A8 (A6 ?_);refine A5 J J J (A7 J gU) ?_;refine A5 J J J (B1 J gU J J) ?_;refine A5 J J J (B2 J gU J J J J) ?_;refine E0 J J J J J gU J J ?_ (fun hh=>by simp at hh); intro hlen;refine A5 J J J (B7 J J gU gU J) ?_;refine B0 ?_;refine B6 (s:=⟨[(1,_,_),(2,_,_),(3,_,_),(6,_,_),(7,_,_),(12,_,_),(98,_,_)],[(.l 3,_),(.l 6,_),(.l 7,_)],[(.b (.l 7) 2,_),(.b (.l 7) 4,_),(.b (.l 7) 5,_)],[]⟩) (B4 (⟨U J,U J,U J,U J,U J,U J,U J,O⟩) (⟨U J,U J,U J,O⟩) (⟨rfl,rfl,rfl,O⟩)) ?_;refine B9 J (fun hc3=>?_) (fun hc3=>?_)
   ·try simp only [nn,B3,D3,nq] at hc3
    have hlt : j < n.goals.length:=by omega
    have hT:=I2 (l:=n.goals) (d:=default) hlt
    obtain ⟨hdl,hdt⟩:=hd _ (K8 (d:=default) hlt)
    have hdr:=T.rows_len (n.goals.getD j default).data
    refine C0 ?_;refine A8 ?_;refine C4 ?_;refine A8 (A6 ?_);refine A5 J J J (B1 J gU J J) ?_;refine A5 J J J (B2 J gU J J J J) ?_;refine A5 J J J (A7 J gU) ?_;refine A5 J J J (C2 J J gU gU J J J (fun hh=>Gl.rows_at (by first|omega|(simp at hh ⊢; omega)))) ?_;refine A5 J J J (D4 J gU J J J J) ?_;refine C3 J (D9 J J J) ?_;refine C3 J (C8 J J J J J J J) ?_;refine B0 ?_;refine B6 (s:=⟨[(1,_,_),(2,_,_),(3,_,_),(6,_,_),(7,_,_),(12,_,_),(13,_,_)],[(.l 13,_),(.l 3,_),(.l 6,_),(.l 7,_)],[(.b (.l 7) 2,_),(.b (.l 7) 4,_),(.b (.l 7) 5,_)],[]⟩) (B4 (⟨U J,U J,U J,U J,U J,U J,U J,O⟩) (⟨U J,U J,U J,U J,O⟩) (⟨rfl,rfl,rfl,O⟩)) ?_;refine A8 ?_;refine awp_drawn' (by kernel_rfl) ?_;refine B5 J J J J (B1 J gU J J) ?_;refine G4 J J J J J J J gU J J J J ?_;refine B5 J J J J (B1 J gU J J) ?_;refine G4 J J J J J J J gU J J J J ?_;refine B5 J J J J (A7 J gU) ?_;refine B5 J J J J (A7 J gU) ?_;refine E9 J J J J J J J gU gU (R8 _ _ _) J ?_
    refine B5 J J J J (B1 J gU J J) ?_;refine G4 J J J J J J J gU J J J J ?_;refine B5 J J J J (A7 J gU) ?_;refine B5 J J J J (A7 J gU) ?_;refine E9 J J J J J J J gU gU (R8 _ _ _) J ?_;refine B5 J J J J (B1 J gU J J) ?_;refine G4 J J J J J J J gU J J J J ?_;refine B5 J J J J (Hd J Tryz.underlying51 J gU) ?_;refine Qf J J J J J J J ?_;refine F3 J J J J J J J J J J J J ?_;refine F6 (by kernel_rfl) ?_;refine B6 (s:=⟨[(1,_,_),(2,_,_),(3,_,_),(6,_,_),(7,_,_),(12,_,_),(13,_,_),(14,_,_)],[(.l 13,_),(.l 14,_),(.l 3,_),(.l 6,_),(.l 7,_)],[(.b (.l 7) 2,_),(.b (.l 7) 4,_),(.b (.l 7) 5,_)],[]⟩) (B4 (⟨U J,U J,U J,U J,U J,U J,U J,U J,O⟩) (⟨U J,U J,U J,U J,U J,O⟩) (⟨(ak J (ak J (ak J (ak J (ak J (ak J (ak J (ak J (ak J (ak J (ak J (ak J (ak J (ak J (ak J (ak J (ak J (rfl)))))))))))))))))),(ak J (ak J (ak J (ak J (ak J (ak J (ak J (ak J (ak J (ak J (ak J (ak J (ak J (ak J (ak J (ak J (ak J (rfl)))))))))))))))))),(ak J (ak J (ak J (ak J (ak J (ak J (ak J (ak J (ak J (ak J (ak J (ak J (ak J (ak J (ak J (ak J (ak J (rfl)))))))))))))))))),O⟩)) ?_
    refine U9 (.l 14) 3 4 J J J ?_;refine A8 ?_;refine A8 (A6 ?_);refine A5 J J J (A9 J gU) ?_;refine B0 ?_;refine C4 ?_;refine F2 (ι:=Nat) { t:=[(1,_,_),(2,_,_),(3,_,_),(6,_,_),(7,_,_),(12,_,_),(13,_,_),(14,_,_)],bx:=[(.l 13,_),(.l 3,_),(.l 6,_),(.l 7,_)],ow:=[(.b (.l 14) 3,_),(.b (.l 7) 2,_),(.b (.l 7) 4,_),(.b (.l 7) 5,_)] } (fun i=>[(15,true,xi (i : Int))]) (fun i=>[((.l 14),[.i .i64 (n.goals.getD j default).kind, .s (swp fr tn (n.goals.getD j default).role), .s (swp fr tn (n.goals.getD j default).wth), .sl 4 (T.rows (((n.goals.getD j default).data.take i).map (chT (swG fr tn)))), .i .i64 (n.goals.getD j default).line])]) (fun i=>i≤(n.goals.getD j default).data.length) (fun i=>(n.goals.getD j default).data.length - i) (0) (by simp) (B4 (⟨U J,U J,U J,U J,U J,U J,U J,U J,U J,O⟩) (⟨U J,U J,U J,U J,U J,O⟩) (⟨rfl,rfl,rfl,rfl,O⟩)) ?_
    intro i hokd
    dsimp only [List.cons_append,List.nil_append]
    have hrl3:=T.rows_len (((n.goals.getD j default).data.take i).map (chT (swG fr tn)))
    rw[List.length_map,List.length_take] at hrl3
    refine A8 ?_;refine A8 (A6 ?_);refine A5 J J J (A7 J gU) ?_;refine A5 J J J (B1 J gU J J) ?_;refine A5 J J J (B2 J gU J J J J) ?_;refine E0 J J J J J gU J J ?_ (fun hh=>by simp at hh); intro hlen;refine A5 J J J (B7 J J gU gU J) ?_;refine B0 ?_;refine B6 (s:=⟨[(1,_,_),(2,_,_),(3,_,_),(6,_,_),(7,_,_),(12,_,_),(13,_,_),(14,_,_),(15,_,_),(125,_,_)],[(.l 13,_),(.l 14,_),(.l 3,_),(.l 6,_),(.l 7,_)],[(.b (.l 14) 3,_),(.b (.l 7) 2,_),(.b (.l 7) 4,_),(.b (.l 7) 5,_)],[]⟩) (B4 (⟨U J,U J,U J,U J,U J,U J,U J,U J,U J,U J,O⟩) (⟨U J,U J,U J,U J,U J,O⟩) (⟨rfl,rfl,rfl,rfl,O⟩)) ?_;refine B9 J (fun hc4=>?_) (fun hc4=>?_)
    ·try simp only [nn,B3,D3,nq] at hc4
     have hlt4 : i < (n.goals.getD j default).data.length:=by omega
     have hT4:=I2 (l:=(n.goals.getD j default).data) (d:=default) hlt4
     have m1:=hdt _ (K8 (d:=default) hlt4)
     refine C0 ?_;refine A8 ?_;refine C4 ?_;refine awp_drawn' (by kernel_rfl) ?_;refine B5 J J J J (B1 J gU J J) ?_;refine Cc J J J J J J J J J J J J ?_;refine B5 J J J J (B1 J gU J J) ?_;refine G4 J J J J J J J gU J J J J ?_;refine B5 J J J J (A7 J gU) ?_;refine B5 J J J J (C2 J J gU gU J J J (fun hh=>T.rows_at (by first|omega|(simp at hh ⊢; omega)))) ?_;refine B5 J J J J (D4 J gU J J J J) ?_;refine B5 J J J J (A7 J gU) ?_;refine B5 J J J J (A7 J gU) ?_;refine E9 J J J J J J J gU gU (Mb fr tn _ ((n.goals.getD j default).data.getD i default) (Nat.le_refl _) m1) J ?_;refine W6 (xs:=[_]) J J J J J J J J J J gU J ?_;refine Y1 J J J J J (rko (ak2 J (ak J (ak J (ak J (ak J (ak J (ak J (ak J (ak J (rfl))))))))))) J J J J J (by first|omega|(simp only [List.length_append,List.length_singleton,T.rows_len,Sp.rows_len,Gl.rows_len,Fs.rows_len,B3,List.length_map,List.length_take]; omega)) (by first|omega|(simp only [List.length_append,List.length_singleton,T.rows_len,Sp.rows_len,Gl.rows_len,Fs.rows_len,B3,List.length_map,List.length_take]; omega)) ?_;refine B5 J J J J (B1 J gU J J) ?_
     refine Bu J J J J J J J J J J J J ?_;refine F6 (by kernel_rfl) ?_;refine B6 (s:=⟨[(1,_,_),(2,_,_),(3,_,_),(6,_,_),(7,_,_),(12,_,_),(13,_,_),(14,_,_),(15,_,_)],[(.l 13,_),(.l 14,_),(.l 3,_),(.l 6,_),(.l 7,_)],[(.b (.l 14) 3,_),(.b (.l 7) 2,_),(.b (.l 7) 4,_),(.b (.l 7) 5,_)],[]⟩) (B4 (⟨U J,U J,U J,U J,U J,U J,U J,U J,U J,O⟩) (⟨U J,U J,U J,U J,U J,O⟩) (⟨rfl,(ak2 J (ak J (ak2 J (ak2 J (ak J (ak J (ak J (ak J (ak J (ak J (ak J (ak J (ak2 J (ak J (rfl))))))))))))))),(ak2 J (ak J (ak2 J (ak2 J (ak J (ak J (ak J (ak J (ak J (ak J (ak J (ak J (ak2 J (ak J (rfl))))))))))))))),(ak2 J (ak J (ak2 J (ak2 J (ak J (ak J (ak J (ak J (ak J (ak J (ak J (ak J (ak2 J (ak J (rfl))))))))))))))),O⟩)) ?_;refine A6 ?_;refine A5 J J J (A7 J gU) ?_;refine A5 J J J (D0 J J gU gU J (IntWalk.i64_in _ (by omega))) ?_;refine A5 J J J (A9 J gU) ?_;refine B0 ?_;refine ⟨i + 1,?_,?_,B4 (⟨⟨_,rfl,?_⟩,⟨U J,U J,U J,U J,U J,U J,U J,U J,O⟩⟩) (⟨⟨_,rfl,?_⟩,⟨U J,U J,U J,U J,O⟩⟩) (⟨rfl,rfl,rfl,rfl,O⟩)⟩
     all_goals (first|rfl|omega|(rw[hT4,List.map_append]; exact congrArg (fun z=>[C.i .i64 (n.goals.getD j default).kind,C.s (swp fr tn (n.goals.getD j default).role),C.s (swp fr tn (n.goals.getD j default).wth),C.sl 4 z,C.i .i64 (n.goals.getD j default).line]) (uCP _ (chT (swG fr tn) ((n.goals.getD j default).data.getD i default)))))
    ·try simp only [nn,B3,D3,nq] at hc4
     have hie : i=(n.goals.getD j default).data.length:=by omega
     subst hie
     rw[List.take_length]
     refine E1 ?_
     repeat(first|refine D5 ?_|refine D6 ?_|refine D2 J ?_)
     refine A6 ?_;refine A5 J J J (B1 J gU J J) ?_;refine C3 J (J0 J J J J J J J) ?_;refine A5 J J J (B8 J gU J J J J J) ?_;refine E6 (xs:=[_]) J J J J J J J J J gU J ?_;refine C3 J (F8 J J J J J J J (by first|omega|(simp only [List.length_append,List.length_singleton,T.rows_len,Sp.rows_len,Gl.rows_len,Fs.rows_len,B3,List.length_map,List.length_take]; omega)) (by first|omega|(simp only [List.length_append,List.length_singleton,T.rows_len,Sp.rows_len,Gl.rows_len,Fs.rows_len,B3,List.length_map,List.length_take]; omega))) ?_;refine A5 J J J (B1 J gU J J) ?_;refine C3 J (I4 J J J J J J J) ?_;refine B0 ?_;refine B6 (s:=⟨[(1,_,_),(2,_,_),(3,_,_),(6,_,_),(7,_,_),(12,_,_)],[(.l 3,_),(.l 6,_),(.l 7,_)],[(.b (.l 7) 2,_),(.b (.l 7) 4,_),(.b (.l 7) 5,_)],[]⟩) (B4 (⟨U J,U J,U J,U J,U J,U J,O⟩) (⟨U J,U J,U J,O⟩) (⟨rfl,rfl,rfl,O⟩)) ?_;refine A6 ?_;refine A5 J J J (A7 J gU) ?_;refine A5 J J J (D0 J J gU gU J (IntWalk.i64_in _ (by omega))) ?_;refine A5 J J J (A9 J gU) ?_;refine B0 ?_;refine ⟨j + 1,?_,?_,B4 (⟨⟨_,rfl,?_⟩,⟨U J,U J,U J,U J,U J,O⟩⟩) (⟨⟨_,rfl,?_⟩,⟨U J,U J,O⟩⟩) (⟨rfl,rfl,rfl,O⟩)⟩
     all_goals (first|rfl|omega|(rw[hT,List.map_append]; exact congrArg (fun z=>[C.s n.name,C.sl 1 (strR (n.roles.map (swp fr tn))),C.sl 3 (Fs.rows (n.fresh.map (rnF fr tn))),C.sl 1 (strR (n.tags.map (swp fr tn))),C.sl 7 (Sp.rows (n.steps.map (rnS fr tn))),C.sl 5 z]) (uBY _ (rnL fr tn (n.goals.getD j default)))))
   ·try simp only [nn,B3,D3,nq] at hc3
    have hje : j=n.goals.length:=by omega
    subst hje
    rw[List.take_length]
    refine E1 ?_
    repeat(first|refine D5 ?_|refine D6 ?_|refine D2 J ?_)
    refine A8 (A6 ?_);refine A5 J J J (B8 J gU J J J J J) ?_;refine C3 J (C8 J J J J J J J) ?_;refine B0 ?_;refine C1 ?_
    repeat(first|refine tR ?_|refine bR ?_)
    refine C5 J ?_ O
    rfl
theorem Mt (n : Nar) (fr tn : List UInt8) (hs : ∀ s ∈ n.steps,s.msg.size≤900000) (hg : ∀ g ∈ n.goals,T.sizes g.data≤900000) : Ctr sys 34 [xn n,xs fr,xs tn] [] (xne (rnE n fr tn)) none []:=by
 refine D1 Tryz.func34 J J J J J J ?_;refine A8 (A6 ?_);refine C3 J (D8 J J J J) ?_;refine C3 J (D9 J J J) ?_;refine A5 J J J (A9 J gU) ?_;refine B0 ?_;refine A8 ?_;refine A8 (A6 ?_);refine A5 J J J (B8 J gU J J J J J) ?_;refine C7 J J J J J J gU gU (Hc n hs hg) J ?_;refine A5 J J J (A7 J gU) ?_;refine A5 J J J (C6 J gU J) ?_;refine A5 J J J (C6 J gU J) ?_;refine A5 J J J (A9 J gU) ?_;refine A5 J J J (A9 J gU) ?_;refine B0 ?_;refine B6 (s:=⟨[(1,_,_),(2,_,_),(3,_,_),(6,_,_),(9,_,_)],[(.l 3,_),(.l 6,_)],[],[]⟩) (B4 (⟨U J,U J,U J,U J,U J,O⟩) (⟨U J,U J,O⟩) O) ?_;refine A8 (A6 ?_);refine A5 J J J (A7 J gU) ?_;refine A5 J J J (B7 J J gU gU J) ?_;refine B0 ?_;refine B9 J (fun hc=>?_) (fun hc=>?_)
 ·try simp only [nn,B3,D3,nq] at hc
  refine A8 (A6 ?_);refine A5 J J J (G7 J Tryz.underlying27 J gU) ?_;refine A5 J J J (A7 J gU) ?_;refine C3 J (C8 J J J J J J J) ?_;refine A5 J J J (A9 J gU) ?_;refine B0 ?_;refine C1 ?_
  repeat(first|refine tR ?_|refine bR ?_)
  refine C5 J ?_ O
  (rw[rnE,if_pos hc]; rfl)
 ·try simp only [nn,B3,D3,nq] at hc
  have hok:=Zk (n:=n) hc
  have b1:=hok.nar.r2
  have b2:=hok.nar.f2
  have b3:=hok.nar.t2
  have b5:=hok.nar.s2
  have b6:=hok.nar.g2
  have hd : ∀ g ∈ n.goals,g.data.length≤900000 ∧ ∀ t ∈ g.data,t.size≤900000:=fun g hg=>by
   have d2:=(hok.nar.goals g hg).d2
   exact ⟨by omega,fun t ht=>by have := (hok.dat g hg t ht).2.2; omega⟩
  rw[rnE,if_neg (by simpa using hc)]
  refine C0 ?_;refine A8 (A6 ?_);refine A5 J J J (B8 J gU J J J J J) ?_;refine C7 J J J J J J gU gU (Cp n (by omega) (by omega) (by omega)) J ?_;refine A5 J J J (A7 J gU) ?_;refine A5 J J J (C6 J gU J) ?_;refine A5 J J J (C6 J gU J) ?_;refine A5 J J J (A9 J gU) ?_;refine A5 J J J (A9 J gU) ?_;refine B0 ?_;refine B6 (s:=⟨[(1,_,_),(2,_,_),(3,_,_),(6,_,_),(10,_,_)],[(.l 3,_),(.l 6,_)],[],[]⟩) (B4 (⟨U J,U J,U J,U J,U J,O⟩) (⟨U J,U J,O⟩) O) ?_;refine A8 ?_;refine A8 (A6 ?_);refine A5 J J J (A7 J gU) ?_;refine A5 J J J (A7 J gU) ?_;refine C7 J J J J J J gU gU (Q8 _ _) J ?_;refine A5 J J J (B7 J J gU gU J) ?_;refine B0 ?_;refine B9 J (fun hc2=>?_) (fun hc2=>?_)
  ·try simp only [nn,B3,D3,nq] at hc2
   have h2:=(S8 _ _).1 hc2
   rw[if_pos h2]
   refine A8 (A6 ?_);refine A5 J J J (G7 J Tryz.underlying27 J gU) ?_;refine C3 J (C8 J J J J J J J) ?_;refine A5 J J J (A9 J gU) ?_;refine B0 ?_;refine C1 ?_
   repeat(first|refine tR ?_|refine bR ?_)
   refine C5 J ?_ O
   rfl
  ·try simp only [nn,B3,D3,nq] at hc2
   have h2:=(Bg (H2 n) fr).1 (by omega)
   rw[if_neg (by rw[h2]; simp)]
   refine C0 ?_;refine A8 ?_;refine A8 (A6 ?_);refine A5 J J J (A7 J gU) ?_;refine A5 J J J (A7 J gU) ?_;refine C7 J J J J J J gU gU (Q8 _ _) J ?_;refine A5 J J J (B7 J J gU gU J) ?_;refine B0 ?_;refine B6 (s:=⟨[(1,_,_),(2,_,_),(3,_,_),(6,_,_),(37,_,_)],[(.l 3,_),(.l 6,_)],[],[]⟩) (B4 (⟨U J,U J,U J,U J,U J,O⟩) (⟨U J,U J,O⟩) O) ?_;refine B9 J (fun hc3=>?_) (fun hc3=>?_)
   ·try simp only [nn,B3,D3,nq] at hc3
    have h3:=(Bg (H2 n) tn).1 (by omega)
    rw[if_pos h3]
    refine A8 (A6 ?_);refine A5 J J J (G7 J Tryz.underlying27 J gU) ?_;refine C3 J (C8 J J J J J J J) ?_;refine A5 J J J (A9 J gU) ?_;refine B0 ?_;refine C1 ?_
    repeat(first|refine tR ?_|refine bR ?_)
    refine C5 J ?_ O
    rfl
   ·try simp only [nn,B3,D3,nq] at hc3
    have h3:=(S8 (H2 n) tn).1 (by omega)
    rw[if_neg (by rw[h3]; simp)]
    obtain ⟨z1,z2⟩:=Jm fr tn hs hg
    refine C0 ?_;refine A8 (A6 ?_);refine A5 J J J (B8 J gU J J J J J) ?_;refine A5 J J J (A7 J gU) ?_;refine A5 J J J (A7 J gU) ?_;refine C7 J J J J J J gU gU (Ko n fr tn (by omega) (by omega) (by omega) (by omega) (by omega) hs hd) J ?_;refine C3 J (D9 J J J) ?_;refine C3 J (C8 J J J J J J J) ?_;refine B0 ?_;refine B6 (s:=⟨[(6,_,_),(12,_,_)],[(.l 12,_),(.l 6,_)],[],[]⟩) (B4 (⟨U J,U J,O⟩) (⟨U J,U J,O⟩) O) ?_;refine A8 ?_;refine A8 (A6 ?_);refine A5 J J J (B8 J gU J J J J J) ?_;refine C7 J J J J J J gU gU (Hc (rnN fr tn n) z1 z2) J ?_;refine A5 J J J (A7 J gU) ?_;refine A5 J J J (C6 J gU J) ?_;refine A5 J J J (C6 J gU J) ?_;refine A5 J J J (A9 J gU) ?_;refine A5 J J J (A9 J gU) ?_;refine B0 ?_;refine B6 (s:=⟨[(6,_,_),(12,_,_),(14,_,_)],[(.l 12,_),(.l 6,_)],[],[]⟩) (B4 (⟨U J,U J,U J,O⟩) (⟨U J,U J,O⟩) O) ?_;refine A8 (A6 ?_);refine A5 J J J (A7 J gU) ?_;refine A5 J J J (B7 J J gU gU J) ?_;refine B0 ?_
    refine B9 J (fun hc4=>?_) (fun hc4=>?_)
    ·have h5 : (chkE E3 (rnN fr tn n)).2≠0:=by simpa using hc4
     rw[if_pos h5]
     refine A8 (A6 ?_);refine A5 J J J (G7 J Tryz.underlying27 J gU) ?_;refine A5 J J J (A7 J gU) ?_;refine C3 J (C8 J J J J J J J) ?_;refine A5 J J J (A9 J gU) ?_;refine B0 ?_;refine C1 ?_
     repeat(first|refine tR ?_|refine bR ?_)
     refine C5 J ?_ O
     rfl
    ·have h5 : (chkE E3 (rnN fr tn n)).2=0:=by simpa using hc4
     rw[if_neg (by rw[h5]; simp)]
     refine C0 ?_;refine A8 (A6 ?_);refine A5 J J J (B8 J gU J J J J J) ?_;refine C3 J (C8 J J J J J J J) ?_;refine A5 J J J (A9 J gU) ?_;refine B0 ?_;refine C1 ?_
     repeat(first|refine tR ?_|refine bR ?_)
     refine C5 J ?_ O
     rfl
def exP : List UInt8:=[112,114,111,116,111,99,111,108,32,112,32,123,32,114,111,108,101,32,65,44,32,66,59,32,102,114,101,115,104,32,65,58,32,110,32,110,111,110,99,101,59,32,109,101,115,115,97,103,101,32,65,32,45,62,32,66,58,32]
def exQ : List UInt8:=[59,32,125]
def exW0 : List UInt8:=[97,101,110,99,40,60,110,44,32,65,62,44,32,112,107,40,115,107,40,66,41,41,41]
def exN0 : Nar:=⟨[112],[[65],[66]],[⟨[65],[110],2⟩],[],[⟨[65],[66],⟨3,[97,101,110,99],0,[⟨3,[112,97,105,114],0,[⟨2,[110],0,[]⟩,⟨2,[65],0,[]⟩]⟩,⟨3,[112,107],0,[⟨3,[115,107],0,[⟨2,[66],0,[]⟩]⟩]⟩]⟩,1⟩],[]⟩
set_option maxRecDepth 100000 in
theorem exR0 : Ak (exP++exW0++exQ)=(exN0,0,0):=by kernel_rfl
def exW1 : List UInt8:=[101,110,99,40,110,44,32,107,41]
def exN1 : Nar:=⟨[112],[[65],[66]],[⟨[65],[110],2⟩],[],[⟨[65],[66],⟨3,[101,110,99],0,[⟨2,[110],0,[]⟩,⟨2,[107],0,[]⟩]⟩,1⟩],[]⟩
set_option maxRecDepth 100000 in
theorem exR1 : Ak (exP++exW1++exQ)=(exN1,0,0):=by kernel_rfl
def exW2 : List UInt8:=[115,105,103,110,40,110,44,32,110,41]
def exN2 : Nar:=⟨[112],[[65],[66]],[⟨[65],[110],2⟩],[],[⟨[65],[66],⟨3,[115,105,103,110],0,[⟨2,[110],0,[]⟩,⟨2,[110],0,[]⟩]⟩,1⟩],[]⟩
set_option maxRecDepth 100000 in
theorem exR2 : Ak (exP++exW2++exQ)=(exN2,0,0):=by kernel_rfl
def exW3 : List UInt8:=[115,107,40,66,41]
def exN3 : Nar:=⟨[112],[[65],[66]],[⟨[65],[110],2⟩],[],[⟨[65],[66],⟨3,[115,107],0,[⟨2,[66],0,[]⟩]⟩,1⟩],[]⟩
set_option maxRecDepth 100000 in
theorem exR3 : Ak (exP++exW3++exQ)=(exN3,0,0):=by kernel_rfl
set_option maxRecDepth 100000 in
theorem exC0 : chkE E3 exN0=(0,0):=by decide +kernel
set_option maxRecDepth 100000 in
theorem exC1 : chkE E3 exN1=(1,13):=by decide +kernel
set_option maxRecDepth 100000 in
theorem exC2 : chkE E3 exN2=(1,10):=by decide +kernel
set_option maxRecDepth 100000 in
theorem exC3 : chkE E3 exN3=(1,10):=by decide +kernel
set_option maxRecDepth 100000 in
theorem exS1 : Sv exN0 [110]=(2,0):=by decide +kernel
set_option maxRecDepth 100000 in
theorem exS2 : Sv exN0 [65]=(1,0):=by decide +kernel
set_option maxRecDepth 100000 in
theorem exU : Wm exN0 [110]=[0]:=by decide +kernel
theorem X3 (s : List UInt8) (h : s.length≤1000) : Ctr sys 35 [xs s] [] (xn (Ak (exP++s++exQ)).1) none []:=by
 refine D1 Tryz.func35 J J J J J J ?_;refine A8 (A6 ?_);refine C3 J (D9 J J J) ?_;refine B0 ?_;refine A8 (A6 ?_);refine A5 J J J (A7 J gU) ?_;refine A5 J J J (Cr J J gU gU (by simp; omega)) ?_;refine A5 J J J (Cr J J gU gU (by simp; omega)) ?_;refine C7 J J J J J J gU gU (Ox (exP++s++exQ) (by have e1 : exP.length=58:=rfl; have e2 : exQ.length=3:=rfl; rw[List.length_append,List.length_append]; omega)) J ?_;refine A5 J J J (A7 J gU) ?_;refine A5 J J J (C6 J gU J) ?_;refine A5 J J J (C6 J gU J) ?_;refine A5 J J J (C6 J gU J) ?_;refine C3 J (D9 J J J) ?_;refine C3 J (C8 J J J J J J J) ?_;refine A5 J J J (A9 J gU) ?_;refine A5 J J J (A9 J gU) ?_;refine B0 ?_;refine B6 (s:=⟨[(2,_,_),(3,_,_)],[(.l 2,_),(.l 3,_)],[],[]⟩) (B4 (⟨U J,U J,O⟩) (⟨U J,U J,O⟩) O) ?_;refine A8 (A6 ?_);refine A5 J J J (B8 J gU J J J J J) ?_;refine C3 J (C8 J J J J J J J) ?_;refine B0 ?_;refine C1 ?_
 repeat(first|refine tR ?_|refine bR ?_)
 refine C5 J ?_ O
 rfl
theorem If : Ctr sys 11 [] [] (xb true) none []:=by
 have a0:=X3 exW0 (by decide)
 rw[exR0] at a0
 have c0:=O0 exN0 (by decide) (by decide)
 rw[exC0] at c0
 have a1:=X3 exW1 (by decide)
 rw[exR1] at a1
 have c1:=O0 exN1 (by decide) (by decide)
 rw[exC1] at c1
 have a2:=X3 exW2 (by decide)
 rw[exR2] at a2
 have c2:=O0 exN2 (by decide) (by decide)
 rw[exC2] at c2
 have a3:=X3 exW3 (by decide)
 rw[exR3] at a3
 have c3:=O0 exN3 (by decide) (by decide)
 rw[exC3] at c3
 have s1:=Iz exN0 [110] (by decide) (by decide)
 rw[exS1] at s1
 have s2:=Iz exN0 [65] (by decide) (by decide)
 rw[exS2] at s2
 have u1:=Ty exN0 [110] (by decide) (by decide)
 rw[exU] at u1
 refine D1 Tryz.func11 J J J J J J ?_;refine A8 (A6 ?_);refine A5 J J J (A9 J gU) ?_;refine B0 ?_;refine A8 (A6 ?_);refine C7 J J J J J J gU gU (a0) J ?_;refine C3 J (D9 J J J) ?_;refine C3 J (C8 J J J J J J J) ?_;refine B0 ?_;refine A8 (A6 ?_);refine A5 J J J (B8 J gU J J J J J) ?_;refine C7 J J J J J J gU gU (c0) J ?_;refine A5 J J J (A7 J gU) ?_;refine A5 J J J (C6 J gU J) ?_;refine A5 J J J (C6 J gU J) ?_;refine A5 J J J (A9 J gU) ?_;refine A5 J J J (A9 J gU) ?_;refine B0 ?_;refine B6 (s:=⟨[(1,_,_),(2,_,_),(3,_,_)],[(.l 1,_)],[],[]⟩) (B4 (⟨U J,U J,U J,O⟩) (⟨U J,O⟩) O) ?_;refine A8 (A6 ?_);refine A5 J J J (B8 J gU J J J J J) ?_;refine C7 J J J J J J gU gU (s1) J ?_;refine A5 J J J (A7 J gU) ?_;refine A5 J J J (C6 J gU J) ?_;refine A5 J J J (C6 J gU J) ?_;refine A5 J J J (A9 J gU) ?_;refine A5 J J J (A9 J gU) ?_;refine B0 ?_;refine B6 (s:=⟨[(1,_,_),(2,_,_),(3,_,_),(4,_,_),(5,_,_)],[(.l 1,_)],[],[]⟩) (B4 (⟨U J,U J,U J,U J,U J,O⟩) (⟨U J,O⟩) O) ?_
 refine A8 (A6 ?_);refine A5 J J J (B8 J gU J J J J J) ?_;refine C7 J J J J J J gU gU (s2) J ?_;refine A5 J J J (A7 J gU) ?_;refine A5 J J J (C6 J gU J) ?_;refine A5 J J J (C6 J gU J) ?_;refine A5 J J J (A9 J gU) ?_;refine A5 J J J (A9 J gU) ?_;refine B0 ?_;refine B6 (s:=⟨[(1,_,_),(2,_,_),(3,_,_),(4,_,_),(5,_,_),(6,_,_),(7,_,_)],[(.l 1,_)],[],[]⟩) (B4 (⟨U J,U J,U J,U J,U J,U J,U J,O⟩) (⟨U J,O⟩) O) ?_;refine A8 (A6 ?_);refine C7 J J J J J J gU gU (a1) J ?_;refine C7 J J J J J J gU gU (c1) J ?_;refine A5 J J J (A7 J gU) ?_;refine A5 J J J (C6 J gU J) ?_;refine A5 J J J (C6 J gU J) ?_;refine A5 J J J (A9 J gU) ?_;refine A5 J J J (A9 J gU) ?_;refine B0 ?_;refine B6 (s:=⟨[(1,_,_),(2,_,_),(3,_,_),(4,_,_),(5,_,_),(6,_,_),(7,_,_),(8,_,_),(9,_,_)],[(.l 1,_)],[],[]⟩) (B4 (⟨U J,U J,U J,U J,U J,U J,U J,U J,U J,O⟩) (⟨U J,O⟩) O) ?_;refine A8 (A6 ?_);refine C7 J J J J J J gU gU (a2) J ?_
 refine C7 J J J J J J gU gU (c2) J ?_;refine A5 J J J (A7 J gU) ?_;refine A5 J J J (C6 J gU J) ?_;refine A5 J J J (C6 J gU J) ?_;refine A5 J J J (A9 J gU) ?_;refine A5 J J J (A9 J gU) ?_;refine B0 ?_;refine B6 (s:=⟨[(1,_,_),(2,_,_),(3,_,_),(4,_,_),(5,_,_),(6,_,_),(7,_,_),(8,_,_),(9,_,_),(11,_,_)],[(.l 1,_)],[],[]⟩) (B4 (⟨U J,U J,U J,U J,U J,U J,U J,U J,U J,U J,O⟩) (⟨U J,O⟩) O) ?_;refine A8 (A6 ?_);refine C7 J J J J J J gU gU (a3) J ?_;refine C7 J J J J J J gU gU (c3) J ?_;refine A5 J J J (A7 J gU) ?_;refine A5 J J J (C6 J gU J) ?_;refine A5 J J J (C6 J gU J) ?_;refine A5 J J J (A9 J gU) ?_;refine A5 J J J (A9 J gU) ?_;refine B0 ?_;refine B6 (s:=⟨[(1,_,_),(2,_,_),(3,_,_),(4,_,_),(5,_,_),(6,_,_),(7,_,_),(8,_,_),(9,_,_),(11,_,_),(13,_,_)],[(.l 1,_)],[],[]⟩) (B4 (⟨U J,U J,U J,U J,U J,U J,U J,U J,U J,U J,U J,O⟩) (⟨U J,O⟩) O) ?_;refine A8 (A6 ?_);refine A5 J J J (A7 J gU) ?_
 refine A5 J J J (B7 J J gU gU J) ?_;refine A5 J J J (A7 J gU) ?_;refine A5 J J J (A7 J gU) ?_;refine A5 J J J (B7 J J (fun hh=>hh) gU J) ?_;refine A5 J J J (E2 J J gU (fun _ hi=>gP J hi)) ?_;refine A5 J J J (A7 J gU) ?_;refine A5 J J J (A7 J gU) ?_;refine A5 J J J (B7 J J (fun hh=>hh) gU J) ?_;refine A5 J J J (E2 J J gU (fun _ hi=>gP J hi)) ?_;refine A5 J J J (A7 J gU) ?_;refine A5 J J J (A7 J gU) ?_;refine H3 (s:=⟨[(1,_,_),(6,_,_),(7,_,_),(8,_,_),(9,_,_),(11,_,_),(13,_,_),(55,_,_),(56,_,_)],[(.l 1,_)],[],[]⟩) (B4 (⟨U J,U J,U J,U J,U J,U J,U J,U J,U J,O⟩) (⟨U J,O⟩) O) ?_;refine A5 J J J (B7 J J (fun hh=>hh) gU J) ?_;refine A5 J J J (E2 J J gU (fun _ hi=>gP J hi)) ?_;refine A5 J J J (A7 J gU) ?_;refine A5 J J J (A7 J gU) ?_;refine A5 J J J (B7 J J (fun hh=>hh) gU J) ?_;refine A5 J J J (E2 J J gU (fun _ hi=>gP J hi)) ?_;refine A5 J J J (A7 J gU) ?_;refine A5 J J J (A7 J gU) ?_;refine A5 J J J (B7 J J (fun hh=>hh) gU J) ?_
 refine A5 J J J (E2 J J gU (fun _ hi=>gP J hi)) ?_;refine A5 J J J (A7 J gU) ?_;refine A5 J J J (B8 J gU J J J J J) ?_;refine H3 (s:=⟨[(8,_,_),(9,_,_),(11,_,_),(13,_,_),(67,_,_),(68,_,_)],[],[],[]⟩) (B4 (⟨U J,U J,U J,U J,U J,U J,O⟩) O O) ?_;refine C7 J J J J J J gU (fun hh=>gA ((fun hh=>hh) hh) (gA J (rfl))) (u1) J ?_;refine Iv (xs:=[_]) J J J J J J J J J (by first|exact fun hh=>hh|exact fun _=>rfl|exact fun hh=>gL hh|exact fun hh=>gL (gL hh)|(intro hh; simp_all)) J ?_;refine C7 J J J J J J gU (fun hh=>gA ((fun hh=>hh) hh) (gA ((fun hh=>hh) hh) (rfl))) (Ol [0] [0] J) J ?_;refine A5 J J J (E2 J J gU (fun _ hi=>gP J hi)) ?_;refine A5 J J J (A7 J gU) ?_;refine A5 J J J (A7 J gU) ?_;refine A5 J J J (B7 J J (fun hh=>hh) gU J) ?_;refine A5 J J J (E2 J J gU (fun _ hi=>gP J hi)) ?_;refine A5 J J J (A7 J gU) ?_;refine A5 J J J (A7 J gU) ?_;refine A5 J J J (B7 J J (fun hh=>hh) gU J) ?_;refine A5 J J J (E2 J J gU (fun _ hi=>gP J hi)) ?_;refine H3 (s:=⟨[(11,_,_),(13,_,_),(80,_,_)],[],[],[]⟩) (B4 (⟨U J,U J,U J,O⟩) O O) ?_
 refine A5 J J J (A7 J gU) ?_;refine A5 J J J (A7 J gU) ?_;refine A5 J J J (B7 J J (fun hh=>hh) gU J) ?_;refine A5 J J J (E2 J J gU (fun _ hi=>gP J hi)) ?_;refine A5 J J J (A7 J gU) ?_;refine A5 J J J (A7 J gU) ?_;refine A5 J J J (B7 J J (fun hh=>hh) gU J) ?_;refine A5 J J J (E2 J J gU (fun _ hi=>gP J hi)) ?_;refine A5 J J J (A9 J gU) ?_;refine B0 ?_;refine C1 ?_
 repeat(first|refine tR ?_|refine bR ?_)
 refine C5 J ?_ O
 rfl
theorem Yq {n : Nar} (fr tn : List UInt8) (hs : ∀ s ∈ n.steps,s.msg.size≤900000) (hg : ∀ g ∈ n.goals,T.sizes g.data≤900000) : (∀ s ∈ (rnE n fr tn).1.steps,s.msg.size≤900000) ∧ ∀ g ∈ (rnE n fr tn).1.goals,T.sizes g.data≤900000:=by
 have h0 : (∀ s ∈ nar0.steps,s.msg.size≤900000) ∧ ∀ g ∈ nar0.goals,T.sizes g.data≤900000:=⟨fun x hx=>by simp [nar0] at hx,fun x hx=>by simp [nar0] at hx⟩
 unfold rnE
 split
 ·exact h0
 split
 ·exact h0
 split
 ·exact h0
 split
 ·exact h0
 ·exact Jm fr tn hs hg
theorem Fh (n : Nar) (fr tn : List UInt8) (hd : ∀ g ∈ n.goals,g.data.length≤2097152) : Ctr sys 9 [xn n,xs fr,xs tn] [] (xb true) none []:=by
 refine D1 Tryz.func9 J J J J J J ?_;refine A8 (A6 ?_);refine C3 J (D8 J J J J) ?_;refine A5 J J J (A9 J gU) ?_;refine B0 ?_;refine A8 ?_;refine A8 (A6 ?_);refine C7 J J J J J J gU gU (If) J ?_;refine A5 J J J (F9 J gU) ?_;refine A5 J J J (A7 J gU) ?_;refine A5 J J J (B8 J gU J J J J J) ?_;refine C7 J J J J J J gU (fun hh=>gA ((fun hh=>hh) hh) (rfl)) (Uo n hd) J ?_;refine A5 J J J (F9 J (fun hh=>hh)) ?_;refine A5 J J J (E5 J J gU (fun _ hi=>gP J hi)) ?_;refine A5 J J J (A7 J gU) ?_;refine A5 J J J (A7 J gU) ?_;refine A5 J J J (M6 J (fun hh=>hh) (Tryz.underlying9)) ?_;refine H3 (s:=⟨[(1,_,_),(2,_,_),(3,_,_),(18,_,_),(20,_,_)],[(.l 3,_)],[],[]⟩) (B4 (⟨U J,U J,U J,U J,U J,O⟩) (⟨U J,O⟩) O) ?_;refine A5 J J J (B7 J J (fun hh=>hh) gU J) ?_;refine A5 J J J (E5 J J gU (fun _ hi=>gP J hi)) ?_;refine A5 J J J (A7 J gU) ?_;refine A5 J J J (A7 J gU) ?_;refine A5 J J J (M6 J (fun hh=>hh) (Tryz.underlying9)) ?_;refine A5 J J J (B7 J J (fun hh=>hh) gU J) ?_
 refine A5 J J J (E5 J J gU (fun _ hi=>gP J hi)) ?_;refine B0 ?_;refine B6 (s:=⟨[(1,_,_),(2,_,_),(3,_,_),(27,_,_)],[(.l 3,_)],[],[]⟩) (B4 (⟨U J,U J,U J,U J,O⟩) (⟨U J,O⟩) O) ?_;refine B9 J (fun hc=>?_) (fun hc=>?_)
 ·refine A8 (A6 ?_)
  refine C7 J J J J J J gU gU (If) J ?_;refine A5 J J J (A9 J gU) ?_;refine B0 ?_;refine C1 ?_
  repeat(first|refine tR ?_|refine bR ?_)
  refine C5 J ?_ O
  rfl
 ·try simp only [nn,B3,nq] at hc
  have hf : fewN n=true:=by simpa using hc.1.1
  obtain ⟨p1,p2,p3,p4⟩:=uBO (n:=n) hf
  obtain ⟨q3,q4⟩:=Yq fr tn p3 p4
  refine C0 ?_;refine A8 (A6 ?_);refine A5 J J J (B8 J gU J J J J J) ?_;refine A5 J J J (A7 J gU) ?_;refine A5 J J J (A7 J gU) ?_;refine C7 J J J J J J gU gU (Od n fr tn p3 p4) J ?_;refine A5 J J J (A7 J gU) ?_;refine A5 J J J (C6 J gU J) ?_;refine A5 J J J (C6 J gU J) ?_;refine C3 J (D9 J J J) ?_;refine C3 J (C8 J J J J J J J) ?_;refine A5 J J J (A9 J gU) ?_;refine B0 ?_;refine B6 (s:=⟨[(1,_,_),(2,_,_),(3,_,_),(7,_,_),(8,_,_)],[(.l 3,_),(.l 7,_)],[],[]⟩) (B4 (⟨U J,U J,U J,U J,U J,O⟩) (⟨U J,U J,O⟩) O) ?_;refine A8 (A6 ?_);refine A5 J J J (B8 J gU J J J J J) ?_;refine A5 J J J (A7 J gU) ?_;refine A5 J J J (A7 J gU) ?_;refine C7 J J J J J J gU gU (Mt n fr tn p3 p4) J ?_;refine A5 J J J (A7 J gU) ?_;refine A5 J J J (C6 J gU J) ?_;refine A5 J J J (C6 J gU J) ?_;refine C3 J (D9 J J J) ?_;refine C3 J (C8 J J J J J J J) ?_;refine A5 J J J (A9 J gU) ?_;refine B0 ?_;refine B6 (s:=⟨[(7,_,_),(8,_,_),(9,_,_),(10,_,_)],[(.l 7,_),(.l 9,_)],[],[]⟩) (B4 (⟨U J,U J,U J,U J,O⟩) (⟨U J,U J,O⟩) O) ?_
  refine A8 (A6 ?_);refine A5 J J J (A7 J gU) ?_;refine A5 J J J (A7 J gU) ?_;refine A5 J J J (B7 J J gU gU J) ?_;refine A5 J J J (A7 J gU) ?_;refine A5 J J J (B8 J gU J J J J J) ?_;refine A5 J J J (B8 J gU J J J J J) ?_;refine C7 J J J J J J gU (fun hh=>gA ((fun hh=>hh) hh) (gA ((fun hh=>hh) hh) (rfl))) (Pb _ _ J q3 q4) J ?_;refine A5 J J J (E2 J J gU (fun _ hi=>gP J hi)) ?_;refine A5 J J J (A9 J gU) ?_;refine B0 ?_;refine C1 ?_
  repeat(first|refine tR ?_|refine bR ?_)
  refine C5 J ?_ O;refine M3 ?_
  simp
end Go.Proofs.YteidahabkfgfjaaGreat
namespace Go.Abs
def I1 (P : Program) (M : Nat) : Nat→TypeId→List C→Prop
 | 0,_,_=>False
 | n + 1,t,cs=>match P.underlying t with
  | some .bool=>∃ x,cs=[.b x]
  | some (.int k)=>∃ m,cs=[.i k m]∧(Lit.int k m).wf=true
  | some .string=>∃ l,cs=[.s l]∧l.length≤M
  | some (.slice e)=>∃ es,cs=[.sl (P.cellsOf e) es]∧es.length≤M ∧ ∀ row,row ∈ es→I1 P M n e row
  | some (.struct fs)=>Hb (I1 P M n) fs.toList cs
  | some (.array m e)=>hasN (I1 P M n e) m cs
  | _=>False
section
variable {H : Type} {enc : TypeId × Value→H} {P : Program} {L : List TypeId} {w : World}
structure Bnd (P : Program) (L : List TypeId) (M : Nat) (B : TypeId→DataW H→Prop) : Prop where
 str : ∀ {t : TypeId} {s : List UInt8},P.underlying t=some .string→B t (.lit (.string s))→s.length≤M
 sl : ∀ {t e : TypeId} {es sp : List (DataW H)},t ∈ L→P.underlying t=some (.slice e)→B t (.slice es sp)→es.length≤M ∧ ∀ x ∈ es,B e x
 st : ∀ {t : TypeId} {fs : Array Field} {ps : List (DataW H)},P.underlying t=some (.struct fs)→B t (.agg ps) → ∀ (j : Nat) (f : Field) (x : DataW H),fs.toList[j]? = some f→ps[j]? = some x→B f.type x
 arr : ∀ {t e : TypeId} {n : Nat} {ps : List (DataW H)},P.underlying t=some (.array n e)→B t (.agg ps) → ∀ x ∈ ps,B e x
theorem Gk {M : Nat} {B : TypeId→DataW H→Prop} (hB : Bnd P L M B) (hL : Hu P L=true) : ∀ (fuel : Nat) (t : TypeId) (vs : List Value) (d : DataW H) (p : List MemPlace),t ∈ L→B t d →
  DataW.trod enc P w 0 (fun _=>true) true fuel t vs=some (d,p) → ∃ cs,I1 P M fuel t cs∧All2 (CRep w (topG w).S) cs vs∧cs.length=P.cellsOf t
 | 0,t,vs,d,p,_,_,h=>by simp [DataW.trod] at h
 | fuel + 1,t,vs,d,p,ht,hbd,h=>by
  have IH:=Gk hB hL fuel
  have hc:=List.all_eq_true.1 hL t ht
  unfold DataW.trod at h
  split at h
  ·rename_i b hu
   simp only [hu,beq_iff_eq] at hc
   exact ⟨[.b b],by simp only [I1,hu]; exact ⟨_,rfl⟩,⟨.b b,O⟩,hc.symm⟩
  ·rename_i k k' n hu
   simp only [hu,beq_iff_eq] at hc
   split at h
   ·rename_i hk
    obtain ⟨rfl,hwf⟩:=hk
    exact ⟨[.i k' n],by simp only [I1,hu]; exact ⟨n,rfl,hwf⟩,⟨.i _ n,O⟩,hc.symm⟩
   ·simp at h
  ·rename_i hu; simp only [hu] at hc; simp at hc
  ·rename_i s hu
   simp only [hu,beq_iff_eq] at hc
   split at h
   ·rename_i hs
    have hs' : s.data.toList.length≤9223372036854775807:=by
     have h1 : s.data.toList.length=s.size:=rfl
     have h2 : maxLen=9223372036854775807:=by decide
     omega
    simp only [Option.some.injEq,Prod.mk.injEq] at h
    obtain ⟨rfl,_⟩:=h
    refine ⟨[.s s.data.toList],by simp only [I1,hu]; exact ⟨_,rfl,hB.str hu hbd⟩,⟨?_,O⟩,hc.symm⟩
    have := CRep.s (w := w) (S := (topG w).S) s.data.toList hs'
    rwa [Vh] at this
   ·simp at h
  ·rename_i hu; simp only [hu] at hc; simp at hc
  ·rename_i hu; simp only [hu] at hc; simp at hc
  ·rename_i e hu
   simp only [hu,Bool.and_eq_true,beq_iff_eq] at hc
   exact ⟨[.sl (P.cellsOf e) []],by simp [I1,hu],⟨.nil _,O⟩,hc.1.1.symm⟩
  ·rename_i e a len cap hu
   simp only [hu,Bool.and_eq_true,beq_iff_eq,decide_eq_true_eq,bne_iff_ne] at hc
   obtain ⟨⟨hc1,heL⟩,hsz0⟩:=hc
   simp only at h
   split at h
   ·rename_i hb
    obtain ⟨_,hlc,hcm⟩:=hb
    have hmax : len≤9223372036854775807:=by
     have h2 : maxLen=9223372036854775807:=by decide
     omega
    simp only [Option.bind_eq_some_iff,if_true,Option.map_eq_some_iff] at h
    obtain ⟨elems,h1,rest,h2,hd⟩:=h
    simp only [Prod.mk.injEq] at hd
    obtain ⟨rfl,_⟩:=hd
    have hbs:=hB.sl ht hu hbd
    have hel0 : ∀ i,i < len → ∃ ci y,w.cells? 0 (a.add (i * P.cellsOf e)) (P.cellsOf e)=some ci∧DataW.trod enc P w 0 (fun _=>true) true fuel e ci=some y∧B e y.1:=by
     intro i hil
     obtain ⟨y,hy,hy2⟩:=Ht h1 (i:=i) (x:=i) (by simp [hil])
     simp only [Option.bind_eq_some_iff] at hy
     obtain ⟨ci,q1,q2⟩:=hy
     exact ⟨ci,y,q1,q2,hbs.2 _ (List.mem_map.2 ⟨y,List.mem_of_getElem? hy2,rfl⟩)⟩
    have hlen0 : elems.length=len := by have := Go.mapM_some_length h1; simpa using this
    have hel : ∀ i,i < cap → ∃ ci y,w.cells? 0 (a.add (i * P.cellsOf e)) (P.cellsOf e)=some ci∧DataW.trod enc P w 0 (fun _=>true) true fuel e ci=some y:=by
     intro i hi
     by_cases hil : i < len
     ·obtain ⟨y,hy,_⟩:=Ht h1 (i:=i) (x:=i) (by simp [hil])
      simp only [Option.bind_eq_some_iff] at hy
      obtain ⟨ci,q1,q2⟩:=hy
      exact ⟨ci,y,q1,q2⟩
     ·obtain ⟨y,hy,_⟩:=Ht h2 (i:=i - len) (x:=i - len) (by simp [show i - len < cap - len by omega])
      rw[show len + (i - len)=i by omega] at hy
      simp only [Option.bind_eq_some_iff] at hy
      obtain ⟨ci,q1,q2⟩:=hy
      exact ⟨ci,y,q1,q2⟩
    have hspot : cap≠0→a.spot=none:=by
     intro h0
     obtain ⟨ci,y,q1,_⟩:=hel 0 (by omega)
     obtain ⟨q3,q4⟩:=Qb q1
     have hlt : 0 < ci.length:=by omega
     have := q4 0 _ (List.getElem?_eq_getElem hlt)
     simpa [Addr.add] using World.cell?_spot this
    obtain ⟨es,hesl,hes⟩:=V0 (R:=fun i row=>I1 P M fuel e row∧row.length=P.cellsOf e∧RowAt w (topG w).S a.block (a.off + i * P.cellsOf e) row) len (by
     intro i hi
     obtain ⟨ci,⟨y1,y2⟩,q1,q2,q3⟩:=hel0 i (by omega)
     obtain ⟨row,r1,r2,r3⟩:=IH e ci y1 y2 heL q3 q2
     refine ⟨row,r1,r3,fun j c hj=>?_⟩
     obtain ⟨v,hv,hrep⟩:=r2.get j c hj
     have hcell:=(Qb q1).2 j v hv
     have hsp:=hspot (by omega)
     obtain ⟨b,o,sp⟩:=a
     simp only at hsp
     subst hsp
     rw[uBD] at hcell
     exact ⟨uCG (World.block_lt_of_cell? w ⟨b,o + i * P.cellsOf e + j,none⟩ hcell),v,hcell,hrep⟩)
    refine ⟨[.sl (P.cellsOf e) es],?_,⟨?_,O⟩,hc1.symm⟩
    ·simp only [I1,hu]
     refine ⟨es,rfl,by have := hbs.1; rw[List.length_map] at this; omega,fun row hr=>?_⟩
     obtain ⟨i,hi⟩:=List.getElem?_of_mem hr
     exact (hes i row hi).1
    ·exact CRep.mk_any hesl hlc hmax hspot fun i row hi=>(hes i row hi).2
   ·simp at h
  ·rename_i vs _ _ fs hu
   simp only [hu,beq_iff_eq] at hc
   split at h
   ·rename_i hlen
    simp only [Option.map_eq_some_iff] at h
    obtain ⟨xs,hxs,hd⟩:=h
    simp only [Prod.mk.injEq] at hd
    obtain ⟨rfl,_⟩:=hd
    have hbs:=hB.st hu hbd
    have key : ∀ (fs : List Field) (off : Nat) (xs : List (DataW H × List MemPlace)),Gy P L fs off=some (P.cellsOf t) →
      (fs.mapM fun f=>DataW.trod enc P w 0 (fun _=>true) true fuel f.type ((vs.drop f.offset).take (P.cellsOf f.type)))=some xs→(∀ (j : Nat) (f : Field) (x : DataW H),fs[j]? = some f→(xs.map (·.1))[j]? = some x→B f.type x) →
      ∃ cs,Hb (I1 P M fuel) fs cs∧All2 (CRep w (topG w).S) cs (vs.drop off)∧cs.length=P.cellsOf t - off:=by
     intro fs
     induction fs with
     | nil =>
      intro off xs hf _ _
      simp only [Gy,Option.some.injEq] at hf
      refine ⟨[],rfl,?_,by simp; omega⟩
      rw[List.drop_eq_nil_of_le (by omega)]
      trivial
     | cons f r ih =>
      intro off xs hf hm hbb
      simp only [Gy] at hf
      split at hf
      ·rename_i hfo
       obtain ⟨rfl,hfL⟩:=hfo
       simp only [List.mapM_cons,Option.bind_eq_bind,Option.bind_eq_some_iff] at hm
       obtain ⟨⟨y1,y2⟩,hy,ys,hys,hxs2⟩:=hm
       have hxs2 : (y1,y2) :: ys=xs:=by simpa using hxs2
       subst hxs2
       obtain ⟨a,a1,a2,a3⟩:=IH _ _ _ _ hfL (hbb 0 f y1 rfl rfl) hy
       obtain ⟨b,b1,b2,b3⟩:=ih _ _ hf hys (fun j f x h1 h2=>hbb (j + 1) f x (by simpa using h1) (by simpa using h2))
       have hle:=Pc hf
       refine ⟨a++b,⟨a,b,rfl,a1,b1⟩,?_,by simp; omega⟩
       have := a2.append b2
       rwa [← List.drop_drop,List.take_append_drop] at this
      ·simp at hf
    obtain ⟨cs,c1,c2,c3⟩:=key fs.toList 0 xs hc hxs hbs
    exact ⟨cs,by simp only [I1,hu]; exact c1,by simpa using c2,by simpa using c3⟩
   ·simp at h
  ·rename_i vs _ _ n e hu
   simp only [hu,Bool.and_eq_true,beq_iff_eq,decide_eq_true_eq] at hc
   obtain ⟨heL,hct⟩:=hc
   split at h
   ·rename_i hlen
    simp only [Option.map_eq_some_iff] at h
    obtain ⟨xs,hxs,hd⟩:=h
    simp only [Prod.mk.injEq] at hd
    obtain ⟨rfl,_⟩:=hd
    have hbs:=hB.arr hu hbd
    have key : ∀ (m k : Nat),k + m=n → ∃ cs,hasN (I1 P M fuel e) m cs∧All2 (CRep w (topG w).S) cs (vs.drop (k * P.cellsOf e))∧cs.length=m * P.cellsOf e:=by
     intro m
     induction m with
     | zero =>
      intro k hk
      refine ⟨[],rfl,?_,by simp⟩
      have : k=n:=by omega
      subst this
      rw[List.drop_eq_nil_of_le (by omega)]
      trivial
     | succ m ih =>
      intro k hk
      obtain ⟨⟨y1,y2⟩,hy,hy2⟩:=Ht hxs (i:=k) (x:=k) (by simp [show k < n by omega])
      obtain ⟨a,a1,a2,a3⟩:=IH _ _ _ _ heL (hbs _ (List.mem_map.2 ⟨(y1,y2),List.mem_of_getElem? hy2,rfl⟩)) hy
      obtain ⟨b,b1,b2,b3⟩:=ih (k + 1) (by omega)
      refine ⟨a++b,⟨a,b,rfl,a1,b1⟩,?_,by simp [a3,b3,Nat.succ_mul]; omega⟩
      have := a2.append b2
      rwa [Nat.succ_mul,← List.drop_drop,List.take_append_drop] at this
    obtain ⟨cs,c1,c2,c3⟩:=key n 0 (by omega)
    exact ⟨cs,by simp only [I1,hu]; exact c1,by simpa using c2,by rw[c3,hct]⟩
   ·simp at h
  all_goals first|(rename_i hu; simp only [hu] at hc; simp at hc)|(simp at h)|trace_state
theorem Qr {M : Nat} {B : TypeId→DataW H→Prop} (hB : Bnd P L M B) (hL : Hu P L=true) {t : TypeId} {v : Value} {base : Nat} {d : TypeDesc} {x : DataW H} {p : List MemPlace} (ht : t ∈ L) (hd : P.underlying t=some d) (hp : Tv d=true) (hok : Value.okWide P w .any base t v)
  (hbd : B t x) (h : DataW.Trod enc P w 0 (fun _=>true) true t v x p) : ∃ n c,I1 P M n t [c]∧XRep w (topG w) (.v (.c c)) v:=by
 obtain ⟨n,hn⟩:=h
 rw[De (Of hd hp hok)] at hn
 obtain ⟨cs,h1,h2,_⟩:=Gk hB hL n t _ _ _ ht hbd hn
 match cs,h2 with
 | [c],h2=>exact ⟨n,c,h1,h2.1⟩
theorem uBg {M : Nat} {B : TypeId→DataW H→Prop} (hB : Bnd P L M B) (hL : Hu P L=true) {t : TypeId} {v : Value} {base : Nat} {d : TypeDesc} {x : DataW H} {p : List MemPlace} (ht : t ∈ L) (hd : P.underlying t=some d) (hp : rowD d=true) (hok : Value.okWide P w .any base t v)
  (hbd : B t x) (h : DataW.Trod enc P w 0 (fun _=>true) true t v x p) : ∃ n cs,I1 P M n t cs∧XRep w (topG w) (.v (.agg cs)) v:=by
 obtain ⟨n,hn⟩:=h
 obtain ⟨vs,rfl⟩:=Uz hd hp hok
 obtain ⟨cs,h1,h2,_⟩:=Gk hB hL n t _ _ _ ht hbd hn
 exact ⟨n,cs,h1,vs.toList,by simp,by simpa [Value.cells] using h2⟩
end
end Go.Abs
namespace Go.Proofs.YteidahabkfgfjaaGreat
open Go Go.Abs
theorem V0 {α : Type} {f : α→List C} {R : List C→Prop} (h : ∀ row,R row → ∃ t : α,row=f t) : ∀ es : List (List C),(∀ row,row ∈ es→R row) → ∃ ts : List α,es=ts.map f
 | [],_=>⟨[],rfl⟩
 | e :: es,he=>by
  obtain ⟨t,ht⟩:=h e (he e (List.mem_cons_self ..))
  obtain ⟨ts,hts⟩:=V0 h es fun row hr=>he row (List.mem_cons_of_mem _ hr)
  exact ⟨t :: ts,by rw[List.map_cons,← hts,ht]⟩
theorem own : ownKnob Tryz.prog.godebug=none:=by kernel_rfl
theorem Nt : laidOutB Tryz.prog=true:=by kernel_rfl
theorem uCU {H : Type} (d : DataW H) : 1≤Rows.uptoBulk d:=by
 cases d with
 | lit l=>cases l <;> simp [Rows.uptoBulk]
 | nil=>simp [Rows.uptoBulk]
 | ptr d=>simp [Rows.uptoBulk]
 | slice elems spare=>simp [Rows.uptoBulk]
 | agg parts=>simp [Rows.uptoBulk]
 | iface t d=>simp [Rows.uptoBulk]
 | map entries=>simp [Rows.uptoBulk]
 | held h=>simp [Rows.uptoBulk]
theorem Dk {H : Type} {d : DataW H} {l : List (DataW H)} (h : d ∈ l) : Rows.uptoBulk d≤Rows.uptoBulkAll l:=by
 induction l with
 | nil=>cases h
 | cons x r ih =>
  simp only [Rows.uptoBulkAll]
  rcases List.mem_cons.1 h with e | e
  ·subst e; omega
  ·have := ih e; omega
theorem uCD {H : Type} (l : List (DataW H)) : l.length≤Rows.uptoBulkAll l:=by
 induction l with
 | nil=>simp
 | cons x r ih=>have := uCU x; simp only [Rows.uptoBulkAll,List.length_cons]; omega
theorem Iw {H : Type} {L : List TypeId} : Bnd Tryz.prog L 1048576 (fun _ (d : DataW H)=>Rows.uptoBulk d≤1048576) where
 str:=fun _ h=>by simp only [Rows.uptoBulk] at h; omega
 sl:=fun {t e es sp} _ _ h=>by
  simp only [Rows.uptoBulk] at h
  have h1:=uCD es
  exact ⟨by omega,fun x hx=>by have := Dk hx; omega⟩
 st:=fun {t fs ps} _ h j f x _ hx=>by
  simp only [Rows.uptoBulk] at h
  have := Dk (List.mem_of_getElem? hx); omega
 arr:=fun {t e n ps} _ h x hx=>by
  simp only [Rows.uptoBulk] at h
  have := Dk hx; omega
theorem Tl : Hu Tryz.prog [3,9,5,22,47,39,79,23,49,24,51,25,27]=true:=by kernel_rfl
theorem uAj : Tryz.prog.cellsOf 47=4:=by kernel_rfl
theorem uCB : Tryz.prog.cellsOf 9=1:=by kernel_rfl
theorem uBH : Tryz.prog.cellsOf 79=3:=by kernel_rfl
theorem uCa : Tryz.prog.cellsOf 49=7:=by kernel_rfl
theorem uB8 : Tryz.prog.cellsOf 51=5:=by kernel_rfl
theorem Cv {M n : Nat} {cs : List C} (h : I1 Tryz.prog M n 3 cs) : ∃ m,cs=[.i .i64 m]:=by
 cases n with
 | zero=>exact h.elim
 | succ n =>
  simp only [I1,Tryz.underlying3] at h
  obtain ⟨m,h,_⟩:=h
  exact ⟨m,h⟩
theorem U7 {M n : Nat} {cs : List C} (h : I1 Tryz.prog M n 9 cs) : ∃ l,cs=[.s l]:=by
 cases n with
 | zero=>exact h.elim
 | succ n =>
  simp only [I1,Tryz.underlying9] at h
  obtain ⟨m,h,_⟩:=h
  exact ⟨m,h⟩
theorem Rh {M n : Nat} {cs : List C} (h : I1 Tryz.prog M n 22 cs) : ∃ l : List (List UInt8),cs=[.sl 1 (strR l)]:=by
 cases n with
 | zero=>exact h.elim
 | succ n =>
  simp only [I1,Tryz.underlying22,uCB] at h
  obtain ⟨es,h1,_,h5⟩:=h
  obtain ⟨ts,rfl⟩:=V0 (f:=fun s : List UInt8=>[C.s s]) (fun row hr=>U7 hr) es h5
  exact ⟨ts,h1⟩
theorem Sk {M : Nat} (n : Nat) : ∀ cs : List C,I1 Tryz.prog M n 47 cs → ∃ t : T,cs=t.cells:=by
 induction n using Nat.strongRecOn with
 | ind n IH =>
  intro cs h
  cases n with
  | zero=>exact h.elim
  | succ n =>
   simp only [I1,Tryz.underlying47,Hb] at h
   obtain ⟨a,b,rfl,h1,c,d,rfl,h2,e,f,rfl,h3,g,k,rfl,h4,rfl⟩:=h
   obtain ⟨m1,rfl⟩:=Cv h1
   obtain ⟨m2,rfl⟩:=U7 h2
   obtain ⟨m3,rfl⟩:=Cv h3
   cases n with
   | zero=>exact h4.elim
   | succ n =>
    simp only [I1,Tryz.underlying39,uAj] at h4
    obtain ⟨es,rfl,_,h5⟩:=h4
    obtain ⟨ts,rfl⟩:=V0 (f:=T.cells) (IH n (by omega)) es h5
    exact ⟨.mk m1 m2 m3 ts,by simp [T.cells,T.kind,T.name,T.sort,T.kids,T.rows_eq]⟩
theorem Xl {M n : Nat} {cs : List C} (h : I1 Tryz.prog M n 39 cs) : ∃ ts : List T,cs=[.sl 4 (T.rows ts)]∧ts.length≤M:=by
 cases n with
 | zero=>exact h.elim
 | succ n =>
  simp only [I1,Tryz.underlying39,uAj] at h
  obtain ⟨es,h1,h2,h5⟩:=h
  obtain ⟨ts,rfl⟩:=V0 (f:=T.cells) (Sk n) es h5
  exact ⟨ts,by rw[h1,T.rows_eq],by simpa using h2⟩
theorem Za {M n : Nat} {cs : List C} (h : I1 Tryz.prog M n 79 cs) : ∃ f : Fs,cs=f.cells:=by
 cases n with
 | zero=>exact h.elim
 | succ n =>
  simp only [I1,Tryz.underlying79,Hb] at h
  obtain ⟨a,b,rfl,h1,c,d,rfl,h2,e,f,rfl,h3,rfl⟩:=h
  obtain ⟨m1,rfl⟩:=U7 h1
  obtain ⟨m2,rfl⟩:=U7 h2
  obtain ⟨m3,rfl⟩:=Cv h3
  exact ⟨⟨m1,m2,m3⟩,rfl⟩
theorem uA9 {M n : Nat} {cs : List C} (h : I1 Tryz.prog M n 49 cs) : ∃ s : Sp,cs=s.cells:=by
 cases n with
 | zero=>exact h.elim
 | succ n =>
  simp only [I1,Tryz.underlying49,Hb] at h
  obtain ⟨a,b,rfl,h1,c,d,rfl,h2,e,f,rfl,h3,g,k,rfl,h4,rfl⟩:=h
  obtain ⟨m1,rfl⟩:=U7 h1
  obtain ⟨m2,rfl⟩:=U7 h2
  obtain ⟨m3,rfl⟩:=Sk _ _ h3
  obtain ⟨m4,rfl⟩:=Cv h4
  exact ⟨⟨m1,m2,m3,m4⟩,by cases m3; rfl⟩
theorem Zl {M n : Nat} {cs : List C} (h : I1 Tryz.prog M n 51 cs) : ∃ g : {g : Gl // g.data.length≤M},cs=g.1.cells:=by
 cases n with
 | zero=>exact h.elim
 | succ n =>
  simp only [I1,Tryz.underlying51,Hb] at h
  obtain ⟨a,b,rfl,h1,c,d,rfl,h2,e,f,rfl,h3,g,k,rfl,h4,u,v,rfl,h5,rfl⟩:=h
  obtain ⟨m1,rfl⟩:=Cv h1
  obtain ⟨m2,rfl⟩:=U7 h2
  obtain ⟨m3,rfl⟩:=U7 h3
  obtain ⟨m4,rfl,hl⟩:=Xl h4
  obtain ⟨m5,rfl⟩:=Cv h5
  exact ⟨⟨⟨m1,m2,m3,m4,m5⟩,hl⟩,rfl⟩
theorem Yh {M n : Nat} {cs : List C} (h : I1 Tryz.prog M n 23 cs) : ∃ l : List Fs,cs=[.sl 3 (Fs.rows l)]:=by
 cases n with
 | zero=>exact h.elim
 | succ n =>
  simp only [I1,Tryz.underlying23,uBH] at h
  obtain ⟨es,h1,_,h5⟩:=h
  obtain ⟨ts,rfl⟩:=V0 (f:=Fs.cells) (fun row hr=>Za hr) es h5
  exact ⟨ts,h1⟩
theorem Xh {M n : Nat} {cs : List C} (h : I1 Tryz.prog M n 24 cs) : ∃ l : List Sp,cs=[.sl 7 (Sp.rows l)]:=by
 cases n with
 | zero=>exact h.elim
 | succ n =>
  simp only [I1,Tryz.underlying24,uCa] at h
  obtain ⟨es,h1,_,h5⟩:=h
  obtain ⟨ts,rfl⟩:=V0 (f:=Sp.cells) (fun row hr=>uA9 hr) es h5
  exact ⟨ts,h1⟩
theorem Ya {M n : Nat} {cs : List C} (h : I1 Tryz.prog M n 25 cs) : ∃ l : List Gl,cs=[.sl 5 (Gl.rows l)] ∧ ∀ g ∈ l,g.data.length≤M:=by
 cases n with
 | zero=>exact h.elim
 | succ n =>
  simp only [I1,Tryz.underlying25,uB8] at h
  obtain ⟨es,h1,_,h5⟩:=h
  obtain ⟨ts,rfl⟩:=V0 (f:=fun g : {g : Gl // g.data.length≤M}=>g.1.cells) (fun row hr=>Zl hr) es h5
  refine ⟨ts.map (·.1),by rw[h1,Gl.rows,List.map_map]; rfl,fun g hg=>?_⟩
  obtain ⟨x,_,rfl⟩:=List.mem_map.1 hg
  exact x.2
theorem uCv {n : Nat} {cs : List C} (h : I1 Tryz.prog 1048576 n 27 cs) : ∃ m : {m : Nar // ∀ g ∈ m.goals,g.data.length≤2097152},cs=m.1.cells:=by
 cases n with
 | zero=>exact h.elim
 | succ n =>
  simp only [I1,Tryz.underlying27,Hb] at h
  obtain ⟨a,b,rfl,h1,c,d,rfl,h2,e,f,rfl,h3,g,k,rfl,h4,u,v,rfl,h5,x,y,rfl,h6,rfl⟩:=h
  obtain ⟨m1,rfl⟩:=U7 h1
  obtain ⟨m2,rfl⟩:=Rh h2
  obtain ⟨m3,rfl⟩:=Yh h3
  obtain ⟨m4,rfl⟩:=Rh h4
  obtain ⟨m5,rfl⟩:=Xh h5
  obtain ⟨m6,rfl,hl⟩:=Ya h6
  exact ⟨⟨⟨m1,m2,m3,m4,m5,m6⟩,fun g hg=>Nat.le_trans (hl g hg) (by omega)⟩,rfl⟩
theorem Ro {M n : Nat} {c : C} (h : I1 Tryz.prog M n 9 [c]) : ∃ l,c = .s l:=by
 obtain ⟨l,hl⟩:=U7 h
 exact ⟨l,by simpa using hl⟩
end Go.Proofs.YteidahabkfgfjaaGreat
