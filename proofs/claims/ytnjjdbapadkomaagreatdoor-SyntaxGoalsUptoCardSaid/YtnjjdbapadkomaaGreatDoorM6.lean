/- Our abstract program logic and contracts of this seat's functions, part 6: no statement of its own (long names of ours are shortened by a program). -/
import Derived.Test.YtnjjdbapadkomaaGreatDoorM5
import Derived.KernelRfl
import Derived.SizedLaws
import Derived.Test.YtnjjdbapadkomaaGreatDoorChecked
import Derived.Handed
import Derived.LaidSub
import Derived.MakeChecks
import Derived.Test.YtnjjdbapadkomaaGreatDoorRows
import Derived.Deep.DeepHandedRow
import Derived.Stop.Joined
set_option linter.unusedVariables false
set_option linter.unusedSimpArgs false
namespace Go.Proofs.YtnjjdbapadkomaaGreatDoor
open Go Go.Abs
theorem uLX (t : T) (s : List UInt8) : Ctr sys 139 [xm t,xs s] [] (xb (decide (t.kind=3) && decide (t.name=s))) none []:=by
 refine uAw Tryz.func139 rfl rfl rfl rfl rfl rfl ?_;refine uAe (uAb ?_);refine uAu rfl (uAR rfl rfl rfl rfl) ?_;refine uAa rfl rfl rfl (uAd rfl gU) ?_;refine uAf ?_;refine uAe (uAb ?_);refine uAa rfl rfl rfl (uAg rfl gU rfl rfl) ?_;refine uAa rfl rfl rfl (uAl rfl gU rfl rfl rfl rfl) ?_;refine uAa rfl rfl rfl (uAi rfl rfl gU gU rfl) ?_;refine uAa rfl rfl rfl (uAc rfl gU) ?_;refine uAa rfl rfl rfl (uAg rfl gU rfl rfl) ?_;refine uAa rfl rfl rfl (uAl rfl (fun hh=>hh) rfl rfl rfl rfl) ?_;refine uAa rfl rfl rfl (uAc rfl gU) ?_;refine uAa rfl rfl rfl (uA2 rfl rfl (fun hh=>hh) (fun hh=>hh) rfl) ?_;refine uAa rfl rfl rfl (uAP rfl rfl gU (fun _ hi=>gP rfl hi)) ?_;refine uAa rfl rfl rfl (uAd rfl gU) ?_;refine uAf ?_;refine uAo ?_
 repeat (first | refine tR ?_ | refine bR ?_)
 refine uAq rfl ?_ trivial;refine uCx ?_
 rw [Bool.eq_iff_iff]; simp
theorem uLz : ∀ (n : Nat) (t : T),t.size≤n→n≤900000→Ctr sys 98 [xm t] [] (xl (untE t)) none []:=by
 intro n
 induction n with
 | zero=>intro t h; have := t.size_pos; omega
 | succ n ih =>
  intro t ht hn
  have hrl:=T.rows_len t.kids
  have hu:=uEZ t
  refine uAw Tryz.func98 rfl rfl rfl rfl rfl rfl ?_;refine uAe (uAb ?_);refine uAu rfl (uAR rfl rfl rfl rfl) ?_;refine uAu rfl (uBh (.inr rfl) rfl rfl) ?_;refine uAf ?_;refine uAe ?_;refine uAe (uAb ?_);refine uAa rfl rfl rfl (uAt rfl gU rfl rfl rfl rfl rfl) ?_;refine uAv rfl rfl rfl rfl rfl rfl gU gU (uLX _ _) rfl ?_;refine uAa rfl rfl rfl (uAU rfl gU) ?_;refine uAa rfl rfl rfl (uAc rfl gU) ?_;refine uAa rfl rfl rfl (uAg rfl gU rfl rfl) ?_;refine uAa rfl rfl rfl (uAl rfl (fun hh=>hh) rfl rfl rfl rfl) ?_;refine uAa rfl rfl rfl (uAY rfl (fun hh=>hh) rfl rfl) ?_;refine uAa rfl rfl rfl (uAi rfl rfl (fun hh=>hh) gU rfl) ?_;refine uAa rfl rfl rfl (uAL rfl rfl gU (fun _ hi=>gP rfl hi)) ?_;refine uAf ?_;refine uAn (s:=⟨[(1,_,_),(11,_,_)],[(.l 1,_)],[],[]⟩) (uAj (⟨sx rfl,sx rfl,trivial⟩) (⟨sx rfl,trivial⟩) trivial) ?_;refine uAm rfl (fun hc=>?_) (fun hc=>?_)
  ·try simp only [nn,uAh,T.rows_len,Fs.rows_len,Sp.rows_len,Gl.rows_len] at hc
   have hp : ¬uCf t=true:=by simp only [uCf]; grind [wPair]
   rw [if_neg hp] at hu
   refine uAe (uAb ?_);refine uAa rfl rfl rfl (uAt rfl gU rfl rfl rfl rfl rfl) ?_;refine uAM (xs:=[_]) rfl rfl rfl rfl rfl rfl rfl rfl rfl gU rfl ?_;refine uAu rfl (uAG (.inr rfl) rfl rfl rfl) ?_;refine uAf ?_;refine uAo ?_
   repeat (first | refine tR ?_ | refine bR ?_)
   refine uAq rfl ?_ trivial
   (rw [hu]; exact congrArg (fun z=>X.v (.c (.sl 4 z))) (by simp [T.rows_eq,T.cells]))
  ·try simp only [nn,uAh,T.rows_len,Fs.rows_len,Sp.rows_len,Gl.rows_len] at hc
   have hp : uCf t=true:=by simp only [uCf]; grind [wPair]
   have hps:=uCo hp
   have h0:=(t.kids.getD 0 default).size_pos
   have h1:=(t.kids.getD 1 default).size_pos
   have hul:=(uFY (t.kids.getD 1 default).size (t.kids.getD 1 default)).2
   have hul2:=T.rows_len (untE (t.kids.getD 1 default))
   have hul3 : (untE (t.kids.getD 1 default)).length≤900000:=by unfold untE; omega
   have hk : t.kids.length=2:=by grind
   rw [if_pos hp] at hu
   refine uAp ?_;refine uAe ?_;refine awp_drawn' (by kernel_rfl) ?_;refine uAk rfl rfl rfl rfl (uAg rfl gU rfl rfl) ?_;refine uAS rfl rfl rfl rfl rfl rfl rfl gU rfl rfl rfl rfl ?_;refine uAk rfl rfl rfl rfl (uAx (j:=0) rfl rfl gU gU rfl rfl (by first | omega | (simp at hh ⊢; omega)) (fun hh=>T.rows_at (by first | omega | (simp at hh ⊢; omega)))) ?_;refine uAk rfl rfl rfl rfl (uAI rfl gU rfl rfl rfl rfl) ?_;refine uCk (xs:=[_]) rfl rfl rfl rfl rfl rfl rfl rfl rfl rfl gU rfl ?_;refine uAk rfl rfl rfl rfl (uAg rfl gU rfl rfl) ?_;refine uAS rfl rfl rfl rfl rfl rfl rfl gU rfl rfl rfl rfl ?_;refine uAk rfl rfl rfl rfl (uAx (j:=1) rfl rfl gU gU rfl rfl (by first | omega | (simp at hh ⊢; omega)) (fun hh=>T.rows_at (by first | omega | (simp at hh ⊢; omega)))) ?_;refine uAk rfl rfl rfl rfl (uAI rfl gU rfl rfl rfl rfl) ?_;refine uBa rfl rfl rfl rfl rfl rfl rfl gU gU (ih (t.kids.getD 1 default) (by omega) (by omega)) rfl ?_;refine uBT rfl rfl rfl rfl rfl (rko (ak rfl (ak rfl (ak rfl (ak rfl (ak rfl (rfl))))))) rfl rfl rfl rfl rfl (by first | omega | (simp only [List.length_cons,List.length_nil]; omega)) (by first | omega | (simp only [List.length_cons,List.length_nil]; omega)) ?_;refine uD6 rfl (.inr rfl) rfl rfl rfl rfl rfl ?_;refine uBf (by kernel_rfl) ?_;refine uAo ?_
   repeat (first | refine tR ?_ | refine bR ?_)
   refine uAq rfl ?_ trivial
   rw [hu,xl]
   exact congrArg (fun z=>X.v (.c (.sl 4 z))) (by simp [T.rows_eq,T.cells])
theorem uK6 {α : Type} (f : α→List UInt8) {l : List α} {d : α} {k : Nat} (h : k < l.length) : Lib.join ((l.take (k + 1)).map f) [44,32]=(if 0 < k then Lib.join ((l.take k).map f) [44,32]++[44,32] else Lib.join ((l.take k).map f) [44,32])++f (l.getD k d):=by
 rw [map_take (d:=d) f h]
 split
 ·rename_i hk
  rw [uHH _ _ _ (by intro q; have := congrArg List.length q; rw [List.length_map,List.length_take] at this; simp only [List.length_nil] at this; omega),List.append_assoc]
 ·rename_i hk
  obtain rfl : k=0:=by omega
  simp [uGz,Lib.join_nil]
theorem uGQ (n : Nat) (ih : ∀ t : T,t.size≤n→okB t=true→Ctr sys 47 [xm t] [] (xs (uBI t)) none []) (l : List T) (hl : ∀ x ∈ l,x.size≤n) (ho : ∀ x ∈ l,okB x=true) (hs : T.sizes l≤900000) :
  Ctr sys 99 [xl l] [] (xs (uBU l)) none []:=by
 have hrl:=T.rows_len l
 have hls:=T.len_sizes l
 have hte : ∀ k,(Lib.join ((l.take k).map uBI) [44,32]).length≤28 * 900000:=fun k=>by
  have h1:=uGl (l:=l.take k) fun x hx=>ho x (List.mem_of_mem_take hx)
  have h2:=T.sizes_take_le l k
  unfold uBU at h1; omega
 refine uAw Tryz.func99 rfl rfl rfl rfl rfl rfl ?_;refine uAe (uAb ?_);refine uAa rfl rfl rfl (uAd rfl gU) ?_;refine uAf ?_;refine uAe (uAb ?_);refine uAa rfl rfl rfl (uAd rfl gU) ?_;refine uAf ?_;refine uAe ?_;refine uAe (uAb ?_);refine uAa rfl rfl rfl (uAd rfl gU) ?_;refine uAf ?_;refine uAs ?_;refine uAX (ι:=Nat) { t:=[(0,_,_)],bx:=[],ow:=[] } (fun k=>[(4,true,xi (k : Int)),(3,true,xs (Lib.join ((l.take k).map uBI) [44,32]))]) (fun k=>[]) (fun k=>k≤l.length) (fun k=>l.length - k) (0) (by simp) (uAj (⟨sx rfl,sx rfl,sx rfl,trivial⟩) trivial trivial) ?_
 intro k hok
 dsimp only [List.cons_append,List.nil_append]
 have hjk:=hte k
 refine uAe ?_;refine uAe (uAb ?_);refine uAa rfl rfl rfl (uAc rfl gU) ?_;refine uAa rfl rfl rfl (uAc rfl gU) ?_;refine uAO rfl rfl rfl rfl rfl gU rfl rfl ?_ (fun hh=>by simp at hh); intro hlen;refine uAa rfl rfl rfl (uAi rfl rfl gU gU rfl) ?_;refine uAf ?_;refine uAm rfl (fun hc=>?_) (fun hc=>?_)
 ·try simp only [nn,uAh,T.rows_len,Fs.rows_len,Sp.rows_len,Gl.rows_len] at hc
  have hlt : k < l.length:=by omega
  have hm:=uBP (d:=default) hlt
  have hwk:=uEX (ho _ hm)
  have hsk:=T.getD_size hlt
  have hs:=uK6 uBI (d:=default) hlt
  refine uAp ?_;refine uAe ?_;refine uAs ?_;refine uAe ?_;refine uAe (uAb ?_);refine uAa rfl rfl rfl (uAc rfl gU) ?_;refine uAa rfl rfl rfl (uAi rfl rfl gU gU rfl) ?_;refine uAf ?_;refine uAn (s:=⟨[(0,_,_),(3,_,_),(4,_,_),(12,_,_)],[],[],[]⟩) (uAj (⟨sx rfl,sx rfl,sx rfl,sx rfl,trivial⟩) trivial trivial) ?_;refine uAm rfl (fun hc2=>?_) (fun hc2=>?_)
  ·try simp only [nn,uAh,T.rows_len,Fs.rows_len,Sp.rows_len,Gl.rows_len] at hc2
   rw [if_pos (by omega)] at hs
   refine uAb ?_;refine uAa rfl rfl rfl (uAc rfl gU) ?_;refine uAa rfl rfl rfl (uAC rfl rfl gU gU (by first | omega | (simp only [List.length_append,List.length_cons,List.length_nil]; omega))) ?_;refine uAa rfl rfl rfl (uAd rfl gU) ?_;refine uAf ?_;refine uAb ?_;refine uAa rfl rfl rfl (uAc rfl gU) ?_;refine uAa rfl rfl rfl (uAc rfl gU) ?_;refine uAa rfl rfl rfl (uAc rfl gU) ?_;refine uAa rfl rfl rfl (uAx rfl rfl gU gU rfl rfl rfl (fun hh=>T.rows_at (by first | omega | (simp at hh ⊢; omega)))) ?_;refine uAa rfl rfl rfl (uAI rfl gU rfl rfl rfl rfl) ?_;refine uAv rfl rfl rfl rfl rfl rfl gU gU (ih (l.getD k default) (hl _ hm) (ho _ hm)) rfl ?_;refine uAa rfl rfl rfl (uAC rfl rfl gU gU (by first | omega | (simp only [List.length_append,List.length_cons,List.length_nil]; omega))) ?_;refine uAa rfl rfl rfl (uAd rfl gU) ?_;refine uAf ?_;refine uAn (s:=⟨[(0,_,_),(3,_,_),(4,_,_)],[],[],[]⟩) (uAj (⟨sx rfl,sx rfl,sx rfl,trivial⟩) trivial trivial) ?_;refine uAb ?_;refine uAa rfl rfl rfl (uAc rfl gU) ?_;refine uAa rfl rfl rfl (uAr rfl rfl gU gU rfl (IntWalk.i64_in _ (by omega))) ?_;refine uAa rfl rfl rfl (uAd rfl gU) ?_;refine uAf ?_;refine ⟨k + 1,?_,?_,uAj (⟨⟨_,rfl,?_⟩,⟨⟨_,rfl,?_⟩,⟨sx rfl,trivial⟩⟩⟩) trivial trivial⟩
   all_goals first | rfl | omega | exact tx (by rw [hs])
  ·try simp only [nn,uAh,T.rows_len,Fs.rows_len,Sp.rows_len,Gl.rows_len] at hc2
   rw [if_neg (by omega)] at hs
   refine uAp ?_;refine uAb ?_;refine uAa rfl rfl rfl (uAc rfl gU) ?_;refine uAa rfl rfl rfl (uAc rfl gU) ?_;refine uAa rfl rfl rfl (uAc rfl gU) ?_;refine uAa rfl rfl rfl (uAx rfl rfl gU gU rfl rfl rfl (fun hh=>T.rows_at (by first | omega | (simp at hh ⊢; omega)))) ?_;refine uAa rfl rfl rfl (uAI rfl gU rfl rfl rfl rfl) ?_;refine uAv rfl rfl rfl rfl rfl rfl gU gU (ih (l.getD k default) (hl _ hm) (ho _ hm)) rfl ?_;refine uAa rfl rfl rfl (uAC rfl rfl gU gU (by first | omega | (simp only [List.length_append,List.length_cons,List.length_nil]; omega))) ?_;refine uAa rfl rfl rfl (uAd rfl gU) ?_;refine uAf ?_;refine uAn (s:=⟨[(0,_,_),(3,_,_),(4,_,_)],[],[],[]⟩) (uAj (⟨sx rfl,sx rfl,sx rfl,trivial⟩) trivial trivial) ?_;refine uAb ?_;refine uAa rfl rfl rfl (uAc rfl gU) ?_;refine uAa rfl rfl rfl (uAr rfl rfl gU gU rfl (IntWalk.i64_in _ (by omega))) ?_;refine uAa rfl rfl rfl (uAd rfl gU) ?_;refine uAf ?_;refine ⟨k + 1,?_,?_,uAj (⟨⟨_,rfl,?_⟩,⟨⟨_,rfl,?_⟩,⟨sx rfl,trivial⟩⟩⟩) trivial trivial⟩
   all_goals first | rfl | omega | exact tx (by rw [hs])
 ·try simp only [nn,uAh,T.rows_len,Fs.rows_len,Sp.rows_len,Gl.rows_len] at hc
  have hk : k=l.length:=by omega
  subst hk
  refine uAN ?_
  repeat (first | refine uAE ?_ | refine uAF ?_ | refine uAB rfl ?_)
  refine uAe (uAb ?_);refine uAa rfl rfl rfl (uAc rfl gU) ?_;refine uAa rfl rfl rfl (uAd rfl gU) ?_;refine uAf ?_;refine uAo ?_
  repeat (first | refine tR ?_ | refine bR ?_)
  refine uAq rfl ?_ trivial
  (rw [List.take_length]; rfl)
theorem unt_one {t : T} : 1 < (untE t).length ↔ uCf t=true:=by
 rw [uEZ]
 split
 ·rename_i h
  have := (uFY (t.kids.getD 1 default).size (t.kids.getD 1 default)).1
  have h2 : 1≤(untE (t.kids.getD 1 default)).length:=this
  simp only [List.length_cons,h,iff_true]; omega
 ·rename_i h; simp [h]
theorem uLR : ∀ (n : Nat) (t : T),t.size≤n→n≤900000→okB t=true→Ctr sys 47 [xm t] [] (xs (uBI t)) none []:=by
 intro n
 induction n with
 | zero=>intro t h; have := t.size_pos; omega
 | succ n ih =>
  intro t ht hn ho
  have hse:=t.size_eq
  have hrl:=T.rows_len t.kids
  have hls:=T.len_sizes t.kids
  have hk:=(uD3 ho).1
  have hnl:=(uD3 ho).2
  have he:=uGq t
  have hle:=uEX ho
  have hur:=T.rows_len (untE t)
  have ihh:=fun (x : T) (hx : x.size≤n) (hxo : okB x=true)=>ih x hx (by omega) hxo
  refine uAw Tryz.func47 rfl rfl rfl rfl rfl rfl ?_;refine uAe (uAb ?_);refine uAu rfl (uAR rfl rfl rfl rfl) ?_;refine uAa rfl rfl rfl (uAd rfl gU) ?_;refine uAf ?_;refine uAe ?_;refine uAe (uAb ?_);refine uAa rfl rfl rfl (uAg rfl gU rfl rfl) ?_;refine uAa rfl rfl rfl (uAl rfl gU rfl rfl rfl rfl) ?_;refine uAa rfl rfl rfl (uAi rfl rfl gU gU rfl) ?_;refine uAf ?_;refine uAn (s:=⟨[(1,_,_),(6,_,_)],[(.l 1,_)],[],[]⟩) (uAj (⟨sx rfl,sx rfl,trivial⟩) (⟨sx rfl,trivial⟩) trivial) ?_;refine uAm rfl (fun hc=>?_) (fun hc=>?_)
  ·try simp only [nn,uAh,T.rows_len,Fs.rows_len,Sp.rows_len,Gl.rows_len] at hc
   refine uAe (uAb ?_);refine uAa rfl rfl rfl (uAg rfl gU rfl rfl) ?_;refine uAa rfl rfl rfl (uAl rfl gU rfl rfl rfl rfl) ?_;refine uAa rfl rfl rfl (uAd rfl gU) ?_;refine uAf ?_;refine uAo ?_
   repeat (first | refine tR ?_ | refine bR ?_)
   refine uAq rfl ?_ trivial
   (rw [he,if_pos hc]; rfl)
  ·try simp only [nn,uAh,T.rows_len,Fs.rows_len,Sp.rows_len,Gl.rows_len] at hc
   rw [if_neg hc] at he
   refine uAp ?_;refine uAe ?_;refine uAe (uAb ?_);refine uAa rfl rfl rfl (uAt rfl gU rfl rfl rfl rfl rfl) ?_;refine uAv rfl rfl rfl rfl rfl rfl gU gU (uLz _ _ (Nat.le_refl _) (by omega)) rfl ?_;refine uAa rfl rfl rfl (uAd rfl gU) ?_;refine uAf ?_;refine uAe (uAb ?_);refine uAa rfl rfl rfl (uAc rfl gU) ?_;refine uAO rfl rfl rfl rfl rfl gU rfl rfl ?_ (fun hh=>by simp at hh); intro hlen;refine uAa rfl rfl rfl (uAi rfl rfl gU gU rfl) ?_;refine uAf ?_;refine uAn (s:=⟨[(1,_,_),(3,_,_),(13,_,_)],[(.l 1,_)],[],[]⟩) (uAj (⟨sx rfl,sx rfl,sx rfl,trivial⟩) (⟨sx rfl,trivial⟩) trivial) ?_;refine uAm rfl (fun hc2=>?_) (fun hc2=>?_)
   ·try simp only [nn,uAh,T.rows_len,Fs.rows_len,Sp.rows_len,Gl.rows_len] at hc2
    have hp : uCf t=true:=unt_one.1 (by omega)
    rw [if_pos hp] at he
    have hus:=uDG hp
    have htl : (uBU (untE t)).length≤28 * t.size:=by rw [he] at hle; simp only [List.length_append,List.length_cons,List.length_nil] at hle; omega
    have htx := uGQ n ihh (untE t) (fun x hx=>by have := uG1 hp hx; omega) (uF6 _ ho) (by omega)
    refine uAe (uAb ?_);refine uAa rfl rfl rfl (uAc rfl gU) ?_;refine uAv rfl rfl rfl rfl rfl rfl gU gU (htx) rfl ?_;refine uAa rfl rfl rfl (uAC rfl rfl gU gU (by first | omega | (simp only [List.length_append,List.length_cons,List.length_nil]; omega))) ?_;refine uAa rfl rfl rfl (uAC rfl rfl gU gU (by first | omega | (simp only [List.length_append,List.length_cons,List.length_nil]; omega))) ?_;refine uAa rfl rfl rfl (uAd rfl gU) ?_;refine uAf ?_;refine uAo ?_
    repeat (first | refine tR ?_ | refine bR ?_)
    refine uAq rfl ?_ trivial
    (rw [he]; rfl)
   ·try simp only [nn,uAh,T.rows_len,Fs.rows_len,Sp.rows_len,Gl.rows_len] at hc2
    have hp : ¬uCf t=true := fun q=>hc2 (by have := unt_one.2 q; omega)
    rw [if_neg hp] at he
    have htl : (uBU t.kids).length≤28 * t.size:=by rw [he] at hle; simp only [List.length_append,List.length_cons,List.length_nil] at hle; omega
    have htx := uGQ n ihh t.kids (fun x hx=>by have := uDZ hx; omega) (uF7 ho) (by omega)
    refine uAp ?_;refine uAe ?_;refine awp_drawn' (by kernel_rfl) ?_;refine uAk rfl rfl rfl rfl (uAg rfl gU rfl rfl) ?_;refine uAS rfl rfl rfl rfl rfl rfl rfl gU rfl rfl rfl rfl ?_;refine uAk rfl rfl rfl rfl (uAC rfl rfl gU gU (by first | omega | (simp only [List.length_append,List.length_cons,List.length_nil]; omega))) ?_;refine uAk rfl rfl rfl rfl (uAg rfl gU rfl rfl) ?_;refine uAS rfl rfl rfl rfl rfl rfl rfl gU rfl rfl rfl rfl ?_;refine uBa rfl rfl rfl rfl rfl rfl rfl gU gU (htx) rfl ?_;refine uAk rfl rfl rfl rfl (uAC rfl rfl gU gU (by first | omega | (simp only [List.length_append,List.length_cons,List.length_nil]; omega))) ?_;refine uAk rfl rfl rfl rfl (uAC rfl rfl gU gU (by first | omega | (simp only [List.length_append,List.length_cons,List.length_nil]; omega))) ?_;refine uAk rfl rfl rfl rfl (uAd rfl gU) ?_;refine uBf (by kernel_rfl) ?_;refine uAo ?_
    repeat (first | refine tR ?_ | refine bR ?_)
    refine uAq rfl ?_ trivial
    (rw [he]; rfl)
theorem uJC (t : T) (ht : t.size≤900000) (ho : okB t=true) : Ctr sys 47 [xm t] [] (xs (uBI t)) none []:=uLR _ t (Nat.le_refl _) ht ho
theorem uGX (l : List T) (hs : T.sizes l≤900000) (ho : ∀ x ∈ l,okB x=true) : Ctr sys 99 [xl l] [] (xs (uBU l)) none [] :=
 uGQ 900000 (fun t h o=>uJC t h o) l (fun x hx=>by have := uE0 hx; omega) ho hs
theorem uJ4 : Ctr sys 100 [] [] (xss kindW0) none []:=by
 refine uAw Tryz.func100 rfl rfl rfl rfl rfl rfl ?_;refine uAe (uAb ?_);refine uAa rfl rfl rfl (uAd rfl gU) ?_;refine uAf ?_;refine uAe (uAb ?_);refine uAM (xs:=[_,_,_,_,_,_]) rfl rfl rfl rfl rfl rfl rfl rfl rfl gU rfl ?_;refine uAa rfl rfl rfl (uAd rfl gU) ?_;refine uAf ?_;refine uAo ?_
 repeat (first | refine tR ?_ | refine bR ?_)
 refine uAq rfl ?_ trivial
 rfl
theorem uLB {k : Int} (h1 : 1≤k) (h2 : k≤5) : kindW0.getD k.toNat []=uFS k:=by
 have : k=1∨k=2∨k=3∨k=4∨k=5:=by omega
 rcases this with rfl | rfl | rfl | rfl | rfl <;> rfl
theorem uG9 (g : Gl) (hg : GlOk g) : Ctr sys 48 [xg g] [] (xs (uC4 g)) none []:=by
 have h1:=hg.k1
 have h2:=hg.k2
 have h3:=uCh hg.role
 have h4:=hg.wth
 have h5:=hg.len
 have h6:=uID g.kind
 have hkl : kindW0.length=6:=rfl
 have hkb:=uLB h1 h2
 refine uAw Tryz.func48 rfl rfl rfl rfl rfl rfl ?_;refine uAe (uAb ?_);refine uAu rfl (uAR rfl rfl rfl rfl) ?_;refine uAa rfl rfl rfl (uAd rfl gU) ?_;refine uAf ?_;refine uAe ?_;refine awp_drawn' (by kernel_rfl) ?_;refine uBa rfl rfl rfl rfl rfl rfl rfl gU gU (uJ4) rfl ?_;refine uAk rfl rfl rfl rfl (uAg rfl gU rfl rfl) ?_;refine uAS rfl rfl rfl rfl rfl rfl rfl gU rfl rfl rfl rfl ?_;refine uAk rfl rfl rfl rfl (uAx (j:=g.kind.toNat) rfl rfl gU gU rfl rfl (by first | omega | (simp at hh ⊢; omega)) (fun hh=>uCC (by first | omega | (simp at hh ⊢; omega)))) ?_;refine uAk rfl rfl rfl rfl (uAZ rfl gU rfl rfl rfl) ?_
 rw [hkb]
 refine uAk rfl rfl rfl rfl (uAC rfl rfl gU gU (by first | omega | (simp only [List.length_append,List.length_cons,List.length_nil]; omega))) ?_;refine uAk rfl rfl rfl rfl (uAg rfl gU rfl rfl) ?_;refine uAS rfl rfl rfl rfl rfl rfl rfl gU rfl rfl rfl rfl ?_;refine uAk rfl rfl rfl rfl (uAC rfl rfl gU gU (by first | omega | (simp only [List.length_append,List.length_cons,List.length_nil]; omega))) ?_;refine uAk rfl rfl rfl rfl (uAd rfl gU) ?_;refine uBf (by kernel_rfl) ?_;refine uAn (s:=⟨[(1,_,_),(3,_,_)],[(.l 1,_)],[],[]⟩) (uAj (⟨sx rfl,sx rfl,trivial⟩) (⟨sx rfl,trivial⟩) trivial) ?_;refine uAe ?_;refine uAe (uAb ?_);refine uAa rfl rfl rfl (uAt rfl gU rfl rfl rfl rfl rfl) ?_;refine uAv rfl rfl rfl rfl rfl rfl gU gU (uCt _) rfl ?_;refine uAf ?_;refine uAm rfl (fun hc=>?_) (fun hc=>?_)
 ·try simp only [nn,uAh,T.rows_len,Fs.rows_len,Sp.rows_len,Gl.rows_len] at hc
  refine uAb ?_;refine uAa rfl rfl rfl (uAc rfl gU) ?_;refine uAa rfl rfl rfl (uAC rfl rfl gU gU (by first | omega | (simp only [List.length_append,List.length_cons,List.length_nil]; omega))) ?_;refine uAa rfl rfl rfl (uAg rfl gU rfl rfl) ?_;refine uAa rfl rfl rfl (uAl rfl gU rfl rfl rfl rfl) ?_;refine uAa rfl rfl rfl (uAC rfl rfl gU gU (by first | omega | (simp only [List.length_append,List.length_cons,List.length_nil]; omega))) ?_;refine uAa rfl rfl rfl (uAd rfl gU) ?_;refine uAf ?_;refine uAn (s := ⟨[(1,_,_),(3,_,_)],[(.l 1,_)],[],[]⟩) (uAj (⟨sx rfl,sx rfl,trivial⟩) (⟨sx rfl,trivial⟩) trivial) ?_;refine uAe (uAb ?_);refine uAa rfl rfl rfl (uAc rfl gU) ?_;refine uAa rfl rfl rfl (uAC rfl rfl gU gU (by first | omega | (simp only [List.length_append,List.length_cons,List.length_nil]; omega))) ?_;refine uAa rfl rfl rfl (uAg rfl gU rfl rfl) ?_;refine uAa rfl rfl rfl (uAl rfl gU rfl rfl rfl rfl) ?_;refine uAv rfl rfl rfl rfl rfl rfl gU gU (uGX g.data (by have := hg.sizes; omega) hg.oks) rfl ?_;refine uAa rfl rfl rfl (uAC rfl rfl gU gU (by first | omega | (simp only [List.length_append,List.length_cons,List.length_nil]; omega))) ?_;refine uAa rfl rfl rfl (uAd rfl gU) ?_;refine uAf ?_;refine uAo ?_
  repeat (first | refine tR ?_ | refine bR ?_)
  refine uAq rfl ?_ trivial
  (rw [uC4,if_pos hc]; simp only [List.append_assoc]; rfl)
 ·try simp only [nn,uAh,T.rows_len,Fs.rows_len,Sp.rows_len,Gl.rows_len] at hc
  refine uAp ?_;refine uAe (uAb ?_);refine uAa rfl rfl rfl (uAc rfl gU) ?_;refine uAa rfl rfl rfl (uAC rfl rfl gU gU (by first | omega | (simp only [List.length_append,List.length_cons,List.length_nil]; omega))) ?_;refine uAa rfl rfl rfl (uAg rfl gU rfl rfl) ?_;refine uAa rfl rfl rfl (uAl rfl gU rfl rfl rfl rfl) ?_;refine uAv rfl rfl rfl rfl rfl rfl gU gU (uGX g.data (by have := hg.sizes; omega) hg.oks) rfl ?_;refine uAa rfl rfl rfl (uAC rfl rfl gU gU (by first | omega | (simp only [List.length_append,List.length_cons,List.length_nil]; omega))) ?_;refine uAa rfl rfl rfl (uAd rfl gU) ?_;refine uAf ?_;refine uAo ?_
  repeat (first | refine tR ?_ | refine bR ?_)
  refine uAq rfl ?_ trivial
  (rw [uC4,if_neg (by rw [hc]; simp)]; simp only [List.append_assoc,List.nil_append]; rfl)
theorem uIO (n : Nar) (hs : ∀ s ∈ n.steps,s.msg.size≤900000) (hg : ∀ g ∈ n.goals,T.sizes g.data≤900000) : Ctr sys 31 [xn n] [] (xss (uFq n)) none []:=by
 have hrl:=Gl.rows_len n.goals
 refine uAw Tryz.func31 rfl rfl rfl rfl rfl rfl ?_;refine uAe (uAb ?_);refine uAu rfl (uAR rfl rfl rfl rfl) ?_;refine uAu rfl (uBh (.inr rfl) rfl rfl) ?_;refine uAf ?_;refine uAe ?_;refine uAe (uAb ?_);refine uAa rfl rfl rfl (uAt rfl gU rfl rfl rfl rfl rfl) ?_;refine uAv rfl rfl rfl rfl rfl rfl gU gU (uIM n hs hg) rfl ?_;refine uAa rfl rfl rfl (uAi rfl rfl gU gU rfl) ?_;refine uAf ?_;refine uAn (s:=⟨[(1,_,_),(7,_,_)],[(.l 1,_)],[],[]⟩) (uAj (⟨sx rfl,sx rfl,trivial⟩) (⟨sx rfl,trivial⟩) trivial) ?_;refine uAm rfl (fun hc=>?_) (fun hc=>?_)
 ·try simp only [nn,uAh,T.rows_len,Fs.rows_len,Sp.rows_len,Gl.rows_len] at hc
  refine uAe (uAb ?_);refine uAu rfl (uBh (.inr rfl) rfl rfl) ?_;refine uAf ?_;refine uAo ?_
  repeat (first | refine tR ?_ | refine bR ?_)
  refine uAq rfl ?_ trivial
  (rw [uFq,if_pos hc]; rfl)
 ·try simp only [nn,uAh,T.rows_len,Fs.rows_len,Sp.rows_len,Gl.rows_len] at hc
  have hok:=uJz (n:=n) (by simpa using hc)
  have hg2:=hok.g2
  refine uAp ?_;refine uAe (uAb ?_);refine uAu rfl (uBh (.inr rfl) rfl rfl) ?_;refine uAf ?_;refine uAe ?_;refine uAe (uAb ?_);refine uAa rfl rfl rfl (uAd rfl gU) ?_;refine uAf ?_;refine uAs ?_;refine uAX (ι:=Nat) { t:=[(1,_,_)],bx:=[(.l 1,_)],ow:=[(.t 3,_)] } (fun k=>[(4,true,xi (k : Int)),(3,true,xss ((n.goals.take k).map uC4))]) (fun k=>[]) (fun k=>k≤n.goals.length) (fun k=>n.goals.length - k) (0) (by simp) (uAj (⟨sx rfl,sx rfl,sx rfl,trivial⟩) (⟨sx rfl,trivial⟩) (⟨rfl,trivial⟩)) ?_
  intro k hokk
  dsimp only [List.cons_append,List.nil_append]
  refine uAe ?_;refine uAe (uAb ?_);refine uAa rfl rfl rfl (uAc rfl gU) ?_;refine uAa rfl rfl rfl (uAg rfl gU rfl rfl) ?_;refine uAa rfl rfl rfl (uAl rfl gU rfl rfl rfl rfl) ?_;refine uAO rfl rfl rfl rfl rfl gU rfl rfl ?_ (fun hh=>by simp at hh); intro hlen;refine uAa rfl rfl rfl (uAi rfl rfl gU gU rfl) ?_;refine uAf ?_;refine uAn (s:=⟨[(1,_,_),(3,_,_),(4,_,_),(12,_,_)],[(.l 1,_)],[(.t 3,_)],[]⟩) (uAj (⟨sx rfl,sx rfl,sx rfl,sx rfl,trivial⟩) (⟨sx rfl,trivial⟩) (⟨rfl,trivial⟩)) ?_;refine uAm rfl (fun hc2=>?_) (fun hc2=>?_)
  ·try simp only [nn,uAh,T.rows_len,Fs.rows_len,Sp.rows_len,Gl.rows_len] at hc2
   have hlt : k < n.goals.length:=by omega
   have hgk:=hok.goals _ (uBP (d:=default) hlt)
   refine uAp ?_;refine uAe ?_;refine uAs ?_;refine uAb ?_;refine uAu rfl (uAG (.inl rfl) rfl rfl rfl) ?_;refine uAa rfl rfl rfl (uAg rfl gU rfl rfl) ?_;refine uAa rfl rfl rfl (uAl rfl gU rfl rfl rfl rfl) ?_;refine uAa rfl rfl rfl (uAc rfl gU) ?_;refine uAa rfl rfl rfl (uAx rfl rfl gU gU rfl rfl rfl (fun hh=>Gl.rows_at (by first | omega | (simp at hh ⊢; omega)))) ?_;refine uAa rfl rfl rfl (uAI rfl gU rfl rfl rfl rfl) ?_;refine uAv rfl rfl rfl rfl rfl rfl gU gU (uG9 _ (by assumption)) rfl ?_;refine uAM (xs:=[_]) rfl rfl rfl rfl rfl rfl rfl rfl rfl gU rfl ?_;refine uAu rfl (uA0 rfl rfl rfl rfl rfl rfl rfl (by first | omega | (simp only [List.length_append,List.length_singleton,uAh,List.length_map,List.length_take]; omega)) (by first | omega | (simp only [List.length_append,List.length_singleton,uAh,List.length_map,List.length_take]; omega))) ?_;refine uAu rfl (uAG (.inr rfl) rfl rfl rfl) ?_;refine uAf ?_;refine uAn (s:=⟨[(1,_,_),(3,_,_),(4,_,_)],[(.l 1,_)],[(.t 3,_)],[]⟩) (uAj (⟨sx rfl,sx rfl,sx rfl,trivial⟩) (⟨sx rfl,trivial⟩) (⟨rfl,trivial⟩)) ?_;refine uAb ?_;refine uAa rfl rfl rfl (uAc rfl gU) ?_;refine uAa rfl rfl rfl (uAr rfl rfl gU gU rfl (IntWalk.i64_in _ (by omega))) ?_;refine uAa rfl rfl rfl (uAd rfl gU) ?_;refine uAf ?_
   refine ⟨k + 1,?_,?_,uAj (⟨⟨_,rfl,?_⟩,⟨⟨_,rfl,?_⟩,⟨sx rfl,trivial⟩⟩⟩) (⟨sx rfl,trivial⟩) (⟨rfl,trivial⟩)⟩
   all_goals first | rfl | omega | exact tx ((uBS _ _).trans (by rw [map_take (d:=default) uC4 hlt]))
  ·try simp only [nn,uAh,T.rows_len,Fs.rows_len,Sp.rows_len,Gl.rows_len] at hc2
   have : k=n.goals.length:=by omega
   subst this
   rw [List.take_length]
   refine uAN ?_
   repeat (first | refine uAE ?_ | refine uAF ?_ | refine uAB rfl ?_)
   refine uAe (uAb ?_);refine uAu rfl (uAG (.inl rfl) rfl rfl rfl) ?_;refine uAu rfl (uAG (.inr rfl) rfl rfl rfl) ?_;refine uAf ?_;refine uAo ?_
   repeat (first | refine tR ?_ | refine bR ?_)
   refine uAq rfl ?_ trivial
   (rw [uFq,if_neg (by simpa using hc)]; rfl)
end Go.Proofs.YtnjjdbapadkomaaGreatDoor
namespace Go.Proofs.YtnjjdbapadkomaaGreatDoor
open Go Go.Abs
end Go.Proofs.YtnjjdbapadkomaaGreatDoor
namespace Go.Proofs.YtnjjdbapadkomaaGreatDoor
open Go Go.Abs
theorem uK8 (s : List UInt8) (k : Int) : Ctr sys 38 [xs s,xi k] [] (xm ⟨2,s,k,[]⟩) none []:=by
 refine uAw Tryz.func38 rfl rfl rfl rfl rfl rfl ?_;refine uAe (uAb ?_);refine uAu rfl (uAQ rfl rfl rfl) ?_;refine uAf ?_;refine uAe (uAb ?_);refine uAa rfl rfl rfl (uAc rfl gU) ?_;refine uAa rfl rfl rfl (uAc rfl gU) ?_;refine uAa rfl rfl rfl (uAV rfl Tryz.underlying39 rfl gU) ?_;refine uAu rfl (uAA rfl rfl rfl rfl rfl rfl rfl) ?_;refine uAf ?_;refine uAo ?_
 repeat (first | refine tR ?_ | refine bR ?_)
 refine uAq rfl ?_ trivial
 rfl
theorem uLZ (s : List UInt8) (ks : List T) (hk : ks.length≤3000000) : Ctr sys 39 [xs s,xl ks] [] (xm ⟨3,s,0,ks⟩) none []:=by
 have hrl:=T.rows_len ks
 refine uAw Tryz.func39 rfl rfl rfl rfl rfl rfl ?_;refine uAe (uAb ?_);refine uAu rfl (uAQ rfl rfl rfl) ?_;refine uAf ?_;refine uAe (uAb ?_);refine uAa rfl rfl rfl (uAc rfl gU) ?_;refine uAM (xs:=[]) rfl rfl rfl rfl rfl rfl rfl rfl rfl gU rfl ?_;refine uAa rfl rfl rfl (uAc rfl gU) ?_;refine uAu rfl (uA0 rfl rfl rfl rfl rfl rfl rfl (by first | omega | (simp only [List.length_nil]; omega)) (by first | omega | (simp only [List.length_nil]; omega))) ?_;refine uAa rfl rfl rfl (uAV rfl Tryz.underlying39 rfl gU) ?_;refine uAu rfl (uAA rfl rfl rfl rfl rfl rfl rfl) ?_;refine uAf ?_;refine uAo ?_
 repeat (first | refine tR ?_ | refine bR ?_)
 refine uAq rfl ?_ trivial
 rfl
theorem uFt (s : List UInt8) (rs : List (List C)) (ks : List T) (h : rs=T.rows ks) (hk : ks.length≤3000000) : Ctr sys 39 [xs s, .v (.c (.sl 4 rs))] [] (xm ⟨3,s,0,ks⟩) none []:=by
 subst h; exact uLZ s ks hk
end Go.Proofs.YtnjjdbapadkomaaGreatDoor
namespace Go.Proofs.YtnjjdbapadkomaaGreatDoor
open Go Go.Abs
theorem uEb (s : List UInt8) : Ctr sys 37 [xs s] [] (xm ⟨2,s,0,[]⟩) none []:=by
 refine uAw Tryz.func37 rfl rfl rfl rfl rfl rfl ?_;refine uAe (uAb ?_);refine uAu rfl (uAQ rfl rfl rfl) ?_;refine uAf ?_;refine uAe (uAb ?_);refine uAa rfl rfl rfl (uAc rfl gU) ?_;refine uAv rfl rfl rfl rfl rfl rfl gU gU (uK8 _ _) rfl ?_;refine uAu rfl (uAA rfl rfl rfl rfl rfl rfl rfl) ?_;refine uAf ?_;refine uAo ?_
 repeat (first | refine tR ?_ | refine bR ?_)
 refine uAq rfl ?_ trivial
 rfl
def exS : List UInt8:=[112,114,111,116,111,99,111,108,32,80,32,123,32,114,111,108,101,32,65,44,32,66,59,32,102,114,101,115,104,32,65,58,32,110,97,32,110,111,110,99,101,59,32,109,101,115,115,97,103,101,32,65,32,45,62,32,66,58,32,101,110,99,40,60,110,97,44,32,65,62,44,32,115,104,107,40,65,44,32,66,41,41,59,32,103,111,97,108,32,115,101,99,114,101,116,32,66,58,32,110,97,59,32,125]
def exM : T:=⟨3,[101,110,99],0,[⟨3,wPair,0,[⟨2,[110,97],0,[]⟩,⟨2,[65],0,[]⟩]⟩,⟨3,[115,104,107],0,[⟨2,[65],0,[]⟩,⟨2,[66],0,[]⟩]⟩]⟩
def exN : Nar:=⟨[80],[[65],[66]],[⟨[65],[110,97],2⟩],[],[⟨[65],[66],exM,1⟩],[⟨1,[66],[],[⟨2,[110,97],0,[]⟩],1⟩]⟩
def exV : List UInt8:=[60,97,44,32,60,98,44,32,99,62,62]
def exT : T:=⟨3,wPair,0,[⟨2,[97],0,[]⟩,⟨3,wPair,0,[⟨2,[98],0,[]⟩,⟨2,[99],0,[]⟩]⟩]⟩
set_option maxRecDepth 100000 in
theorem ex1 : uFn exS=(exN,0,0):=by kernel_rfl
set_option maxRecDepth 100000 in
theorem ex2 : narE uAH exN=0:=by decide +kernel
set_option maxRecDepth 100000 in
theorem ex3 : (lnsP exN.text).length=6∧exN.text.length≤1000:=by decide +kernel
set_option maxRecDepth 100000 in
theorem ex4 : uHp exV=(exT,0,0):=by kernel_rfl
set_option maxRecDepth 100000 in
theorem ex5 : ftE exT=([60,97,44,32,98,44,32,99,62],0):=by decide +kernel
theorem uG0 : Ctr sys 10 [] [] (xb true) none []:=by
 have h1:=uJA exS (by decide)
 rw [ex1] at h1
 have h2:=uII exN (by decide) (by decide)
 rw [uEU,if_neg (by rw [ex2]; simp)] at h2
 have h3:=uLr exV (by decide)
 rw [ex4] at h3
 have h4:=uFV exT (by decide)
 rw [ex5] at h4
 obtain ⟨x1,x2⟩:=ex3
 have h5:=uIF exN.text (by omega)
 have l5:=uAh (lnsP exN.text)
 have h6 : Ctr sys 20 [xm exM,xm exM] [] (xb true) none []:=by
  have := uKY exM exM (by decide) (by decide)
  rwa [T.cmp_self] at this
 refine uAw Tryz.func10 rfl rfl rfl rfl rfl rfl ?_;refine uAe (uAb ?_);refine uAa rfl rfl rfl (uAd rfl gU) ?_;refine uAf ?_;refine uAe (uAb ?_);refine uAv rfl rfl rfl rfl rfl rfl gU gU (h1) rfl ?_;refine uAa rfl rfl rfl (uAc rfl gU) ?_;refine uAa rfl rfl rfl (uAK rfl gU rfl) ?_;refine uAa rfl rfl rfl (uAK rfl gU rfl) ?_;refine uAa rfl rfl rfl (uAK rfl gU rfl) ?_;refine uAu rfl (uAQ rfl rfl rfl) ?_;refine uAu rfl (uAA rfl rfl rfl rfl rfl rfl rfl) ?_;refine uAa rfl rfl rfl (uAd rfl gU) ?_;refine uAa rfl rfl rfl (uAd rfl gU) ?_;refine uAf ?_;refine uAn (s:=⟨[(1,_,_),(3,_,_)],[(.l 1,_)],[],[]⟩) (uAj (⟨sx rfl,sx rfl,trivial⟩) (⟨sx rfl,trivial⟩) trivial) ?_;refine uAe (uAb ?_);refine uAa rfl rfl rfl (uAt rfl gU rfl rfl rfl rfl rfl) ?_;refine uAv rfl rfl rfl rfl rfl rfl gU gU (h2) rfl ?_;refine uAa rfl rfl rfl (uAc rfl gU) ?_;refine uAa rfl rfl rfl (uAK rfl gU rfl) ?_;refine uAa rfl rfl rfl (uAK rfl gU rfl) ?_;refine uAa rfl rfl rfl (uAd rfl gU) ?_;refine uAa rfl rfl rfl (uAd rfl gU) ?_;refine uAf ?_;refine uAn (s:=⟨[(1,_,_),(3,_,_),(4,_,_),(5,_,_)],[(.l 1,_)],[],[]⟩) (uAj (⟨sx rfl,sx rfl,sx rfl,sx rfl,trivial⟩) (⟨sx rfl,trivial⟩) trivial) ?_;refine uAe (uAb ?_)
 refine uAv rfl rfl rfl rfl rfl rfl gU gU (h3) rfl ?_;refine uAa rfl rfl rfl (uAc rfl gU) ?_;refine uAa rfl rfl rfl (uAK rfl gU rfl) ?_;refine uAa rfl rfl rfl (uAK rfl gU rfl) ?_;refine uAa rfl rfl rfl (uAK rfl gU rfl) ?_;refine uAu rfl (uAQ rfl rfl rfl) ?_;refine uAu rfl (uAA rfl rfl rfl rfl rfl rfl rfl) ?_;refine uAa rfl rfl rfl (uAd rfl gU) ?_;refine uAa rfl rfl rfl (uAd rfl gU) ?_;refine uAf ?_;refine uAn (s:=⟨[(1,_,_),(3,_,_),(4,_,_),(5,_,_),(6,_,_),(8,_,_)],[(.l 1,_),(.l 6,_)],[],[]⟩) (uAj (⟨sx rfl,sx rfl,sx rfl,sx rfl,sx rfl,sx rfl,trivial⟩) (⟨sx rfl,sx rfl,trivial⟩) trivial) ?_;refine uAe (uAb ?_);refine uAa rfl rfl rfl (uAt rfl gU rfl rfl rfl rfl rfl) ?_;refine uAv rfl rfl rfl rfl rfl rfl gU gU (h4) rfl ?_;refine uAa rfl rfl rfl (uAc rfl gU) ?_;refine uAa rfl rfl rfl (uAK rfl gU rfl) ?_;refine uAa rfl rfl rfl (uAK rfl gU rfl) ?_;refine uAa rfl rfl rfl (uAd rfl gU) ?_;refine uAa rfl rfl rfl (uAd rfl gU) ?_;refine uAf ?_;refine uAn (s:=⟨[(1,_,_),(3,_,_),(4,_,_),(5,_,_),(8,_,_),(9,_,_),(10,_,_)],[(.l 1,_)],[],[]⟩) (uAj (⟨sx rfl,sx rfl,sx rfl,sx rfl,sx rfl,sx rfl,sx rfl,trivial⟩) (⟨sx rfl,trivial⟩) trivial) ?_;refine uAe ?_;refine uAe (uAb ?_)
 refine uAa rfl rfl rfl (uAc rfl gU) ?_;refine uAa rfl rfl rfl (uAi rfl rfl gU gU rfl) ?_;refine uAa rfl rfl rfl (uAc rfl gU) ?_;refine uAa rfl rfl rfl (uAc rfl gU) ?_;refine uAa rfl rfl rfl (uAi rfl rfl (fun hh=>hh) gU rfl) ?_;refine uAa rfl rfl rfl (uAL rfl rfl gU (fun _ hi=>gP rfl hi)) ?_;refine uAa rfl rfl rfl (uAc rfl gU) ?_;refine uAa rfl rfl rfl (uAc rfl gU) ?_;refine uAa rfl rfl rfl (uAi rfl rfl (fun hh=>hh) gU rfl) ?_;refine uAa rfl rfl rfl (uAL rfl rfl gU (fun _ hi=>gP rfl hi)) ?_;refine uAa rfl rfl rfl (uAc rfl gU) ?_;refine uAa rfl rfl rfl (uAc rfl gU) ?_;refine uBn (s:=⟨[(1,_,_),(4,_,_),(9,_,_),(42,_,_),(43,_,_)],[(.l 1,_)],[],[]⟩) (uAj (⟨sx rfl,sx rfl,sx rfl,sx rfl,sx rfl,trivial⟩) (⟨sx rfl,trivial⟩) trivial) ?_;refine uAa rfl rfl rfl (uAi rfl rfl (fun hh=>hh) gU rfl) ?_;refine uAa rfl rfl rfl (uAL rfl rfl gU (fun _ hi=>gP rfl hi)) ?_;refine uAa rfl rfl rfl (uAc rfl gU) ?_;refine uAa rfl rfl rfl (uAc rfl gU) ?_;refine uAa rfl rfl rfl (uA2 rfl rfl (fun hh=>hh) gU rfl) ?_;refine uAa rfl rfl rfl (uAL rfl rfl gU (fun _ hi=>gP rfl hi)) ?_;refine uAa rfl rfl rfl (uAc rfl gU) ?_;refine uAa rfl rfl rfl (uAg rfl gU rfl rfl) ?_;refine uAa rfl rfl rfl (uAl rfl (fun hh=>hh) rfl rfl rfl rfl) ?_;refine uAa rfl rfl rfl (uAY rfl (fun hh=>hh) rfl rfl) ?_
 refine uAa rfl rfl rfl (uAi rfl rfl (fun hh=>hh) gU rfl) ?_;refine uAa rfl rfl rfl (uAL rfl rfl gU (fun _ hi=>gP rfl hi)) ?_;refine uBn (s:=⟨[(1,_,_),(4,_,_),(55,_,_)],[(.l 1,_)],[],[]⟩) (uAj (⟨sx rfl,sx rfl,sx rfl,trivial⟩) (⟨sx rfl,trivial⟩) trivial) ?_;refine uAa rfl rfl rfl (uAc rfl gU) ?_;refine uAa rfl rfl rfl (uAc rfl gU) ?_;refine uAv rfl rfl rfl rfl rfl rfl gU (fun hh=>gA ((fun hh=>hh) hh) (rfl)) (h5) rfl ?_;refine uAa rfl rfl rfl (uAY rfl (fun hh=>hh) rfl rfl) ?_;refine uAa rfl rfl rfl (uAi rfl rfl (fun hh=>hh) gU rfl) ?_;refine uAa rfl rfl rfl (uAL rfl rfl gU (fun _ hi=>gP rfl hi)) ?_;refine uAf ?_;refine uAn (s:=⟨[(1,_,_),(61,_,_)],[(.l 1,_)],[],[]⟩) (uAj (⟨sx rfl,sx rfl,trivial⟩) (⟨sx rfl,trivial⟩) trivial) ?_;refine uAm rfl (fun hc=>?_) (fun hc=>?_)
 ·exfalso
  rw [l5,x1] at hc
  simp [exN,Sp.rows] at hc
 ·refine uAp ?_
  refine uAe (uAb ?_);refine uAa rfl rfl rfl (uAd rfl gU) ?_;refine uAf ?_;refine uAe ?_;refine awp_drawn' (by kernel_rfl) ?_;refine uAk rfl rfl rfl rfl (uAg rfl gU rfl rfl) ?_;refine uAS rfl rfl rfl rfl rfl rfl rfl gU rfl rfl rfl rfl ?_;refine uAk rfl rfl rfl rfl (uAx (j:=0) rfl rfl gU gU rfl rfl (by first | omega | (simp at hh ⊢; omega) | decide) (fun hh=>Sp.rows_at (by first | omega | (simp at hh ⊢; omega) | decide))) ?_;refine uAk rfl rfl rfl rfl (uBb rfl gU rfl rfl) ?_;refine uAk rfl rfl rfl rfl (uAI rfl gU rfl rfl rfl rfl) ?_;refine uAk rfl rfl rfl rfl (uAc rfl gU) ?_;refine uBa rfl rfl rfl rfl rfl rfl rfl gU gU (uEb [110,97]) rfl ?_;refine uAk rfl rfl rfl rfl (uAc rfl gU) ?_;refine uBa rfl rfl rfl rfl rfl rfl rfl gU gU (uEb [65]) rfl ?_;refine uCk (xs:=[_,_]) rfl rfl rfl rfl rfl rfl rfl rfl rfl rfl gU rfl ?_;refine uBa rfl rfl rfl rfl rfl rfl rfl gU gU (uFt _ _ [⟨2,[110,97],0,[]⟩,⟨2,[65],0,[]⟩] (by simp [T.rows_eq,T.cells]) (by simp)) rfl ?_;refine uAk rfl rfl rfl rfl (uAc rfl gU) ?_;refine uBa rfl rfl rfl rfl rfl rfl rfl gU gU (uEb [65]) rfl ?_;refine uAk rfl rfl rfl rfl (uAc rfl gU) ?_;refine uBa rfl rfl rfl rfl rfl rfl rfl gU gU (uEb [66]) rfl ?_;refine uCk (xs:=[_,_]) rfl rfl rfl rfl rfl rfl rfl rfl rfl rfl gU rfl ?_;refine uBa rfl rfl rfl rfl rfl rfl rfl gU gU (uFt _ _ [⟨2,[65],0,[]⟩,⟨2,[66],0,[]⟩] (by simp [T.rows_eq,T.cells]) (by simp)) rfl ?_
  refine uCk (xs:=[_,_]) rfl rfl rfl rfl rfl rfl rfl rfl rfl rfl gU rfl ?_;refine uBa rfl rfl rfl rfl rfl rfl rfl gU gU (uFt _ _ exM.kids (by rfl) (by decide)) rfl ?_;refine uBa rfl rfl rfl rfl rfl rfl rfl gU gU (h6) rfl ?_;refine uAk rfl rfl rfl rfl (uAd rfl gU) ?_;refine uBf (by kernel_rfl) ?_;refine uAo ?_
  repeat (first | refine tR ?_ | refine bR ?_)
  refine uAq rfl ?_ trivial
  rfl
end Go.Proofs.YtnjjdbapadkomaaGreatDoor
namespace Go.Proofs.YtnjjdbapadkomaaGreatDoor
open Go Go.Abs
namespace T
mutual
def bud : T→Int→Int
 | mk _ nm _ ks,m=>if m≤0∨40 < nm.length then -1 else buds ks (m - 1)
def buds : List T→Int→Int
 | [],m=>m
 | t :: ts,m=>if bud t m < 0 then -1 else buds ts (bud t m)
end
theorem bud_eq (t : T) (m : Int) : t.bud m=if m≤0∨40 < t.name.length then -1 else buds t.kids (m - 1):=by cases t; rw [bud]; rfl
mutual
theorem uNE : ∀ (t : T) (m : Int),0≤t.bud m→t.bud m + t.size≤m
 | mk _ nm _ ks,m,h=>by
  rw [bud] at h ⊢
  rw [size]
  split at h
  ·omega
  ·rename_i hn
   rw [if_neg hn]
   have := buds_le ks (m - 1) h
   omega
theorem buds_le : ∀ (ts : List T) (m : Int),0≤buds ts m→buds ts m + sizes ts≤m
 | [],m,_=>by rw [buds,sizes]; omega
 | t :: ts,m,h=>by
  rw [buds] at h ⊢
  rw [sizes]
  split at h
  ·omega
  ·rename_i hn
   rw [if_neg hn]
   have h1:=uNE t m (by omega)
   have h2:=buds_le ts (t.bud m) h
   omega
end
theorem buds_step : ∀ (ts : List T) (k : Nat) (x : T) (m : Int),ts[k]? = some x→0≤buds (ts.take k) m→0≤x.bud (buds (ts.take k) m)→buds (ts.take (k + 1)) m=x.bud (buds (ts.take k) m)
 | [],k,x,m,h,_,_=>by simp at h
 | t :: ts,0,x,m,h,h0,hx=>by
  simp at h; subst h
  simp only [List.take_zero,buds] at hx ⊢
  simp only [List.take_succ_cons,List.take_zero,buds]
  rw [if_neg (by omega)]
 | t :: ts,k + 1,x,m,h,h0,hx=>by
  rw [List.take_succ_cons,buds] at h0 hx ⊢
  rw [List.take_succ_cons,buds]
  split at h0
  ·omega
  ·rename_i hn
   rw [if_neg hn] at hx ⊢
   rw [if_neg hn]
   exact buds_step ts k x _ (by simpa using h) h0 hx
theorem buds_hit : ∀ (ts : List T) (k : Nat) (x : T) (m : Int),ts[k]? = some x→0≤buds (ts.take k) m→x.bud (buds (ts.take k) m) < 0→buds ts m = -1
 | [],k,x,m,h,_,_=>by simp at h
 | t :: ts,0,x,m,h,h0,hx=>by
  simp at h; subst h
  simp only [List.take_zero,buds] at hx
  rw [buds,if_pos hx]
 | t :: ts,k + 1,x,m,h,h0,hx=>by
  rw [List.take_succ_cons,buds] at h0 hx
  rw [buds]
  split at h0
  ·omega
  ·rename_i hn
   rw [if_neg hn] at hx ⊢
   exact buds_hit ts k x _ (by simpa using h) h0 hx
end T
def fewB (l : List T) (n : Nat) (m : Int) : Bool:=decide (l.length≤n) && decide (0≤T.buds l m)
theorem uJx {l : List T} {n : Nat} {m : Int} (h : fewB l n m=true) : l.length≤n∧T.sizes l≤m:=by
 simp only [fewB,Bool.and_eq_true,decide_eq_true_eq] at h
 have := T.buds_le l m h.2
 exact ⟨h.1,by omega⟩
def budS (t : T) (m : Int) (k : Nat) : St:={ t:=[(1,true,xi (T.buds (t.kids.take k) (m - 1))),(2,true, .v (.ptr (.l 2) 0)),(5,true,xi k)],bx:=[(.l 2,t.cells)],ow:=[] }
theorem uIT : ∀ (n : Nat) (t : T) (m : Int),m≤n→n≤2000000 → -2000000≤m→Ctr sys 83 [xm t,xi m] [] (xi (t.bud m)) none []:=by
 intro n
 induction n with
 | zero =>
  intro t m hm _ _
  refine uAw Tryz.func83 rfl rfl rfl rfl rfl rfl ?_;refine uAe (uAb ?_);refine uAu rfl (uAR rfl rfl rfl rfl) ?_;refine uAa rfl rfl rfl (uAd rfl gU) ?_;refine uAf ?_;refine uAe ?_;refine uAe (uAb ?_);refine uAa rfl rfl rfl (uAc rfl gU) ?_;refine uAa rfl rfl rfl (uAi rfl rfl gU gU rfl) ?_;refine uAa rfl rfl rfl (uAc rfl gU) ?_;refine uAa rfl rfl rfl (uAg rfl gU rfl rfl) ?_;refine uAa rfl rfl rfl (uAl rfl (fun hh=>hh) rfl rfl rfl rfl) ?_;refine uAa rfl rfl rfl (uBK rfl (fun hh=>hh) (Tryz.underlying9)) ?_;refine uAa rfl rfl rfl (uAi rfl rfl (fun hh=>hh) gU rfl) ?_;refine uAa rfl rfl rfl (uAL rfl rfl gU (fun _ hi=>gP rfl hi)) ?_;refine uAf ?_;refine uAn (s:=⟨[(1,_,_),(2,_,_),(13,_,_)],[(.l 2,_)],[],[]⟩) (uAj (⟨sx rfl,sx rfl,sx rfl,trivial⟩) (⟨sx rfl,trivial⟩) trivial) ?_;refine uAm rfl (fun hc=>?_) (fun hc=>?_)
  ·refine uAe (uAb ?_)
   refine uAa rfl rfl rfl (uAd rfl gU) ?_;refine uAf ?_;refine uAo ?_
   repeat (first | refine tR ?_ | refine bR ?_)
   refine uAq rfl ?_ trivial;refine uA6 ?_
   rw [T.bud_eq,if_pos (by omega)]
  ·simp only [Bool.or_eq_false_iff,decide_eq_false_iff_not] at hc
   omega
 | succ n ih =>
  intro t m hm hn hm2
  refine uAw Tryz.func83 rfl rfl rfl rfl rfl rfl ?_;refine uAe (uAb ?_);refine uAu rfl (uAR rfl rfl rfl rfl) ?_;refine uAa rfl rfl rfl (uAd rfl gU) ?_;refine uAf ?_;refine uAe ?_;refine uAe (uAb ?_);refine uAa rfl rfl rfl (uAc rfl gU) ?_;refine uAa rfl rfl rfl (uAi rfl rfl gU gU rfl) ?_;refine uAa rfl rfl rfl (uAc rfl gU) ?_;refine uAa rfl rfl rfl (uAg rfl gU rfl rfl) ?_;refine uAa rfl rfl rfl (uAl rfl (fun hh=>hh) rfl rfl rfl rfl) ?_;refine uAa rfl rfl rfl (uBK rfl (fun hh=>hh) (Tryz.underlying9)) ?_;refine uAa rfl rfl rfl (uAi rfl rfl (fun hh=>hh) gU rfl) ?_;refine uAa rfl rfl rfl (uAL rfl rfl gU (fun _ hi=>gP rfl hi)) ?_;refine uAf ?_;refine uAn (s:=⟨[(1,_,_),(2,_,_),(13,_,_)],[(.l 2,_)],[],[]⟩) (uAj (⟨sx rfl,sx rfl,sx rfl,trivial⟩) (⟨sx rfl,trivial⟩) trivial) ?_;refine uAm rfl (fun hc=>?_) (fun hc=>?_)
  ·refine uAe (uAb ?_)
   refine uAa rfl rfl rfl (uAd rfl gU) ?_;refine uAf ?_;refine uAo ?_
   repeat (first | refine tR ?_ | refine bR ?_)
   refine uAq rfl ?_ trivial;refine uA6 ?_
   simp only [Bool.or_eq_true,decide_eq_true_eq] at hc
   rw [T.bud_eq,if_pos (by omega)]
  ·simp only [Bool.or_eq_false_iff,decide_eq_false_iff_not] at hc
   have hB : t.bud m=T.buds t.kids (m - 1):=by rw [T.bud_eq,if_neg (by omega)]
   refine uAp ?_;refine uAe (uAb ?_);refine uAa rfl rfl rfl (uAc rfl gU) ?_;refine uAa rfl rfl rfl (uAr rfl rfl gU gU rfl (IntWalk.i64_in _ (by omega))) ?_;refine uAa rfl rfl rfl (uAd rfl gU) ?_;refine uAf ?_;refine uAe ?_;refine uAe (uAb ?_);refine uAa rfl rfl rfl (uAd rfl gU) ?_;refine uAf ?_;refine uAs ?_;refine uCD (budS t m) (fun k=>k≤t.kids.length∧0≤T.buds (t.kids.take k) (m - 1)) (fun k=>t.kids.length - k) 0 ⟨Nat.zero_le _,by simp [T.buds]; omega⟩ ?_ ?_
   ·refine uAj ⟨⟨_,rfl,rfl⟩,⟨_,rfl,rfl⟩,⟨_,rfl,rfl⟩,trivial⟩ ⟨⟨_,rfl,rfl⟩,trivial⟩ trivial
   ·rintro k ⟨hk,hz⟩
    have hbl:=T.buds_le _ _ hz
    refine uAe ?_;refine uAe (uAb ?_);refine uAa rfl rfl rfl (uAc rfl gU) ?_;refine uAa rfl rfl rfl (uAg rfl gU rfl rfl) ?_;refine uAa rfl rfl rfl (uAl rfl gU rfl rfl rfl rfl) ?_;refine uAO rfl rfl rfl rfl rfl gU rfl rfl ?_ (fun hh=>by simp at hh); intro hlen;refine uAa rfl rfl rfl (uAi rfl rfl gU gU rfl) ?_;refine uAf ?_;refine uAn (s:=⟨[(1,_,_),(2,_,_),(5,_,_),(20,_,_)],[(.l 2,_)],[],[]⟩) (uAj (⟨sx rfl,sx rfl,sx rfl,sx rfl,trivial⟩) (⟨sx rfl,trivial⟩) trivial) ?_;refine uAm rfl (fun hc2=>?_) (fun hc2=>?_)
    ·rw [T.rows_len] at hlen hc2
     have hlt : k < t.kids.length:=by simpa using hc2
     obtain ⟨x,hx⟩ : ∃ x,t.kids[k]? = some x:=⟨_,List.getElem?_eq_getElem hlt⟩
     refine uAp ?_;refine uAe ?_;refine uAs ?_;refine uAe (uAb ?_);refine uAa rfl rfl rfl (uAg rfl gU rfl rfl) ?_;refine uAa rfl rfl rfl (uAl rfl gU rfl rfl rfl rfl) ?_;refine uAa rfl rfl rfl (uAc rfl gU) ?_;refine uAa rfl rfl rfl (uAx rfl rfl gU gU rfl rfl rfl (fun _=>T.rows_get hx)) ?_;refine uAa rfl rfl rfl (uAI rfl gU rfl rfl rfl rfl) ?_;refine uAa rfl rfl rfl (uAc rfl gU) ?_;refine uAv rfl rfl rfl rfl rfl rfl gU gU (ih x _ (by omega) (by omega) (by omega)) rfl ?_;refine uAa rfl rfl rfl (uAd rfl gU) ?_;refine uAf ?_;refine uAn (s:=⟨[(1,_,_),(2,_,_),(5,_,_)],[(.l 2,_)],[],[]⟩) (uAj (⟨sx rfl,sx rfl,sx rfl,trivial⟩) (⟨sx rfl,trivial⟩) trivial) ?_;refine uAe (uAb ?_);refine uAa rfl rfl rfl (uAc rfl gU) ?_;refine uAa rfl rfl rfl (uAi rfl rfl gU gU rfl) ?_;refine uAf ?_;refine uAm rfl (fun hc3=>?_) (fun hc3=>?_)
     ·refine uAe (uAb ?_)
      refine uAa rfl rfl rfl (uAd rfl gU) ?_;refine uAf ?_;refine uAo ?_
      repeat (first | refine tR ?_ | refine bR ?_)
      refine uAq rfl ?_ trivial;refine uA6 ?_
      simp only [decide_eq_true_eq] at hc3
      rw [hB,T.buds_hit _ _ _ _ hx hz hc3]
     ·simp only [decide_eq_false_iff_not] at hc3
      have hst:=T.buds_step _ _ _ _ hx hz (by omega)
      refine uAp ?_;refine uAb ?_;refine uAa rfl rfl rfl (uAc rfl gU) ?_;refine uAa rfl rfl rfl (uAr rfl rfl gU gU rfl (IntWalk.i64_in _ (by omega))) ?_;refine uAa rfl rfl rfl (uAd rfl gU) ?_;refine uAf ?_;refine ⟨k + 1,⟨by omega,by rw [hst]; omega⟩,by omega,?_⟩;refine uAj ⟨⟨_,rfl,by rw [hst]⟩,⟨_,rfl,rfl⟩,⟨_,rfl,rfl⟩,trivial⟩ ⟨⟨_,rfl,rfl⟩,trivial⟩ trivial
    ·refine uAN ?_
     repeat (first | refine uAE ?_ | refine uAF ?_ | refine uAB rfl ?_)
     refine uAe (uAb ?_);refine uAa rfl rfl rfl (uAc rfl gU) ?_;refine uAa rfl rfl rfl (uAd rfl gU) ?_;refine uAf ?_;refine uAo ?_
     repeat (first | refine tR ?_ | refine bR ?_)
     refine uAq rfl ?_ trivial
     rw [T.rows_len] at hc2
     have : k=t.kids.length:=by simp at hc2; omega
     subst this
     exact uA6 (by rw [hB,List.take_length])
def fewS (l : List T) (n : Nat) (m : Int) (k : Nat) : St:={ t:=[(0,true,xl l),(2,true,xi (T.buds (l.take k) m)),(7,true,xi k)],bx:=[],ow:=[] }
theorem uMx (l : List T) (n : Nat) (m : Nat) (hm : m≤2000000) : Ctr sys 32 [xl l,xi n,xi m] [] (xb (fewB l n m)) none []:=by
 refine uAw Tryz.func32 rfl rfl rfl rfl rfl rfl ?_;refine uAe (uAb ?_);refine uAa rfl rfl rfl (uAd rfl gU) ?_;refine uAf ?_;refine uAe ?_;refine uAe (uAb ?_);refine uAa rfl rfl rfl (uAc rfl gU) ?_;refine uAO rfl rfl rfl rfl rfl gU rfl rfl ?_ (fun hh=>by simp at hh); intro hlen;refine uAa rfl rfl rfl (uAc rfl gU) ?_;refine uAa rfl rfl rfl (uAi rfl rfl gU gU rfl) ?_;refine uAf ?_;refine uAn (s:=⟨[(0,_,_),(2,_,_),(11,_,_)],[],[],[]⟩) (uAj (⟨sx rfl,sx rfl,sx rfl,trivial⟩) trivial trivial) ?_;refine uAm rfl (fun hc=>?_) (fun hc=>?_)
 ·refine uAe (uAb ?_)
  refine uAa rfl rfl rfl (uAd rfl gU) ?_;refine uAf ?_;refine uAo ?_
  repeat (first | refine tR ?_ | refine bR ?_)
  refine uAq rfl ?_ trivial;refine uCx ?_
  simp only [T.rows_len,decide_eq_true_eq] at hc
  have : ¬ l.length≤n:=by omega
  simp [fewB,this]
 ·simp only [T.rows_len,decide_eq_false_iff_not] at hc
  have hn : l.length≤n:=by omega
  refine uAp ?_;refine uAe ?_;refine uAe (uAb ?_);refine uAa rfl rfl rfl (uAd rfl gU) ?_;refine uAf ?_;refine uAs ?_;refine uCD (fewS l n m) (fun k=>k≤l.length∧0≤T.buds (l.take k) m) (fun k=>l.length - k) 0 ⟨Nat.zero_le _,by simp [T.buds]⟩ ?_ ?_
  ·refine uAj ⟨⟨_,rfl,rfl⟩,⟨_,rfl,rfl⟩,⟨_,rfl,rfl⟩,trivial⟩ trivial trivial
  ·rintro k ⟨hk,hz⟩
   have hbl:=T.buds_le _ _ hz
   refine uAe ?_;refine uAe (uAb ?_);refine uAa rfl rfl rfl (uAc rfl gU) ?_;refine uAa rfl rfl rfl (uAc rfl gU) ?_;refine uAO rfl rfl rfl rfl rfl gU rfl rfl ?_ (fun hh=>by simp at hh); intro hlen;refine uAa rfl rfl rfl (uAi rfl rfl gU gU rfl) ?_;refine uAf ?_;refine uAm rfl (fun hc2=>?_) (fun hc2=>?_)
   ·rw [T.rows_len] at hlen hc2
    have hlt : k < l.length:=by simpa using hc2
    obtain ⟨x,hx⟩ : ∃ x,l[k]? = some x:=⟨_,List.getElem?_eq_getElem hlt⟩
    refine uAp ?_;refine uAe ?_;refine uAs ?_;refine uAe (uAb ?_);refine uAa rfl rfl rfl (uAc rfl gU) ?_;refine uAa rfl rfl rfl (uAc rfl gU) ?_;refine uAa rfl rfl rfl (uAx rfl rfl gU gU rfl rfl rfl (fun _=>T.rows_get hx)) ?_;refine uAa rfl rfl rfl (uAI rfl gU rfl rfl rfl rfl) ?_;refine uAa rfl rfl rfl (uAc rfl gU) ?_;refine uAv rfl rfl rfl rfl rfl rfl gU gU (uIT m x _ (by omega) (by omega) (by omega)) rfl ?_;refine uAa rfl rfl rfl (uAd rfl gU) ?_;refine uAf ?_;refine uAn (s:=⟨[(0,_,_),(2,_,_),(7,_,_)],[],[],[]⟩) (uAj (⟨sx rfl,sx rfl,sx rfl,trivial⟩) trivial trivial) ?_;refine uAe (uAb ?_);refine uAa rfl rfl rfl (uAc rfl gU) ?_;refine uAa rfl rfl rfl (uAi rfl rfl gU gU rfl) ?_;refine uAf ?_;refine uAm rfl (fun hc3=>?_) (fun hc3=>?_)
    ·refine uAe (uAb ?_)
     refine uAa rfl rfl rfl (uAd rfl gU) ?_;refine uAf ?_;refine uAo ?_
     repeat (first | refine tR ?_ | refine bR ?_)
     refine uAq rfl ?_ trivial;refine uCx ?_
     simp only [decide_eq_true_eq] at hc3
     simp [fewB,T.buds_hit _ _ _ _ hx hz hc3]
    ·simp only [decide_eq_false_iff_not] at hc3
     have hst:=T.buds_step _ _ _ _ hx hz (by omega)
     refine uAp ?_;refine uAb ?_;refine uAa rfl rfl rfl (uAc rfl gU) ?_;refine uAa rfl rfl rfl (uAr rfl rfl gU gU rfl (IntWalk.i64_in _ (by omega))) ?_;refine uAa rfl rfl rfl (uAd rfl gU) ?_;refine uAf ?_;refine ⟨k + 1,⟨by omega,by rw [hst]; omega⟩,by omega,?_⟩;refine uAj ⟨⟨_,rfl,rfl⟩,⟨_,rfl,by rw [hst]⟩,⟨_,rfl,rfl⟩,trivial⟩ trivial trivial
   ·refine uAN ?_
    repeat (first | refine uAE ?_ | refine uAF ?_ | refine uAB rfl ?_)
    refine uAe (uAb ?_);refine uAa rfl rfl rfl (uAd rfl gU) ?_;refine uAf ?_;refine uAo ?_
    repeat (first | refine tR ?_ | refine bR ?_)
    refine uAq rfl ?_ trivial
    rw [T.rows_len] at hc2
    have : k=l.length:=by simp at hc2; omega
    subst this
    rw [List.take_length] at hz
    exact uCx (by simp [fewB,hn,hz])
end Go.Proofs.YtnjjdbapadkomaaGreatDoor
namespace Go.Proofs.YtnjjdbapadkomaaGreatDoor
open Go Go.Abs
theorem uNf (l r : List T) : X.v (.c (.sl 4 (T.rows l++T.rows r)))=xl (l++r):=by simp [xl,T.rows_eq]
def uC2 (l : List Gl) : List T:=(l.map Gl.data).flatten
theorem uJ6 {l : List Gl} {k : Nat} (h : k < l.length) : uC2 (l.take (k + 1))=uC2 (l.take k)++(l.getD k default).data:=by
 rw [uEm (d:=default) h]; simp [uC2]
theorem uKI {l : List Gl} (h : ∀ g ∈ l,g.data.length≤2097152) : (uC2 l).length≤2097152 * l.length:=by
 induction l with
 | nil=>simp [uC2]
 | cons g l ih =>
  have h1:=h g (by simp)
  have h2:=ih fun x hx=>h x (by simp [hx])
  simp only [uC2,List.map_cons,List.flatten_cons,List.length_append,List.length_cons,Nat.mul_succ] at h2 ⊢
  omega
def uJh (n : Nar) : List T:=n.steps.map Sp.msg++uC2 n.goals
def fewN (n : Nar) : Bool:=(decide (n.roles.length≤16) && decide (n.fresh.length≤16) && decide (n.tags.length≤16) && decide (n.steps.length≤16) && decide (n.goals.length≤16)) && fewB (uJh n) 100 900
theorem uJQ (n : Nar) (hd : ∀ g ∈ n.goals,g.data.length≤2097152) : Ctr sys 11 [xn n] [] (xb (fewN n)) none []:=by
 have l1:=uAh n.roles
 have l3:=Fs.rows_len n.fresh
 have l4:=uAh n.tags
 have l5:=Sp.rows_len n.steps
 have l6:=Gl.rows_len n.goals
 refine uAw Tryz.func11 rfl rfl rfl rfl rfl rfl ?_;refine uAe (uAb ?_);refine uAu rfl (uAR rfl rfl rfl rfl) ?_;refine uAa rfl rfl rfl (uAd rfl gU) ?_;refine uAf ?_;refine uAe ?_;refine uAe (uAb ?_);refine uAa rfl rfl rfl (uAg rfl gU rfl rfl) ?_;refine uAa rfl rfl rfl (uAl rfl gU rfl rfl rfl rfl) ?_;refine uAO rfl rfl rfl rfl rfl gU rfl rfl ?_ (fun hh=>by simp at hh); intro hlen;refine uAa rfl rfl rfl (uAi rfl rfl gU gU rfl) ?_;refine uAa rfl rfl rfl (uAc rfl gU) ?_;refine uAa rfl rfl rfl (uAg rfl gU rfl rfl) ?_;refine uAa rfl rfl rfl (uAl rfl (fun hh=>hh) rfl rfl rfl rfl) ?_;refine uAa rfl rfl rfl (uAY rfl (fun hh=>hh) rfl rfl) ?_;refine uAa rfl rfl rfl (uAi rfl rfl (fun hh=>hh) gU rfl) ?_;refine uAa rfl rfl rfl (uAL rfl rfl gU (fun _ hi=>gP rfl hi)) ?_;refine uBn (s:=⟨[(1,_,_),(15,_,_)],[(.l 1,_)],[],[]⟩) (uAj (⟨sx rfl,sx rfl,trivial⟩) (⟨sx rfl,trivial⟩) trivial) ?_;refine uAa rfl rfl rfl (uAc rfl gU) ?_;refine uAa rfl rfl rfl (uAg rfl gU rfl rfl) ?_;refine uAa rfl rfl rfl (uAl rfl (fun hh=>hh) rfl rfl rfl rfl) ?_;refine uAa rfl rfl rfl (uAY rfl (fun hh=>hh) rfl rfl) ?_;refine uAa rfl rfl rfl (uAi rfl rfl (fun hh=>hh) gU rfl) ?_;refine uAa rfl rfl rfl (uAL rfl rfl gU (fun _ hi=>gP rfl hi)) ?_;refine uAa rfl rfl rfl (uAc rfl gU) ?_
 refine uAa rfl rfl rfl (uAg rfl gU rfl rfl) ?_;refine uAa rfl rfl rfl (uAl rfl (fun hh=>hh) rfl rfl rfl rfl) ?_;refine uAa rfl rfl rfl (uAY rfl (fun hh=>hh) rfl rfl) ?_;refine uAa rfl rfl rfl (uAi rfl rfl (fun hh=>hh) gU rfl) ?_;refine uAa rfl rfl rfl (uAL rfl rfl gU (fun _ hi=>gP rfl hi)) ?_;refine uBn (s:=⟨[(1,_,_),(27,_,_)],[(.l 1,_)],[],[]⟩) (uAj (⟨sx rfl,sx rfl,trivial⟩) (⟨sx rfl,trivial⟩) trivial) ?_;refine uAa rfl rfl rfl (uAc rfl gU) ?_;refine uAa rfl rfl rfl (uAg rfl gU rfl rfl) ?_;refine uAa rfl rfl rfl (uAl rfl (fun hh=>hh) rfl rfl rfl rfl) ?_;refine uAa rfl rfl rfl (uAY rfl (fun hh=>hh) rfl rfl) ?_;refine uAa rfl rfl rfl (uAi rfl rfl (fun hh=>hh) gU rfl) ?_;refine uAa rfl rfl rfl (uAL rfl rfl gU (fun _ hi=>gP rfl hi)) ?_;refine uAf ?_;refine uAn (s:=⟨[(1,_,_),(33,_,_)],[(.l 1,_)],[],[]⟩) (uAj (⟨sx rfl,sx rfl,trivial⟩) (⟨sx rfl,trivial⟩) trivial) ?_;refine uAm rfl (fun hc=>?_) (fun hc=>?_)
 ·try simp only [nn,uAh,T.rows_len,Gl.rows_len,Fs.rows_len,Sp.rows_len] at hc
  refine uAe (uAb ?_);refine uAa rfl rfl rfl (uAd rfl gU) ?_;refine uAf ?_;refine uAo ?_
  repeat (first | refine tR ?_ | refine bR ?_)
  refine uAq rfl ?_ trivial
  (refine uCx ?_; symm; unfold fewN; rw [Bool.eq_false_iff]; intro q; simp only [Bool.and_eq_true,decide_eq_true_eq] at q; omega)
 ·try simp only [nn,uAh,T.rows_len,Gl.rows_len,Fs.rows_len,Sp.rows_len] at hc
  have h16 : n.roles.length≤16∧n.fresh.length≤16∧n.tags.length≤16∧n.steps.length≤16∧n.goals.length≤16:=by omega
  have hE : fewN n=fewB (uJh n) 100 900:=by
   unfold fewN
   rw [decide_eq_true h16.1,decide_eq_true h16.2.1,decide_eq_true h16.2.2.1,decide_eq_true h16.2.2.2.1,decide_eq_true h16.2.2.2.2]; rfl
  rw [hE]
  refine uAp ?_;refine uAe (uAb ?_);refine uAu rfl (uBh (.inr rfl) rfl rfl) ?_;refine uAf ?_;refine uAe ?_;refine uAe (uAb ?_);refine uAa rfl rfl rfl (uAd rfl gU) ?_;refine uAf ?_;refine uAs ?_;refine uAX (ι:=Nat) { t:=[(1,_,_)],bx:=[(.l 1,_)],ow:=[(.t 3,_)] } (fun k=>[(4,true,xi (k : Int)),(3,true,xl ((n.steps.take k).map Sp.msg))]) (fun k=>[]) (fun k=>k≤n.steps.length) (fun k=>n.steps.length - k) (0) (by simp) (uAj (⟨sx rfl,sx rfl,sx rfl,trivial⟩) (⟨sx rfl,trivial⟩) (⟨rfl,trivial⟩)) ?_
  intro k hoka
  dsimp only [List.cons_append,List.nil_append]
  refine uAe ?_;refine uAe (uAb ?_);refine uAa rfl rfl rfl (uAc rfl gU) ?_;refine uAa rfl rfl rfl (uAg rfl gU rfl rfl) ?_;refine uAa rfl rfl rfl (uAl rfl gU rfl rfl rfl rfl) ?_;refine uAO rfl rfl rfl rfl rfl gU rfl rfl ?_ (fun hh=>by simp at hh); intro hlen;refine uAa rfl rfl rfl (uAi rfl rfl gU gU rfl) ?_;refine uAf ?_;refine uAn (s:=⟨[(1,_,_),(3,_,_),(4,_,_),(38,_,_)],[(.l 1,_)],[(.t 3,_)],[]⟩) (uAj (⟨sx rfl,sx rfl,sx rfl,sx rfl,trivial⟩) (⟨sx rfl,trivial⟩) (⟨rfl,trivial⟩)) ?_;refine uAm rfl (fun hc2=>?_) (fun hc2=>?_)
  ·try simp only [nn,uAh,T.rows_len,Gl.rows_len,Fs.rows_len,Sp.rows_len] at hc2
   have hT:=uEm (l:=n.steps) (d:=default) (k:=k) (by omega)
   refine uAp ?_;refine uAe ?_;refine uAs ?_;refine uAb ?_;refine uAu rfl (uAG (.inl rfl) rfl rfl rfl) ?_;refine uAa rfl rfl rfl (uAg rfl gU rfl rfl) ?_;refine uAa rfl rfl rfl (uAl rfl gU rfl rfl rfl rfl) ?_;refine uAa rfl rfl rfl (uAc rfl gU) ?_;refine uAa rfl rfl rfl (uAx rfl rfl gU gU rfl rfl rfl (fun hh=>Sp.rows_at (by first | omega | (simp at hh ⊢; omega)))) ?_;refine uAa rfl rfl rfl (uBb rfl gU rfl rfl) ?_;refine uAa rfl rfl rfl (uAI rfl gU rfl rfl rfl rfl) ?_;refine uAM (xs:=[_]) rfl rfl rfl rfl rfl rfl rfl rfl rfl gU rfl ?_;refine uAu rfl (uA0 rfl rfl rfl rfl rfl rfl rfl (by first | omega | (simp only [List.length_append,List.length_singleton,T.rows_len,List.length_map,List.length_take]; omega)) (by first | omega | (simp only [List.length_append,List.length_singleton,T.rows_len,List.length_map,List.length_take]; omega))) ?_;refine uAu rfl (uAG (.inr rfl) rfl rfl rfl) ?_;refine uAf ?_;refine uAn (s:=⟨[(1,_,_),(3,_,_),(4,_,_)],[(.l 1,_)],[(.t 3,_)],[]⟩) (uAj (⟨sx rfl,sx rfl,sx rfl,trivial⟩) (⟨sx rfl,trivial⟩) (⟨rfl,trivial⟩)) ?_;refine uAb ?_;refine uAa rfl rfl rfl (uAc rfl gU) ?_;refine uAa rfl rfl rfl (uAr rfl rfl gU gU rfl (IntWalk.i64_in _ (by omega))) ?_;refine uAa rfl rfl rfl (uAd rfl gU) ?_;refine uAf ?_;refine ⟨k + 1,?_,?_,uAj (⟨⟨_,rfl,?_⟩,⟨⟨_,rfl,?_⟩,⟨sx rfl,trivial⟩⟩⟩) (⟨sx rfl,trivial⟩) (⟨rfl,trivial⟩)⟩
   all_goals (first | rfl | omega | exact tx ((uE5 _ _).trans (by rw [hT,List.map_append]; rfl)))
  ·try simp only [nn,uAh,T.rows_len,Gl.rows_len,Fs.rows_len,Sp.rows_len] at hc2
   have hk : k=n.steps.length:=by omega
   subst hk
   refine uAN ?_
   repeat (first | refine uAE ?_ | refine uAF ?_ | refine uAB rfl ?_)
   refine uAe ?_;refine uAe (uAb ?_);refine uAa rfl rfl rfl (uAd rfl gU) ?_;refine uAf ?_;refine uAs ?_;refine uAX (ι:=Nat) { t:=[(1,_,_)],bx:=[(.l 1,_)],ow:=[(.t 3,_)] } (fun j=>[(5,true,xi (j : Int)),(3,true,xl (n.steps.map Sp.msg++uC2 (n.goals.take j)))]) (fun j=>[]) (fun j=>j≤n.goals.length) (fun j=>n.goals.length - j) (0) (by simp) (uAj (⟨sx rfl,⟨⟨_,rfl,by simp [uC2]⟩,⟨sx rfl,trivial⟩⟩⟩) (⟨sx rfl,trivial⟩) (⟨rfl,trivial⟩)) ?_
   intro j hokb
   dsimp only [List.cons_append,List.nil_append]
   have hdl:=uKI (l:=n.goals.take j) fun g hg=>hd g (List.mem_of_mem_take hg)
   rw [List.length_take] at hdl
   refine uAe ?_;refine uAe (uAb ?_);refine uAa rfl rfl rfl (uAc rfl gU) ?_;refine uAa rfl rfl rfl (uAg rfl gU rfl rfl) ?_;refine uAa rfl rfl rfl (uAl rfl gU rfl rfl rfl rfl) ?_;refine uAO rfl rfl rfl rfl rfl gU rfl rfl ?_ (fun hh=>by simp at hh); intro hlen;refine uAa rfl rfl rfl (uAi rfl rfl gU gU rfl) ?_;refine uAf ?_;refine uAn (s:=⟨[(1,_,_),(3,_,_),(5,_,_),(54,_,_)],[(.l 1,_)],[(.t 3,_)],[]⟩) (uAj (⟨sx rfl,sx rfl,sx rfl,sx rfl,trivial⟩) (⟨sx rfl,trivial⟩) (⟨rfl,trivial⟩)) ?_;refine uAm rfl (fun hc3=>?_) (fun hc3=>?_)
   ·try simp only [nn,uAh,T.rows_len,Gl.rows_len,Fs.rows_len,Sp.rows_len] at hc3
    have hT:=uJ6 (l:=n.goals) (k:=j) (by omega)
    have hdj : (n.goals.getD j default).data.length≤2097152:=hd _ (by rw [List.getD_eq_getElem?_getD,List.getElem?_eq_getElem (by omega)]; exact List.getElem_mem _)
    refine uAp ?_;refine uAe ?_;refine uAs ?_;refine uAb ?_;refine uAu rfl (uAG (.inl rfl) rfl rfl rfl) ?_;refine uAa rfl rfl rfl (uAg rfl gU rfl rfl) ?_;refine uAa rfl rfl rfl (uAl rfl gU rfl rfl rfl rfl) ?_;refine uAa rfl rfl rfl (uAc rfl gU) ?_;refine uAa rfl rfl rfl (uAx rfl rfl gU gU rfl rfl rfl (fun hh=>Gl.rows_at (by first | omega | (simp at hh ⊢; omega)))) ?_;refine uAa rfl rfl rfl (uBb rfl gU rfl rfl) ?_;refine uAa rfl rfl rfl (uAZ rfl gU rfl rfl rfl) ?_;refine uAu rfl (uA0 rfl rfl rfl rfl rfl rfl rfl (by first | omega | (simp only [List.length_append,List.length_singleton,T.rows_len,List.length_map,List.length_take]; omega)) (by first | omega | (simp only [List.length_append,List.length_singleton,T.rows_len,List.length_map,List.length_take]; omega))) ?_;refine uAu rfl (uAG (.inr rfl) rfl rfl rfl) ?_;refine uAf ?_;refine uAn (s:=⟨[(1,_,_),(3,_,_),(5,_,_)],[(.l 1,_)],[(.t 3,_)],[]⟩) (uAj (⟨sx rfl,sx rfl,sx rfl,trivial⟩) (⟨sx rfl,trivial⟩) (⟨rfl,trivial⟩)) ?_;refine uAb ?_;refine uAa rfl rfl rfl (uAc rfl gU) ?_;refine uAa rfl rfl rfl (uAr rfl rfl gU gU rfl (IntWalk.i64_in _ (by omega))) ?_;refine uAa rfl rfl rfl (uAd rfl gU) ?_;refine uAf ?_;refine ⟨j + 1,?_,?_,uAj (⟨⟨_,rfl,?_⟩,⟨⟨_,rfl,?_⟩,⟨sx rfl,trivial⟩⟩⟩) (⟨sx rfl,trivial⟩) (⟨rfl,trivial⟩)⟩
    all_goals (first | rfl | omega | exact tx ((uNf _ _).trans (by rw [hT,List.append_assoc])))
   ·try simp only [nn,uAh,T.rows_len,Gl.rows_len,Fs.rows_len,Sp.rows_len] at hc3
    have hk : j=n.goals.length:=by omega
    subst hk
    have e : n.steps.map Sp.msg++uC2 (n.goals.take n.goals.length)=uJh n:=by rw [List.take_length]; rfl
    rw [e]
    refine uAN ?_
    repeat (first | refine uAE ?_ | refine uAF ?_ | refine uAB rfl ?_)
    refine uAe (uAb ?_);refine uAa rfl rfl rfl (uAc rfl gU) ?_;refine uAv rfl rfl rfl rfl rfl rfl gU gU (uMx (uJh n) 100 900 (by omega)) rfl ?_;refine uAa rfl rfl rfl (uAd rfl gU) ?_;refine uAf ?_;refine uAo ?_
    repeat (first | refine tR ?_ | refine bR ?_)
    refine uAq rfl ?_ trivial
    rfl
theorem uMZ {n : Nar} (h : fewN n=true) : n.steps.length≤16∧n.goals.length≤16∧(∀ s ∈ n.steps,s.msg.size≤900000) ∧ ∀ g ∈ n.goals,T.sizes g.data≤900000:=by
 simp only [fewN,Bool.and_eq_true,decide_eq_true_eq] at h
 obtain ⟨_,h2⟩:=uJx h.2
 have h3 : T.sizes (n.steps.map Sp.msg++uC2 n.goals)≤900:=by unfold uJh at h2; omega
 have happ : ∀ a b : List T,T.sizes (a++b)=T.sizes a + T.sizes b:=by
  intro a b
  induction a with
  | nil=>simp [T.sizes]
  | cons t a ih=>simp only [List.cons_append,T.sizes,ih]; omega
 rw [happ] at h3
 refine ⟨h.1.1.2,h.1.2,fun s hs=>?_,fun g hg=>?_⟩
 ·have : ∀ l : List Sp,s ∈ l→s.msg.size≤T.sizes (l.map Sp.msg):=by
   intro l hl
   induction l with
   | nil=>simp at hl
   | cons x l ih =>
    simp only [List.map_cons,T.sizes]
    rcases List.mem_cons.1 hl with q | q
    ·subst q; omega
    ·have := ih q; omega
  have := this _ hs
  omega
 ·have : ∀ l : List Gl,g ∈ l→T.sizes g.data≤T.sizes (uC2 l):=by
   intro l hl
   induction l with
   | nil=>simp at hl
   | cons x l ih =>
    have e : uC2 (x :: l)=x.data++uC2 l:=by simp [uC2]
    rw [e,happ]
    rcases List.mem_cons.1 hl with q | q
    ·subst q; omega
    ·have := ih q; omega
  have := this _ hg
  omega
namespace T
mutual
def all : T→List T
 | mk k n s ks=>mk k n s ks :: alls ks
def alls : List T→List T
 | []=>[]
 | t :: ts=>all t++alls ts
end
end T
end Go.Proofs.YtnjjdbapadkomaaGreatDoor
namespace Go.Abs
end Go.Abs
namespace Go.Proofs.YtnjjdbapadkomaaGreatDoor
open Go Go.Abs
end Go.Proofs.YtnjjdbapadkomaaGreatDoor
namespace Go.Proofs.YtnjjdbapadkomaaGreatDoor
open Go Go.Abs
end Go.Proofs.YtnjjdbapadkomaaGreatDoor
namespace Go.Proofs.YtnjjdbapadkomaaGreatDoor
open Go Go.Abs
end Go.Proofs.YtnjjdbapadkomaaGreatDoor
namespace Go.Proofs.YtnjjdbapadkomaaGreatDoor
open Go Go.Abs
end Go.Proofs.YtnjjdbapadkomaaGreatDoor
namespace Go.Proofs.YtnjjdbapadkomaaGreatDoor
open Go Go.Abs
end Go.Proofs.YtnjjdbapadkomaaGreatDoor
namespace Go.Proofs.YtnjjdbapadkomaaGreatDoor
open Go Go.Abs
def Itm.fst (b : Bool) : Itm→Bool
 | .goal _=>true
 | .roles _=>b
 | _=>false
def turned (b : Bool) (L : List Itm) : List Itm:=L.filter (Itm.fst b)++L.filter (fun i=>!Itm.fst b i)
def N10 (s : List UInt8) : Prop:=∀ b ∈ s,b.toNat≠10
theorem N10.app {a b : List UInt8} (h : N10 a) (h' : N10 b) : N10 (a++b):=fun x hx=>(List.mem_append.1 hx).elim (h x) (h' x)
theorem N10.nm {w : List UInt8} (h : uAH w=true) : N10 w:=uKv h
theorem N10.join {L : List (List UInt8)} (h : ∀ x ∈ L,N10 x) : N10 (Lib.join L [44,32]):=by
 have hs : N10 [44,32]:=by unfold N10; decide
 have tail : ∀ {L : List (List UInt8)},(∀ x ∈ L,N10 x)→N10 (Lib.joinTail [44,32] L):=by
  intro L
  induction L with
  | nil=>intro _ b hb; simp [Lib.joinTail] at hb
  | cons x L ih =>
   intro h
   have e : Lib.joinTail [44,32] (x :: L)=[44,32]++(x++Lib.joinTail [44,32] L):=by simp [Lib.joinTail]
   rw [e]
   exact hs.app ((h x (by simp)).app (ih fun y hy=>h y (by simp [hy])))
 cases L with
 | nil=>intro b hb; rw [Lib.join_nil] at hb; simp at hb
 | cons x L =>
  rw [Lib.join_cons]
  exact (h x (by simp)).app (tail fun y hy=>h y (by simp [hy]))
end Go.Proofs.YtnjjdbapadkomaaGreatDoor
namespace Go.Proofs.YtnjjdbapadkomaaGreatDoor
open Go Go.Abs
theorem uFi (n : Nar) (hd : ∀ g ∈ n.goals,g.data.length≤2097152) : Ctr sys 8 [xn n] [] (xb true) none []:=by
 refine uAw Tryz.func8 rfl rfl rfl rfl rfl rfl ?_;refine uAe (uAb ?_);refine uAu rfl (uAR rfl rfl rfl rfl) ?_;refine uAa rfl rfl rfl (uAd rfl gU) ?_;refine uAf ?_;refine uAe ?_;refine uAe (uAb ?_);refine uAv rfl rfl rfl rfl rfl rfl gU gU (uG0) rfl ?_;refine uAa rfl rfl rfl (uAU rfl gU) ?_;refine uAa rfl rfl rfl (uAc rfl gU) ?_;refine uAa rfl rfl rfl (uAt rfl gU rfl rfl rfl rfl rfl) ?_;refine uAv rfl rfl rfl rfl rfl rfl gU (fun hh=>gA ((fun hh=>hh) hh) (rfl)) (uJQ n hd) rfl ?_;refine uAa rfl rfl rfl (uAU rfl (fun hh=>hh)) ?_;refine uAa rfl rfl rfl (uAL rfl rfl gU (fun _ hi=>gP rfl hi)) ?_;refine uAf ?_;refine uAn (s:=⟨[(1,_,_),(9,_,_)],[(.l 1,_)],[],[]⟩) (uAj (⟨sx rfl,sx rfl,trivial⟩) (⟨sx rfl,trivial⟩) trivial) ?_;refine uAm rfl (fun hc=>?_) (fun hc=>?_)
 ·refine uAe (uAb ?_)
  refine uAv rfl rfl rfl rfl rfl rfl gU gU (uG0) rfl ?_;refine uAa rfl rfl rfl (uAd rfl gU) ?_;refine uAf ?_;refine uAo ?_
  repeat (first | refine tR ?_ | refine bR ?_)
  refine uAq rfl ?_ trivial
  rfl
 ·try simp only [nn,uAh,T.rows_len,Gl.rows_len,Fs.rows_len,Sp.rows_len] at hc
  obtain ⟨p1,p2,p3,p4⟩:=uMZ (n:=n) (by simpa using hc)
  refine uAp ?_;refine uAe ?_;refine awp_drawn' (by kernel_rfl) ?_;refine uBR rfl rfl rfl rfl rfl rfl rfl gU rfl rfl rfl rfl rfl ?_;refine uBa rfl rfl rfl rfl rfl rfl rfl gU gU (uKb _ p3 p4) rfl ?_;refine uBR rfl rfl rfl rfl rfl rfl rfl gU rfl rfl rfl rfl rfl ?_;refine uBa rfl rfl rfl rfl rfl rfl rfl gU gU (uIO _ p3 p4) rfl ?_;refine uBa rfl rfl rfl rfl rfl rfl rfl gU gU (uIk _ _ rfl) rfl ?_;refine uAk rfl rfl rfl rfl (uAd rfl gU) ?_;refine uBf (by kernel_rfl) ?_;refine uAo ?_
  repeat (first | refine tR ?_ | refine bR ?_)
  refine uAq rfl ?_ trivial
  rfl
end Go.Proofs.YtnjjdbapadkomaaGreatDoor
namespace Go.Abs
def uBe (P : Program) (M : Nat) : Nat→TypeId→List C→Prop
 | 0,_,_=>False
 | n + 1,t,cs=>match P.underlying t with
  | some .bool=>∃ x,cs=[.b x]
  | some (.int k)=>∃ m,cs=[.i k m]∧(Lit.int k m).wf=true
  | some .string=>∃ l,cs=[.s l]∧l.length≤M
  | some (.slice e)=>∃ es,cs=[.sl (P.cellsOf e) es]∧es.length≤M ∧ ∀ row,row ∈ es→uBe P M n e row
  | some (.struct fs)=>uFw (uBe P M n) fs.toList cs
  | some (.array m e)=>hasN (uBe P M n e) m cs
  | _=>False
section
variable {H : Type} {enc : TypeId × Value→H} {P : Program} {L : List TypeId} {w : World}
structure Bnd (P : Program) (L : List TypeId) (M : Nat) (B : TypeId→DataW H→Prop) : Prop where
 str : ∀ {t : TypeId} {s : List UInt8},P.underlying t=some .string→B t (.lit (.string s))→s.length≤M
 sl : ∀ {t e : TypeId} {es sp : List (DataW H)},t ∈ L→P.underlying t=some (.slice e)→B t (.slice es sp)→es.length≤M ∧ ∀ x ∈ es,B e x
 st : ∀ {t : TypeId} {fs : Array Field} {ps : List (DataW H)},P.underlying t=some (.struct fs)→B t (.agg ps) → ∀ (j : Nat) (f : Field) (x : DataW H),fs.toList[j]? = some f→ps[j]? = some x→B f.type x
 arr : ∀ {t e : TypeId} {n : Nat} {ps : List (DataW H)},P.underlying t=some (.array n e)→B t (.agg ps) → ∀ x ∈ ps,B e x
theorem uHD {M : Nat} {B : TypeId→DataW H→Prop} (hB : Bnd P L M B) (hL : uIh P L=true) : ∀ (fuel : Nat) (t : TypeId) (vs : List Value) (d : DataW H) (p : List MemPlace),t ∈ L→B t d →
  DataW.trod enc P w 0 (fun _=>true) true fuel t vs=some (d,p) → ∃ cs,uBe P M fuel t cs∧All2 (CRep w (topG w).S) cs vs∧cs.length=P.cellsOf t
 | 0,t,vs,d,p,_,_,h=>by simp [DataW.trod] at h
 | fuel + 1,t,vs,d,p,ht,hbd,h=>by
  have IH:=uHD hB hL fuel
  have hc:=List.all_eq_true.1 hL t ht
  unfold DataW.trod at h
  split at h
  ·rename_i b hu
   simp only [hu,beq_iff_eq] at hc
   exact ⟨[.b b],by simp only [uBe,hu]; exact ⟨_,rfl⟩,⟨.b b,trivial⟩,hc.symm⟩
  ·rename_i k k' n hu
   simp only [hu,beq_iff_eq] at hc
   split at h
   ·rename_i hk
    obtain ⟨rfl,hwf⟩:=hk
    exact ⟨[.i k' n],by simp only [uBe,hu]; exact ⟨n,rfl,hwf⟩,⟨.i _ n,trivial⟩,hc.symm⟩
   ·simp at h
  ·rename_i hu; simp only [hu] at hc; simp at hc
  ·rename_i s hu
   simp only [hu,beq_iff_eq] at hc
   split at h
   ·rename_i hs
    have hs' : s.data.toList.length≤9223372036854775807:=by
     have h1 : s.data.toList.length=s.size:=rfl
     have h2 : maxLen=9223372036854775807:=by decide
     omega
    simp only [Option.some.injEq,Prod.mk.injEq] at h
    obtain ⟨rfl,_⟩:=h
    refine ⟨[.s s.data.toList],by simp only [uBe,hu]; exact ⟨_,rfl,hB.str hu hbd⟩,⟨?_,trivial⟩,hc.symm⟩
    have := CRep.s (w := w) (S := (topG w).S) s.data.toList hs'
    rwa [uKz] at this
   ·simp at h
  ·rename_i hu; simp only [hu] at hc; simp at hc
  ·rename_i hu; simp only [hu] at hc; simp at hc
  ·rename_i e hu
   simp only [hu,Bool.and_eq_true,beq_iff_eq] at hc
   exact ⟨[.sl (P.cellsOf e) []],by simp [uBe,hu],⟨.nil _,trivial⟩,hc.1.1.symm⟩
  ·rename_i e a len cap hu
   simp only [hu,Bool.and_eq_true,beq_iff_eq,decide_eq_true_eq,bne_iff_ne] at hc
   obtain ⟨⟨hc1,heL⟩,hsz0⟩:=hc
   simp only at h
   split at h
   ·rename_i hb
    obtain ⟨_,hlc,hcm⟩:=hb
    have hmax : len≤9223372036854775807:=by
     have h2 : maxLen=9223372036854775807:=by decide
     omega
    simp only [Option.bind_eq_some_iff,if_true,Option.map_eq_some_iff] at h
    obtain ⟨elems,h1,rest,h2,hd⟩:=h
    simp only [Prod.mk.injEq] at hd
    obtain ⟨rfl,_⟩:=hd
    have hbs:=hB.sl ht hu hbd
    have hel0 : ∀ i,i < len → ∃ ci y,w.cells? 0 (a.add (i * P.cellsOf e)) (P.cellsOf e)=some ci∧DataW.trod enc P w 0 (fun _=>true) true fuel e ci=some y∧B e y.1:=by
     intro i hil
     obtain ⟨y,hy,hy2⟩:=uF0 h1 (i:=i) (x:=i) (by simp [hil])
     simp only [Option.bind_eq_some_iff] at hy
     obtain ⟨ci,q1,q2⟩:=hy
     exact ⟨ci,y,q1,q2,hbs.2 _ (List.mem_map.2 ⟨y,List.mem_of_getElem? hy2,rfl⟩)⟩
    have hlen0 : elems.length=len := by have := Go.mapM_some_length h1; simpa using this
    have hel : ∀ i,i < cap → ∃ ci y,w.cells? 0 (a.add (i * P.cellsOf e)) (P.cellsOf e)=some ci∧DataW.trod enc P w 0 (fun _=>true) true fuel e ci=some y:=by
     intro i hi
     by_cases hil : i < len
     ·obtain ⟨y,hy,_⟩:=uF0 h1 (i:=i) (x:=i) (by simp [hil])
      simp only [Option.bind_eq_some_iff] at hy
      obtain ⟨ci,q1,q2⟩:=hy
      exact ⟨ci,y,q1,q2⟩
     ·obtain ⟨y,hy,_⟩:=uF0 h2 (i:=i - len) (x:=i - len) (by simp [show i - len < cap - len by omega])
      rw [show len + (i - len)=i by omega] at hy
      simp only [Option.bind_eq_some_iff] at hy
      obtain ⟨ci,q1,q2⟩:=hy
      exact ⟨ci,y,q1,q2⟩
    have hspot : cap≠0→a.spot=none:=by
     intro h0
     obtain ⟨ci,y,q1,_⟩:=hel 0 (by omega)
     obtain ⟨q3,q4⟩:=uIz q1
     have hlt : 0 < ci.length:=by omega
     have := q4 0 _ (List.getElem?_eq_getElem hlt)
     simpa [Addr.add] using World.cell?_spot this
    obtain ⟨es,hesl,hes⟩:=uCM (R:=fun i row=>uBe P M fuel e row∧row.length=P.cellsOf e∧RowAt w (topG w).S a.block (a.off + i * P.cellsOf e) row) len (by
     intro i hi
     obtain ⟨ci,⟨y1,y2⟩,q1,q2,q3⟩:=hel0 i (by omega)
     obtain ⟨row,r1,r2,r3⟩:=IH e ci y1 y2 heL q3 q2
     refine ⟨row,r1,r3,fun j c hj=>?_⟩
     obtain ⟨v,hv,hrep⟩:=r2.get j c hj
     have hcell:=(uIz q1).2 j v hv
     have hsp:=hspot (by omega)
     obtain ⟨b,o,sp⟩:=a
     simp only at hsp
     subst hsp
     rw [uMU] at hcell
     exact ⟨uNj (World.block_lt_of_cell? w ⟨b,o + i * P.cellsOf e + j,none⟩ hcell),v,hcell,hrep⟩)
    refine ⟨[.sl (P.cellsOf e) es],?_,⟨?_,trivial⟩,hc1.symm⟩
    ·simp only [uBe,hu]
     refine ⟨es,rfl,by have := hbs.1; rw [List.length_map] at this; omega,fun row hr=>?_⟩
     obtain ⟨i,hi⟩:=List.getElem?_of_mem hr
     exact (hes i row hi).1
    ·exact CRep.mk_any hesl hlc hmax hspot fun i row hi=>(hes i row hi).2
   ·simp at h
  ·rename_i vs _ _ fs hu
   simp only [hu,beq_iff_eq] at hc
   split at h
   ·rename_i hlen
    simp only [Option.map_eq_some_iff] at h
    obtain ⟨xs,hxs,hd⟩:=h
    simp only [Prod.mk.injEq] at hd
    obtain ⟨rfl,_⟩:=hd
    have hbs:=hB.st hu hbd
    have key : ∀ (fs : List Field) (off : Nat) (xs : List (DataW H × List MemPlace)),uFA P L fs off=some (P.cellsOf t) →
      (fs.mapM fun f=>DataW.trod enc P w 0 (fun _=>true) true fuel f.type ((vs.drop f.offset).take (P.cellsOf f.type)))=some xs→(∀ (j : Nat) (f : Field) (x : DataW H),fs[j]? = some f→(xs.map (·.1))[j]? = some x→B f.type x) →
      ∃ cs,uFw (uBe P M fuel) fs cs∧All2 (CRep w (topG w).S) cs (vs.drop off)∧cs.length=P.cellsOf t - off:=by
     intro fs
     induction fs with
     | nil =>
      intro off xs hf _ _
      simp only [uFA,Option.some.injEq] at hf
      refine ⟨[],rfl,?_,by simp; omega⟩
      rw [List.drop_eq_nil_of_le (by omega)]
      trivial
     | cons f r ih =>
      intro off xs hf hm hbb
      simp only [uFA] at hf
      split at hf
      ·rename_i hfo
       obtain ⟨rfl,hfL⟩:=hfo
       simp only [List.mapM_cons,Option.bind_eq_bind,Option.bind_eq_some_iff] at hm
       obtain ⟨⟨y1,y2⟩,hy,ys,hys,hxs2⟩:=hm
       have hxs2 : (y1,y2) :: ys=xs:=by simpa using hxs2
       subst hxs2
       obtain ⟨a,a1,a2,a3⟩:=IH _ _ _ _ hfL (hbb 0 f y1 rfl rfl) hy
       obtain ⟨b,b1,b2,b3⟩:=ih _ _ hf hys (fun j f x h1 h2=>hbb (j + 1) f x (by simpa using h1) (by simpa using h2))
       have hle:=uJg hf
       refine ⟨a++b,⟨a,b,rfl,a1,b1⟩,?_,by simp; omega⟩
       have := a2.append b2
       rwa [← List.drop_drop,List.take_append_drop] at this
      ·simp at hf
    obtain ⟨cs,c1,c2,c3⟩:=key fs.toList 0 xs hc hxs hbs
    exact ⟨cs,by simp only [uBe,hu]; exact c1,by simpa using c2,by simpa using c3⟩
   ·simp at h
  ·rename_i vs _ _ n e hu
   simp only [hu,Bool.and_eq_true,beq_iff_eq,decide_eq_true_eq] at hc
   obtain ⟨heL,hct⟩:=hc
   split at h
   ·rename_i hlen
    simp only [Option.map_eq_some_iff] at h
    obtain ⟨xs,hxs,hd⟩:=h
    simp only [Prod.mk.injEq] at hd
    obtain ⟨rfl,_⟩:=hd
    have hbs:=hB.arr hu hbd
    have key : ∀ (m k : Nat),k + m=n → ∃ cs,hasN (uBe P M fuel e) m cs∧All2 (CRep w (topG w).S) cs (vs.drop (k * P.cellsOf e))∧cs.length=m * P.cellsOf e:=by
     intro m
     induction m with
     | zero =>
      intro k hk
      refine ⟨[],rfl,?_,by simp⟩
      have : k=n:=by omega
      subst this
      rw [List.drop_eq_nil_of_le (by omega)]
      trivial
     | succ m ih =>
      intro k hk
      obtain ⟨⟨y1,y2⟩,hy,hy2⟩:=uF0 hxs (i:=k) (x:=k) (by simp [show k < n by omega])
      obtain ⟨a,a1,a2,a3⟩:=IH _ _ _ _ heL (hbs _ (List.mem_map.2 ⟨(y1,y2),List.mem_of_getElem? hy2,rfl⟩)) hy
      obtain ⟨b,b1,b2,b3⟩:=ih (k + 1) (by omega)
      refine ⟨a++b,⟨a,b,rfl,a1,b1⟩,?_,by simp [a3,b3,Nat.succ_mul]; omega⟩
      have := a2.append b2
      rwa [Nat.succ_mul,← List.drop_drop,List.take_append_drop] at this
    obtain ⟨cs,c1,c2,c3⟩:=key n 0 (by omega)
    exact ⟨cs,by simp only [uBe,hu]; exact c1,by simpa using c2,by rw [c3,hct]⟩
   ·simp at h
  all_goals first | (rename_i hu; simp only [hu] at hc; simp at hc) | (simp at h) | trace_state
theorem uMi {M : Nat} {B : TypeId→DataW H→Prop} (hB : Bnd P L M B) (hL : uIh P L=true) {t : TypeId} {v : Value} {base : Nat} {d : TypeDesc} {x : DataW H} {p : List MemPlace} (ht : t ∈ L) (hd : P.underlying t=some d) (hp : rowD d=true) (hok : Value.okWide P w .any base t v)
  (hbd : B t x) (h : DataW.Trod enc P w 0 (fun _=>true) true t v x p) : ∃ n cs,uBe P M n t cs∧XRep w (topG w) (.v (.agg cs)) v:=by
 obtain ⟨n,hn⟩:=h
 obtain ⟨vs,rfl⟩:=uKc hd hp hok
 obtain ⟨cs,h1,h2,_⟩:=uHD hB hL n t _ _ _ ht hbd hn
 exact ⟨n,cs,h1,vs.toList,by simp,by simpa [Value.cells] using h2⟩
end
end Go.Abs
namespace Go.Proofs.YtnjjdbapadkomaaGreatDoor
open Go Go.Abs
theorem uCM {α : Type} {f : α→List C} {R : List C→Prop} (h : ∀ row,R row → ∃ t : α,row=f t) : ∀ es : List (List C),(∀ row,row ∈ es→R row) → ∃ ts : List α,es=ts.map f
 | [],_=>⟨[],rfl⟩
 | e :: es,he=>by
  obtain ⟨t,ht⟩:=h e (he e (List.mem_cons_self ..))
  obtain ⟨ts,hts⟩:=uCM h es fun row hr=>he row (List.mem_cons_of_mem _ hr)
  exact ⟨t :: ts,by rw [List.map_cons,← hts,ht]⟩
theorem own : ownKnob Tryz.prog.godebug=none:=by kernel_rfl
theorem uMK : laidOutB Tryz.prog=true:=by kernel_rfl
theorem uNh {W : World} (h : W.ShapedOpen Tryz.prog) : ∀ g ∈ sys.gv,g.1 < W.heap.size∧g.2 W.heap[g.1]? := by
 intro g hg
 have hg : g ∈ ([(0,intAt)] : List (Nat × (Option Obj→Prop))):=hg
 obtain rfl : g=(0,intAt):=by simpa using hg
 obtain ⟨m,hm⟩ : ∃ m,W.cell? ⟨0,0,none⟩=some (.int .i64 m):=laysM146.s1_3 W h
 exact ⟨World.block_lt_of_cell? (a:=⟨0,0,none⟩) W hm,intAt.of hm⟩
end Go.Proofs.YtnjjdbapadkomaaGreatDoor
namespace Go.Proofs.YtnjjdbapadkomaaGreatDoor
open Go Go.Abs
theorem uNd {H : Type} (d : DataW H) : 1≤Rows.uptoBulk d:=by
 cases d with
 | lit l=>cases l <;> simp [Rows.uptoBulk]
 | nil=>simp [Rows.uptoBulk]
 | ptr d=>simp [Rows.uptoBulk]
 | slice elems spare=>simp [Rows.uptoBulk]
 | agg parts=>simp [Rows.uptoBulk]
 | iface t d=>simp [Rows.uptoBulk]
 | map entries=>simp [Rows.uptoBulk]
 | held h=>simp [Rows.uptoBulk]
theorem uFW {H : Type} {d : DataW H} {l : List (DataW H)} (h : d ∈ l) : Rows.uptoBulk d≤Rows.uptoBulkAll l:=by
 induction l with
 | nil=>cases h
 | cons x r ih =>
  simp only [Rows.uptoBulkAll]
  rcases List.mem_cons.1 h with e | e
  ·subst e; omega
  ·have := ih e; omega
theorem uNg {H : Type} (l : List (DataW H)) : l.length≤Rows.uptoBulkAll l:=by
 induction l with
 | nil=>simp
 | cons x r ih=>have := uNd x; simp only [Rows.uptoBulkAll,List.length_cons]; omega
theorem uL5 {H : Type} {L : List TypeId} : Bnd Tryz.prog L 1048576 (fun _ (d : DataW H)=>Rows.uptoBulk d≤1048576) where
 str:=fun _ h=>by simp only [Rows.uptoBulk] at h; omega
 sl:=fun {t e es sp} _ _ h=>by
  simp only [Rows.uptoBulk] at h
  have h1:=uNg es
  exact ⟨by omega,fun x hx=>by have := uFW hx; omega⟩
 st:=fun {t fs ps} _ h j f x _ hx=>by
  simp only [Rows.uptoBulk] at h
  have := uFW (List.mem_of_getElem? hx); omega
 arr:=fun {t e n ps} _ h x hx=>by
  simp only [Rows.uptoBulk] at h
  have := uFW hx; omega
theorem uNa : uIh Tryz.prog [3,9,5,22,39,37,73,23,67,24,70,25,27]=true:=by kernel_rfl
theorem uMl : Tryz.prog.cellsOf 39=4:=by kernel_rfl
theorem uNs : Tryz.prog.cellsOf 9=1:=by kernel_rfl
theorem uMP : Tryz.prog.cellsOf 73=3:=by kernel_rfl
theorem uMQ : Tryz.prog.cellsOf 67=7:=by kernel_rfl
theorem uMJ : Tryz.prog.cellsOf 70=5:=by kernel_rfl
theorem uEj {M n : Nat} {cs : List C} (h : uBe Tryz.prog M n 3 cs) : ∃ m,cs=[.i .i64 m]:=by
 cases n with
 | zero=>exact h.elim
 | succ n =>
  simp only [uBe,Tryz.underlying3] at h
  obtain ⟨m,h,_⟩:=h
  exact ⟨m,h⟩
theorem uCX {M n : Nat} {cs : List C} (h : uBe Tryz.prog M n 9 cs) : ∃ l,cs=[.s l]:=by
 cases n with
 | zero=>exact h.elim
 | succ n =>
  simp only [uBe,Tryz.underlying9] at h
  obtain ⟨m,h,_⟩:=h
  exact ⟨m,h⟩
theorem uI1 {M n : Nat} {cs : List C} (h : uBe Tryz.prog M n 22 cs) : ∃ l : List (List UInt8),cs=[.sl 1 (strR l)]:=by
 cases n with
 | zero=>exact h.elim
 | succ n =>
  simp only [uBe,Tryz.underlying22,uNs] at h
  obtain ⟨es,h1,_,h5⟩:=h
  obtain ⟨ts,rfl⟩:=uCM (f:=fun s : List UInt8=>[C.s s]) (fun row hr=>uCX hr) es h5
  exact ⟨ts,h1⟩
theorem uIU {M : Nat} (n : Nat) : ∀ cs : List C,uBe Tryz.prog M n 39 cs → ∃ t : T,cs=t.cells:=by
 induction n using Nat.strongRecOn with
 | ind n IH =>
  intro cs h
  cases n with
  | zero=>exact h.elim
  | succ n =>
   simp only [uBe,Tryz.underlying39,uFw] at h
   obtain ⟨a,b,rfl,h1,c,d,rfl,h2,e,f,rfl,h3,g,k,rfl,h4,rfl⟩:=h
   obtain ⟨m1,rfl⟩:=uEj h1
   obtain ⟨m2,rfl⟩:=uCX h2
   obtain ⟨m3,rfl⟩:=uEj h3
   cases n with
   | zero=>exact h4.elim
   | succ n =>
    simp only [uBe,Tryz.underlying37,uMl] at h4
    obtain ⟨es,rfl,_,h5⟩:=h4
    obtain ⟨ts,rfl⟩:=uCM (f:=T.cells) (IH n (by omega)) es h5
    exact ⟨.mk m1 m2 m3 ts,by simp [T.cells,T.kind,T.name,T.sort,T.kids,T.rows_eq]⟩
theorem uLo {M n : Nat} {cs : List C} (h : uBe Tryz.prog M n 37 cs) : ∃ ts : List T,cs=[.sl 4 (T.rows ts)]∧ts.length≤M:=by
 cases n with
 | zero=>exact h.elim
 | succ n =>
  simp only [uBe,Tryz.underlying37,uMl] at h
  obtain ⟨es,h1,h2,h5⟩:=h
  obtain ⟨ts,rfl⟩:=uCM (f:=T.cells) (uIU n) es h5
  exact ⟨ts,by rw [h1,T.rows_eq],by simpa using h2⟩
theorem uLw {M n : Nat} {cs : List C} (h : uBe Tryz.prog M n 73 cs) : ∃ f : Fs,cs=f.cells:=by
 cases n with
 | zero=>exact h.elim
 | succ n =>
  simp only [uBe,Tryz.underlying73,uFw] at h
  obtain ⟨a,b,rfl,h1,c,d,rfl,h2,e,f,rfl,h3,rfl⟩:=h
  obtain ⟨m1,rfl⟩:=uCX h1
  obtain ⟨m2,rfl⟩:=uCX h2
  obtain ⟨m3,rfl⟩:=uEj h3
  exact ⟨⟨m1,m2,m3⟩,rfl⟩
theorem uMe {M n : Nat} {cs : List C} (h : uBe Tryz.prog M n 67 cs) : ∃ s : Sp,cs=s.cells:=by
 cases n with
 | zero=>exact h.elim
 | succ n =>
  simp only [uBe,Tryz.underlying67,uFw] at h
  obtain ⟨a,b,rfl,h1,c,d,rfl,h2,e,f,rfl,h3,g,k,rfl,h4,rfl⟩:=h
  obtain ⟨m1,rfl⟩:=uCX h1
  obtain ⟨m2,rfl⟩:=uCX h2
  obtain ⟨m3,rfl⟩:=uIU _ _ h3
  obtain ⟨m4,rfl⟩:=uEj h4
  exact ⟨⟨m1,m2,m3,m4⟩,by cases m3; rfl⟩
theorem uL3 {M n : Nat} {cs : List C} (h : uBe Tryz.prog M n 70 cs) : ∃ g : {g : Gl // g.data.length≤M},cs=g.1.cells:=by
 cases n with
 | zero=>exact h.elim
 | succ n =>
  simp only [uBe,Tryz.underlying70,uFw] at h
  obtain ⟨a,b,rfl,h1,c,d,rfl,h2,e,f,rfl,h3,g,k,rfl,h4,u,v,rfl,h5,rfl⟩:=h
  obtain ⟨m1,rfl⟩:=uEj h1
  obtain ⟨m2,rfl⟩:=uCX h2
  obtain ⟨m3,rfl⟩:=uCX h3
  obtain ⟨m4,rfl,hl⟩:=uLo h4
  obtain ⟨m5,rfl⟩:=uEj h5
  exact ⟨⟨⟨m1,m2,m3,m4,m5⟩,hl⟩,rfl⟩
theorem uKL {M n : Nat} {cs : List C} (h : uBe Tryz.prog M n 23 cs) : ∃ l : List Fs,cs=[.sl 3 (Fs.rows l)]:=by
 cases n with
 | zero=>exact h.elim
 | succ n =>
  simp only [uBe,Tryz.underlying23,uMP] at h
  obtain ⟨es,h1,_,h5⟩:=h
  obtain ⟨ts,rfl⟩:=uCM (f:=Fs.cells) (fun row hr=>uLw hr) es h5
  exact ⟨ts,h1⟩
theorem uLc {M n : Nat} {cs : List C} (h : uBe Tryz.prog M n 24 cs) : ∃ l : List Sp,cs=[.sl 7 (Sp.rows l)]:=by
 cases n with
 | zero=>exact h.elim
 | succ n =>
  simp only [uBe,Tryz.underlying24,uMQ] at h
  obtain ⟨es,h1,_,h5⟩:=h
  obtain ⟨ts,rfl⟩:=uCM (f:=Sp.cells) (fun row hr=>uMe hr) es h5
  exact ⟨ts,h1⟩
theorem uK9 {M n : Nat} {cs : List C} (h : uBe Tryz.prog M n 25 cs) : ∃ l : List Gl,cs=[.sl 5 (Gl.rows l)] ∧ ∀ g ∈ l,g.data.length≤M:=by
 cases n with
 | zero=>exact h.elim
 | succ n =>
  simp only [uBe,Tryz.underlying25,uMJ] at h
  obtain ⟨es,h1,_,h5⟩:=h
  obtain ⟨ts,rfl⟩:=uCM (f:=fun g : {g : Gl // g.data.length≤M}=>g.1.cells) (fun row hr=>uL3 hr) es h5
  refine ⟨ts.map (·.1),by rw [h1,Gl.rows,List.map_map]; rfl,fun g hg=>?_⟩
  obtain ⟨x,_,rfl⟩:=List.mem_map.1 hg
  exact x.2
theorem uND {n : Nat} {cs : List C} (h : uBe Tryz.prog 1048576 n 27 cs) : ∃ m : {m : Nar // ∀ g ∈ m.goals,g.data.length≤2097152},cs=m.1.cells:=by
 cases n with
 | zero=>exact h.elim
 | succ n =>
  simp only [uBe,Tryz.underlying27,uFw] at h
  obtain ⟨a,b,rfl,h1,c,d,rfl,h2,e,f,rfl,h3,g,k,rfl,h4,u,v,rfl,h5,x,y,rfl,h6,rfl⟩:=h
  obtain ⟨m1,rfl⟩:=uCX h1
  obtain ⟨m2,rfl⟩:=uI1 h2
  obtain ⟨m3,rfl⟩:=uKL h3
  obtain ⟨m4,rfl⟩:=uI1 h4
  obtain ⟨m5,rfl⟩:=uLc h5
  obtain ⟨m6,rfl,hl⟩:=uK9 h6
  exact ⟨⟨⟨m1,m2,m3,m4,m5,m6⟩,fun g hg=>Nat.le_trans (hl g hg) (by omega)⟩,rfl⟩
end Go.Proofs.YtnjjdbapadkomaaGreatDoor
