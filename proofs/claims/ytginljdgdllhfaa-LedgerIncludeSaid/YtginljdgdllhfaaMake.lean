/- Contracts: terms that are made. -/
import Derived.Test.YtginljdgdllhfaaValid2
set_option linter.unusedVariables false
set_option linter.unusedSimpArgs false
namespace Go.Proofs.Ytginljdgdllhfaa
open Go Go.Abs
def sPair : List UInt8 := [112, 97, 105, 114]
def sHash : List UInt8 := [104, 97, 115, 104]
def sLeaf : List UInt8 := [108, 101, 97, 102]
def sNode : List UInt8 := [110, 111, 100, 101]
def sNone : List UInt8 := [110, 111, 110, 101]
def T.app (name : List UInt8) (ks : List T) : T := .mk 3 name 0 ks
def T.atom (name : List UInt8) (s : Int) : T := .mk 2 name s []
def hashT (a b : T) : T := T.app sHash [T.app sPair [a, b]]
def leafT (t : T) : T := hashT (T.atom sLeaf 5) t
def nodeT (a b : T) : T := hashT (T.atom sNode 5) (T.app sPair [a, b])

theorem T.take4 (t : T) : t.cells.take 4 = t.cells := rfl
theorem atom_spec (name : List UInt8) (s : Int) : Ctr sys 29 [xs name, xi s] [] (xt (T.atom name s)) none [] := by
  refine spec_intro Try.func29 rfl rfl rfl rfl rfl rfl ?_
  refine awp_seq ?_
  refine awp_region ?_
  refine al_do rfl (does_alloc rfl rfl rfl) ?_
  refine al_nil ?_
  refine awp_seq ?_
  refine awp_region ?_
  refine al_pure rfl rfl rfl (pure_move rfl (fun _ => rfl)) ?_
  refine al_pure rfl rfl rfl (pure_move rfl (fun _ => rfl)) ?_
  refine al_pure rfl rfl rfl (pure_build rfl Try.underlying26 rfl (fun _ => rfl)) ?_
  refine al_do rfl (does_store rfl rfl rfl rfl rfl rfl rfl) ?_
  refine al_nil ?_
  refine awp_ret ?_
  repeat (first | refine thenS_ret ?_ | refine blockS_ret ?_)
  refine ret_ok rfl ?_ trivial
  show X.v (.agg _) = X.v (.agg _)
  simp [T.atom, T.cells, T.kind, T.name, T.sort, T.kids, T.rows]; rfl
theorem App_spec (name : List UInt8) (ks : List T) (rs : List (List C)) (h : rs = T.rows ks) (hl : ks.length ≤ 1000) : Ctr sys 46 [xs name, .v (.c (.sl 4 rs))] [] (xt (T.app name ks)) none [] := by
  have hl2 : rs.length ≤ 1000 := by rw [h, T.rows_len]; exact hl
  refine spec_intro Try.func46 rfl rfl rfl rfl rfl rfl ?_
  refine awp_seq ?_
  refine awp_region ?_
  refine al_do rfl (does_alloc rfl rfl rfl) ?_
  refine al_nil ?_
  refine awp_seq ?_
  refine awp_region ?_
  refine al_pure rfl rfl rfl (pure_move rfl (fun _ => rfl)) ?_
  refine al_buildSlice (xs := []) rfl rfl rfl rfl rfl rfl rfl rfl rfl (fun _ => rfl) rfl ?_
  refine al_pure rfl rfl rfl (pure_move rfl (fun _ => rfl)) ?_
  refine al_do rfl (does_append rfl rfl rfl rfl rfl rfl rfl (by simp; omega) (by simp; omega)) ?_
  refine al_pure rfl rfl rfl (pure_build rfl Try.underlying26 rfl (fun _ => rfl)) ?_
  refine al_do rfl (does_store rfl rfl rfl rfl rfl rfl rfl) ?_
  refine al_nil ?_
  refine awp_ret ?_
  repeat (first | refine thenS_ret ?_ | refine blockS_ret ?_)
  refine ret_ok rfl ?_ trivial
  subst h
  rfl
theorem app_spec (name : List UInt8) (ks : List T) (rs : List (List C)) (h : rs = T.rows ks) : Ctr sys 57 [xs name, .v (.c (.sl 4 rs))] [] (xt (T.app name ks)) none [] := by
  refine spec_intro Try.func57 rfl rfl rfl rfl rfl rfl ?_
  refine awp_seq ?_
  refine awp_region ?_
  refine al_do rfl (does_alloc rfl rfl rfl) ?_
  refine al_nil ?_
  refine awp_seq ?_
  refine awp_region ?_
  refine al_pure rfl rfl rfl (pure_move rfl (fun _ => rfl)) ?_
  refine al_pure rfl rfl rfl (pure_move rfl (fun _ => rfl)) ?_
  refine al_pure rfl rfl rfl (pure_build rfl Try.underlying26 rfl (fun _ => rfl)) ?_
  refine al_do rfl (does_store rfl rfl rfl rfl rfl rfl rfl) ?_
  refine al_nil ?_
  refine awp_ret ?_
  repeat (first | refine thenS_ret ?_ | refine blockS_ret ?_)
  refine ret_ok rfl ?_ trivial
  subst h
  rfl
theorem tag_spec (name : List UInt8) : Ctr sys 58 [xs name] [] (xt (T.atom name 5)) none [] := by
  refine spec_intro Try.func58 rfl rfl rfl rfl rfl rfl ?_
  refine awp_seq ?_
  refine awp_region ?_
  refine al_do rfl (does_alloc rfl rfl rfl) ?_
  refine al_nil ?_
  refine awp_seq ?_
  refine awp_region ?_
  refine al_pure rfl rfl rfl (pure_move rfl (fun _ => rfl)) ?_
  refine al_pure rfl rfl rfl (pure_build rfl Try.underlying26 rfl (fun _ => rfl)) ?_
  refine al_do rfl (does_store rfl rfl rfl rfl rfl rfl rfl) ?_
  refine al_nil ?_
  refine awp_ret ?_
  repeat (first | refine thenS_ret ?_ | refine blockS_ret ?_)
  refine ret_ok rfl ?_ trivial
  show X.v (.agg _) = X.v (.agg _)
  simp [T.atom, T.cells, T.kind, T.name, T.sort, T.kids, T.rows]; rfl
theorem rtag_spec (name : List UInt8) : Ctr sys 47 [xs name] [] (xt (T.atom name 5)) none [] := by
  refine spec_intro Try.func47 rfl rfl rfl rfl rfl rfl ?_
  refine awp_seq ?_
  refine awp_region ?_
  refine al_do rfl (does_alloc rfl rfl rfl) ?_
  refine al_nil ?_
  refine awp_seq ?_
  refine awp_region ?_
  refine al_pure rfl rfl rfl (pure_move rfl (fun _ => rfl)) ?_
  refine al_call rfl rfl rfl rfl rfl rfl (fun _ => rfl) (fun _ => rfl) (atom_spec _ _) rfl ?_
  refine al_do rfl (does_store rfl rfl rfl rfl rfl rfl rfl) ?_
  refine al_nil ?_
  refine awp_ret ?_
  repeat (first | refine thenS_ret ?_ | refine blockS_ret ?_)
  refine ret_ok rfl ?_ trivial
  rfl
theorem hash_spec (a b : T) : Ctr sys 54 [xt a, xt b] [] (xt (hashT a b)) none [] := by
  refine spec_intro Try.func54 rfl rfl rfl rfl rfl rfl ?_
  refine awp_seq ?_
  refine awp_region ?_
  refine al_do rfl (does_box rfl rfl rfl rfl) ?_
  refine al_do rfl (does_box rfl rfl rfl rfl) ?_
  refine al_do rfl (does_alloc rfl rfl rfl) ?_
  refine al_nil ?_
  refine awp_seq ?_
  refine awp_region ?_
  refine al_pure rfl rfl rfl (pure_loadBoxRow rfl (fun _ => rfl) rfl rfl rfl rfl rfl) ?_
  refine al_pure rfl rfl rfl (pure_loadBoxRow rfl (fun _ => rfl) rfl rfl rfl rfl rfl) ?_
  refine al_buildSlice (xs := [_, _]) rfl rfl rfl rfl rfl rfl rfl rfl rfl (fun _ => rfl) rfl ?_
  refine al_call rfl rfl rfl rfl rfl rfl (fun _ => rfl) (fun _ => rfl) (App_spec sPair [a, b] _ (by simp [T.rows_eq, T.take4]) (by simp)) rfl ?_
  refine al_buildSlice (xs := [_]) rfl rfl rfl rfl rfl rfl rfl rfl rfl (fun _ => rfl) rfl ?_
  refine al_call rfl rfl rfl rfl rfl rfl (fun _ => rfl) (fun _ => rfl) (App_spec sHash [T.app sPair [a, b]] _ (by simp [T.rows_eq, T.take4]) (by simp)) rfl ?_
  refine al_do rfl (does_store rfl rfl rfl rfl rfl rfl rfl) ?_
  refine al_nil ?_
  refine awp_ret ?_
  repeat (first | refine thenS_ret ?_ | refine blockS_ret ?_)
  refine ret_ok rfl ?_ trivial
  rfl
theorem Leaf_spec (t : T) : Ctr sys 31 [xt t] [] (xt (leafT t)) none [] := by
  refine spec_intro Try.func31 rfl rfl rfl rfl rfl rfl ?_
  refine awp_seq ?_
  refine awp_region ?_
  refine al_do rfl (does_box rfl rfl rfl rfl) ?_
  refine al_do rfl (does_alloc rfl rfl rfl) ?_
  refine al_nil ?_
  refine awp_seq ?_
  refine awp_drawn' (by kernel_rfl) ?_
  refine dr_callN rfl rfl rfl rfl rfl rfl rfl (fun _ => rfl) (fun _ => rfl) (rtag_spec sLeaf) rfl ?_
  refine dr_loadRow rfl rfl rfl rfl rfl rfl rfl (fun _ => rfl) rfl rfl rfl rfl rfl ?_
  refine dr_callN rfl rfl rfl rfl rfl rfl rfl (fun _ => rfl) (fun _ => rfl) (hash_spec _ t) rfl ?_
  refine dr_store rfl rfl rfl rfl rfl rfl rfl rfl rfl rfl rfl rfl ?_
  refine dr_nil (by kernel_rfl) ?_
  refine awp_ret ?_
  repeat (first | refine thenS_ret ?_ | refine blockS_ret ?_)
  refine ret_ok rfl ?_ trivial
  rfl
theorem leaf_spec (t : T) : Ctr sys 59 [xt t] [] (xt (leafT t)) none [] := by
  refine spec_intro Try.func59 rfl rfl rfl rfl rfl rfl ?_
  refine awp_seq ?_
  refine awp_region ?_
  refine al_do rfl (does_box rfl rfl rfl rfl) ?_
  refine al_do rfl (does_alloc rfl rfl rfl) ?_
  refine al_nil ?_
  refine awp_seq ?_
  refine awp_drawn' (by kernel_rfl) ?_
  refine dr_callN rfl rfl rfl rfl rfl rfl rfl (fun _ => rfl) (fun _ => rfl) (tag_spec sLeaf) rfl ?_
  refine dr_loadRow rfl rfl rfl rfl rfl rfl rfl (fun _ => rfl) rfl rfl rfl rfl rfl ?_
  refine dr_build (xs := [_, _]) rfl rfl rfl rfl rfl rfl rfl rfl rfl rfl (fun _ => rfl) rfl ?_
  refine dr_callN rfl rfl rfl rfl rfl rfl rfl (fun _ => rfl) (fun _ => rfl) (app_spec sPair [T.atom sLeaf 5, t] _ (by simp [T.rows_eq, T.take4])) rfl ?_
  refine dr_build (xs := [_]) rfl rfl rfl rfl rfl rfl rfl rfl rfl rfl (fun _ => rfl) rfl ?_
  refine dr_callN rfl rfl rfl rfl rfl rfl rfl (fun _ => rfl) (fun _ => rfl) (app_spec sHash [T.app sPair [T.atom sLeaf 5, t]] _ (by simp [T.rows_eq, T.take4])) rfl ?_
  refine dr_store rfl rfl rfl rfl rfl rfl rfl rfl rfl rfl rfl rfl ?_
  refine dr_nil (by kernel_rfl) ?_
  refine awp_ret ?_
  repeat (first | refine thenS_ret ?_ | refine blockS_ret ?_)
  refine ret_ok rfl ?_ trivial
  rfl
end Go.Proofs.Ytginljdgdllhfaa
