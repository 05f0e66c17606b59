import Derived.Test.YtakkdaenindboaaRows
import Derived.Test.YtakkdaenindboaaLib
import Derived.Deep.QuietTactic
import Derived.BigQuiet
import Derived.Deep.DeepMust
import Derived.Deep.RegionHeld3
import Derived.Deep.DrawnRows
import Derived.Deep.RegionLaw

namespace Go.Proofs.Ytakkdaenindboaa
set_option linter.unusedVariables false
set_option linter.unusedSimpArgs false
open Go.RowKit
attribute [local go_sem ↓] Go.wp_at_zero Go.wp_at_succ

theorem ret_int {k : IntKind} {a b : Int} (h : a = b) : Ending.returned (.int k a) = .returned (.int k b) := by rw [h]

theorem tmod_neg_emod (v n : Int) (h1 : 1 ≤ n) (h : v.tmod n < 0) : v.tmod n + n = v % n := by
  have h2 := Int.emod_nonneg v (show n ≠ 0 by omega)
  have h3 := Int.emod_lt_of_pos v (show 0 < n by omega)
  rw [Int.tmod_eq_emod] at h ⊢
  split at h <;> split <;> simp_all <;> omega

theorem tmod_pos_emod (v n : Int) (h1 : 1 ≤ n) (h : 0 ≤ v.tmod n) : v.tmod n = v % n := by
  have h2 := Int.emod_nonneg v (show n ≠ 0 by omega)
  have h3 := Int.emod_lt_of_pos v (show 0 < n by omega)
  rw [Int.tmod_eq_emod] at h ⊢
  split at h <;> split <;> simp_all <;> omega

set_option maxHeartbeats 400000 in
theorem place_pos (v n : Int) (w : World) (h1 : 1 ≤ n) (h2 : n ≤ 9223372036854775807) :
    Calls Try.prog 13 #[.int .i64 v, .int .i64 n] w fun e w' => e = .returned (.int .i64 (v % n)) ∧ w = w' := by
  have h3 := Int.emod_nonneg v (show n ≠ 0 by omega)
  have h4 := Int.emod_lt_of_pos v (show 0 < n by omega)
  go_enter Try.func13, Try.ntmps13
  go_wp2
  · rename_i h
    have h5 := tmod_neg_emod v n h1 h
    go_ret
    exact ⟨ret_int (by rw [h5, IntWalk.wrap64_in _ ⟨by omega, by omega⟩]), rfl⟩
  · rename_i h
    have h5 := tmod_pos_emod v n h1 h
    go_ret
    exact ⟨ret_int h5, rfl⟩

end Go.Proofs.Ytakkdaenindboaa
