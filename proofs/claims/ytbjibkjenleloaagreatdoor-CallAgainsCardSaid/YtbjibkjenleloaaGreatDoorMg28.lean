/- Parts of a proof about the given program, in build order: CalV. No condition. -/
import Derived.Test.YtbjibkjenleloaaGreatDoorMg27
section
namespace Go.Proofs.YtbjibkjenleloaaGreatDoor
set_option linter.unusedVariables false
set_option linter.unusedSimpArgs false
open Go.RowKit
attribute [local go_sem ↓] Go.wp_at_zero Go.wp_at_succ
attribute [local go_sem] run_store_complex run_store_float

set_option maxHeartbeats 400000 in
theorem same_texts_nil (w : World) : Calls Tryz.prog 17 #[.slice none 0 0, .slice none 0 0] w fun e w' => e = .returned (.bool true) ∧ w = w' := by
  go_enter Tryz.func17, Tryz.ntmps17
  go_wp2_with fail
  go_loopw [5] (fun v wr => v = .int .i64 0 ∧ wr = w) (fun _ _ => 0)
  case atStart => exact ⟨rfl, rfl⟩
  case round =>
    obtain ⟨rfl, rfl⟩ := hrel
    go_wp2
    go_ret
    exact ⟨rfl, rfl⟩

theorem run_neq_complex (a b : Int) (ha : InM a) (hb : InM b) (T : TypeId) (w : World) : (binOp .neq T (.complex .f64 (fl a) (fl b)) (.complex .f64 (fl a) (fl b))).run Tryz.prog w = .ok (.bool false) w := by
  have h1 := ord_M ha ha
  have h2 := ord_M hb hb
  rw [cmp_eq] at h1 h2
  simp [binOp, go_sem, Op.complexOp, Op.Complex.cmp, Op.floatCmp, h1, h2, asBool]
set_option maxRecDepth 100000 in
set_option maxHeartbeats 2000000 in
theorem same_answer_zero (w : World) : Calls Tryz.prog 23 #[.agg #[.int .i64 0, .int .i64 0, .int .i64 0, .int .i64 0, .string { data := #[] }, .slice none 0 0, .int .i64 0], .agg #[.int .i64 0, .int .i64 0, .int .i64 0, .int .i64 0, .string { data := #[] }, .slice none 0 0, .int .i64 0]] w fun e w' => e = .returned (.bool true) ∧ Below w.heap.size w w' := by
  have heq : ∀ W : World, (Op.equalIn 10000 40 (.agg #[.int .i64 0, .int .i64 0, .int .i64 0, .string { data := #[] }]) (.agg #[.int .i64 0, .int .i64 0, .int .i64 0, .string { data := #[] }])).run Tryz.prog W = .ok true W := fun W => by kernel_rfl
  have b1 := blk7 (heap_old (heap_new w (.cells #[.int .i64 0, .int .i64 0, .int .i64 0, .int .i64 0, .string { data := #[] }, .slice none 0 0, .int .i64 0] 43)) (.cells #[.int .i64 0, .int .i64 0, .int .i64 0, .int .i64 0, .string { data := #[] }, .slice none 0 0, .int .i64 0] 43))
  have hn := heap_new (w.alloc (.cells #[.int .i64 0, .int .i64 0, .int .i64 0, .int .i64 0, .string { data := #[] }, .slice none 0 0, .int .i64 0] 43)) (.cells #[.int .i64 0, .int .i64 0, .int .i64 0, .int .i64 0, .string { data := #[] }, .slice none 0 0, .int .i64 0] 43)
  rw [World.size_alloc] at hn
  have b2 := blk7 hn
  have HB := hid (bl2 w (.cells #[.int .i64 0, .int .i64 0, .int .i64 0, .int .i64 0, .string { data := #[] }, .slice none 0 0, .int .i64 0] 43) (.cells #[.int .i64 0, .int .i64 0, .int .i64 0, .int .i64 0, .string { data := #[] }, .slice none 0 0, .int .i64 0] 43))
  clear hn
  go_enter Tryz.func23, Tryz.ntmps23
  go_wp2_with fail
  refine (same_texts_nil _).mono ?_; rintro e w1 ⟨rfl, rfl⟩
  go_wp2
  go_ret
  exact ⟨rfl, HB.out⟩
end Go.Proofs.YtbjibkjenleloaaGreatDoor

end
