import Derived.Test.YtakkdaenindboaaMarkA
namespace Go.Proofs.Ytakkdaenindboaa
set_option linter.unusedVariables false
set_option linter.unusedSimpArgs false
open Go.RowKit
attribute [local go_sem ↓] Go.wp_at_zero Go.wp_at_succ

theorem InM.i64 {n : Int} (h : InM n) : I64 n := by unfold InM at h; unfold I64; omega
theorem InM.small {n : Int} (h : InM n) : Fl (fl n) n := fl_small n (by unfold InM at h; omega)
theorem ord_M {a b : Int} (ha : InM a) (hb : InM b) : FloatKind.f64.format.order (fl a) (fl b) = some (compare a b) := fl_order ha.small hb.small

set_option maxHeartbeats 400000 in
theorem good_yes (a b : Int) (ha : InM a) (hb : InM b) (w : World) : Calls Try.prog 40 #[.complex .f64 (fl a) (fl b)] w fun e w' => e = .returned (.bool true) ∧ w = w' := by
  have HA := hid ha
  have HB := hid hb
  clear ha hb
  go_enter Try.func40, Try.ntmps40
  go_wp2_with fail
  refine (whole_yes a HA.out _).mono ?_; rintro e w1 ⟨rfl, rfl⟩
  go_wp2_with fail
  refine (whole_yes b HB.out _).mono ?_; rintro e w1 ⟨rfl, rfl⟩
  go_wp2
  go_ret
  exact ⟨rfl, rfl⟩

set_option maxHeartbeats 400000 in
theorem good_no (a b : Int) (ha : I64 a) (hb : I64 b) (h : ¬ (InM a ∧ InM b)) (w : World) : Calls Try.prog 40 #[.complex .f64 (fl a) (fl b)] w fun e w' => e = .returned (.bool false) ∧ w = w' := by
  have HA := hid ha
  have HB := hid hb
  by_cases h1 : InM a
  · have H1 := hid h1
    have H2 := hid (show ¬ InM b from fun h2 => h ⟨h1, h2⟩)
    clear ha hb h h1
    go_enter Try.func40, Try.ntmps40
    go_wp2_with fail
    refine (whole_yes a H1.out _).mono ?_; rintro e w1 ⟨rfl, rfl⟩
    go_wp2_with fail
    refine (whole_no b HB.out H2.out _).mono ?_; rintro e w1 ⟨rfl, rfl⟩
    go_wp2
    go_ret
    exact ⟨rfl, rfl⟩
  · have H1 := hid h1
    clear ha hb h h1
    go_enter Try.func40, Try.ntmps40
    go_wp2_with fail
    refine (whole_no a HA.out H1.out _).mono ?_; rintro e w1 ⟨rfl, rfl⟩
    go_wp2
    go_ret
    exact ⟨rfl, rfl⟩

set_option maxHeartbeats 400000 in
theorem mark_at_yes (a b : Int) (ha : InM a) (hb : InM b) (w : World) : Calls Try.prog 35 #[.int .i64 a, .int .i64 b] w fun e w' => e = .returned (.tuple #[.complex .f64 (fl a) (fl b), .int .i64 0]) ∧ w = w' := by
  unfold InM at ha hb
  have h1 : decide ((if b < a then b else a) < 0) = false := by rw [decide_eq_false_iff_not]; split <;> omega
  have h2 : decide ((if b > a then b else a) > 1099511627776) = false := by rw [decide_eq_false_iff_not]; split <;> omega
  have h3 : decide (1099511627776 < (if a < b then b else a)) = false := by rw [decide_eq_false_iff_not]; split <;> omega
  obtain ⟨ha1, ha2⟩ := ha
  obtain ⟨hb1, hb2⟩ := hb
  go_enter Try.func35, Try.ntmps35
  go_wp2
  all_goals first | (exfalso; omega) | (go_ret2; exact ⟨rfl, rfl⟩)

set_option maxHeartbeats 400000 in
theorem mark_at_no (a b : Int) (h : ¬ (InM a ∧ InM b)) (w : World) : Calls Try.prog 35 #[.int .i64 a, .int .i64 b] w fun e w' => e = .returned (.tuple #[.complex .f64 0 0, .int .i64 1]) ∧ w = w' := by
  unfold InM at h
  by_cases h0 : (if b < a then b else a) < 0
  · have h1 : decide ((if b < a then b else a) < 0) = true := decide_eq_true h0
    go_enter Try.func35, Try.ntmps35
    go_wp2
    all_goals first | (exfalso; omega) | (go_ret2; exact ⟨rfl, rfl⟩)
  · have h1 : decide ((if b < a then b else a) < 0) = false := decide_eq_false h0
    have h2 : (if b > a then b else a) > 1099511627776 := by
      split at h0 <;> split <;> omega
    have h3 : decide ((if b > a then b else a) > 1099511627776) = true := decide_eq_true h2
    have h4 : decide (1099511627776 < (if a < b then b else a)) = true := decide_eq_true h2
    clear h
    go_enter Try.func35, Try.ntmps35
    go_wp2
    all_goals first | (exfalso; omega) | (go_ret2; exact ⟨rfl, rfl⟩)

theorem sum_one (a b : Int) (ha : InM a) (hb : InM b) (ty : TypeId) (w : World) : (binOp .add ty (.complex .f64 (fl a) (fl b)) (.complex .f64 0 4607182418800017408)).run Try.prog w = .ok (.complex .f64 (fl a) (fl (b + 1))) w := by
  refine run_complex_sum w .add (.inl rfl) ty .f64 _ _ _ _ _ _ ?_
  obtain ⟨m, rfl⟩ := Int.eq_ofNat_of_zero_le ha.1
  obtain ⟨n, rfl⟩ := Int.eq_ofNat_of_zero_le hb.1
  have h1 := fl_add m 0 (by have := ha.2; omega)
  have h2 := fl_add n 1 (by have := hb.2; omega)
  have e0 : fl ((0 : Nat) : Int) = 0 := fl_0
  have e1 : fl ((1 : Nat) : Int) = 4607182418800017408 := fl_one
  rw [e0] at h1
  rw [e1] at h2
  unfold cSumBits
  rw [h1, h2]
  simp

set_option maxHeartbeats 400000 in
theorem next_yes (a b : Int) (ha : InM a) (hb : InM b) (hb2 : b < 1099511627776) (w : World) : Calls Try.prog 34 #[.complex .f64 (fl a) (fl b)] w fun e w' => e = .returned (.tuple #[.complex .f64 (fl a) (fl (b + 1)), .int .i64 0]) ∧ w = w' := by
  have hm : ∀ w, Calls Try.prog 50 #[.complex .f64 (fl a) (fl b), .complex .f64 0 4607182418800017408] w fun e w' => e = .returned (.tuple #[.complex .f64 (fl a) (fl (b + 1)), .int .i64 0]) ∧ w = w' := by
    intro w
    have hs := sum_one a b ha hb
    have HA := hid ha
    have HB := hid hb
    have HB1 := hid (show InM (b + 1) from ⟨by have := hb.1; omega, by omega⟩)
    clear ha hb
    go_enter Try.func50, Try.ntmps50
    go_wp2_with fail
    refine (good_yes a b HA.out HB.out _).mono ?_; rintro e w1 ⟨rfl, rfl⟩
    go_wp2_with fail
    refine (good_yes a (b + 1) HA.out HB1.out _).mono ?_; rintro e w1 ⟨rfl, rfl⟩
    go_wp2
    go_ret2
    exact ⟨rfl, rfl⟩
  have HM := hid hm
  clear hm
  go_enter Try.func34, Try.ntmps34
  go_wp2_with fail
  refine (HM.out _).mono ?_; rintro e w1 ⟨rfl, rfl⟩
  go_wp2
  go_ret2
  exact ⟨rfl, rfl⟩

set_option maxHeartbeats 400000 in
theorem next_end (a : Int) (ha : InM a) (w : World) : Calls Try.prog 34 #[.complex .f64 (fl a) (fl 1099511627776)] w fun e w' => e = .returned (.tuple #[.complex .f64 0 0, .int .i64 1]) ∧ w = w' := by
  have hm : ∀ w, Calls Try.prog 50 #[.complex .f64 (fl a) (fl 1099511627776), .complex .f64 0 4607182418800017408] w fun e w' => e = .returned (.tuple #[.complex .f64 0 0, .int .i64 1]) ∧ w = w' := by
    intro w
    have hb : InM 1099511627776 := ⟨by decide, by decide⟩
    have hs := sum_one a 1099511627776 ha hb
    have HA := hid ha
    have HB := hid hb
    have HB1 := hid (show ¬ InM 1099511627777 from fun h => absurd h.2 (by decide))
    clear ha hb
    rw [show (1099511627776 : Int) + 1 = 1099511627777 from rfl] at hs
    generalize hq : fl 1099511627777 = fb1 at hs
    generalize hq2 : fl 1099511627776 = fb0 at hs ⊢
    have HQ := hid hq
    have HQ2 := hid hq2
    clear hq hq2
    go_enter Try.func50, Try.ntmps50
    go_wp2_with fail
    rw [← HQ2.out]
    refine (good_yes a 1099511627776 HA.out HB.out _).mono ?_; rintro e w1 ⟨rfl, rfl⟩
    rw [HQ2.out]
    go_wp2_with fail
    rw [← HQ.out]
    refine (good_no a 1099511627777 HA.out.i64 (by unfold I64; omega) (fun h => HB1.out h.2) _).mono ?_; rintro e w1 ⟨rfl, rfl⟩
    go_wp2
    go_ret2
    exact ⟨rfl, rfl⟩
  have HM := hid hm
  clear hm
  go_enter Try.func34, Try.ntmps34
  go_wp2_with fail
  refine (HM.out _).mono ?_; rintro e w1 ⟨rfl, rfl⟩
  go_wp2
  go_ret2
  exact ⟨rfl, rfl⟩

end Go.Proofs.Ytakkdaenindboaa
