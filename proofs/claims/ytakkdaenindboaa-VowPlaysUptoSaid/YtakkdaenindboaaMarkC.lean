import Derived.Test.YtakkdaenindboaaMarkB
namespace Go.Proofs.Ytakkdaenindboaa
set_option linter.unusedVariables false
set_option linter.unusedSimpArgs false
open Go.RowKit
attribute [local go_sem ↓] Go.wp_at_zero Go.wp_at_succ

theorem sub_same (a b c : Int) (ha : InM a) (hb : InM b) (hc : InM c) (h : b ≤ c) (ty : TypeId) (w : World) : (binOp .sub ty (.complex .f64 (fl a) (fl c)) (.complex .f64 (fl a) (fl b))).run Try.prog w = .ok (.complex .f64 0 (fl (c - b))) w := by
  refine run_complex_sum w .sub (.inr rfl) ty .f64 _ _ _ _ _ _ ?_
  obtain ⟨m, rfl⟩ := Int.eq_ofNat_of_zero_le ha.1
  obtain ⟨n, rfl⟩ := Int.eq_ofNat_of_zero_le hb.1
  obtain ⟨k, rfl⟩ := Int.eq_ofNat_of_zero_le hc.1
  have h1 := fl_sub m m (Nat.le_refl _) (by have := ha.2; omega)
  have h2 := fl_sub k n (by omega) (by have := hc.2; omega)
  rw [Nat.sub_self] at h1
  have e0 : fl ((0 : Nat) : Int) = 0 := fl_0
  rw [e0] at h1
  have e1 : ((k - n : Nat) : Int) = (k : Int) - n := by omega
  rw [e1] at h2
  unfold cSumBits
  rw [h1, h2]
  rfl

theorem conv_int (n : Int) (h : InM n) (w : World) : (convert 68 3 (.float .f64 (fl n))).run Try.prog w = .ok (.int .i64 n) w := by
  obtain ⟨m, rfl⟩ := Int.eq_ofNat_of_zero_le h.1
  exact run_convert_float_int w _ _ _ _ _ _ (by rw [Try.underlying68]; rfl) Try.underlying3 (fl_toInt m (by have := h.2; omega))

set_option maxHeartbeats 400000 in
theorem gap_yes (a b c : Int) (ha : InM a) (hb : InM b) (hc : InM c) (h : b ≤ c) (w : World) : Calls Try.prog 42 #[.complex .f64 (fl a) (fl b), .complex .f64 (fl a) (fl c)] w fun e w' => e = .returned (.tuple #[.int .i64 (c - b), .bool true]) ∧ w = w' := by
  have h1 : (FloatKind.f64.format.order (fl a) (fl a) != some .eq) = false := by rw [ord_M ha ha, cmp_eq]; rfl
  have h2 : (FloatKind.f64.format.order (fl c) (fl b) == some .lt) = false := by
    rw [ord_M hc hb]
    rcases Int.lt_or_eq_of_le h with h3 | h3
    · rw [cmp_gt h3]; rfl
    · rw [h3, cmp_eq]; rfl
  have hs := sub_same a b c ha hb hc h
  have hcv := conv_int (c - b) (by unfold InM at *; omega)
  have HA := hid ha
  have HB := hid hb
  have HC := hid hc
  clear ha hb hc h
  go_enter Try.func42, Try.ntmps42
  go_wp2_with fail
  refine (good_yes a b HA.out HB.out _).mono ?_; rintro e w1 ⟨rfl, rfl⟩
  go_wp2_with fail
  refine (good_yes a c HA.out HC.out _).mono ?_; rintro e w1 ⟨rfl, rfl⟩
  go_wp2
  go_ret2
  exact ⟨rfl, rfl⟩

set_option maxHeartbeats 400000 in
theorem gap_no (a b e n : Int) (ha : I64 a) (hb : I64 b) (he : InM e) (hn : InM n) (h : ¬ (InM a ∧ InM b ∧ a = e ∧ b ≤ n)) (w : World) : Calls Try.prog 42 #[.complex .f64 (fl a) (fl b), .complex .f64 (fl e) (fl n)] w fun r w' => r = .returned (.tuple #[.int .i64 0, .bool false]) ∧ w = w' := by
  have HE := hid he
  have HN := hid hn
  by_cases hg : InM a ∧ InM b
  · obtain ⟨h1, h2⟩ := hg
    have HA := hid h1
    have HB := hid h2
    by_cases hae : a = e
    · subst hae
      have h3 : (FloatKind.f64.format.order (fl a) (fl a) != some .eq) = false := by rw [ord_M h1 h1, cmp_eq]; rfl
      have h4 : (FloatKind.f64.format.order (fl n) (fl b) == some .lt) = true := by
        rw [ord_M hn h2, cmp_lt (show n < b by rcases Int.lt_or_le n b with hx | hx; exact hx; exact absurd ⟨h1, h2, rfl, hx⟩ h)]; rfl
      clear h1 h2 h ha hb he hn
      go_enter Try.func42, Try.ntmps42
      go_wp2_with fail
      refine (good_yes a b HA.out HB.out _).mono ?_; rintro r w1 ⟨rfl, rfl⟩
      go_wp2_with fail
      refine (good_yes a n HA.out HN.out _).mono ?_; rintro r w1 ⟨rfl, rfl⟩
      go_wp2
      go_ret2
      exact ⟨rfl, rfl⟩
    · have h3 : (FloatKind.f64.format.order (fl a) (fl e) != some .eq) = true := by
        rw [ord_M h1 he]
        rcases Int.lt_or_gt_of_ne hae with h5 | h5
        · rw [cmp_lt h5]; rfl
        · rw [cmp_gt h5]; rfl
      clear h1 h2 h ha hb he hn hae
      go_enter Try.func42, Try.ntmps42
      go_wp2_with fail
      refine (good_yes a b HA.out HB.out _).mono ?_; rintro r w1 ⟨rfl, rfl⟩
      go_wp2_with fail
      refine (good_yes e n HE.out HN.out _).mono ?_; rintro r w1 ⟨rfl, rfl⟩
      go_wp2
      go_ret2
      exact ⟨rfl, rfl⟩
  · have HA := hid ha
    have HB := hid hb
    have HG := hid hg
    clear ha hb he hn h hg
    go_enter Try.func42, Try.ntmps42
    go_wp2_with fail
    refine (good_no a b HA.out HB.out HG.out _).mono ?_; rintro r w1 ⟨rfl, rfl⟩
    go_wp2
    go_ret2
    exact ⟨rfl, rfl⟩

set_option maxHeartbeats 400000 in
theorem later_same (a b d : Int) (ha : InM a) (hb : InM b) (hd : InM d) (w : World) : Calls Try.prog 45 #[.complex .f64 (fl a) (fl b), .complex .f64 (fl a) (fl d)] w fun e w' => e = .returned (.bool (decide (d < b))) ∧ w = w' := by
  have h1 : (FloatKind.f64.format.order (fl a) (fl a) == some .gt) = false := by rw [ord_M ha ha, cmp_eq]; rfl
  have h1' : (FloatKind.f64.format.order (fl a) (fl a) == some .eq) = true := by rw [ord_M ha ha, cmp_eq]; rfl
  have HA := hid ha
  have HB := hid hb
  have HD := hid hd
  by_cases h : d < b
  · have h2 : (FloatKind.f64.format.order (fl b) (fl d) == some .gt) = true := by rw [ord_M hb hd, cmp_gt h]; rfl
    rw [decide_eq_true h]
    clear ha hb hd h
    go_enter Try.func45, Try.ntmps45
    go_wp2_with fail
    refine (good_yes a b HA.out HB.out _).mono ?_; rintro e w1 ⟨rfl, rfl⟩
    go_wp2_with fail
    refine (good_yes a d HA.out HD.out _).mono ?_; rintro e w1 ⟨rfl, rfl⟩
    go_wp2
    go_ret
    exact ⟨rfl, rfl⟩
  · have h2 : (FloatKind.f64.format.order (fl b) (fl d) == some .gt) = false := by
      rw [ord_M hb hd]
      rcases Int.lt_or_eq_of_le (show b ≤ d by omega) with h3 | h3
      · rw [cmp_lt h3]; rfl
      · rw [h3, cmp_eq]; rfl
    rw [decide_eq_false h]
    clear ha hb hd h
    go_enter Try.func45, Try.ntmps45
    go_wp2_with fail
    refine (good_yes a b HA.out HB.out _).mono ?_; rintro e w1 ⟨rfl, rfl⟩
    go_wp2_with fail
    refine (good_yes a d HA.out HD.out _).mono ?_; rintro e w1 ⟨rfl, rfl⟩
    go_wp2
    go_ret
    exact ⟨rfl, rfl⟩

set_option maxHeartbeats 400000 in
theorem number_any (a b : Int) (ha : InM a) (hb : InM b) (w : World) : Calls Try.prog 24 #[.complex .f64 (fl a) (fl b)] w fun e w' => e = .returned (.int .i64 b) ∧ w = w' := by
  have hcv := conv_int b hb
  have HA := hid ha
  have HB := hid hb
  clear ha hb
  go_enter Try.func24, Try.ntmps24
  go_wp2_with fail
  refine (good_yes a b HA.out HB.out _).mono ?_; rintro e w1 ⟨rfl, rfl⟩
  go_wp2
  go_ret
  exact ⟨rfl, rfl⟩

set_option maxHeartbeats 400000 in
theorem law_mark (a b : Int) (w : World) : Calls Try.prog 21 #[.int .i64 a, .int .i64 b] w fun e w' => e = .returned (.complex .f64 (fl a) (fl b)) ∧ w = w' := by
  go_enter Try.func21, Try.ntmps21
  go_wp2
  go_ret
  exact ⟨rfl, rfl⟩

/-! ### the document's marks -/
theorem conv_fl (n : Int) (w : World) : (convert 3 68 (.int .i64 n)).run Try.prog w = .ok (.float .f64 (fl n)) w :=
  run_convert_int_float w _ _ _ _ _ (by rw [Try.underlying3]; rfl) Try.underlying68

set_option maxHeartbeats 400000 in
theorem r_whole_yes (n : Int) (h : InM n) (w : World) : Calls Try.prog 59 #[.float .f64 (fl n)] w fun e w' => e = .returned (.tuple #[.int .i64 n, .bool true]) ∧ w = w' := by
  have h3 : (FloatKind.f64.format.order (floatOfInt .f64 n) (fl n) == some .eq) = true := by
    show (FloatKind.f64.format.order (fl n) (fl n) == some .eq) = true
    rw [ord_M h h, cmp_eq]; rfl
  have hcv := conv_int n h
  obtain ⟨h1 | h1, h2 | h2⟩ := ord_in h
  all_goals
    clear h
    go_enter Try.func59, Try.ntmps59
    go_wp2
    go_ret2
    exact ⟨rfl, rfl⟩

set_option maxHeartbeats 400000 in
theorem r_whole_no (n : Int) (hn : I64 n) (h : ¬ InM n) (w : World) : Calls Try.prog 59 #[.float .f64 (fl n)] w fun e w' => e = .returned (.tuple #[.int .i64 0, .bool false]) ∧ w = w' := by
  rcases ord_out hn h with h1 | ⟨h1, h2⟩
  all_goals
    clear h hn
    go_enter Try.func59, Try.ntmps59
    go_wp2
    go_ret2
    exact ⟨rfl, rfl⟩

set_option maxHeartbeats 400000 in
theorem parts_yes (a b : Int) (ha : InM a) (hb : InM b) (w : World) : Calls Try.prog 49 #[.complex .f64 (fl a) (fl b)] w fun e w' => e = .returned (.tuple #[.int .i64 a, .int .i64 b, .bool true]) ∧ w = w' := by
  have HA := hid ha
  have HB := hid hb
  clear ha hb
  go_enter Try.func49, Try.ntmps49
  go_wp2_with fail
  refine (r_whole_yes a HA.out _).mono ?_; rintro e w1 ⟨rfl, rfl⟩
  go_wp2_with fail
  refine (r_whole_yes b HB.out _).mono ?_; rintro e w1 ⟨rfl, rfl⟩
  go_wp2
  go_ret3
  exact ⟨rfl, rfl⟩

set_option maxHeartbeats 400000 in
theorem parts_no (a b : Int) (ha : I64 a) (hb : I64 b) (h : ¬ (InM a ∧ InM b)) (w : World) : Calls Try.prog 49 #[.complex .f64 (fl a) (fl b)] w fun e w' => e = .returned (.tuple #[.int .i64 0, .int .i64 0, .bool false]) ∧ w = w' := by
  have HA := hid ha
  have HB := hid hb
  by_cases h1 : InM a
  · have H1 := hid h1
    have H2 := hid (show ¬ InM b from fun h2 => h ⟨h1, h2⟩)
    clear ha hb h h1
    go_enter Try.func49, Try.ntmps49
    go_wp2_with fail
    refine (r_whole_yes a H1.out _).mono ?_; rintro e w1 ⟨rfl, rfl⟩
    go_wp2_with fail
    refine (r_whole_no b HB.out H2.out _).mono ?_; rintro e w1 ⟨rfl, rfl⟩
    go_wp2
    go_ret3
    exact ⟨rfl, rfl⟩
  · have H1 := hid h1
    clear ha hb h h1
    by_cases h2 : InM b
    · have H2 := hid h2
      clear h2
      go_enter Try.func49, Try.ntmps49
      go_wp2_with fail
      refine (r_whole_no a HA.out H1.out _).mono ?_; rintro e w1 ⟨rfl, rfl⟩
      go_wp2_with fail
      refine (r_whole_yes b H2.out _).mono ?_; rintro e w1 ⟨rfl, rfl⟩
      go_wp2
      go_ret3
      exact ⟨rfl, rfl⟩
    · have H2 := hid h2
      clear h2
      go_enter Try.func49, Try.ntmps49
      go_wp2_with fail
      refine (r_whole_no a HA.out H1.out _).mono ?_; rintro e w1 ⟨rfl, rfl⟩
      go_wp2_with fail
      refine (r_whole_no b HB.out H2.out _).mono ?_; rintro e w1 ⟨rfl, rfl⟩
      go_wp2
      go_ret3
      exact ⟨rfl, rfl⟩

set_option maxHeartbeats 400000 in
theorem r_at_yes (a b : Int) (ha : InM a) (hb : InM b) (w : World) : Calls Try.prog 46 #[.int .i64 a, .int .i64 b] w fun e w' => e = .returned (.tuple #[.complex .f64 (fl a) (fl b), .int .i64 0]) ∧ w = w' := by
  have h1 : decide (a < 0) = false := decide_eq_false (by have := ha.1; omega)
  have h2 : decide (a > 1099511627776) = false := decide_eq_false (by have := ha.2; omega)
  have h2' : decide (1099511627776 < a) = false := h2
  have h3 : decide (b < 0) = false := decide_eq_false (by have := hb.1; omega)
  have h4 : decide (b > 1099511627776) = false := decide_eq_false (by have := hb.2; omega)
  have h4' : decide (1099511627776 < b) = false := h4
  clear ha hb
  go_enter Try.func46, Try.ntmps46
  go_wp2
  go_ret2
  exact ⟨rfl, rfl⟩

set_option maxHeartbeats 400000 in
theorem r_at_no (a b : Int) (h : ¬ (InM a ∧ InM b)) (w : World) : Calls Try.prog 46 #[.int .i64 a, .int .i64 b] w fun e w' => e = .returned (.tuple #[.complex .f64 0 0, .int .i64 1]) ∧ w = w' := by
  unfold InM at h
  by_cases h1 : a < 0
  · have h1 : decide (a < 0) = true := decide_eq_true h1
    clear h
    go_enter Try.func46, Try.ntmps46
    go_wp2
    go_ret2
    exact ⟨rfl, rfl⟩
  · by_cases h2 : a > 1099511627776
    · have h1 : decide (a < 0) = false := decide_eq_false h1
      have h2 : decide (a > 1099511627776) = true := decide_eq_true h2
      have h2' : decide (1099511627776 < a) = true := h2
      clear h
      go_enter Try.func46, Try.ntmps46
      go_wp2
      go_ret2
      exact ⟨rfl, rfl⟩
    · by_cases h3 : b < 0
      · have h1 : decide (a < 0) = false := decide_eq_false h1
        have h2 : decide (a > 1099511627776) = false := decide_eq_false h2
        have h2' : decide (1099511627776 < a) = false := h2
        have h3 : decide (b < 0) = true := decide_eq_true h3
        clear h
        go_enter Try.func46, Try.ntmps46
        go_wp2
        go_ret2
        exact ⟨rfl, rfl⟩
      · have h4 : decide (b > 1099511627776) = true := decide_eq_true (by omega)
        have h1 : decide (a < 0) = false := decide_eq_false h1
        have h2 : decide (a > 1099511627776) = false := decide_eq_false h2
        have h2' : decide (1099511627776 < a) = false := h2
        have h3 : decide (b < 0) = false := decide_eq_false h3
        have h4' : decide (1099511627776 < b) = true := h4
        clear h
        go_enter Try.func46, Try.ntmps46
        go_wp2
        go_ret2
        exact ⟨rfl, rfl⟩

set_option maxHeartbeats 400000 in
theorem r_next_yes (a b : Int) (ha : InM a) (hb : InM b) (hb2 : b < 1099511627776) (w : World) : Calls Try.prog 57 #[.complex .f64 (fl a) (fl b)] w fun e w' => e = .returned (.tuple #[.complex .f64 (fl a) (fl (b + 1)), .int .i64 0]) ∧ w = w' := by
  have HA := hid ha
  have HB := hid hb
  obtain ⟨hb0, hb1⟩ := hb
  have HC := hid (show InM (b + 1) from ⟨by omega, by omega⟩)
  clear ha
  go_enter Try.func57, Try.ntmps57
  go_wp2_with fail
  refine (parts_yes a b HA.out HB.out _).mono ?_; rintro e w1 ⟨rfl, rfl⟩
  go_wp2_with fail
  refine (r_at_yes a (b + 1) HA.out HC.out _).mono ?_; rintro e w1 ⟨rfl, rfl⟩
  go_wp2
  go_ret2
  exact ⟨rfl, rfl⟩

set_option maxHeartbeats 400000 in
theorem r_next_end (a : Int) (ha : InM a) (w : World) : Calls Try.prog 57 #[.complex .f64 (fl a) (fl 1099511627776)] w fun e w' => e = .returned (.tuple #[.complex .f64 0 0, .int .i64 1]) ∧ w = w' := by
  have HA := hid ha
  have HC := hid (show ¬ (InM a ∧ InM 1099511627777) from fun h => absurd h.2.2 (by decide))
  clear ha
  generalize hq2 : fl 1099511627776 = fb0
  have HQ2 := hid hq2
  clear hq2
  go_enter Try.func57, Try.ntmps57
  go_wp2_with fail
  rw [← HQ2.out]
  refine (parts_yes a 1099511627776 HA.out ⟨by decide, by decide⟩ _).mono ?_; rintro e w1 ⟨rfl, rfl⟩
  rw [HQ2.out]
  go_wp2_with fail
  refine (r_at_no a 1099511627777 HC.out _).mono ?_; rintro e w1 ⟨rfl, rfl⟩
  go_wp2
  go_ret2
  exact ⟨rfl, rfl⟩

end Go.Proofs.Ytakkdaenindboaa
