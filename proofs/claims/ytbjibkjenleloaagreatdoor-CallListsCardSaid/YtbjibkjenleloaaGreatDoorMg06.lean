/- Parts of a proof about the given program, in build order: MarkA, MarkB, MarkC, TidA, TidB, TidC, DentO, DentP. No condition. -/
import Derived.Test.YtbjibkjenleloaaGreatDoorRows
import Derived.Test.YtbjibkjenleloaaGreatDoorMg00
import Derived.Test.YtbjibkjenleloaaGreatDoorMg05
import Derived.BigQuiet
import Derived.Deep.DeepMust
import Derived.Deep.RegionHeld3
import Derived.Deep.DrawnRows
import Derived.Deep.RegionLaw
import Derived.Laws.Externs
import Derived.Test.YtbjibkjenleloaaGreatDoorMg03
section
namespace Go.Proofs.YtbjibkjenleloaaGreatDoor
set_option linter.unusedVariables false
set_option linter.unusedSimpArgs false
open Go.RowKit
attribute [local go_sem ↓] Go.wp_at_zero Go.wp_at_succ

/-- a part of a mark: a whole number from 0 to MaxMark -/
def InM (n : Int) : Prop := 0 ≤ n ∧ n ≤ 1099511627776
instance (n : Int) : Decidable (InM n) := inferInstanceAs (Decidable (0 ≤ n ∧ n ≤ 1099511627776))
/-- a number of 64 bits -/
def I64 (n : Int) : Prop := -9223372036854775808 ≤ n ∧ n ≤ 9223372036854775807

theorem fl_max : fl 1099511627776 = 4787326403894837248 := by kernel_rfl
theorem fl_one : fl 1 = 4607182418800017408 := by kernel_rfl
theorem fl_0 : fl 0 = 0 := by kernel_rfl

theorem cmp_lt {a b : Int} (h : a < b) : compare a b = .lt := by simp [compare, compareOfLessAndEq, h]
theorem cmp_gt {a b : Int} (h : b < a) : compare a b = .gt := by
  simp only [compare, compareOfLessAndEq]; rw [if_neg (by omega), if_neg (by omega)]
theorem cmp_eq (a : Int) : compare a a = .eq := by simp [compare, compareOfLessAndEq]

theorem fl_maxv : Fl 4787326403894837248 1099511627776 := by
  have := fl_small 1099511627776 (by decide)
  rwa [fl_max] at this

theorem ord_in {n : Int} (h : InM n) : (FloatKind.f64.format.order (fl n) 0 = some .gt ∨ FloatKind.f64.format.order (fl n) 0 = some .eq) ∧ (FloatKind.f64.format.order (fl n) 4787326403894837248 = some .lt ∨ FloatKind.f64.format.order (fl n) 4787326403894837248 = some .eq) := by
  unfold InM at h
  have h1 := fl_small n (by omega)
  rw [fl_order h1 fl_zero, fl_order h1 fl_maxv]
  constructor
  · rcases Int.lt_or_eq_of_le h.1 with h2 | h2
    · exact .inl (by rw [cmp_gt h2])
    · subst h2; exact .inr rfl
  · rcases Int.lt_or_eq_of_le h.2 with h2 | h2
    · exact .inl (by rw [cmp_lt h2])
    · subst h2; exact .inr rfl

theorem ord_out {n : Int} (hn : I64 n) (h : ¬ InM n) : FloatKind.f64.format.order (fl n) 0 = some .lt ∨ ((FloatKind.f64.format.order (fl n) 0 = some .gt) ∧ FloatKind.f64.format.order (fl n) 4787326403894837248 = some .gt) := by
  unfold InM at h
  unfold I64 at hn
  obtain ⟨v, h1, h2, h3, h4⟩ := fl_any n (by omega)
  rw [fl_order h1 fl_zero, fl_order h1 fl_maxv]
  by_cases h0 : n < 0
  · exact .inl (by rw [cmp_lt (h2.2 h0)])
  · have h5 : ¬ v < 0 := fun h => h0 (h2.1 h)
    refine .inr ?_
    have hv : 1099511627776 < v := by
      by_cases hs : n.natAbs < 2 ^ 53
      · have := h3 hs; omega
      · have := h4 (by omega); omega
    exact ⟨by rw [cmp_gt (by omega)], by rw [cmp_gt hv]⟩

theorem run_toIntegral (x : Nat) (s : Bool) (m : Nat) (i : Int) (h : FloatKind.f64.decode x = .number s m i) (w : World) :
    (Extern.MathFloor.toIntegral "math.archTrunc" .zero #[.float .f64 x]).run Tryz.prog w = .ok (.float .f64 (FloatKind.f64.encode ((Ieee.Datum.number s m i).integral .zero))) w := by
  have key : ∀ d, FloatKind.f64.decode x = d → (∀ b f, d ≠ .nan b f) → (Extern.MathFloor.toIntegral "math.archTrunc" .zero #[.float .f64 x]).run Tryz.prog w = .ok (.float .f64 (FloatKind.f64.encode (d.integral .zero))) w := by
    intro d hd hn
    show Sem.run Tryz.prog (Extern.MathFloor.toIntegral.match_1 (fun _ => Sem Value) (FloatKind.f64.decode x) _ _) w = _
    rw [hd]
    cases d with
    | nan b f => exact absurd rfl (hn b f)
    | number => rfl
    | infinity => rfl
  exact key _ h (by simp)

theorem arch_trunc (n : Int) (h : InM n) (w : World) : (callFunc 153 #[.float .f64 (fl n)]).run Tryz.prog w = .ok (.value (.float .f64 (fl n))) w := by
  obtain ⟨k, rfl⟩ := Int.eq_ofNat_of_zero_le h.1
  have hk : k < 2 ^ 53 := by have := h.2; omega
  rw [run_callFunc_extern (e := Extern.MathFloor.toIntegral "math.archTrunc" .zero) Tryz.func153 (by kernel_rfl) (by kernel_rfl) (by kernel_rfl) (by kernel_rfl)]
  obtain ⟨j, hj, hr⟩ := fl_read k hk
  have h1 := fl_trunc k hk
  have h2 : FloatKind.f64.decode (fl k) = .number false (k * 2 ^ j) (-(j : Int)) := hr
  rw [run_toIntegral _ _ _ _ h2, ← h2, h1]
  rfl

set_option maxHeartbeats 400000 in
theorem trunc_any (n : Int) (h : InM n) (w : World) : Calls Tryz.prog 133 #[.float .f64 (fl n)] w fun e w' => e = .returned (.float .f64 (fl n)) ∧ w = w' := by
  have hx := arch_trunc n h
  go_enter Tryz.func133, Tryz.ntmps133
  go_wp2
  go_ret
  exact ⟨rfl, rfl⟩

set_option maxHeartbeats 400000 in
theorem whole_yes (n : Int) (h : InM n) (w : World) : Calls Tryz.prog 109 #[.float .f64 (fl n)] w fun e w' => e = .returned (.bool true) ∧ w = w' := by
  have h3 : FloatKind.f64.format.order (fl n) (fl n) = some .eq := by
    have h1 := fl_small n (by unfold InM at h; omega)
    rw [fl_order h1 h1, cmp_eq]
  have HH := hid h
  obtain ⟨h1 | h1, h2 | h2⟩ := ord_in h
  all_goals
    clear h
    go_enter Tryz.func109, Tryz.ntmps109
    go_wp2_with (go_at_call 133; refine (trunc_any n HH.out _).mono ?_; rintro e w1 ⟨rfl, rfl⟩)
    go_ret
    exact ⟨rfl, rfl⟩

set_option maxHeartbeats 400000 in
theorem whole_no (n : Int) (hn : I64 n) (h : ¬ InM n) (w : World) : Calls Tryz.prog 109 #[.float .f64 (fl n)] w fun e w' => e = .returned (.bool false) ∧ w = w' := by
  rcases ord_out hn h with h1 | ⟨h1, h2⟩
  all_goals
    clear h hn
    go_enter Tryz.func109, Tryz.ntmps109
    go_wp2
    go_ret
    exact ⟨rfl, rfl⟩

end Go.Proofs.YtbjibkjenleloaaGreatDoor

end

section
namespace Go.Proofs.YtbjibkjenleloaaGreatDoor
set_option linter.unusedVariables false
set_option linter.unusedSimpArgs false
open Go.RowKit
attribute [local go_sem ↓] Go.wp_at_zero Go.wp_at_succ

theorem InM.i64 {n : Int} (h : InM n) : I64 n := by unfold InM at h; unfold I64; omega
theorem InM.small {n : Int} (h : InM n) : Fl (fl n) n := fl_small n (by unfold InM at h; omega)
theorem ord_M {a b : Int} (ha : InM a) (hb : InM b) : FloatKind.f64.format.order (fl a) (fl b) = some (compare a b) := fl_order ha.small hb.small

set_option maxHeartbeats 400000 in
theorem good_yes (a b : Int) (ha : InM a) (hb : InM b) (w : World) : Calls Tryz.prog 72 #[.complex .f64 (fl a) (fl b)] w fun e w' => e = .returned (.bool true) ∧ w = w' := by
  have HA := hid ha
  have HB := hid hb
  clear ha hb
  go_enter Tryz.func72, Tryz.ntmps72
  go_wp2_with fail
  refine (whole_yes a HA.out _).mono ?_; rintro e w1 ⟨rfl, rfl⟩
  go_wp2_with fail
  refine (whole_yes b HB.out _).mono ?_; rintro e w1 ⟨rfl, rfl⟩
  go_wp2
  go_ret
  exact ⟨rfl, rfl⟩

set_option maxHeartbeats 400000 in
theorem good_no (a b : Int) (ha : I64 a) (hb : I64 b) (h : ¬ (InM a ∧ InM b)) (w : World) : Calls Tryz.prog 72 #[.complex .f64 (fl a) (fl b)] w fun e w' => e = .returned (.bool false) ∧ w = w' := by
  have HA := hid ha
  have HB := hid hb
  by_cases h1 : InM a
  · have H1 := hid h1
    have H2 := hid (show ¬ InM b from fun h2 => h ⟨h1, h2⟩)
    clear ha hb h h1
    go_enter Tryz.func72, Tryz.ntmps72
    go_wp2_with fail
    refine (whole_yes a H1.out _).mono ?_; rintro e w1 ⟨rfl, rfl⟩
    go_wp2_with fail
    refine (whole_no b HB.out H2.out _).mono ?_; rintro e w1 ⟨rfl, rfl⟩
    go_wp2
    go_ret
    exact ⟨rfl, rfl⟩
  · have H1 := hid h1
    clear ha hb h h1
    go_enter Tryz.func72, Tryz.ntmps72
    go_wp2_with fail
    refine (whole_no a HA.out H1.out _).mono ?_; rintro e w1 ⟨rfl, rfl⟩
    go_wp2
    go_ret
    exact ⟨rfl, rfl⟩

set_option maxHeartbeats 400000 in
theorem mark_at_yes (a b : Int) (ha : InM a) (hb : InM b) (w : World) : Calls Tryz.prog 59 #[.int .i64 a, .int .i64 b] w fun e w' => e = .returned (.tuple #[.complex .f64 (fl a) (fl b), .int .i64 0]) ∧ w = w' := by
  unfold InM at ha hb
  have h1 : decide ((if b < a then b else a) < 0) = false := by rw [decide_eq_false_iff_not]; split <;> omega
  have h2 : decide ((if b > a then b else a) > 1099511627776) = false := by rw [decide_eq_false_iff_not]; split <;> omega
  have h3 : decide (1099511627776 < (if a < b then b else a)) = false := by rw [decide_eq_false_iff_not]; split <;> omega
  obtain ⟨ha1, ha2⟩ := ha
  obtain ⟨hb1, hb2⟩ := hb
  go_enter Tryz.func59, Tryz.ntmps59
  go_wp2
  all_goals first | (exfalso; omega) | (go_ret2; exact ⟨rfl, rfl⟩)

set_option maxHeartbeats 400000 in
theorem mark_at_no (a b : Int) (h : ¬ (InM a ∧ InM b)) (w : World) : Calls Tryz.prog 59 #[.int .i64 a, .int .i64 b] w fun e w' => e = .returned (.tuple #[.complex .f64 0 0, .int .i64 1]) ∧ w = w' := by
  unfold InM at h
  by_cases h0 : (if b < a then b else a) < 0
  · have h1 : decide ((if b < a then b else a) < 0) = true := decide_eq_true h0
    go_enter Tryz.func59, Tryz.ntmps59
    go_wp2
    all_goals first | (exfalso; omega) | (go_ret2; exact ⟨rfl, rfl⟩)
  · have h1 : decide ((if b < a then b else a) < 0) = false := decide_eq_false h0
    have h2 : (if b > a then b else a) > 1099511627776 := by
      split at h0 <;> split <;> omega
    have h3 : decide ((if b > a then b else a) > 1099511627776) = true := decide_eq_true h2
    have h4 : decide (1099511627776 < (if a < b then b else a)) = true := decide_eq_true h2
    clear h
    go_enter Tryz.func59, Tryz.ntmps59
    go_wp2
    all_goals first | (exfalso; omega) | (go_ret2; exact ⟨rfl, rfl⟩)

theorem sum_one (a b : Int) (ha : InM a) (hb : InM b) (ty : TypeId) (w : World) : (binOp .add ty (.complex .f64 (fl a) (fl b)) (.complex .f64 0 4607182418800017408)).run Tryz.prog w = .ok (.complex .f64 (fl a) (fl (b + 1))) w := by
  refine run_complex_sum w .add (.inl rfl) ty .f64 _ _ _ _ _ _ ?_
  obtain ⟨m, rfl⟩ := Int.eq_ofNat_of_zero_le ha.1
  obtain ⟨n, rfl⟩ := Int.eq_ofNat_of_zero_le hb.1
  have h1 := fl_add m 0 (by have := ha.2; omega)
  have h2 := fl_add n 1 (by have := hb.2; omega)
  have e0 : fl ((0 : Nat) : Int) = 0 := fl_0
  have e1 : fl ((1 : Nat) : Int) = 4607182418800017408 := fl_one
  rw [e0] at h1
  rw [e1] at h2
  unfold cSumBits
  rw [h1, h2]
  simp



end Go.Proofs.YtbjibkjenleloaaGreatDoor

end

section
namespace Go.Proofs.YtbjibkjenleloaaGreatDoor
set_option linter.unusedVariables false
set_option linter.unusedSimpArgs false
open Go.RowKit
attribute [local go_sem ↓] Go.wp_at_zero Go.wp_at_succ

theorem sub_same (a b c : Int) (ha : InM a) (hb : InM b) (hc : InM c) (h : b ≤ c) (ty : TypeId) (w : World) : (binOp .sub ty (.complex .f64 (fl a) (fl c)) (.complex .f64 (fl a) (fl b))).run Tryz.prog w = .ok (.complex .f64 0 (fl (c - b))) w := by
  refine run_complex_sum w .sub (.inr rfl) ty .f64 _ _ _ _ _ _ ?_
  obtain ⟨m, rfl⟩ := Int.eq_ofNat_of_zero_le ha.1
  obtain ⟨n, rfl⟩ := Int.eq_ofNat_of_zero_le hb.1
  obtain ⟨k, rfl⟩ := Int.eq_ofNat_of_zero_le hc.1
  have h1 := fl_sub m m (Nat.le_refl _) (by have := ha.2; omega)
  have h2 := fl_sub k n (by omega) (by have := hc.2; omega)
  rw [Nat.sub_self] at h1
  have e0 : fl ((0 : Nat) : Int) = 0 := fl_0
  rw [e0] at h1
  have e1 : ((k - n : Nat) : Int) = (k : Int) - n := by omega
  rw [e1] at h2
  unfold cSumBits
  rw [h1, h2]
  rfl

theorem conv_int (n : Int) (h : InM n) (w : World) : (convert 101 3 (.float .f64 (fl n))).run Tryz.prog w = .ok (.int .i64 n) w := by
  obtain ⟨m, rfl⟩ := Int.eq_ofNat_of_zero_le h.1
  exact run_convert_float_int w _ _ _ _ _ _ (by rw [Tryz.underlying101]; rfl) Tryz.underlying3 (fl_toInt m (by have := h.2; omega))



set_option maxHeartbeats 400000 in
theorem later_same (a b d : Int) (ha : InM a) (hb : InM b) (hd : InM d) (w : World) : Calls Tryz.prog 88 #[.complex .f64 (fl a) (fl b), .complex .f64 (fl a) (fl d)] w fun e w' => e = .returned (.bool (decide (d < b))) ∧ w = w' := by
  have h1 : (FloatKind.f64.format.order (fl a) (fl a) == some .gt) = false := by rw [ord_M ha ha, cmp_eq]; rfl
  have h1' : (FloatKind.f64.format.order (fl a) (fl a) == some .eq) = true := by rw [ord_M ha ha, cmp_eq]; rfl
  have HA := hid ha
  have HB := hid hb
  have HD := hid hd
  by_cases h : d < b
  · have h2 : (FloatKind.f64.format.order (fl b) (fl d) == some .gt) = true := by rw [ord_M hb hd, cmp_gt h]; rfl
    rw [decide_eq_true h]
    clear ha hb hd h
    go_enter Tryz.func88, Tryz.ntmps88
    go_wp2_with fail
    refine (good_yes a b HA.out HB.out _).mono ?_; rintro e w1 ⟨rfl, rfl⟩
    go_wp2_with fail
    refine (good_yes a d HA.out HD.out _).mono ?_; rintro e w1 ⟨rfl, rfl⟩
    go_wp2
    go_ret
    exact ⟨rfl, rfl⟩
  · have h2 : (FloatKind.f64.format.order (fl b) (fl d) == some .gt) = false := by
      rw [ord_M hb hd]
      rcases Int.lt_or_eq_of_le (show b ≤ d by omega) with h3 | h3
      · rw [cmp_lt h3]; rfl
      · rw [h3, cmp_eq]; rfl
    rw [decide_eq_false h]
    clear ha hb hd h
    go_enter Tryz.func88, Tryz.ntmps88
    go_wp2_with fail
    refine (good_yes a b HA.out HB.out _).mono ?_; rintro e w1 ⟨rfl, rfl⟩
    go_wp2_with fail
    refine (good_yes a d HA.out HD.out _).mono ?_; rintro e w1 ⟨rfl, rfl⟩
    go_wp2
    go_ret
    exact ⟨rfl, rfl⟩


set_option maxHeartbeats 400000 in
theorem law_mark (a b : Int) (w : World) : Calls Tryz.prog 20 #[.int .i64 a, .int .i64 b] w fun e w' => e = .returned (.complex .f64 (fl a) (fl b)) ∧ w = w' := by
  go_enter Tryz.func20, Tryz.ntmps20
  go_wp2
  go_ret
  exact ⟨rfl, rfl⟩

/-! ### the document's marks -/
theorem conv_fl (n : Int) (w : World) : (convert 3 101 (.int .i64 n)).run Tryz.prog w = .ok (.float .f64 (fl n)) w :=
  run_convert_int_float w _ _ _ _ _ (by rw [Tryz.underlying3]; rfl) Tryz.underlying101









end Go.Proofs.YtbjibkjenleloaaGreatDoor

end

section
namespace Go.Proofs.YtbjibkjenleloaaGreatDoor
set_option linter.unusedVariables false
set_option linter.unusedSimpArgs false
open Go.RowKit
attribute [local go_sem ↓] Go.wp_at_zero Go.wp_at_succ
attribute [local go_sem] run_store_complex run_store_float


set_option maxHeartbeats 400000 in
theorem epoch_any (a b : Int) (ha : InM a) (hb : InM b) (w : World) : Calls Tryz.prog 38 #[.complex .f64 (fl a) (fl b)] w fun e w' => e = .returned (.int .i64 a) ∧ w = w' := by
  have hcv := conv_int a ha
  have HA := hid ha
  have HB := hid hb
  clear ha hb
  go_enter Tryz.func38, Tryz.ntmps38
  go_wp2_with fail
  refine (good_yes a b HA.out HB.out _).mono ?_; rintro e w1 ⟨rfl, rfl⟩
  go_wp2
  go_ret
  exact ⟨rfl, rfl⟩

/-- a tide: nothing held, nothing applied since -/
structure Td where
  cl : Int
  life : Int
  hold : Int
  me : Int
  mn : Int
  ver : Int
  asked : Int
def TidAt (w : World) (t : Nat) (s : Td) : Prop := w.heap[t]? = some (.cells #[.int .i64 s.cl, .int .i64 s.life, .int .i64 s.hold, .complex .f64 (fl s.me) (fl s.mn), .int .i64 s.ver, .int .i64 s.asked, .slice none 0 0, .slice none 0 0] 127 (0, 0))
theorem TidAt.below {w w' : World} {t : Nat} {s : Td} (h : TidAt w t s) (hb : Below w.heap.size w w') : TidAt w' t s := heap_below hb h (blk_lt h)
theorem TidAt.chg {w w' : World} {t : Nat} {s : Td} {F : Nat → Prop} (h : TidAt w t s) (hc : Chg F w w') (hF : ¬ F t) : TidAt w' t s := heap_chg hc h hF
theorem TidAt.lt {w : World} {t : Nat} {s : Td} (h : TidAt w t s) : t < w.heap.size := blk_lt h

def newOK (cl life hold : Int) : Prop := 1 ≤ cl ∧ cl ≤ 4 ∧ 1 ≤ life ∧ life ≤ 1099511627776 ∧ 0 ≤ hold ∧ hold ≤ 8
set_option maxHeartbeats 1000000 in
theorem tide_new_no (cl life hold : Int) (h : ¬ newOK cl life hold) (w : World) : Calls Tryz.prog 45 #[.int .i64 cl, .int .i64 life, .int .i64 hold] w fun e w' => e = .returned (.tuple #[.pointer none, .int .i64 1]) ∧ w = w' := by
  unfold newOK at h
  by_cases c0 : cl < 1
  · have d0 : decide (cl < 1) = true := by simp; omega
    have g0 : decide (cl < 1) = true := by simp; omega
    clear h c0
    go_enter Tryz.func45, Tryz.ntmps45
    go_wp2
    go_ret2
    exact ⟨rfl, rfl⟩
  by_cases c1 : 4 < cl
  · have d0 : decide (cl < 1) = false := by simp; omega
    have g0 : decide (cl < 1) = false := by simp; omega
    have d1 : decide (cl > 4) = true := by simp; omega
    have g1 : decide (4 < cl) = true := by simp; omega
    clear h c0 c1
    go_enter Tryz.func45, Tryz.ntmps45
    go_wp2
    go_ret2
    exact ⟨rfl, rfl⟩
  by_cases c2 : life < 1
  · have d0 : decide (cl < 1) = false := by simp; omega
    have g0 : decide (cl < 1) = false := by simp; omega
    have d1 : decide (cl > 4) = false := by simp; omega
    have g1 : decide (4 < cl) = false := by simp; omega
    have d2 : decide (life < 1) = true := by simp; omega
    have g2 : decide (life < 1) = true := by simp; omega
    clear h c0 c1 c2
    go_enter Tryz.func45, Tryz.ntmps45
    go_wp2
    go_ret2
    exact ⟨rfl, rfl⟩
  by_cases c3 : 1099511627776 < life
  · have d0 : decide (cl < 1) = false := by simp; omega
    have g0 : decide (cl < 1) = false := by simp; omega
    have d1 : decide (cl > 4) = false := by simp; omega
    have g1 : decide (4 < cl) = false := by simp; omega
    have d2 : decide (life < 1) = false := by simp; omega
    have g2 : decide (life < 1) = false := by simp; omega
    have d3 : decide (life > 1099511627776) = true := by simp; omega
    have g3 : decide (1099511627776 < life) = true := by simp; omega
    clear h c0 c1 c2 c3
    go_enter Tryz.func45, Tryz.ntmps45
    go_wp2
    go_ret2
    exact ⟨rfl, rfl⟩
  by_cases c4 : hold < 0
  · have d0 : decide (cl < 1) = false := by simp; omega
    have g0 : decide (cl < 1) = false := by simp; omega
    have d1 : decide (cl > 4) = false := by simp; omega
    have g1 : decide (4 < cl) = false := by simp; omega
    have d2 : decide (life < 1) = false := by simp; omega
    have g2 : decide (life < 1) = false := by simp; omega
    have d3 : decide (life > 1099511627776) = false := by simp; omega
    have g3 : decide (1099511627776 < life) = false := by simp; omega
    have d4 : decide (hold < 0) = true := by simp; omega
    have g4 : decide (hold < 0) = true := by simp; omega
    clear h c0 c1 c2 c3 c4
    go_enter Tryz.func45, Tryz.ntmps45
    go_wp2
    go_ret2
    exact ⟨rfl, rfl⟩
  by_cases c5 : 8 < hold
  · have d0 : decide (cl < 1) = false := by simp; omega
    have g0 : decide (cl < 1) = false := by simp; omega
    have d1 : decide (cl > 4) = false := by simp; omega
    have g1 : decide (4 < cl) = false := by simp; omega
    have d2 : decide (life < 1) = false := by simp; omega
    have g2 : decide (life < 1) = false := by simp; omega
    have d3 : decide (life > 1099511627776) = false := by simp; omega
    have g3 : decide (1099511627776 < life) = false := by simp; omega
    have d4 : decide (hold < 0) = false := by simp; omega
    have g4 : decide (hold < 0) = false := by simp; omega
    have d5 : decide (hold > 8) = true := by simp; omega
    have g5 : decide (8 < hold) = true := by simp; omega
    clear h c0 c1 c2 c3 c4 c5
    go_enter Tryz.func45, Tryz.ntmps45
    go_wp2
    go_ret2
    exact ⟨rfl, rfl⟩
  omega
set_option maxHeartbeats 1000000 in
theorem tide_new (cl life hold : Int) (h : newOK cl life hold) (w : World) : Calls Tryz.prog 45 #[.int .i64 cl, .int .i64 life, .int .i64 hold] w fun e w' => e = .returned (.tuple #[.pointer (some ⟨w.heap.size, 0, none⟩), .int .i64 0]) ∧ TidAt w' w.heap.size ⟨cl, life, hold, 0, 0, 0, 0⟩ ∧ Below w.heap.size w w' := by
  obtain ⟨c0, c1, c2, c3, c4, c5⟩ := h
  have d0 : decide (cl < 1) = false := by simp; omega
  have g0 : decide (cl < 1) = false := by simp; omega
  have d1 : decide (cl > 4) = false := by simp; omega
  have g1 : decide (4 < cl) = false := by simp; omega
  have d2 : decide (life < 1) = false := by simp; omega
  have g2 : decide (life < 1) = false := by simp; omega
  have d3 : decide (life > 1099511627776) = false := by simp; omega
  have g3 : decide (1099511627776 < life) = false := by simp; omega
  have d4 : decide (hold < 0) = false := by simp; omega
  have g4 : decide (hold < 0) = false := by simp; omega
  have d5 : decide (hold > 8) = false := by simp; omega
  have g5 : decide (8 < hold) = false := by simp; omega
  clear c0 c1 c2 c3 c4 c5
  go_enter Tryz.func45, Tryz.ntmps45
  go_wp2
  go_ret2
  exact ⟨rfl, heap_new w _, bl1 w _⟩
set_option maxHeartbeats 400000 in
theorem tide_version (w : World) (t : Nat) (s : Td) (h : TidAt w t s) : Calls Tryz.prog 48 #[.pointer (some ⟨t, 0, none⟩)] w fun e w' => e = .returned (.int .i64 s.ver) ∧ w = w' := by
  have b := blk8 h
  clear h
  go_enter Tryz.func48, Tryz.ntmps48
  go_wp2
  go_ret
  exact ⟨rfl, rfl⟩
set_option maxHeartbeats 400000 in
theorem tide_mark (w : World) (t : Nat) (s : Td) (h : TidAt w t s) : Calls Tryz.prog 42 #[.pointer (some ⟨t, 0, none⟩)] w fun e w' => e = .returned (.complex .f64 (fl s.me) (fl s.mn)) ∧ w = w' := by
  have b := blk8 h
  clear h
  go_enter Tryz.func42, Tryz.ntmps42
  go_wp2
  go_ret
  exact ⟨rfl, rfl⟩
set_option maxHeartbeats 400000 in
theorem tide_held (w : World) (t : Nat) (s : Td) (h : TidAt w t s) : Calls Tryz.prog 49 #[.pointer (some ⟨t, 0, none⟩)] w fun e w' => e = .returned (.slice none 0 0) ∧ w = w' := by
  have b := blk8 h
  clear h
  go_enter Tryz.func49, Tryz.ntmps49
  go_wp2_with fail
  go_loopw [3, 11] (fun v3 v wr => v3 = .slice none 0 0 ∧ v = .int .i64 0 ∧ wr = w) (fun _ _ _ => 0)
  case atStart => exact ⟨rfl, rfl, rfl⟩
  case round =>
    obtain ⟨rfl, rfl, rfl⟩ := hrel
    go_wp2
    go_ret
    exact ⟨rfl, rfl⟩
end Go.Proofs.YtbjibkjenleloaaGreatDoor

end

section
namespace Go.Proofs.YtbjibkjenleloaaGreatDoor
set_option linter.unusedVariables false
set_option linter.unusedSimpArgs false
open Go.RowKit
attribute [local go_sem ↓] Go.wp_at_zero Go.wp_at_succ
attribute [local go_sem] run_store_complex run_store_float


set_option maxHeartbeats 400000 in
theorem index_msgs_nil (w : World) (fv : Value) : Calls Tryz.prog 95 #[.slice none 0 0, fv] w fun e w' => e = .returned (.int .i64 (-1)) ∧ w = w' := by
  go_enter Tryz.func95, Tryz.ntmps95
  go_wp2_with fail
  go_loopw [8] (fun v wr => v = .int .i64 0 ∧ wr = w) (fun _ _ => 0)
  case atStart => exact ⟨rfl, rfl⟩
  case round =>
    obtain ⟨rfl, rfl⟩ := hrel
    go_wp2
    go_ret
    exact ⟨rfl, rfl⟩
set_option maxHeartbeats 400000 in
theorem del_msgs_nil (w : World) (fv : Value) : Calls Tryz.prog 73 #[.slice none 0 0, fv] w fun e w' => e = .returned (.slice none 0 0) ∧ w = w' := by
  go_enter Tryz.func73, Tryz.ntmps73
  go_wp2_with fail
  refine (index_msgs_nil _ _).mono ?_; rintro e w1 ⟨rfl, rfl⟩
  go_wp2
  go_ret
  exact ⟨rfl, rfl⟩
theorem Td.set {w w' : World} {t : Nat} {s s' : Td} (h : TidAt w t s) (hc : w'.heap[t]? = some (.cells #[.int .i64 s'.cl, .int .i64 s'.life, .int .i64 s'.hold, .complex .f64 (fl s'.me) (fl s'.mn), .int .i64 s'.ver, .int .i64 s'.asked, .slice none 0 0, .slice none 0 0] 127 (0, 0))) : TidAt w' t s' := hc

set_option maxHeartbeats 1000000 in
theorem tide_ask (w : World) (t : Nat) (s : Td) (seq : Int) (h : TidAt w t s) (hs : 0 ≤ seq) : Calls Tryz.prog 43 #[.pointer (some ⟨t, 0, none⟩), .int .i64 seq] w fun e w' => e = .returned (.tuple #[]) ∧ TidAt w' t { s with asked := seq } ∧ Chg (fun j => j = t) w w' := by
  have H0 := hid (heap_old h (.cells #[.pointer (some ⟨t, 0, none⟩)] 83))
  have ht := h.lt
  have b1 := blk8 h
  have hmx : max seq 0 = seq := by omega
  have HT := hid (show w.heap[t]? = _ from h)
  clear h
  go_enter Tryz.func43, Tryz.ntmps43
  go_wp2
  go_region
  refine gen_w (P := fun w' => Exit.then _ _ _ _ w') (S := fun w1 => TidAt w1 t { s with asked := seq } ∧ Chg (fun j => j = t) w w1 ∧ w1.heap[w.heap.size]? = some (.cells #[.pointer (some ⟨t, 0, none⟩)] 83 (0, 0))) _ ⟨?_, ?_, ?_⟩ ?_
  · refine heap_old (w := (w.setCell ⟨t, 5, none⟩ (.int .i64 seq)).setCell ⟨t, 7, none⟩ (.slice none 0 0)) ?_ _
    have h9 := heap_set (heap_set HT.out 5 (.int .i64 seq)) 7 (.slice none 0 0)
    simp only [List.setIfInBounds_toArray, List.set_cons_zero, List.set_cons_succ] at h9
    exact h9
  · exact Chg.drew (Chg.alloc (Chg.set1 (Chg.set1 (Chg.refl (fun j => j = t) w) ⟨t, 5, none⟩ _ rfl) ⟨t, 7, none⟩ _ rfl) _)
  · have h9 := heap_new ((w.setCell ⟨t, 5, none⟩ (.int .i64 seq)).setCell ⟨t, 7, none⟩ (.slice none 0 0)) (.cells #[.pointer (some ⟨t, 0, none⟩)] 83)
    simp only [World.size_setCell] at h9
    exact h9
  rintro w1 ⟨ht1, hc1, hb1⟩
  have HT1 := hid ht1
  have HC1 := hid hc1
  have b2 := blk8 ht1
  have b3 := blk1 hb1
  have HF := hid (show TidAt (w1.setCell ⟨t, 6, none⟩ (.slice none 0 0)).drew t { s with asked := seq } by
    have h9 := heap_set ht1 6 (.slice none 0 0)
    simp only [List.setIfInBounds_toArray, List.set_cons_zero, List.set_cons_succ] at h9
    exact h9)
  have HG := hid (show Chg (fun j => j = t) w (w1.setCell ⟨t, 6, none⟩ (.slice none 0 0)).drew from Chg.drew (Chg.set1 hc1 _ _ rfl))
  clear b1 ht1 hc1 hb1
  go_wp2
  go_region_law (first | (go_simp; go_at_call 73; refine (del_msgs_nil _ _).mono ?_; rintro e w2 ⟨rfl, rfl⟩))
  all_goals
    refine bodyPost_end (results_none rfl _ _ _) rfl ?_
    exact ⟨rfl, HF.out, HG.out⟩
end Go.Proofs.YtbjibkjenleloaaGreatDoor

end

section
namespace Go.Proofs.YtbjibkjenleloaaGreatDoor
set_option linter.unusedVariables false
set_option linter.unusedSimpArgs false
open Go.RowKit
attribute [local go_sem ↓] Go.wp_at_zero Go.wp_at_succ
attribute [local go_sem] run_store_complex run_store_float


structure Op7 where
  kind : Int
  dir : Int
  name : ByteArray
  to_ : Int
  new_ : ByteArray
  mode : Int
  target : ByteArray
/-- a message; its entries and keys as slices -/
structure Ms where
  kind : Int
  client : Int
  life : Int
  seq : Int
  me : Int
  mn : Int
  ver : Int
  err : Int
  op : Op7
  ea : Option Addr
  el : Nat
  ec : Nat
  ka : Option Addr
  kl : Nat
  kc : Nat
def Ms.cs (m : Ms) : Array Value := #[.int .i64 m.kind, .int .i64 m.client, .int .i64 m.life, .int .i64 m.seq, .complex .f64 (fl m.me) (fl m.mn), .int .i64 m.ver, .int .i64 m.err, .int .i64 m.op.kind, .int .i64 m.op.dir, .string m.op.name, .int .i64 m.op.to_, .string m.op.new_, .int .i64 m.op.mode, .string m.op.target, .slice m.ea m.el m.ec, .slice m.ka m.kl m.kc]
def Ms.v (m : Ms) : Value := .agg m.cs
theorem blk16 {w : World} {k t : Nat} {x0 x1 x2 x3 x4 x5 x6 x7 x8 x9 x10 x11 x12 x13 x14 x15 : Value} (h : w.heap[k]? = some (.cells #[x0, x1, x2, x3, x4, x5, x6, x7, x8, x9, x10, x11, x12, x13, x14, x15] t (0, 0))) :
    (w.cell? ⟨k, 0, none⟩ = some x0 ∧ w.cell? ⟨k, 1, none⟩ = some x1 ∧ w.cell? ⟨k, 2, none⟩ = some x2 ∧ w.cell? ⟨k, 3, none⟩ = some x3 ∧ w.cell? ⟨k, 4, none⟩ = some x4 ∧ w.cell? ⟨k, 5, none⟩ = some x5 ∧ w.cell? ⟨k, 6, none⟩ = some x6 ∧ w.cell? ⟨k, 7, none⟩ = some x7 ∧ w.cell? ⟨k, 8, none⟩ = some x8 ∧ w.cell? ⟨k, 9, none⟩ = some x9 ∧ w.cell? ⟨k, 10, none⟩ = some x10 ∧ w.cell? ⟨k, 11, none⟩ = some x11 ∧ w.cell? ⟨k, 12, none⟩ = some x12 ∧ w.cell? ⟨k, 13, none⟩ = some x13 ∧ w.cell? ⟨k, 14, none⟩ = some x14 ∧ w.cell? ⟨k, 15, none⟩ = some x15) ∧ (w.frozen? ⟨k, 0, none⟩ = false ∧ w.frozen? ⟨k, 1, none⟩ = false ∧ w.frozen? ⟨k, 2, none⟩ = false ∧ w.frozen? ⟨k, 3, none⟩ = false ∧ w.frozen? ⟨k, 4, none⟩ = false ∧ w.frozen? ⟨k, 5, none⟩ = false ∧ w.frozen? ⟨k, 6, none⟩ = false ∧ w.frozen? ⟨k, 7, none⟩ = false ∧ w.frozen? ⟨k, 8, none⟩ = false ∧ w.frozen? ⟨k, 9, none⟩ = false ∧ w.frozen? ⟨k, 10, none⟩ = false ∧ w.frozen? ⟨k, 11, none⟩ = false ∧ w.frozen? ⟨k, 12, none⟩ = false ∧ w.frozen? ⟨k, 13, none⟩ = false ∧ w.frozen? ⟨k, 14, none⟩ = false ∧ w.frozen? ⟨k, 15, none⟩ = false) := by
  simp [World.cell?, World.frozen?, h]

set_option maxHeartbeats 1000000 in
theorem tide_counts (w : World) (t : Nat) (s : Td) (m : Ms) (h : TidAt w t s) (hk1 : 2 ≤ m.kind) (hk2 : m.kind ≤ 4) (hc : m.client = s.cl) (hl : m.life = s.life) (h1 : InM m.me) (h2 : InM m.mn) (h3 : InM s.me) (h4 : InM s.mn) (hle : s.me ≤ m.me) :
    Calls Tryz.prog 58 #[.pointer (some ⟨t, 0, none⟩), m.v] w fun e w' => e = .returned (.bool true) ∧ Below w.heap.size w w' := by
  have b0 := blk8 h
  have bm := (blk16 (heap_new w (.cells m.cs 50))).1
  have HB := hid (bl1 w (.cells m.cs 50))
  have b1 := blk8 (h.below HB.out)
  have H1 := hid h1; have H2 := hid h2; have H3 := hid h3; have H4 := hid h4
  have d1 : decide (m.kind ≥ 2) = true := by simp; omega
  have d2 : decide (m.kind ≤ 4) = true := by simp; omega
  have d3 : decide (m.me ≥ s.me) = true := by simp; omega
  have d4 : decide (s.me ≤ m.me) = true := by simp; omega
  have d5 : decide (2 ≤ m.kind) = true := by simp; omega
  have KR : (w.alloc (.cells m.cs 50)).cell? ⟨w.heap.size, 0, none⟩ = some (.int .i64 m.kind) ∧ (w.alloc (.cells m.cs 50)).cell? ⟨w.heap.size, 1, none⟩ = some (.int .i64 m.client) ∧ (w.alloc (.cells m.cs 50)).cell? ⟨w.heap.size, 2, none⟩ = some (.int .i64 m.life) ∧ (w.alloc (.cells m.cs 50)).cell? ⟨w.heap.size, 4, none⟩ = some (.complex .f64 (fl m.me) (fl m.mn)) ∧ (w.alloc (.cells m.cs 50)).cell? ⟨t, 0, none⟩ = some (.int .i64 s.cl) ∧ (w.alloc (.cells m.cs 50)).cell? ⟨t, 1, none⟩ = some (.int .i64 s.life) ∧ (w.alloc (.cells m.cs 50)).cell? ⟨t, 3, none⟩ = some (.complex .f64 (fl s.me) (fl s.mn)) := ⟨bm.1, bm.2.1, bm.2.2.1, bm.2.2.2.2.1, b1.1, b1.2.1, b1.2.2.2.1⟩
  have KRd : (w.alloc (.cells m.cs 50)).drew.cell? ⟨w.heap.size, 0, none⟩ = some (.int .i64 m.kind) ∧ (w.alloc (.cells m.cs 50)).drew.cell? ⟨w.heap.size, 1, none⟩ = some (.int .i64 m.client) ∧ (w.alloc (.cells m.cs 50)).drew.cell? ⟨w.heap.size, 2, none⟩ = some (.int .i64 m.life) ∧ (w.alloc (.cells m.cs 50)).drew.cell? ⟨w.heap.size, 4, none⟩ = some (.complex .f64 (fl m.me) (fl m.mn)) ∧ (w.alloc (.cells m.cs 50)).drew.cell? ⟨t, 0, none⟩ = some (.int .i64 s.cl) ∧ (w.alloc (.cells m.cs 50)).drew.cell? ⟨t, 1, none⟩ = some (.int .i64 s.life) ∧ (w.alloc (.cells m.cs 50)).drew.cell? ⟨t, 3, none⟩ = some (.complex .f64 (fl s.me) (fl s.mn)) := KR
  rw [hc, hl] at KR KRd
  have HW := hid (And.intro hc hl)
  clear h h1 h2 h3 h4 hk1 hk2 hc hl hle b0 bm b1
  unfold Ms.v Ms.cs
  rw [HW.out.1, HW.out.2]
  unfold Ms.cs at KR KRd HB
  rw [HW.out.1, HW.out.2] at KR KRd HB
  go_enter Tryz.func58, Tryz.ntmps58
  go_wp2_with fail
  go_region_held3 (fun w' => w'.cell? ⟨w.heap.size, 0, none⟩ = some (.int .i64 m.kind) ∧ w'.cell? ⟨w.heap.size, 1, none⟩ = some (.int .i64 s.cl) ∧ w'.cell? ⟨w.heap.size, 2, none⟩ = some (.int .i64 s.life) ∧ w'.cell? ⟨w.heap.size, 4, none⟩ = some (.complex .f64 (fl m.me) (fl m.mn)) ∧ w'.cell? ⟨t, 0, none⟩ = some (.int .i64 s.cl) ∧ w'.cell? ⟨t, 1, none⟩ = some (.int .i64 s.life) ∧ w'.cell? ⟨t, 3, none⟩ = some (.complex .f64 (fl s.me) (fl s.mn)))
    (first | with_reducible exact KR | with_reducible exact KRd)
    (first
      | (go_at_call 72; refine (good_yes _ _ H1.out H2.out _).mono ?_; rintro e w2 ⟨rfl, rfl⟩)
      | (go_at_call 38; refine (epoch_any _ _ (by first | exact H1.out | exact H3.out) (by first | exact H2.out | exact H4.out) _).mono ?_; rintro e w2 ⟨rfl, rfl⟩))
  all_goals
    go_wp2
    go_ret
    exact ⟨rfl, HB.out.drew⟩

set_option maxHeartbeats 1000000 in
theorem tide_ahead (w : World) (t : Nat) (s : Td) (m : Ms) (h : TidAt w t s) (he : m.me = s.me) (h1 : InM m.mn) (h3 : InM s.me) (h4 : InM s.mn) (hle : s.mn ≤ m.mn) :
    Calls Tryz.prog 60 #[.pointer (some ⟨t, 0, none⟩), m.v] w fun e w' => e = .returned (.int .i64 (m.mn - s.mn)) ∧ Below w.heap.size w w' := by
  have b0 := blk8 h
  have bm := (blk16 (heap_new w (.cells m.cs 50))).1
  have HB := hid (bl1 w (.cells m.cs 50))
  have b1 := blk8 (h.below HB.out)
  have hsub := fun w : World => sub_same s.me s.mn m.mn h3 h4 h1 hle 46 w
  have hcv := conv_int (m.mn - s.mn) (by unfold InM at *; omega)
  have HE := hid he
  clear h h1 h3 h4 hle b0 he
  unfold Ms.v
  unfold Ms.cs at bm HB ⊢
  unfold Ms.cs at b1
  rw [HE.out] at bm b1 HB ⊢
  go_enter Tryz.func60, Tryz.ntmps60
  go_wp2_with fail
  go_quiet (fail)
  all_goals
    go_wp2
    go_ret
    exact ⟨rfl, by have h := HB.out; exact ⟨h.os, h.tape, h.output, h.size, h.block⟩⟩
set_option maxHeartbeats 1000000 in
theorem tide_wanted (w : World) (t : Nat) (s : Td) (m : Ms) (h : TidAt w t s) (hs : m.seq = s.asked) (h0 : 0 < s.asked) :
    Calls Tryz.prog 61 #[.pointer (some ⟨t, 0, none⟩), m.v] w fun e w' => e = .returned (.bool true) ∧ Below w.heap.size w w' := by
  have bm := (blk16 (heap_new w (.cells m.cs 50))).1
  have HB := hid (bl1 w (.cells m.cs 50))
  have b1 := blk8 (h.below HB.out)
  have d1 : decide (s.asked > 0) = true := by simp; omega
  have d2 : decide (0 < s.asked) = true := by simp; omega
  have HE := hid hs
  clear h hs h0
  unfold Ms.v
  unfold Ms.cs at bm HB ⊢
  unfold Ms.cs at b1
  rw [HE.out] at bm b1 HB ⊢
  go_enter Tryz.func61, Tryz.ntmps61
  go_wp2_with fail
  go_quiet (fail)
  all_goals
    go_wp2
    go_ret
    exact ⟨rfl, by have h := HB.out; exact ⟨h.os, h.tape, h.output, h.size, h.block⟩⟩
end Go.Proofs.YtbjibkjenleloaaGreatDoor

end

section
namespace Go.Proofs.YtbjibkjenleloaaGreatDoor
set_option linter.unusedVariables false
set_option linter.unusedSimpArgs false
open Go.RowKit
attribute [local go_sem ↓] Go.wp_at_zero Go.wp_at_succ

theorem kvs_at {w : World} {g n c m : Nat} {M : List Ke} {j : Nat} {x : Ke} (h : Rd w (.slice (some ⟨g, 0, none⟩) n c) m (kvs M)) (hx : M[j]? = some x) :
    w.cell? ⟨g, j * 8, none⟩ = some (.int .i64 x.e.key.dir) ∧ w.cell? ⟨g, j * 8 + 1, none⟩ = some (.string x.e.key.name) ∧ w.cell? ⟨g, j * 8 + 2, none⟩ = some (.bool x.e.neg) ∧ w.cell? ⟨g, j * 8 + 3, none⟩ = some (.int .i64 x.e.node.id) ∧ w.cell? ⟨g, j * 8 + 4, none⟩ = some (.int .i64 x.e.node.kind) ∧ w.cell? ⟨g, j * 8 + 5, none⟩ = some (.int .i64 x.e.node.mode) ∧ w.cell? ⟨g, j * 8 + 6, none⟩ = some (.string x.e.node.target) ∧ w.cell? ⟨g, j * 8 + 7, none⟩ = some (.int .i64 x.used) := by
  have g0 : ∀ (i : Nat) (v : Value), x.cells[i]? = some v → w.cell? ⟨g, j * 8 + i, none⟩ = some v := fun i v hi => by
    have := h.at _ _ (flatMap_at (f := Ke.cells) (sz := 8) (fun _ => rfl) hx hi)
    simpa using this
  exact ⟨g0 0 _ rfl, g0 1 _ rfl, g0 2 _ rfl, g0 3 _ rfl, g0 4 _ rfl, g0 5 _ rfl, g0 6 _ rfl, g0 7 _ rfl⟩

theorem ordd_unique {K M : List Ke} {ck : Int} {L : List En} (h : Ordd K ck L) (hp : M.Perm K) (hs : M.Pairwise fun x y => ¬ y.used < x.used) : M.map Ke.e = L := by
  obtain ⟨M0, h1, h2, h3, rfl⟩ := h.ex
  rw [uniq_sorted (hp.trans h1.symm) h2 hs]

theorem ItAt.own {w W : World} {r me cl : Nat} {K D rest : List Ke} {e sz n : Nat} {v : Value} {xs : List Value} (hg : Chg (fun k => k = r) w W) (h : w.ownsRow (r + 1) e sz v n xs) : W.ownsRow (r + 1) e sz v n xs :=
  ownsRow_chg h fun k hk hlt => hg.block k hlt (fun e => by have := (own_lt h hk).1; omega)

set_option maxHeartbeats 2000000 in
theorem c_entries (w : World) (B p n : Nat) (L : List En) (wh : Int → Bool) (h : CAt w B p n L wh) (hn : n * 80 ≤ 140737488351232) :
    Calls Tryz.prog 36 #[.pointer (some ⟨p, 0, none⟩)] w fun e w' => ∃ a c, e = .returned (.slice a L.length c) ∧ w'.ownsRow w.heap.size 55 7 (.slice a L.length c) L.length (ecs L) ∧ Below w.heap.size w w' := by
  have hLn := h.len
  obtain ⟨s, h0, rfl, h1, h2, h3, h4, h5, h6⟩ := h.ex
  obtain ⟨i8, hi8, p8, q8, r8⟩ := info_parts infoKe
  obtain ⟨i7, hi7, p7, q7, r7⟩ := info_parts infoEn
  have hKL : s.K.length = L.length := by have := h5.permL.length_eq; simpa using this.symm
  have b0 := blk3 h0.hp
  have hrg := run_range_k h0.he
  have HH := hid h0
  have HO := hid h5
  have HI8 := hid hi8
  have HI7 := hid hi7
  clear h h0 h1 h2 h3 h4 h5 h6 hi8 hi7
  go_enter Tryz.func36, Tryz.ntmps36
  go_wp2_with fail
  go_loopw [3] (fun v wr => ∃ (D rest : List Ke) (a1 : Option Addr) (c1 : Nat), v = .slice a1 D.length c1 ∧ Hid (ItAt wr w.heap.size s.me s.c1 s.K D rest) ∧ Hid (wr.ownsRow (w.heap.size + 1) 142 8 (.slice a1 D.length c1) D.length (kvs D)) ∧ Hid (Below w.heap.size w wr) ∧ Hid (w.heap.size + 1 ≤ wr.heap.size)) (fun _ wr => s.K.length - (wr.iterSeen w.heap.size).size)
  case atStart => exact ⟨[], s.K, none, 0, rfl, hid ⟨⟨_, Nat.le_refl _, heap_new w _⟩, List.Perm.refl _⟩, hid (World.ownsRow_nil _ _ _ _), hid (bl1 w _), hid (by simp)⟩
  case round =>
    clear hrg b0
    obtain ⟨D, rest, a1, c1, rfl, HI, HR, HB, HZ⟩ := hrel
    have hh := HH.out.below HB.out
    have hme : w.heap.size ≠ s.me := fun e => by have := blk_lt HH.out.he; omega
    have hDl := HI.out.len
    have hz1 := HZ.out
    rcases next_k HI.out hh.he hme hh.b1 hh.n1 with ⟨h0, hnx⟩ | ⟨x, rest', W, hnx, hen, hit, hchg, hxm, hpm⟩
    · have hDK : D.Perm s.K := by have := HI.out.pm; rw [h0, List.append_nil] at this; exact this
      have HD := hid hDK
      clear h0 hh hDK
      go_wp2_with (go_at_call 69; refine (sort_used _ _ a1 c1 D HR.out (by omega)).mono ?_; rintro e w4 ⟨rfl, M, hMp, hMs, hown4, hg4⟩; (have HMP := hid hMp); (have HMS := hid hMs); (have hml := hMp.length_eq); rw [hml] at hown4; (have HO4 := hid hown4); (have HG4 := hid hg4); clear hMp hMs hown4 hg4)
      have hML := ordd_unique HO.out (HMP.out.trans HD.out) (HMS.out.imp (fun h => by omega))
      have HML := hid hML
      have hb4 := chg_to_below HB.out HG4.out (fun k hk => by omega) (Nat.le_refl _)
      have HB4 := hid hb4
      have hz4 := HG4.out.size
      have hDl2 : D.length ≤ 9223372036854775807 := by omega
      clear hML hb4
      go_loopw [6, 26] (fun v6 v26 wi => ∃ (j : Nat) (a2 : Option Addr) (c2 : Nat), j ≤ D.length ∧ v26 = .int .i64 j ∧ v6 = .slice a2 j c2 ∧ Hid (wi.ownsRow (w.heap.size + 1) 142 8 (.slice a1 D.length c1) D.length (kvs M)) ∧ Hid (wi.ownsRow w.heap.size 55 7 (.slice a2 j c2) j (ecs ((M.map Ke.e).take j))) ∧ Hid (Below w.heap.size w wi) ∧ Hid (w.heap.size ≤ wi.heap.size)) (fun _ v26 _ => D.length - (intOf v26).toNat)
      case atStart => exact ⟨0, none, 0, Nat.zero_le _, rfl, rfl, HO4, hid (World.ownsRow_nil _ _ _ _), HB4, hid (by omega)⟩
      case round =>
        obtain ⟨j, a2, c2, hj, rfl, rfl, HR5, HE5, HB5, HZ5⟩ := hrel
        by_cases hlt : j < D.length
        · have hk0 : (0 : Int) ≤ (j : Int) := by omega
          have hk1 : (j : Int) < (D.length : Int) := by omega
          obtain ⟨g, hag, hBg, hgz, hc1, hc2⟩ := own_loc HR5.out (by omega)
          obtain ⟨x, hx⟩ : ∃ x, M[j]? = some x := ⟨_, List.getElem?_eq_getElem (by omega)⟩
          subst hag
          have b1 := kvs_at (Rd.own HR5.out) hx
          have BX := blk8 (heap_new wr (.cells #[.int .i64 x.e.key.dir, .string x.e.key.name, .bool x.e.neg, .int .i64 x.e.node.id, .int .i64 x.e.node.kind, .int .i64 x.e.node.mode, .string x.e.node.target, .int .i64 x.used] 142))
          have hz5 := HZ5.out
          have hsn : (M.map Ke.e).take (j + 1) = (M.map Ke.e).take j ++ [x.e] := by rw [List.take_add_one, List.getElem?_map, hx]; rfl
          have HSN := hid hsn
          clear hx hsn
          go_wp2_with (at_builtin; refine wpList_append_rd rfl _ _ 47 rfl w.heap.size 55 i7 _ 7 72 Tryz.underlying47 HI7.out p7 q7 r7 rfl (by decide) (.slice a2 j c2) j (ecs ((M.map Ke.e).take j)) rfl (own_alloc (own_alloc HE5.out _) _) (.slice (some ⟨wr.heap.size + 1, 0, none⟩) 1 1) 1 [.int .i64 x.e.key.dir, .string x.e.key.name, .bool x.e.neg, .int .i64 x.e.node.id, .int .i64 x.e.node.kind, .int .i64 x.e.node.mode, .string x.e.node.target] rfl (rd_blk (by have e := heap_new (wr.alloc (.cells #[.int .i64 x.e.key.dir, .string x.e.key.name, .bool x.e.neg, .int .i64 x.e.node.id, .int .i64 x.e.node.kind, .int .i64 x.e.node.mode, .string x.e.node.target, .int .i64 x.used] 142)) (.cells #[.int .i64 x.e.key.dir, .string x.e.key.name, .bool x.e.neg, .int .i64 x.e.node.id, .int .i64 x.e.node.kind, .int .i64 x.e.node.mode, .string x.e.node.target] 55); simp only [World.size_alloc] at e; exact e) (by unfold maxLen; omega)) rfl (En.one x.e) (by unfold maxLen; omega) (by omega) (by simp; omega) ?_; intro a5 c5 w5 hown5 hgrow5 hat5)
          have HR6 := own_grown (own_alloc (own_alloc HR5.out _) _) hgrow5 (fun k hk => own_ne2 HR5.out HE5.out (by decide) k hk)
          refine ⟨⟨j + 1, a5, c5, by omega, by go_num, rfl, hid HR6, hid ?_, hid ?_, hid ?_⟩, by simp [intOf]; omega⟩
          · rw [HSN.out, ecs_snoc]; exact hown5
          · exact (HB5.out.trans ((bl2 wr _ _).mono HZ5.out)).grown hgrow5 (by simp; omega) (fun k hk => (own_lt HE5.out hk).1)
          · have := hgrow5.size; simp at this; omega
        · have hjj : (M.map Ke.e).take j = L := by rw [← HML.out]; exact List.take_of_length_le (by simp; omega)
          have hje : j = L.length := by have := HD.out.length_eq; omega
          have HE6 := HE5.out
          rw [hjj, hje] at HE6
          have HE7 := hid HE6
          clear HE6 hjj
          subst hje
          go_wp2
          go_ret
          exact ⟨_, _, rfl, HE7.out, HB5.out⟩
    · have HT := hid hit
      have HG := hid hchg
      have HR2 := hid (ItAt.own (K := s.K) (D := D) (rest := rest) (me := s.me) (cl := s.c1) HG.out HR.out)
      have BX := blk8 (heap_new W (.cells #[.int .i64 x.e.key.dir, .string x.e.key.name, .bool x.e.neg, .int .i64 x.e.node.id, .int .i64 x.e.node.kind, .int .i64 x.e.node.mode, .string x.e.node.target, .int .i64 x.used] 142))
      have hz2 := HG.out.size
      have hlt : D.length + 1 ≤ s.K.length := by have := HT.out.len; simp at this; omega
      clear hh hit hchg hxm hpm
      go_wp2_with (at_builtin; refine wpList_append_rd rfl _ _ 140 rfl (w.heap.size + 1) 142 i8 _ 8 80 Tryz.underlying140 HI8.out p8 q8 r8 rfl (by decide) (.slice a1 D.length c1) D.length (kvs D) rfl (own_alloc (own_alloc HR2.out _) _) (.slice (some ⟨W.heap.size + 1, 0, none⟩) 1 1) 1 [.int .i64 x.e.key.dir, .string x.e.key.name, .bool x.e.neg, .int .i64 x.e.node.id, .int .i64 x.e.node.kind, .int .i64 x.e.node.mode, .string x.e.node.target, .int .i64 x.used] rfl (rd_blk (by have e := heap_new (W.alloc (.cells #[.int .i64 x.e.key.dir, .string x.e.key.name, .bool x.e.neg, .int .i64 x.e.node.id, .int .i64 x.e.node.kind, .int .i64 x.e.node.mode, .string x.e.node.target, .int .i64 x.used] 142)) (.cells #[.int .i64 x.e.key.dir, .string x.e.key.name, .bool x.e.neg, .int .i64 x.e.node.id, .int .i64 x.e.node.kind, .int .i64 x.e.node.mode, .string x.e.node.target, .int .i64 x.used] 142); simp only [World.size_alloc] at e; exact e) (by unfold maxLen; omega)) rfl (Ke.one x) (by unfold maxLen; omega) (by omega) (by simp; omega) ?_; intro a5 c5 w5 hown5 hgrow5 hat5)
      have hgr : ∀ k, (Value.slice a1 D.length c1).ownBlock = some k → w.heap.size + 1 ≤ k := fun k hk => (own_lt HR.out hk).1
      have hbW : Below w.heap.size w ((W.alloc (.cells #[.int .i64 x.e.key.dir, .string x.e.key.name, .bool x.e.neg, .int .i64 x.e.node.id, .int .i64 x.e.node.kind, .int .i64 x.e.node.mode, .string x.e.node.target, .int .i64 x.used] 142)).alloc (.cells #[.int .i64 x.e.key.dir, .string x.e.key.name, .bool x.e.neg, .int .i64 x.e.node.id, .int .i64 x.e.node.kind, .int .i64 x.e.node.mode, .string x.e.node.target, .int .i64 x.used] 142)) := (chg_to_below HB.out HG.out (fun k hk => by omega) (Nat.le_refl _)).trans ((bl2 W _ _).mono (by omega))
      have hI5 : ItAt w5 w.heap.size s.me s.c1 s.K (D ++ [x]) rest' := by
        obtain ⟨⟨c0, hc0, hr⟩, hp⟩ := HT.out.below (bl2 W (.cells #[.int .i64 x.e.key.dir, .string x.e.key.name, .bool x.e.neg, .int .i64 x.e.node.id, .int .i64 x.e.node.kind, .int .i64 x.e.node.mode, .string x.e.node.target, .int .i64 x.used] 142) (.cells #[.int .i64 x.e.key.dir, .string x.e.key.name, .bool x.e.neg, .int .i64 x.e.node.id, .int .i64 x.e.node.kind, .int .i64 x.e.node.mode, .string x.e.node.target, .int .i64 x.used] 142))
        exact ⟨⟨c0, hc0, heap_grown hgrow5 hr (fun e => by have := hgr _ e.symm; omega)⟩, hp⟩
      refine ⟨⟨D ++ [x], rest', a5, c5, by rw [List.length_append]; rfl, hid hI5, hid ?_, hid (hbW.grown hgrow5 (by simp; omega) (fun k hk => by have := hgr k hk; omega)), hid ?_⟩, HI.out.step hI5⟩
      · rw [kvs_snoc, List.length_append]; exact hown5
      · have := hgrow5.size; simp at this; omega

def inDir (d : Int) (e : En) : Bool := e.key.dir == d && !e.neg
def namesOf (d : Int) (D : List Ke) : List En := (D.map Ke.e).filter (inDir d)
theorem namesOf_yes {d : Int} {D : List Ke} {x : Ke} (h : inDir d x.e = true) : namesOf d (D ++ [x]) = namesOf d D ++ [x.e] := by simp [namesOf, h]
theorem namesOf_no {d : Int} {D : List Ke} {x : Ke} (h : inDir d x.e = false) : namesOf d (D ++ [x]) = namesOf d D := by simp [namesOf, h]
theorem namesOf_le (d : Int) (D : List Ke) : (namesOf d D).length ≤ D.length := by
  have := List.length_filter_le (inDir d) (D.map Ke.e)
  rw [List.length_map] at this; exact this
theorem strict_names {N : List En} {d : Int} (hs : N.Pairwise fun x y => nmLt y.key.name x.key.name = false) (hk : (N.map En.key).Nodup) (hd : ∀ e ∈ N, e.key.dir = d) : N.Pairwise fun x y => nmLt x.key.name y.key.name = true := by
  have hk2 : N.Pairwise fun x y => x.key ≠ y.key := by
    have := hk; rw [List.Nodup, List.pairwise_map] at this; exact this
  refine (hs.and hk2).imp_of_mem ?_
  intro x y hx hy ⟨h1, h2⟩
  cases h : nmLt x.key.name y.key.name with
  | true => rfl
  | false =>
    have hn := nm_total h h1
    have hdd : x.key.dir = y.key.dir := by rw [hd x hx, hd y hy]
    exact absurd (by cases hx' : x.key; cases hy' : y.key; rw [hx', hy'] at hn hdd; simp only at hn hdd; rw [hn, hdd]) h2

set_option maxHeartbeats 2000000 in
theorem c_names (w : World) (B p n : Nat) (L : List En) (wh : Int → Bool) (d : Int) (h : CAt w B p n L wh) (hn : n * 80 ≤ 140737488351232) :
    Calls Tryz.prog 114 #[.pointer (some ⟨p, 0, none⟩), .int .i64 d] w fun e w' => ∃ (N : List En) (a : Option Addr) (c : Nat), e = .returned (.slice a N.length c) ∧ N.Perm (L.filter (inDir d)) ∧ (N.Pairwise fun x y => nmLt x.key.name y.key.name = true) ∧ w'.ownsRow w.heap.size 55 7 (.slice a N.length c) N.length (ecs N) ∧ Below w.heap.size w w' := by
  have hLn := h.len
  have HKEYS := hid h.keys
  obtain ⟨s, h0, rfl, h1, h2, h3, h4, h5, h6⟩ := h.ex
  obtain ⟨i7, hi7, p7, q7, r7⟩ := info_parts infoEn
  have hKL : s.K.length = L.length := by have := h5.permL.length_eq; simpa using this.symm
  have b0 := blk3 h0.hp
  have hrg := run_range_k h0.he
  have HH := hid h0
  have HO := hid h5
  have HI7 := hid hi7
  clear h h0 h1 h2 h3 h4 h5 h6 hi7
  go_enter Tryz.func114, Tryz.ntmps114
  go_wp2_with fail
  go_loopw [5] (fun v wr => ∃ (D rest : List Ke) (a2 : Option Addr) (c2 : Nat), v = .slice a2 (namesOf d D).length c2 ∧ Hid (ItAt wr w.heap.size s.me s.c1 s.K D rest) ∧ Hid (wr.ownsRow (w.heap.size + 1) 55 7 (.slice a2 (namesOf d D).length c2) (namesOf d D).length (ecs (namesOf d D))) ∧ Hid (Below w.heap.size w wr) ∧ Hid (w.heap.size + 1 ≤ wr.heap.size)) (fun _ wr => s.K.length - (wr.iterSeen w.heap.size).size)
  case atStart => exact ⟨[], s.K, none, 0, rfl, hid ⟨⟨_, Nat.le_refl _, heap_new w _⟩, List.Perm.refl _⟩, hid (World.ownsRow_nil _ _ _ _), hid (bl1 w _), hid (by simp)⟩
  case round =>
    clear hrg b0
    obtain ⟨D, rest, a2, c2, rfl, HI, HR, HB, HZ⟩ := hrel
    have hh := HH.out.below HB.out
    have hme : w.heap.size ≠ s.me := fun e => by have := blk_lt HH.out.he; omega
    have hDl := HI.out.len
    have hNl := namesOf_le d D
    have hz1 := HZ.out
    rcases next_k HI.out hh.he hme hh.b1 hh.n1 with ⟨h0, hnx⟩ | ⟨x, rest', W, hnx, hen, hit, hchg, hxm, hpm⟩
    · have hDK : D.Perm s.K := by have := HI.out.pm; rw [h0, List.append_nil] at this; exact this
      have HNP := hid (show (namesOf d D).Perm (L.filter (inDir d)) from ((hDK.map Ke.e).trans HO.out.permL.symm).filter _)
      clear h0 hh hDK
      go_wp2_with (go_at_call 137; refine (sort_names _ _ a2 c2 (namesOf d D) HR.out (by omega)).mono ?_; rintro e w4 ⟨rfl, M, hMp, hMs, hown4, hg4⟩; (have HMP := hid hMp); (have HMS := hid hMs); (have hml := hMp.length_eq); (have HO4 := hid hown4); (have HG4 := hid hg4); clear hMp hMs hown4 hg4)
      go_ret
      have hP := HMP.out.trans HNP.out
      have hkN : (M.map En.key).Nodup := (hP.map En.key).nodup_iff.2 (HKEYS.out.sublist ((List.filter_sublist ..).map _))
      refine ⟨M, a2, c2, by rw [hml]; rfl, hP, strict_names (d := d) HMS.out hkN (fun e he => ?_), ownsRow_mono HO4.out (by omega), chg_to_below HB.out HG4.out (fun k hk => by omega) (Nat.le_refl _)⟩
      have := (List.mem_filter.1 (hP.mem_iff.1 he)).2
      simp [inDir] at this; exact this.1
    · have HT := hid hit
      have HG := hid hchg
      have HR2 := hid (ItAt.own (K := s.K) (D := D) (rest := rest) (me := s.me) (cl := s.c1) HG.out HR.out)
      have BX := blk8 (heap_new W (.cells #[.int .i64 x.e.key.dir, .string x.e.key.name, .bool x.e.neg, .int .i64 x.e.node.id, .int .i64 x.e.node.kind, .int .i64 x.e.node.mode, .string x.e.node.target, .int .i64 x.used] 142))
      have hz2 := HG.out.size
      have hlt : D.length + 1 ≤ s.K.length := by have := HT.out.len; simp at this; omega
      by_cases hd : x.e.key.dir = d
      · have hd' : (x.e.key.dir == d) = true := by simpa using hd
        cases hng : x.e.neg with
        | true =>
          have HNO := hid (namesOf_no (d := d) (D := D) (x := x) (by simp [inDir, hng]))
          simp only [hng] at hnx hen BX
          clear hh hit hchg hxm hpm hd hng
          go_wp2
          refine ⟨⟨D ++ [x], rest', a2, c2, by rw [HNO.out], hid (HT.out.below (bl1 W _)), hid (by rw [HNO.out]; exact own_alloc HR2.out _), hid ((chg_to_below HB.out HG.out (fun k hk => by omega) (Nat.le_refl _)).trans ((bl1 W _).mono (by omega))), hid (by simp; omega)⟩, HI.out.step (HT.out.below (bl1 W _))⟩

        | false =>
          have HYES := hid (namesOf_yes (d := d) (D := D) (x := x) (by simp [inDir, hng, hd]))
          have HONE := hid (En.one x.e)
          have HCE := hid (show x.e.cells = [.int .i64 x.e.key.dir, .string x.e.key.name, .bool false, .int .i64 x.e.node.id, .int .i64 x.e.node.kind, .int .i64 x.e.node.mode, .string x.e.node.target] by rw [← hng]; rfl)
          rw [HCE.out] at HONE
          simp only [hng] at hnx hen BX
          clear hh hit hchg hxm hpm hd hng
          go_wp2_with (at_builtin; refine wpList_append_rd rfl _ _ 47 rfl (w.heap.size + 1) 55 i7 _ 7 72 Tryz.underlying47 HI7.out p7 q7 r7 rfl (by decide) (.slice a2 (namesOf d D).length c2) (namesOf d D).length (ecs (namesOf d D)) rfl (own_alloc (own_alloc HR2.out _) _) (.slice (some ⟨W.heap.size + 1, 0, none⟩) 1 1) 1 [.int .i64 x.e.key.dir, .string x.e.key.name, .bool false, .int .i64 x.e.node.id, .int .i64 x.e.node.kind, .int .i64 x.e.node.mode, .string x.e.node.target] rfl (rd_blk (by have e := heap_new (W.alloc (.cells #[.int .i64 x.e.key.dir, .string x.e.key.name, .bool false, .int .i64 x.e.node.id, .int .i64 x.e.node.kind, .int .i64 x.e.node.mode, .string x.e.node.target, .int .i64 x.used] 142)) (.cells #[.int .i64 x.e.key.dir, .string x.e.key.name, .bool false, .int .i64 x.e.node.id, .int .i64 x.e.node.kind, .int .i64 x.e.node.mode, .string x.e.node.target] 55); simp only [World.size_alloc] at e; exact e) (by unfold maxLen; omega)) rfl HONE.out (by unfold maxLen; omega) (by omega) (by simp; omega) ?_; intro a5 c5 w5 hown5 hgrow5 hat5)
          have hgr : ∀ k, (Value.slice a2 (namesOf d D).length c2).ownBlock = some k → w.heap.size + 1 ≤ k := fun k hk => (own_lt HR.out hk).1
          have hbW : Below w.heap.size w ((W.alloc (.cells #[.int .i64 x.e.key.dir, .string x.e.key.name, .bool false, .int .i64 x.e.node.id, .int .i64 x.e.node.kind, .int .i64 x.e.node.mode, .string x.e.node.target, .int .i64 x.used] 142)).alloc (.cells #[.int .i64 x.e.key.dir, .string x.e.key.name, .bool false, .int .i64 x.e.node.id, .int .i64 x.e.node.kind, .int .i64 x.e.node.mode, .string x.e.node.target] 55)) := (chg_to_below HB.out HG.out (fun k hk => by omega) (Nat.le_refl _)).trans ((bl2 W _ _).mono (by omega))
          have hI5 : ItAt w5 w.heap.size s.me s.c1 s.K (D ++ [x]) rest' := by
            obtain ⟨⟨c0, hc0, hr⟩, hp⟩ := HT.out.below (bl2 W (.cells #[.int .i64 x.e.key.dir, .string x.e.key.name, .bool false, .int .i64 x.e.node.id, .int .i64 x.e.node.kind, .int .i64 x.e.node.mode, .string x.e.node.target, .int .i64 x.used] 142) (.cells #[.int .i64 x.e.key.dir, .string x.e.key.name, .bool false, .int .i64 x.e.node.id, .int .i64 x.e.node.kind, .int .i64 x.e.node.mode, .string x.e.node.target] 55))
            exact ⟨⟨c0, hc0, heap_grown hgrow5 hr (fun e => by have := hgr _ e.symm; omega)⟩, hp⟩
          refine ⟨⟨D ++ [x], rest', a5, c5, by rw [HYES.out, List.length_append]; rfl, hid hI5, hid ?_, hid (hbW.grown hgrow5 (by simp; omega) (fun k hk => by have := hgr k hk; omega)), hid ?_⟩, HI.out.step hI5⟩
          · rw [HYES.out, ecs_snoc, List.length_append, HCE.out]; exact hown5
          · have := hgrow5.size; simp at this; omega
      · have hd' : (x.e.key.dir == d) = false := by simpa using hd
        have HNO := hid (namesOf_no (d := d) (D := D) (x := x) (by simp [inDir, hd]))
        clear hh hit hchg hxm hpm hd
        go_wp2
        refine ⟨⟨D ++ [x], rest', a2, c2, by rw [HNO.out], hid (HT.out.below (bl1 W _)), hid (by rw [HNO.out]; exact own_alloc HR2.out _), hid ((chg_to_below HB.out HG.out (fun k hk => by omega) (Nat.le_refl _)).trans ((bl1 W _).mono (by omega))), hid (by simp; omega)⟩, HI.out.step (HT.out.below (bl1 W _))⟩


/-- does nothing hang below an entry -/
def leafL (k : Ky) (L : List En) : Bool := match findL k L with | none => false | some e => !L.any fun x => x.key.dir == (if e.neg then 0 else e.node.id)
def negL (L : List En) : Nat := L.countP fun e => e.neg
theorem hangs_of {K : List Ke} {ck : Int} {L : List En} (h : Ordd K ck L) (d : Int) : hangs d K = L.any fun x => x.key.dir == d := by
  unfold hangs
  rw [Bool.eq_iff_iff, List.any_eq_true, List.any_eq_true]
  constructor
  · rintro ⟨x, hx, h2⟩; exact ⟨x.e, h.permL.mem_iff.2 (List.mem_map.2 ⟨x, hx, rfl⟩), h2⟩
  · rintro ⟨e, he, h2⟩; obtain ⟨x, hx, rfl⟩ := List.mem_map.1 (h.permL.mem_iff.1 he); exact ⟨x, hx, h2⟩

theorem c_leaf (w : World) (B p n : Nat) (L : List En) (wh : Int → Bool) (k : Ky) (h : CAt w B p n L wh) :
    Calls Tryz.prog 121 #[.pointer (some ⟨p, 0, none⟩), .agg #[.int .i64 k.dir, .string k.name]] w fun e w' => e = .returned (.bool (leafL k L)) ∧ Below w.heap.size w w' := by
  obtain ⟨s, h0, rfl, h1, h2, h3, h4, h5, h6⟩ := h.ex
  cases hk : atK k s.K with
  | none =>
    have := dent_leaf_no w B s k h0 hk
    rw [show false = leafL k L by simp [leafL, find_none h5 hk]] at this; exact this
  | some j =>
    obtain ⟨x, hx, rfl⟩ := atK_at hk
    have hf := find_some h5 h0.k1 hk hx
    cases hng : x.e.neg with
    | true =>
      have := dent_leaf_neg w B s _ j x h0 hk hx hng
      rw [show (!hangs 0 s.K) = leafL x.e.key L by simp [leafL, hf, hng, hangs_of h5]] at this; exact this
    | false =>
      have := dent_leaf_pos w B s _ j x h0 hk hx hng
      rw [show (!hangs x.e.node.id s.K) = leafL x.e.key L by simp [leafL, hf, hng, hangs_of h5]] at this; exact this

theorem c_negatives (w : World) (B p n : Nat) (L : List En) (wh : Int → Bool) (h : CAt w B p n L wh) (hn : n < 4611686018427387904) :
    Calls Tryz.prog 104 #[.pointer (some ⟨p, 0, none⟩)] w fun e w' => e = .returned (.int .i64 (negL L)) ∧ Below w.heap.size w w' := by
  have hl := h.len
  obtain ⟨s, h0, rfl, h1, h2, h3, h4, h5, h6⟩ := h.ex
  have := dent_negatives w B s h0 (by have := h5.permL.length_eq; simp at this; omega)
  rw [show negs s.K = negL L by rw [negL, h5.permL.countP_eq, List.countP_map]; rfl] at this; exact this

theorem negL_le (L : List En) : negL L ≤ L.length := List.countP_le_length

end Go.Proofs.YtbjibkjenleloaaGreatDoor

end

section
namespace Go.Proofs.YtbjibkjenleloaaGreatDoor
set_option linter.unusedVariables false
set_option linter.unusedSimpArgs false
open Go.RowKit
attribute [local go_sem ↓] Go.wp_at_zero Go.wp_at_succ

/-! ### the document's cache -/

def ics (l : List Int) : List Value := l.map fun n => .int .i64 n

/-- the document's cache at p: entries and whole directories -/
structure RAt (w : World) (p : Nat) (L : List En) (ws : List Int) : Prop where
  ex : ∃ aL cL aW cW, w.heap[p]? = some (.cells #[.slice aL L.length cL, .slice aW ws.length cW] 112 (0, 0)) ∧
    w.ownsRow (p + 1) 55 7 (.slice aL L.length cL) L.length (ecs L) ∧ w.ownsRow (p + 1) 3 1 (.slice aW ws.length cW) ws.length (ics ws)

theorem RAt.lt {w : World} {p : Nat} {L : List En} {ws : List Int} (h : RAt w p L ws) : p < w.heap.size := by
  obtain ⟨_, _, _, _, h1, _⟩ := h.ex; exact blk_lt h1
theorem RAt.chg {w w' : World} {p : Nat} {L : List En} {ws : List Int} (h : RAt w p L ws) {F : Nat → Prop} (hc : Chg F w w') (hF : ∀ k, p ≤ k → k < w.heap.size → ¬ F k) : RAt w' p L ws := by
  have hl := h.lt
  obtain ⟨aL, cL, aW, cW, h1, h2, h3⟩ := h.ex
  exact ⟨aL, cL, aW, cW, heap_chg hc h1 (hF p (Nat.le_refl _) hl), ownsRow_chg h2 fun k hk hlt => hc.block k hlt (hF k (by have := (own_lt h2 hk).1; omega) hlt), ownsRow_chg h3 fun k hk hlt => hc.block k hlt (hF k (by have := (own_lt h3 hk).1; omega) hlt)⟩
theorem RAt.below {w w' : World} {p : Nat} {L : List En} {ws : List Int} (h : RAt w p L ws) (hb : Below w.heap.size w w') : RAt w' p L ws := h.chg (Chg.below hb) fun _ _ _ h => h

theorem ecs_at {w : World} {g n c m : Nat} {M : List En} {j : Nat} {x : En} (h : Rd w (.slice (some ⟨g, 0, none⟩) n c) m (ecs M)) (hx : M[j]? = some x) :
    w.cell? ⟨g, j * 7, none⟩ = some (.int .i64 x.key.dir) ∧ w.cell? ⟨g, j * 7 + 1, none⟩ = some (.string x.key.name) ∧ w.cell? ⟨g, j * 7 + 2, none⟩ = some (.bool x.neg) ∧ w.cell? ⟨g, j * 7 + 3, none⟩ = some (.int .i64 x.node.id) ∧ w.cell? ⟨g, j * 7 + 4, none⟩ = some (.int .i64 x.node.kind) ∧ w.cell? ⟨g, j * 7 + 5, none⟩ = some (.int .i64 x.node.mode) ∧ w.cell? ⟨g, j * 7 + 6, none⟩ = some (.string x.node.target) := by
  have g0 : ∀ (i : Nat) (v : Value), x.cells[i]? = some v → w.cell? ⟨g, j * 7 + i, none⟩ = some v := fun i v hi => by
    have := h.at _ _ (flatMap_at (f := En.cells) (sz := 7) (fun _ => rfl) hx hi)
    simpa using this
  exact ⟨g0 0 _ rfl, g0 1 _ rfl, g0 2 _ rfl, g0 3 _ rfl, g0 4 _ rfl, g0 5 _ rfl, g0 6 _ rfl⟩

/-- the place of a key -/
def atE (k : Ky) (L : List En) : Int := match L.findIdx? (isK k) with | some j => (j : Int) | none => -1

set_option maxHeartbeats 1000000 in
theorem r_at (w : World) (p : Nat) (L : List En) (ws : List Int) (k : Ky) (h : RAt w p L ws) (hn : L.length < 4611686018427387904) :
    Calls Tryz.prog 209 #[.pointer (some ⟨p, 0, none⟩), .agg #[.int .i64 k.dir, .string k.name]] w fun e w' => e = .returned (.int .i64 (atE k L)) ∧ Below w.heap.size w w' := by
  obtain ⟨aL, cL, aW, cW, h1, h2, h3⟩ := h.ex
  have H2 := hid h2
  have H1 := hid (heap_old h1 (.cells #[.int .i64 k.dir, .string k.name] 53))
  have hp := blk_lt h1
  clear h h1 h2 h3
  go_enter Tryz.func209, Tryz.ntmps209
  go_wp2_with fail
  go_loopw [5] (fun v wr => ∃ (j : Nat), j ≤ L.length ∧ v = .int .i64 j ∧ Hid (Dr (w.alloc (.cells #[.int .i64 k.dir, .string k.name] 53)) wr) ∧ Hid ((L.take j).findIdx? (isK k) = none)) (fun v _ => L.length - (intOf v).toNat)
  case atStart => exact ⟨0, Nat.zero_le _, rfl, hid (Dr.refl _), hid (by simp)⟩
  case round =>
    obtain ⟨j, hj, rfl, HD, HN⟩ := hrel
    obtain ⟨q, rfl⟩ := HD.out
    have b0 := blk2 H1.out
    have BK := blk2 (heap_new w (.cells #[.int .i64 k.dir, .string k.name] 53))
    have hnn : L.length ≤ 9223372036854775807 := by omega
    by_cases hlt : j < L.length
    · have hk0 : (0 : Int) ≤ (j : Int) := by omega
      have hk1 : (j : Int) < (L.length : Int) := by omega
      obtain ⟨g, hag, hBg, hgz, hc1, hc2⟩ := own_loc H2.out (by omega)
      obtain ⟨x, hx⟩ : ∃ x, L[j]? = some x := ⟨_, List.getElem?_eq_getElem hlt⟩
      have H2' := hid (own_alloc H2.out (.cells #[.int .i64 k.dir, .string k.name] 53))
      subst hag
      have b1 := ecs_at (Rd.own H2'.out) hx
      have HX := hid hx
      have heq := fun W => eqIn_key x.key.dir k.dir x.key.name k.name W
      clear hx
      by_cases hk : k = x.key
      · rw [show decide ((⟨x.key.dir, x.key.name⟩ : Ky) = ⟨k.dir, k.name⟩) = true by rw [hk]; simp] at heq
        have HF := hid (show atE k L = (j : Int) by
          unfold atE
          rw [(List.findIdx?_eq_some_iff_getElem (p := isK k) (i := j)).2 ⟨hlt, by have := (List.getElem?_eq_some_iff.1 HX.out).2; simp [isK, this, hk], fun i hi => ?_⟩]
          have := List.findIdx?_eq_none_iff.1 HN.out L[i] (List.mem_iff_getElem?.2 ⟨i, by rw [List.getElem?_take_of_lt hi, List.getElem?_eq_getElem]⟩)
          simp [this])
        clear hk
        go_wp2_with fail
        go_quiet (fail)
        go_wp2
        go_ret
        exact ⟨by rw [HF.out]; rfl, below_drewN (below_drewN (bl1 w _) q) _⟩
      · have hne : ¬ ((⟨x.key.dir, x.key.name⟩ : Ky) = ⟨k.dir, k.name⟩) := fun e => hk e.symm
        simp only [hne, decide_false] at heq
        have HF := hid (show (L.take (j + 1)).findIdx? (isK k) = none by
          rw [List.take_add_one, HX.out, List.findIdx?_append, HN.out]; simp [isK, hk])
        clear hk hne
        go_wp2_with fail
        go_quiet (fail)
        go_wp2
        exact ⟨⟨j + 1, by omega, by go_num, hid ⟨_, rfl⟩, HF⟩, by simp [intOf]; omega⟩
    · have hje : L.take j = L := List.take_of_length_le (by omega)
      rw [hje] at HN
      have HF := hid (show atE k L = -1 by unfold atE; rw [HN.out])
      clear hje
      go_wp2
      go_ret
      exact ⟨by rw [HF.out]; rfl, below_drewN (bl1 w _) q⟩



theorem rd_grown {w w' : World} {n : Nat} {v : Value} {xs : List Value} {row : Option Nat} (h : Rd w v n xs) (hg : w.grownBy w' row) (hne : ∀ k, v.ownBlock = some k → row ≠ some k) : Rd w' v n xs :=
  h.chg fun k hk hlt => by rw [hg.block k hlt (fun e => hne k hk e.symm)]
theorem rd_take {w : World} {g o n c i sz : Nat} {xs : List Value} (h : Rd w (.slice (some ⟨g, o, none⟩) n c) n xs) (hi : i ≤ n) : Rd w (.slice (some ⟨g, o, none⟩) i c) i (xs.take (i * sz)) := by
  rcases h with ⟨h, _⟩ | ⟨ad, cap, hv, h1, h2, h3⟩
  · cases h
  · simp only [Value.slice.injEq, Option.some.injEq] at hv
    obtain ⟨rfl, _, rfl⟩ := hv
    refine .inr ⟨_, _, rfl, by omega, h2, fun k v hk => h3 k v ?_⟩
    by_cases hlt : k < i * sz
    · rw [List.getElem?_take_of_lt hlt] at hk; exact hk
    · rw [List.getElem?_eq_none (by simp; omega)] at hk; cases hk
theorem rd_suffix {w : World} {g n c i sz : Nat} {xs : List Value} (h : Rd w (.slice (some ⟨g, 0, none⟩) n c) n xs) (hl : xs.length = n * sz) (hi : i ≤ n) : Rd w (.slice (some (if c = i then ⟨g, 0, none⟩ else ⟨g, i * sz, none⟩)) (n - i) (c - i)) (n - i) (xs.drop (i * sz)) := by
  rcases h with ⟨h, _⟩ | ⟨ad, cap, hv, h1, h2, h3⟩
  · cases h
  · simp only [Value.slice.injEq, Option.some.injEq] at hv
    obtain ⟨rfl, _, rfl⟩ := hv
    refine .inr ⟨_, _, rfl, by omega, by omega, fun k v hk => ?_⟩
    rw [List.getElem?_drop] at hk
    have hlt := (List.getElem?_eq_some_iff.1 hk).1
    have hci : ¬ c = i := by
      intro e
      have : n = i := by omega
      subst this; omega
    rw [if_neg hci, add_mid]
    have := h3 _ v hk
    rw [add_mid] at this; simpa using this

theorem ecs_append (L M : List En) : ecs (L ++ M) = ecs L ++ ecs M := by simp [ecs]
theorem flat_take {α : Type} {f : α → List Value} {sz : Nat} (hf : ∀ x, (f x).length = sz) (L : List α) (i : Nat) : (L.flatMap f).take (i * sz) = (L.take i).flatMap f := by
  induction L generalizing i with
  | nil => simp
  | cons x L ih =>
    cases i with
    | zero => simp
    | succ i =>
      rw [List.take_succ_cons, List.flatMap_cons, List.flatMap_cons, ← ih i, Nat.add_mul, Nat.one_mul, Nat.add_comm, List.take_append, hf, List.take_of_length_le (by rw [hf]; omega), Nat.add_sub_cancel_left]
theorem flat_drop {α : Type} {f : α → List Value} {sz : Nat} (hf : ∀ x, (f x).length = sz) (L : List α) (i : Nat) : (L.flatMap f).drop (i * sz) = (L.drop i).flatMap f := by
  induction L generalizing i with
  | nil => simp
  | cons x L ih =>
    cases i with
    | zero => simp
    | succ i =>
      rw [List.drop_succ_cons, List.flatMap_cons, ← ih i, Nat.add_mul, Nat.one_mul, Nat.add_comm, List.drop_append, hf, List.drop_of_length_le (by rw [hf]; omega), Nat.add_sub_cancel_left, List.nil_append]
theorem ecs_one (L : List En) : ∀ u ∈ ecs L, u.oneCell' = true := by
  intro u hu
  obtain ⟨x, _, hx⟩ := List.mem_flatMap.1 hu
  exact En.one x u hx


end Go.Proofs.YtbjibkjenleloaaGreatDoor

end
