import Derived.Test.YtakkdaenindboaaRows
import Derived.Test.YtakkdaenindboaaLibB
import Derived.Test.YtakkdaenindboaaLibF
import Derived.BigQuiet
import Derived.Deep.DeepMust
import Derived.Deep.RegionHeld3
import Derived.Deep.DrawnRows
import Derived.Deep.RegionLaw
import Derived.Laws.Externs
namespace Go.Proofs.Ytakkdaenindboaa
set_option linter.unusedVariables false
set_option linter.unusedSimpArgs false
open Go.RowKit
attribute [local go_sem ↓] Go.wp_at_zero Go.wp_at_succ

/-- a part of a mark: a whole number from 0 to MaxMark -/
def InM (n : Int) : Prop := 0 ≤ n ∧ n ≤ 1099511627776
instance (n : Int) : Decidable (InM n) := inferInstanceAs (Decidable (0 ≤ n ∧ n ≤ 1099511627776))
/-- a number of 64 bits -/
def I64 (n : Int) : Prop := -9223372036854775808 ≤ n ∧ n ≤ 9223372036854775807

theorem fl_max : fl 1099511627776 = 4787326403894837248 := by kernel_rfl
theorem fl_one : fl 1 = 4607182418800017408 := by kernel_rfl
theorem fl_0 : fl 0 = 0 := by kernel_rfl

theorem cmp_lt {a b : Int} (h : a < b) : compare a b = .lt := by simp [compare, compareOfLessAndEq, h]
theorem cmp_gt {a b : Int} (h : b < a) : compare a b = .gt := by
  simp only [compare, compareOfLessAndEq]; rw [if_neg (by omega), if_neg (by omega)]
theorem cmp_eq (a : Int) : compare a a = .eq := by simp [compare, compareOfLessAndEq]

theorem fl_maxv : Fl 4787326403894837248 1099511627776 := by
  have := fl_small 1099511627776 (by decide)
  rwa [fl_max] at this

theorem ord_in {n : Int} (h : InM n) : (FloatKind.f64.format.order (fl n) 0 = some .gt ∨ FloatKind.f64.format.order (fl n) 0 = some .eq) ∧ (FloatKind.f64.format.order (fl n) 4787326403894837248 = some .lt ∨ FloatKind.f64.format.order (fl n) 4787326403894837248 = some .eq) := by
  unfold InM at h
  have h1 := fl_small n (by omega)
  rw [fl_order h1 fl_zero, fl_order h1 fl_maxv]
  constructor
  · rcases Int.lt_or_eq_of_le h.1 with h2 | h2
    · exact .inl (by rw [cmp_gt h2])
    · subst h2; exact .inr rfl
  · rcases Int.lt_or_eq_of_le h.2 with h2 | h2
    · exact .inl (by rw [cmp_lt h2])
    · subst h2; exact .inr rfl

theorem ord_out {n : Int} (hn : I64 n) (h : ¬ InM n) : FloatKind.f64.format.order (fl n) 0 = some .lt ∨ ((FloatKind.f64.format.order (fl n) 0 = some .gt) ∧ FloatKind.f64.format.order (fl n) 4787326403894837248 = some .gt) := by
  unfold InM at h
  unfold I64 at hn
  obtain ⟨v, h1, h2, h3, h4⟩ := fl_any n (by omega)
  rw [fl_order h1 fl_zero, fl_order h1 fl_maxv]
  by_cases h0 : n < 0
  · exact .inl (by rw [cmp_lt (h2.2 h0)])
  · have h5 : ¬ v < 0 := fun h => h0 (h2.1 h)
    refine .inr ?_
    have hv : 1099511627776 < v := by
      by_cases hs : n.natAbs < 2 ^ 53
      · have := h3 hs; omega
      · have := h4 (by omega); omega
    exact ⟨by rw [cmp_gt (by omega)], by rw [cmp_gt hv]⟩

theorem run_toIntegral (x : Nat) (s : Bool) (m : Nat) (i : Int) (h : FloatKind.f64.decode x = .number s m i) (w : World) :
    (Extern.MathFloor.toIntegral "math.archTrunc" .zero #[.float .f64 x]).run Try.prog w = .ok (.float .f64 (FloatKind.f64.encode ((Ieee.Datum.number s m i).integral .zero))) w := by
  have key : ∀ d, FloatKind.f64.decode x = d → (∀ b f, d ≠ .nan b f) → (Extern.MathFloor.toIntegral "math.archTrunc" .zero #[.float .f64 x]).run Try.prog w = .ok (.float .f64 (FloatKind.f64.encode (d.integral .zero))) w := by
    intro d hd hn
    show Sem.run Try.prog (Extern.MathFloor.toIntegral.match_1 (fun _ => Sem Value) (FloatKind.f64.decode x) _ _) w = _
    rw [hd]
    cases d with
    | nan b f => exact absurd rfl (hn b f)
    | number => rfl
    | infinity => rfl
  exact key _ h (by simp)

theorem arch_trunc (n : Int) (h : InM n) (w : World) : (callFunc 73 #[.float .f64 (fl n)]).run Try.prog w = .ok (.value (.float .f64 (fl n))) w := by
  obtain ⟨k, rfl⟩ := Int.eq_ofNat_of_zero_le h.1
  have hk : k < 2 ^ 53 := by have := h.2; omega
  rw [run_callFunc_extern (e := Extern.MathFloor.toIntegral "math.archTrunc" .zero) Try.func73 (by kernel_rfl) (by kernel_rfl) (by kernel_rfl) (by kernel_rfl)]
  obtain ⟨j, hj, hr⟩ := fl_read k hk
  have h1 := fl_trunc k hk
  have h2 : FloatKind.f64.decode (fl k) = .number false (k * 2 ^ j) (-(j : Int)) := hr
  rw [run_toIntegral _ _ _ _ h2, ← h2, h1]
  rfl

set_option maxHeartbeats 400000 in
theorem trunc_any (n : Int) (h : InM n) (w : World) : Calls Try.prog 67 #[.float .f64 (fl n)] w fun e w' => e = .returned (.float .f64 (fl n)) ∧ w = w' := by
  have hx := arch_trunc n h
  go_enter Try.func67, Try.ntmps67
  go_wp2
  go_ret
  exact ⟨rfl, rfl⟩

set_option maxHeartbeats 400000 in
theorem whole_yes (n : Int) (h : InM n) (w : World) : Calls Try.prog 55 #[.float .f64 (fl n)] w fun e w' => e = .returned (.bool true) ∧ w = w' := by
  have h3 : FloatKind.f64.format.order (fl n) (fl n) = some .eq := by
    have h1 := fl_small n (by unfold InM at h; omega)
    rw [fl_order h1 h1, cmp_eq]
  have HH := hid h
  obtain ⟨h1 | h1, h2 | h2⟩ := ord_in h
  all_goals
    clear h
    go_enter Try.func55, Try.ntmps55
    go_wp2_with (go_at_call 67; refine (trunc_any n HH.out _).mono ?_; rintro e w1 ⟨rfl, rfl⟩)
    go_ret
    exact ⟨rfl, rfl⟩

set_option maxHeartbeats 400000 in
theorem whole_no (n : Int) (hn : I64 n) (h : ¬ InM n) (w : World) : Calls Try.prog 55 #[.float .f64 (fl n)] w fun e w' => e = .returned (.bool false) ∧ w = w' := by
  rcases ord_out hn h with h1 | ⟨h1, h2⟩
  all_goals
    clear h hn
    go_enter Try.func55, Try.ntmps55
    go_wp2
    go_ret
    exact ⟨rfl, rfl⟩

end Go.Proofs.Ytakkdaenindboaa
