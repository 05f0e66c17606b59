/- Parts of a proof about the given program, in build order: LibF, MarkA, MarkB, MarkC, TidA. No condition. -/
import Derived.WalkKit
import Derived.WalkLawsBesides
import Derived.Test.YtbjibkjenleloaaGreatDoorRows
import Derived.Test.YtbjibkjenleloaaGreatDoorMg00
import Derived.BigQuiet
import Derived.Deep.DeepMust
import Derived.Deep.RegionHeld3
import Derived.Deep.DrawnRows
import Derived.Deep.RegionLaw
import Derived.Laws.Externs
import Derived.Test.YtbjibkjenleloaaGreatDoorMg11
/- Floats that are whole numbers: what they read as, how they compare, add, subtract, are cut. No program in it. -/
section
namespace Go.Proofs.YtbjibkjenleloaaGreatDoor
set_option linter.unusedVariables false
set_option linter.unusedSimpArgs false
open Ieee

/-- the bits of 'float64(n)' -/
def fl (n : Int) : Nat := floatOfInt .f64 n

theorem fl_def (n : Int) : fl n = Ieee.double.nearest (n < 0) n.natAbs 0 := rfl

theorem two_pos (n : Nat) : 0 < 2 ^ n := Nat.two_pow_pos n

/-- below 2^53 the rung is exact -/
theorem nearest_small (s : Bool) (n : Nat) (h0 : 0 < n) (h : n < 2 ^ 53) :
    Ieee.double.nearest s n 0 = Ieee.double.word s ((n.log2 + 1022) * 2 ^ 52 + n * 2 ^ (52 - n.log2)) := by
  have hne : n ≠ 0 := by omega
  have hl1 : 2 ^ n.log2 ≤ n := Nat.log2_self_le hne
  have hl2 : n < 2 ^ (n.log2 + 1) := Nat.lt_log2_self
  have hL : n.log2 ≤ 52 := by
    have := (Nat.log2_lt hne).2 h; omega
  unfold Format.nearest
  rw [if_neg hne]
  have hlp : Ieee.double.leastPlace = -1074 := by decide
  have hfb : Ieee.double.fractionBits = 52 := rfl
  have hlast : max ((0 : Int) + n.log2 - Ieee.double.fractionBits) (-1074) = (n.log2 : Int) - 52 := by
    rw [hfb]; omega
  simp only [hlp, hlast]
  have e1 : (0 - ((n.log2 : Int) - 52)).toNat = 52 - n.log2 := by omega
  have e2 : ((n.log2 : Int) - 52 - 0).toNat = 0 := by omega
  have e3 : ((n.log2 : Int) - 52 - -1074).toNat = n.log2 + 1022 := by omega
  rw [e1, e2, e3]
  have hcut : Toward.cut .even s (n <<< (52 - n.log2)) 0 = n * 2 ^ (52 - n.log2) := by
    simp [Toward.cut, Nat.shiftLeft_eq, Nat.mod_one]
  rw [hcut]
  have hb : Ieee.double.binade = 2 ^ 52 := rfl
  have hi : Ieee.double.infRung = 2047 * 2 ^ 52 := rfl
  rw [hb, hi]
  congr 1
  apply Nat.min_eq_left
  have h3 : n * 2 ^ (52 - n.log2) < 2 ^ 53 := by
    calc n * 2 ^ (52 - n.log2) < 2 ^ (n.log2 + 1) * 2 ^ (52 - n.log2) := Nat.mul_lt_mul_of_pos_right hl2 (two_pos _)
      _ = 2 ^ 53 := by rw [← Nat.pow_add]; congr 1; omega
  omega

theorem mant_bounds (n : Nat) (h0 : 0 < n) (h : n < 2 ^ 53) : n.log2 ≤ 52 ∧ 2 ^ 52 ≤ n * 2 ^ (52 - n.log2) ∧ n * 2 ^ (52 - n.log2) < 2 ^ 53 := by
  have hne : n ≠ 0 := by omega
  have hl1 : 2 ^ n.log2 ≤ n := Nat.log2_self_le hne
  have hl2 : n < 2 ^ (n.log2 + 1) := Nat.lt_log2_self
  have hL : n.log2 ≤ 52 := by
    have := (Nat.log2_lt hne).2 h; omega
  refine ⟨hL, ?_, ?_⟩
  · calc 2 ^ 52 = 2 ^ n.log2 * 2 ^ (52 - n.log2) := by rw [← Nat.pow_add]; congr 1; omega
      _ ≤ n * 2 ^ (52 - n.log2) := Nat.mul_le_mul_right _ hl1
  · calc n * 2 ^ (52 - n.log2) < 2 ^ (n.log2 + 1) * 2 ^ (52 - n.log2) := Nat.mul_lt_mul_of_pos_right hl2 (two_pos _)
      _ = 2 ^ 53 := by rw [← Nat.pow_add]; congr 1; omega

/-- a word with a rung in the normal range reads as its mantissa -/
theorem read_word (s : Bool) (e m : Nat) (he : 1 ≤ e) (he2 : e < 2047) (hm1 : 2 ^ 52 ≤ m) (hm2 : m < 2 ^ 53) :
    Ieee.double.read (Ieee.double.word s ((e - 1) * 2 ^ 52 + m)) = .number s m ((e : Int) - 1075) := by
  have hr1 : (e - 1) * 2 ^ 52 + m < 2047 * 2 ^ 52 := by omega
  have hr2 : 2 ^ 52 ≤ (e - 1) * 2 ^ 52 + m := by omega
  have hsw : Ieee.double.signWeight = 2 ^ 63 := rfl
  have hb : Ieee.double.binade = 2 ^ 52 := rfl
  have hi : Ieee.double.infRung = 2047 * 2 ^ 52 := rfl
  have hlp : Ieee.double.leastPlace = -1074 := by decide
  obtain ⟨r, hr⟩ : ∃ r, r = (e - 1) * 2 ^ 52 + m := ⟨_, rfl⟩
  rw [← hr] at hr1 hr2 ⊢
  have hmod : Ieee.double.word s r % 2 ^ 63 = r := by
    cases s <;> simp only [Format.word, hsw, if_true, Bool.false_eq_true, if_false] <;> omega
  have hdiv : (Ieee.double.word s r / 2 ^ 63 % 2 == 1) = s := by
    cases s <;> simp only [Format.word, hsw, if_true, Bool.false_eq_true, if_false]
    · have : r / 2 ^ 63 = 0 := Nat.div_eq_of_lt (by omega)
      simp [this]
    · have : (2 ^ 63 + r) / 2 ^ 63 = 1 := by omega
      simp [this]
  unfold Format.read
  simp only [hsw, hmod, hdiv, hb, hi, hlp]
  rw [if_neg (by omega), if_pos hr1]
  have hq : r / 2 ^ 52 = e := by omega
  have hmm : r % 2 ^ 52 = m - 2 ^ 52 := by omega
  rw [hq, hmm]
  have a1 : 2 ^ 52 + (m - 2 ^ 52) = m := by omega
  have a2 : (-1074 : Int) + ((e - 1 : Nat) : Int) = (e : Int) - 1075 := by omega
  rw [a1, a2]

theorem read_small (s : Bool) (n : Nat) (h0 : 0 < n) (h : n < 2 ^ 53) :
    Ieee.double.read (Ieee.double.nearest s n 0) = .number s (n * 2 ^ (52 - n.log2)) ((n.log2 : Int) - 52) := by
  obtain ⟨h1, h2, h3⟩ := mant_bounds n h0 h
  rw [nearest_small s n h0 h]
  have := read_word s (n.log2 + 1023) (n * 2 ^ (52 - n.log2)) (by omega) (by omega) h2 h3
  rw [show n.log2 + 1023 - 1 = n.log2 + 1022 from by omega] at this
  have a2 : ((n.log2 + 1023 : Nat) : Int) - 1075 = (n.log2 : Int) - 52 := by omega
  rw [this, a2]

theorem signed_eq (s : Bool) (m k : Nat) : signed s m k = (if s then -1 else 1) * ((m : Int) * 2 ^ k) := by
  cases s <;> simp [signed, Nat.shiftLeft_eq]

def E74 : Nat := 1074
theorem e74 : (E74 : Int) = 1074 := rfl

/-- x reads as the whole number v -/
def Fl (x : Nat) (v : Int) : Prop := ∃ s m i, Ieee.double.read x = .number s m i ∧ -1074 ≤ i ∧ (if s then -1 else 1) * ((m : Int) * 2 ^ (i + (E74 : Int)).toNat) = v * 2 ^ E74

theorem cmp_scale {a b A B K C : Int} (hK : 0 < K) (hC : 0 < C) (h1 : A * K = a * C) (h2 : B * K = b * C) : compare A B = compare a b := by
  have key : ∀ {a b A B : Int}, A * K = a * C → B * K = b * C → (A < B ↔ a < b) := by
    intro a b A B h1 h2
    constructor
    · intro h
      have := Int.mul_lt_mul_of_pos_right h hK
      rw [h1, h2] at this
      exact Int.lt_of_mul_lt_mul_right this (Int.le_of_lt hC)
    · intro h
      have := Int.mul_lt_mul_of_pos_right h hC
      rw [← h1, ← h2] at this
      exact Int.lt_of_mul_lt_mul_right this (Int.le_of_lt hK)
  have k1 := key h1 h2
  have k2 := key h2 h1
  simp only [compare, compareOfLessAndEq]
  by_cases hab : a < b
  · rw [if_pos hab, if_pos (k1.2 hab)]
  · rw [if_neg hab, if_neg (fun h => hab (k1.1 h))]
    have : A = B ↔ a = b := by
      have n1 : ¬ A < B := fun h => hab (k1.1 h)
      constructor
      · intro h
        have : ¬ B < A := by omega
        have := fun h => this (k2.2 h)
        omega
      · intro h
        have : ¬ b < a := by omega
        have := fun h => this (k2.1 h)
        omega
    by_cases h : a = b
    · rw [if_pos h, if_pos (this.2 h)]
    · rw [if_neg h, if_neg (fun h' => h (this.1 h'))]

theorem pow_cut {b : Int} {i : Int} (h1 : -1074 ≤ b) (h2 : b ≤ i) : (2 : Int) ^ (i - b).toNat * 2 ^ (b + (E74 : Int)).toNat = 2 ^ (i + (E74 : Int)).toNat := by
  have := e74; rw [← Int.pow_add]; congr 1; omega

theorem fl_order {x y : Nat} {a b : Int} (hx : Fl x a) (hy : Fl y b) : FloatKind.f64.format.order x y = some (compare a b) := by
  obtain ⟨s, m, i, h1, h2, h3⟩ := hx
  obtain ⟨t, n, j, k1, k2, k3⟩ := hy
  show (Datum.order (Ieee.double.read x) (Ieee.double.read y)) = _
  rw [h1, k1]
  simp only [Datum.order, signed_eq]
  congr 1
  have hb1 : -1074 ≤ min i j := by omega
  refine cmp_scale (K := 2 ^ (min i j + (E74 : Int)).toNat) (C := 2 ^ E74) (Int.pow_pos (by decide)) (Int.pow_pos (by decide)) ?_ ?_
  · rw [← h3, ← pow_cut hb1 (Int.min_le_left i j)]; simp only [Int.mul_assoc]
  · rw [← k3, ← pow_cut hb1 (Int.min_le_right i j)]; simp only [Int.mul_assoc]

theorem fl_zero : Fl 0 0 := ⟨false, 0, -1074, by decide, by decide, by simp⟩

theorem fl_nat (s : Bool) (n : Nat) (h : n < 2 ^ 53) : Fl (Ieee.double.nearest s n 0) (if s then -(n : Int) else n) := by
  rcases Nat.eq_zero_or_pos n with rfl | h0
  · cases s
    · exact ⟨false, 0, -1074, by decide, by decide, by simp⟩
    · exact ⟨true, 0, -1074, by decide, by decide, by simp⟩
  · obtain ⟨hL, _, _⟩ := mant_bounds n h0 h
    refine ⟨s, _, _, read_small s n h0 h, by omega, ?_⟩
    have e : (n : Int) * 2 ^ (52 - n.log2) * 2 ^ ((n.log2 : Int) - 52 + (E74 : Int)).toNat = n * 2 ^ E74 := by
      have := e74; rw [Int.mul_assoc, ← Int.pow_add]; congr 2; omega
    cases s
    · simp only [Bool.false_eq_true, if_false, Int.one_mul]
      rw [← e]; push_cast; rfl
    · simp only [if_true, Int.neg_mul, Int.one_mul]
      rw [← e]; push_cast; rfl

theorem fl_small (n : Int) (h : n.natAbs < 2 ^ 53) : Fl (fl n) n := by
  have := fl_nat (decide (n < 0)) n.natAbs h
  rw [fl_def]
  by_cases hn : n < 0
  · simp only [hn, decide_true, if_true] at this ⊢
    have e : -((n.natAbs : Nat) : Int) = n := by omega
    rwa [e] at this
  · simp only [hn, decide_false, Bool.false_eq_true, if_false] at this ⊢
    have e : ((n.natAbs : Nat) : Int) = n := by omega
    rwa [e] at this

theorem fl_word (s : Bool) (e m : Nat) (he : 1 ≤ e) (he2 : e < 2047) (h1 : 1075 ≤ e) (hm1 : 2 ^ 52 ≤ m) (hm2 : m < 2 ^ 53) :
    Fl (Ieee.double.word s ((e - 1) * 2 ^ 52 + m)) ((if s then -1 else 1) * ((m * 2 ^ (e - 1075) : Nat) : Int)) := by
  refine ⟨s, m, _, read_word s e m he he2 hm1 hm2, by omega, ?_⟩
  have h := e74
  have e1 : ((e : Int) - 1075 + (E74 : Int)).toNat = (e - 1075) + E74 := by omega
  rw [e1, Int.pow_add]
  push_cast
  simp only [Int.mul_assoc]

theorem nearest_big (s : Bool) (n : Nat) (h : 2 ^ 53 ≤ n) (h64 : n < 2 ^ 64) :
    ∃ m : Nat, 2 ^ 52 ≤ m ∧ m ≤ 2 ^ 53 ∧ 53 ≤ n.log2 ∧ n.log2 ≤ 63 ∧ Ieee.double.nearest s n 0 = Ieee.double.word s ((n.log2 + 1022) * 2 ^ 52 + m) := by
  have hne : n ≠ 0 := by omega
  have hl1 : 2 ^ n.log2 ≤ n := Nat.log2_self_le hne
  have hl2 : n < 2 ^ (n.log2 + 1) := Nat.lt_log2_self
  have hL : 53 ≤ n.log2 := (Nat.le_log2 hne).2 h
  have hL2 : n.log2 ≤ 63 := by
    have := (Nat.log2_lt hne).2 h64; omega
  unfold Format.nearest
  rw [if_neg hne]
  have hlp : Ieee.double.leastPlace = -1074 := by decide
  have hfb : Ieee.double.fractionBits = 52 := rfl
  have hlast : max ((0 : Int) + n.log2 - Ieee.double.fractionBits) (-1074) = (n.log2 : Int) - 52 := by
    rw [hfb]; omega
  simp only [hlp, hlast]
  have e1 : (0 - ((n.log2 : Int) - 52)).toNat = 0 := by omega
  have e2 : ((n.log2 : Int) - 52 - 0).toNat = n.log2 - 52 := by omega
  have e3 : ((n.log2 : Int) - 52 - -1074).toNat = n.log2 + 1022 := by omega
  rw [e1, e2, e3, Nat.shiftLeft_zero]
  have hb : Ieee.double.binade = 2 ^ 52 := rfl
  have hi : Ieee.double.infRung = 2047 * 2 ^ 52 := rfl
  rw [hb, hi]
  have hq1 : 2 ^ 52 ≤ n / 2 ^ (n.log2 - 52) := by
    rw [Nat.le_div_iff_mul_le (two_pos _), ← Nat.pow_add]
    exact Nat.le_trans (Nat.pow_le_pow_right (by decide) (by omega)) hl1
  have hq2 : n / 2 ^ (n.log2 - 52) < 2 ^ 53 := by
    rw [Nat.div_lt_iff_lt_mul (two_pos _), ← Nat.pow_add]
    exact Nat.lt_of_lt_of_le hl2 (Nat.pow_le_pow_right (by decide) (by omega))
  have hcut : ∃ b : Bool, Toward.cut .even s n (n.log2 - 52) = n / 2 ^ (n.log2 - 52) + b.toNat := by
    unfold Toward.cut
    rw [Nat.min_eq_left (by omega), Nat.shiftLeft_eq, Nat.one_mul]
    exact ⟨_, rfl⟩
  obtain ⟨b, hcut⟩ := hcut
  rw [hcut]
  have hb1 : b.toNat ≤ 1 := by cases b <;> decide
  refine ⟨n / 2 ^ (n.log2 - 52) + b.toNat, by omega, by omega, hL, hL2, ?_⟩
  congr 1
  apply Nat.min_eq_left
  omega

theorem two_le_pow {k : Nat} (h : 1 ≤ k) : 2 ≤ 2 ^ k := by
  obtain ⟨j, rfl⟩ : ∃ j, k = j + 1 := ⟨k - 1, by omega⟩
  have := two_pos j
  rw [Nat.pow_succ]; omega

theorem fl_big (n : Int) (h : 2 ^ 53 ≤ n.natAbs) (h64 : n.natAbs < 2 ^ 64) : ∃ v : Int, Fl (fl n) v ∧ 2 ^ 53 ≤ v.natAbs ∧ (v < 0 ↔ n < 0) := by
  obtain ⟨m, h1, h2, h3, h4, h5⟩ := nearest_big (decide (n < 0)) n.natAbs h h64
  rw [fl_def]
  have h5' : Ieee.double.nearest (n < 0) n.natAbs 0 = _ := h5
  rw [h5']
  by_cases hm : m < 2 ^ 53
  · have := fl_word (decide (n < 0)) (n.natAbs.log2 + 1023) m (by omega) (by omega) (by omega) h1 hm
    rw [show n.natAbs.log2 + 1023 - 1 = n.natAbs.log2 + 1022 from by omega] at this
    refine ⟨_, this, ?_, ?_⟩
    · have e1 : 2 ≤ 2 ^ (n.natAbs.log2 + 1023 - 1075) := two_le_pow (by omega)
      have e2 : 2 ^ 52 * 2 ≤ m * 2 ^ (n.natAbs.log2 + 1023 - 1075) := Nat.mul_le_mul h1 e1
      split <;> omega
    · have e1 : 0 < m * 2 ^ (n.natAbs.log2 + 1023 - 1075) := Nat.mul_pos (by omega) (two_pos _)
      by_cases hn : n < 0 <;> simp only [hn, decide_true, decide_false, if_true, Bool.false_eq_true, if_false, iff_true, iff_false] <;> omega
  · have hm2 : m = 2 ^ 53 := by omega
    have := fl_word (decide (n < 0)) (n.natAbs.log2 + 1024) (2 ^ 52) (by omega) (by omega) (by omega) (Nat.le_refl _) (by decide)
    rw [show (n.natAbs.log2 + 1024 - 1) * 2 ^ 52 + 2 ^ 52 = (n.natAbs.log2 + 1022) * 2 ^ 52 + m from by omega] at this
    refine ⟨_, this, ?_, ?_⟩
    · have e1 : 2 ≤ 2 ^ (n.natAbs.log2 + 1024 - 1075) := two_le_pow (by omega)
      have e2 : 2 ^ 52 * 2 ≤ 2 ^ 52 * 2 ^ (n.natAbs.log2 + 1024 - 1075) := Nat.mul_le_mul (Nat.le_refl _) e1
      split <;> omega
    · have e1 : 0 < 2 ^ 52 * 2 ^ (n.natAbs.log2 + 1024 - 1075) := Nat.mul_pos (by decide) (two_pos _)
      by_cases hn : n < 0 <;> simp only [hn, decide_true, decide_false, if_true, Bool.false_eq_true, if_false, iff_true, iff_false] <;> omega

/-- the plain form of a small whole number -/
theorem fl_read (n : Nat) (h : n < 2 ^ 53) : ∃ k : Nat, k ≤ 1074 ∧ Ieee.double.read (fl n) = .number false (n * 2 ^ k) (-(k : Int)) := by
  have e0 : fl n = Ieee.double.nearest false n 0 := by rw [fl_def]; congr 1
  rw [e0]
  rcases Nat.eq_zero_or_pos n with rfl | h0
  · exact ⟨1074, Nat.le_refl _, by simp only [Nat.zero_mul]; decide⟩
  · obtain ⟨hL, _, _⟩ := mant_bounds n h0 h
    refine ⟨52 - n.log2, by omega, ?_⟩
    rw [read_small false n h0 h]
    have : ((n.log2 : Int) - 52) = -((52 - n.log2 : Nat) : Int) := by omega
    rw [this]

theorem log2_scale (n k : Nat) (h0 : 0 < n) : (n * 2 ^ k).log2 = n.log2 + k := by
  have hne : n ≠ 0 := by omega
  have h1 : 2 ^ n.log2 ≤ n := Nat.log2_self_le hne
  have h2 : n < 2 ^ (n.log2 + 1) := Nat.lt_log2_self
  have h3 : n * 2 ^ k ≠ 0 := Nat.mul_ne_zero hne (by have := two_pos k; omega)
  have h4 : n.log2 + k ≤ (n * 2 ^ k).log2 := (Nat.le_log2 h3).2 (by rw [Nat.pow_add]; exact Nat.mul_le_mul_right _ h1)
  have h5 : (n * 2 ^ k).log2 < n.log2 + k + 1 := (Nat.log2_lt h3).2 (by rw [show n.log2 + k + 1 = n.log2 + 1 + k from by omega, Nat.pow_add]; exact Nat.mul_lt_mul_of_pos_right h2 (two_pos _))
  omega

theorem cut_exact (way : Toward) (s : Bool) (n k : Nat) : way.cut s (n * 2 ^ k) k = n := by
  rcases Nat.eq_zero_or_pos n with rfl | h0
  · unfold Toward.cut
    simp only [Nat.zero_mul, Nat.zero_div, Nat.zero_mod, Nat.mul_zero, Nat.not_lt_zero, decide_false, Bool.false_or, Nat.zero_add]
    cases way <;> simp
  · unfold Toward.cut
    rw [log2_scale n k h0, Nat.min_eq_left (by omega), Nat.shiftLeft_eq, Nat.one_mul]
    have h1 : n * 2 ^ k / 2 ^ k = n := Nat.mul_div_cancel _ (two_pos k)
    have h2 : n * 2 ^ k % 2 ^ k = 0 := Nat.mul_mod_left _ _
    have h3 := two_pos k
    simp only [h1, h2]
    cases way <;> simp <;> omega

theorem nearest_scale (n k : Nat) (h : n < 2 ^ 53) (hk : k ≤ 1074) : Ieee.double.nearest false (n * 2 ^ k) (-(k : Int)) = fl n := by
  have e0 : fl n = Ieee.double.nearest false n 0 := by rw [fl_def]; congr 1
  rw [e0]
  rcases Nat.eq_zero_or_pos n with rfl | h0
  · simp [Format.nearest]
  · rw [nearest_small false n h0 h]
    obtain ⟨hL, _, h9⟩ := mant_bounds n h0 h
    have h3 : n * 2 ^ k ≠ 0 := Nat.mul_ne_zero (by omega) (by have := two_pos k; omega)
    unfold Format.nearest
    rw [if_neg h3, log2_scale n k h0]
    have hlp : Ieee.double.leastPlace = -1074 := by decide
    have hfb : Ieee.double.fractionBits = 52 := rfl
    have hlast : max (-(k : Int) + ((n.log2 + k : Nat) : Int) - Ieee.double.fractionBits) (-1074) = (n.log2 : Int) - 52 := by
      rw [hfb]; omega
    simp only [hlp, hlast]
    have e3 : ((n.log2 : Int) - 52 - -1074).toNat = n.log2 + 1022 := by omega
    have hb : Ieee.double.binade = 2 ^ 52 := rfl
    have hi : Ieee.double.infRung = 2047 * 2 ^ 52 := rfl
    rw [e3, hb, hi]
    have hcut : Toward.even.cut false ((n * 2 ^ k) <<< (-(k : Int) - ((n.log2 : Int) - 52)).toNat) ((n.log2 : Int) - 52 - -(k : Int)).toNat = n * 2 ^ (52 - n.log2) := by
      by_cases hc : k ≤ 52 - n.log2
      · have e1 : (-(k : Int) - ((n.log2 : Int) - 52)).toNat = 52 - n.log2 - k := by omega
        have e2 : ((n.log2 : Int) - 52 - -(k : Int)).toNat = 0 := by omega
        rw [e1, e2, Nat.shiftLeft_eq, Nat.mul_assoc, ← Nat.pow_add, show k + (52 - n.log2 - k) = 52 - n.log2 from by omega]
        have := cut_exact .even false (n * 2 ^ (52 - n.log2)) 0
        simpa using this
      · have e1 : (-(k : Int) - ((n.log2 : Int) - 52)).toNat = 0 := by omega
        have e2 : ((n.log2 : Int) - 52 - -(k : Int)).toNat = k - (52 - n.log2) := by omega
        rw [e1, e2, Nat.shiftLeft_zero]
        have e4 : n * 2 ^ k = n * 2 ^ (52 - n.log2) * 2 ^ (k - (52 - n.log2)) := by
          rw [Nat.mul_assoc, ← Nat.pow_add]; congr 2; omega
        rw [e4]
        exact cut_exact _ _ _ _
    rw [hcut]
    congr 1
    apply Nat.min_eq_left
    omega

theorem signed_pow (a k K : Nat) (h : k ≤ K) : signed false (a * 2 ^ k) (-(k : Int) - -(K : Int)).toNat = ((a * 2 ^ K : Nat) : Int) := by
  have e : (-(k : Int) - -(K : Int)).toNat = K - k := by omega
  rw [e]
  simp only [signed, Bool.false_eq_true, if_false, Nat.shiftLeft_eq]
  rw [Nat.mul_assoc, ← Nat.pow_add, show k + (K - k) = K from by omega]

theorem fl_add (a b : Nat) (h : a + b < 2 ^ 53) : floatBits .add .f64 (fl a) (fl b) = some (fl ((a : Int) + b)) := by
  obtain ⟨k, hk, h1⟩ := fl_read a (by omega)
  obtain ⟨l, hl, h2⟩ := fl_read b (by omega)
  have e : fl ((a : Int) + b) = fl ((a + b : Nat) : Int) := by push_cast; rfl
  rw [e]
  show Option.map Ieee.double.write ((Ieee.double.read (fl a)).sum (Ieee.double.read (fl b))) = _
  rw [h1, h2]
  obtain ⟨K, hK⟩ : ∃ K : Nat, min (-(k : Int)) (-(l : Int)) = -(K : Int) := ⟨max k l, by omega⟩
  have hk1 : k ≤ K := by omega
  have hl1 : l ≤ K := by omega
  have hK2 : K ≤ 1074 := by omega
  simp only [Datum.sum, hK, signed_pow _ _ _ hk1, signed_pow _ _ _ hl1, Option.map_some]
  have et : ((a * 2 ^ K : Nat) : Int) + ((b * 2 ^ K : Nat) : Int) = (((a + b) * 2 ^ K : Nat) : Int) := by rw [Nat.add_mul]; omega
  rw [et]
  have en : decide ((((a + b) * 2 ^ K : Nat) : Int) < 0) = false := by rw [decide_eq_false_iff_not]; omega
  simp only [en, Bool.and_self, ite_self, Int.natAbs_natCast, Format.write]
  rw [nearest_scale (a + b) K h hK2]

theorem fl_sub (a b : Nat) (hb : b ≤ a) (h : a < 2 ^ 53) : floatBits .sub .f64 (fl a) (fl b) = some (fl ((a - b : Nat) : Int)) := by
  obtain ⟨k, hk, h1⟩ := fl_read a (by omega)
  obtain ⟨l, hl, h2⟩ := fl_read b (by omega)
  show Option.map Ieee.double.write ((Ieee.double.read (fl a)).sum (Ieee.double.read (fl b)).opposite) = _
  rw [h1, h2]
  obtain ⟨K, hK⟩ : ∃ K : Nat, min (-(k : Int)) (-(l : Int)) = -(K : Int) := ⟨max k l, by omega⟩
  have hk1 : k ≤ K := by omega
  have hl1 : l ≤ K := by omega
  have hK2 : K ≤ 1074 := by omega
  have hs : signed true (b * 2 ^ l) (-(l : Int) - -(K : Int)).toNat = -((b * 2 ^ K : Nat) : Int) := by
    rw [← signed_pow b l K hl1]; simp [signed]
  simp only [Datum.opposite, Bool.not_false, Datum.sum, hK, signed_pow _ _ _ hk1, hs, Option.map_some]
  have et : ((a * 2 ^ K : Nat) : Int) + -((b * 2 ^ K : Nat) : Int) = (((a - b) * 2 ^ K : Nat) : Int) := by
    rw [Nat.sub_mul]
    have := Nat.mul_le_mul_right (2 ^ K) hb
    omega
  rw [et]
  have en : decide ((((a - b) * 2 ^ K : Nat) : Int) < 0) = false := by rw [decide_eq_false_iff_not]; omega
  simp only [en, Bool.false_and, ite_self, Int.natAbs_natCast, Format.write]
  rw [nearest_scale (a - b) K (by omega) hK2]

theorem fl_integral (n : Nat) (h : n < 2 ^ 53) : (FloatKind.f64.decode (fl n)).integral .zero = .number false n 0 := by
  obtain ⟨k, hk, h1⟩ := fl_read n h
  show (Ieee.double.read (fl n)).integral .zero = _
  rw [h1]
  have e1 : (-(k : Int)).toNat = 0 := by omega
  have e2 : (- -(k : Int)).toNat = k := by omega
  simp only [Datum.integral, e1, e2, Nat.shiftLeft_zero, cut_exact]

theorem fl_trunc (n : Nat) (h : n < 2 ^ 53) : FloatKind.f64.encode ((FloatKind.f64.decode (fl n)).integral .zero) = fl n := by
  rw [fl_integral n h]
  show Ieee.double.nearest false n 0 = fl n
  rw [fl_def]; congr 1

theorem fl_toInt (n : Nat) (h : n < 2 ^ 53) : floatToIntVal .f64 (fl n) .i64 = some n := by
  unfold floatToIntVal Datum.toInt
  rw [fl_integral n h]
  have : signed false n 0 = n := by simp [signed]
  simp only [this]
  rw [if_pos]
  · rfl
  have h1 : IntKind.i64.min = -9223372036854775808 := by decide
  have h2 : IntKind.i64.max = 9223372036854775807 := by decide
  rw [h1, h2]; omega

/-- every 64-bit number: a whole number, of the same sign, the same below 2^53, great where it is great -/
theorem fl_any (n : Int) (h : n.natAbs < 2 ^ 64) : ∃ v : Int, Fl (fl n) v ∧ (v < 0 ↔ n < 0) ∧ (n.natAbs < 2 ^ 53 → v = n) ∧ (2 ^ 53 ≤ n.natAbs → 2 ^ 53 ≤ v.natAbs) := by
  by_cases h1 : n.natAbs < 2 ^ 53
  · exact ⟨n, fl_small n h1, Iff.rfl, fun _ => rfl, fun h => by omega⟩
  · obtain ⟨v, h2, h3, h4⟩ := fl_big n (by omega) h
    exact ⟨v, h2, h4, fun h => absurd h h1, fun _ => h3⟩

section
variable (P : Program) (w : World) (a : Addr) (m : Mode)
theorem run_store_complex (k : FloatKind) (x y : Nat) : (store a (.complex k x y) m).run P w = stored P w a (.complex k x y) m := run_store P w a _ m rfl
theorem run_store_float (k : FloatKind) (x : Nat) : (store a (.float k x) m).run P w = stored P w a (.float k x) m := run_store P w a _ m rfl
end

end Go.Proofs.YtbjibkjenleloaaGreatDoor

end

section
namespace Go.Proofs.YtbjibkjenleloaaGreatDoor
set_option linter.unusedVariables false
set_option linter.unusedSimpArgs false
open Go.RowKit
attribute [local go_sem ↓] Go.wp_at_zero Go.wp_at_succ

/-- a part of a mark: a whole number from 0 to MaxMark -/
def InM (n : Int) : Prop := 0 ≤ n ∧ n ≤ 1099511627776
instance (n : Int) : Decidable (InM n) := inferInstanceAs (Decidable (0 ≤ n ∧ n ≤ 1099511627776))
/-- a number of 64 bits -/
def I64 (n : Int) : Prop := -9223372036854775808 ≤ n ∧ n ≤ 9223372036854775807

theorem fl_max : fl 1099511627776 = 4787326403894837248 := by kernel_rfl
theorem fl_one : fl 1 = 4607182418800017408 := by kernel_rfl
theorem fl_0 : fl 0 = 0 := by kernel_rfl

theorem cmp_lt {a b : Int} (h : a < b) : compare a b = .lt := by simp [compare, compareOfLessAndEq, h]
theorem cmp_gt {a b : Int} (h : b < a) : compare a b = .gt := by
  simp only [compare, compareOfLessAndEq]; rw [if_neg (by omega), if_neg (by omega)]
theorem cmp_eq (a : Int) : compare a a = .eq := by simp [compare, compareOfLessAndEq]

theorem fl_maxv : Fl 4787326403894837248 1099511627776 := by
  have := fl_small 1099511627776 (by decide)
  rwa [fl_max] at this

theorem ord_in {n : Int} (h : InM n) : (FloatKind.f64.format.order (fl n) 0 = some .gt ∨ FloatKind.f64.format.order (fl n) 0 = some .eq) ∧ (FloatKind.f64.format.order (fl n) 4787326403894837248 = some .lt ∨ FloatKind.f64.format.order (fl n) 4787326403894837248 = some .eq) := by
  unfold InM at h
  have h1 := fl_small n (by omega)
  rw [fl_order h1 fl_zero, fl_order h1 fl_maxv]
  constructor
  · rcases Int.lt_or_eq_of_le h.1 with h2 | h2
    · exact .inl (by rw [cmp_gt h2])
    · subst h2; exact .inr rfl
  · rcases Int.lt_or_eq_of_le h.2 with h2 | h2
    · exact .inl (by rw [cmp_lt h2])
    · subst h2; exact .inr rfl

theorem ord_out {n : Int} (hn : I64 n) (h : ¬ InM n) : FloatKind.f64.format.order (fl n) 0 = some .lt ∨ ((FloatKind.f64.format.order (fl n) 0 = some .gt) ∧ FloatKind.f64.format.order (fl n) 4787326403894837248 = some .gt) := by
  unfold InM at h
  unfold I64 at hn
  obtain ⟨v, h1, h2, h3, h4⟩ := fl_any n (by omega)
  rw [fl_order h1 fl_zero, fl_order h1 fl_maxv]
  by_cases h0 : n < 0
  · exact .inl (by rw [cmp_lt (h2.2 h0)])
  · have h5 : ¬ v < 0 := fun h => h0 (h2.1 h)
    refine .inr ?_
    have hv : 1099511627776 < v := by
      by_cases hs : n.natAbs < 2 ^ 53
      · have := h3 hs; omega
      · have := h4 (by omega); omega
    exact ⟨by rw [cmp_gt (by omega)], by rw [cmp_gt hv]⟩

theorem run_toIntegral (x : Nat) (s : Bool) (m : Nat) (i : Int) (h : FloatKind.f64.decode x = .number s m i) (w : World) :
    (Extern.MathFloor.toIntegral "math.archTrunc" .zero #[.float .f64 x]).run Tryz.prog w = .ok (.float .f64 (FloatKind.f64.encode ((Ieee.Datum.number s m i).integral .zero))) w := by
  have key : ∀ d, FloatKind.f64.decode x = d → (∀ b f, d ≠ .nan b f) → (Extern.MathFloor.toIntegral "math.archTrunc" .zero #[.float .f64 x]).run Tryz.prog w = .ok (.float .f64 (FloatKind.f64.encode (d.integral .zero))) w := by
    intro d hd hn
    show Sem.run Tryz.prog (Extern.MathFloor.toIntegral.match_1 (fun _ => Sem Value) (FloatKind.f64.decode x) _ _) w = _
    rw [hd]
    cases d with
    | nan b f => exact absurd rfl (hn b f)
    | number => rfl
    | infinity => rfl
  exact key _ h (by simp)

theorem arch_trunc (n : Int) (h : InM n) (w : World) : (callFunc 153 #[.float .f64 (fl n)]).run Tryz.prog w = .ok (.value (.float .f64 (fl n))) w := by
  obtain ⟨k, rfl⟩ := Int.eq_ofNat_of_zero_le h.1
  have hk : k < 2 ^ 53 := by have := h.2; omega
  rw [run_callFunc_extern (e := Extern.MathFloor.toIntegral "math.archTrunc" .zero) Tryz.func153 (by kernel_rfl) (by kernel_rfl) (by kernel_rfl) (by kernel_rfl)]
  obtain ⟨j, hj, hr⟩ := fl_read k hk
  have h1 := fl_trunc k hk
  have h2 : FloatKind.f64.decode (fl k) = .number false (k * 2 ^ j) (-(j : Int)) := hr
  rw [run_toIntegral _ _ _ _ h2, ← h2, h1]
  rfl

set_option maxHeartbeats 400000 in
theorem trunc_any (n : Int) (h : InM n) (w : World) : Calls Tryz.prog 133 #[.float .f64 (fl n)] w fun e w' => e = .returned (.float .f64 (fl n)) ∧ w = w' := by
  have hx := arch_trunc n h
  go_enter Tryz.func133, Tryz.ntmps133
  go_wp2
  go_ret
  exact ⟨rfl, rfl⟩

set_option maxHeartbeats 400000 in
theorem whole_yes (n : Int) (h : InM n) (w : World) : Calls Tryz.prog 109 #[.float .f64 (fl n)] w fun e w' => e = .returned (.bool true) ∧ w = w' := by
  have h3 : FloatKind.f64.format.order (fl n) (fl n) = some .eq := by
    have h1 := fl_small n (by unfold InM at h; omega)
    rw [fl_order h1 h1, cmp_eq]
  have HH := hid h
  obtain ⟨h1 | h1, h2 | h2⟩ := ord_in h
  all_goals
    clear h
    go_enter Tryz.func109, Tryz.ntmps109
    go_wp2_with (go_at_call 133; refine (trunc_any n HH.out _).mono ?_; rintro e w1 ⟨rfl, rfl⟩)
    go_ret
    exact ⟨rfl, rfl⟩

set_option maxHeartbeats 400000 in
theorem whole_no (n : Int) (hn : I64 n) (h : ¬ InM n) (w : World) : Calls Tryz.prog 109 #[.float .f64 (fl n)] w fun e w' => e = .returned (.bool false) ∧ w = w' := by
  rcases ord_out hn h with h1 | ⟨h1, h2⟩
  all_goals
    clear h hn
    go_enter Tryz.func109, Tryz.ntmps109
    go_wp2
    go_ret
    exact ⟨rfl, rfl⟩

end Go.Proofs.YtbjibkjenleloaaGreatDoor

end

section
namespace Go.Proofs.YtbjibkjenleloaaGreatDoor
set_option linter.unusedVariables false
set_option linter.unusedSimpArgs false
open Go.RowKit
attribute [local go_sem ↓] Go.wp_at_zero Go.wp_at_succ

theorem InM.i64 {n : Int} (h : InM n) : I64 n := by unfold InM at h; unfold I64; omega
theorem InM.small {n : Int} (h : InM n) : Fl (fl n) n := fl_small n (by unfold InM at h; omega)
theorem ord_M {a b : Int} (ha : InM a) (hb : InM b) : FloatKind.f64.format.order (fl a) (fl b) = some (compare a b) := fl_order ha.small hb.small

set_option maxHeartbeats 400000 in
theorem good_yes (a b : Int) (ha : InM a) (hb : InM b) (w : World) : Calls Tryz.prog 72 #[.complex .f64 (fl a) (fl b)] w fun e w' => e = .returned (.bool true) ∧ w = w' := by
  have HA := hid ha
  have HB := hid hb
  clear ha hb
  go_enter Tryz.func72, Tryz.ntmps72
  go_wp2_with fail
  refine (whole_yes a HA.out _).mono ?_; rintro e w1 ⟨rfl, rfl⟩
  go_wp2_with fail
  refine (whole_yes b HB.out _).mono ?_; rintro e w1 ⟨rfl, rfl⟩
  go_wp2
  go_ret
  exact ⟨rfl, rfl⟩

set_option maxHeartbeats 400000 in
theorem good_no (a b : Int) (ha : I64 a) (hb : I64 b) (h : ¬ (InM a ∧ InM b)) (w : World) : Calls Tryz.prog 72 #[.complex .f64 (fl a) (fl b)] w fun e w' => e = .returned (.bool false) ∧ w = w' := by
  have HA := hid ha
  have HB := hid hb
  by_cases h1 : InM a
  · have H1 := hid h1
    have H2 := hid (show ¬ InM b from fun h2 => h ⟨h1, h2⟩)
    clear ha hb h h1
    go_enter Tryz.func72, Tryz.ntmps72
    go_wp2_with fail
    refine (whole_yes a H1.out _).mono ?_; rintro e w1 ⟨rfl, rfl⟩
    go_wp2_with fail
    refine (whole_no b HB.out H2.out _).mono ?_; rintro e w1 ⟨rfl, rfl⟩
    go_wp2
    go_ret
    exact ⟨rfl, rfl⟩
  · have H1 := hid h1
    clear ha hb h h1
    go_enter Tryz.func72, Tryz.ntmps72
    go_wp2_with fail
    refine (whole_no a HA.out H1.out _).mono ?_; rintro e w1 ⟨rfl, rfl⟩
    go_wp2
    go_ret
    exact ⟨rfl, rfl⟩

set_option maxHeartbeats 400000 in
theorem mark_at_yes (a b : Int) (ha : InM a) (hb : InM b) (w : World) : Calls Tryz.prog 59 #[.int .i64 a, .int .i64 b] w fun e w' => e = .returned (.tuple #[.complex .f64 (fl a) (fl b), .int .i64 0]) ∧ w = w' := by
  unfold InM at ha hb
  have h1 : decide ((if b < a then b else a) < 0) = false := by rw [decide_eq_false_iff_not]; split <;> omega
  have h2 : decide ((if b > a then b else a) > 1099511627776) = false := by rw [decide_eq_false_iff_not]; split <;> omega
  have h3 : decide (1099511627776 < (if a < b then b else a)) = false := by rw [decide_eq_false_iff_not]; split <;> omega
  obtain ⟨ha1, ha2⟩ := ha
  obtain ⟨hb1, hb2⟩ := hb
  go_enter Tryz.func59, Tryz.ntmps59
  go_wp2
  all_goals first | (exfalso; omega) | (go_ret2; exact ⟨rfl, rfl⟩)

set_option maxHeartbeats 400000 in
theorem mark_at_no (a b : Int) (h : ¬ (InM a ∧ InM b)) (w : World) : Calls Tryz.prog 59 #[.int .i64 a, .int .i64 b] w fun e w' => e = .returned (.tuple #[.complex .f64 0 0, .int .i64 1]) ∧ w = w' := by
  unfold InM at h
  by_cases h0 : (if b < a then b else a) < 0
  · have h1 : decide ((if b < a then b else a) < 0) = true := decide_eq_true h0
    go_enter Tryz.func59, Tryz.ntmps59
    go_wp2
    all_goals first | (exfalso; omega) | (go_ret2; exact ⟨rfl, rfl⟩)
  · have h1 : decide ((if b < a then b else a) < 0) = false := decide_eq_false h0
    have h2 : (if b > a then b else a) > 1099511627776 := by
      split at h0 <;> split <;> omega
    have h3 : decide ((if b > a then b else a) > 1099511627776) = true := decide_eq_true h2
    have h4 : decide (1099511627776 < (if a < b then b else a)) = true := decide_eq_true h2
    clear h
    go_enter Tryz.func59, Tryz.ntmps59
    go_wp2
    all_goals first | (exfalso; omega) | (go_ret2; exact ⟨rfl, rfl⟩)

theorem sum_one (a b : Int) (ha : InM a) (hb : InM b) (ty : TypeId) (w : World) : (binOp .add ty (.complex .f64 (fl a) (fl b)) (.complex .f64 0 4607182418800017408)).run Tryz.prog w = .ok (.complex .f64 (fl a) (fl (b + 1))) w := by
  refine run_complex_sum w .add (.inl rfl) ty .f64 _ _ _ _ _ _ ?_
  obtain ⟨m, rfl⟩ := Int.eq_ofNat_of_zero_le ha.1
  obtain ⟨n, rfl⟩ := Int.eq_ofNat_of_zero_le hb.1
  have h1 := fl_add m 0 (by have := ha.2; omega)
  have h2 := fl_add n 1 (by have := hb.2; omega)
  have e0 : fl ((0 : Nat) : Int) = 0 := fl_0
  have e1 : fl ((1 : Nat) : Int) = 4607182418800017408 := fl_one
  rw [e0] at h1
  rw [e1] at h2
  unfold cSumBits
  rw [h1, h2]
  simp



end Go.Proofs.YtbjibkjenleloaaGreatDoor

end

section
namespace Go.Proofs.YtbjibkjenleloaaGreatDoor
set_option linter.unusedVariables false
set_option linter.unusedSimpArgs false
open Go.RowKit
attribute [local go_sem ↓] Go.wp_at_zero Go.wp_at_succ

theorem sub_same (a b c : Int) (ha : InM a) (hb : InM b) (hc : InM c) (h : b ≤ c) (ty : TypeId) (w : World) : (binOp .sub ty (.complex .f64 (fl a) (fl c)) (.complex .f64 (fl a) (fl b))).run Tryz.prog w = .ok (.complex .f64 0 (fl (c - b))) w := by
  refine run_complex_sum w .sub (.inr rfl) ty .f64 _ _ _ _ _ _ ?_
  obtain ⟨m, rfl⟩ := Int.eq_ofNat_of_zero_le ha.1
  obtain ⟨n, rfl⟩ := Int.eq_ofNat_of_zero_le hb.1
  obtain ⟨k, rfl⟩ := Int.eq_ofNat_of_zero_le hc.1
  have h1 := fl_sub m m (Nat.le_refl _) (by have := ha.2; omega)
  have h2 := fl_sub k n (by omega) (by have := hc.2; omega)
  rw [Nat.sub_self] at h1
  have e0 : fl ((0 : Nat) : Int) = 0 := fl_0
  rw [e0] at h1
  have e1 : ((k - n : Nat) : Int) = (k : Int) - n := by omega
  rw [e1] at h2
  unfold cSumBits
  rw [h1, h2]
  rfl

theorem conv_int (n : Int) (h : InM n) (w : World) : (convert 101 3 (.float .f64 (fl n))).run Tryz.prog w = .ok (.int .i64 n) w := by
  obtain ⟨m, rfl⟩ := Int.eq_ofNat_of_zero_le h.1
  exact run_convert_float_int w _ _ _ _ _ _ (by rw [Tryz.underlying101]; rfl) Tryz.underlying3 (fl_toInt m (by have := h.2; omega))



set_option maxHeartbeats 400000 in
theorem later_same (a b d : Int) (ha : InM a) (hb : InM b) (hd : InM d) (w : World) : Calls Tryz.prog 88 #[.complex .f64 (fl a) (fl b), .complex .f64 (fl a) (fl d)] w fun e w' => e = .returned (.bool (decide (d < b))) ∧ w = w' := by
  have h1 : (FloatKind.f64.format.order (fl a) (fl a) == some .gt) = false := by rw [ord_M ha ha, cmp_eq]; rfl
  have h1' : (FloatKind.f64.format.order (fl a) (fl a) == some .eq) = true := by rw [ord_M ha ha, cmp_eq]; rfl
  have HA := hid ha
  have HB := hid hb
  have HD := hid hd
  by_cases h : d < b
  · have h2 : (FloatKind.f64.format.order (fl b) (fl d) == some .gt) = true := by rw [ord_M hb hd, cmp_gt h]; rfl
    rw [decide_eq_true h]
    clear ha hb hd h
    go_enter Tryz.func88, Tryz.ntmps88
    go_wp2_with fail
    refine (good_yes a b HA.out HB.out _).mono ?_; rintro e w1 ⟨rfl, rfl⟩
    go_wp2_with fail
    refine (good_yes a d HA.out HD.out _).mono ?_; rintro e w1 ⟨rfl, rfl⟩
    go_wp2
    go_ret
    exact ⟨rfl, rfl⟩
  · have h2 : (FloatKind.f64.format.order (fl b) (fl d) == some .gt) = false := by
      rw [ord_M hb hd]
      rcases Int.lt_or_eq_of_le (show b ≤ d by omega) with h3 | h3
      · rw [cmp_lt h3]; rfl
      · rw [h3, cmp_eq]; rfl
    rw [decide_eq_false h]
    clear ha hb hd h
    go_enter Tryz.func88, Tryz.ntmps88
    go_wp2_with fail
    refine (good_yes a b HA.out HB.out _).mono ?_; rintro e w1 ⟨rfl, rfl⟩
    go_wp2_with fail
    refine (good_yes a d HA.out HD.out _).mono ?_; rintro e w1 ⟨rfl, rfl⟩
    go_wp2
    go_ret
    exact ⟨rfl, rfl⟩


set_option maxHeartbeats 400000 in
theorem law_mark (a b : Int) (w : World) : Calls Tryz.prog 20 #[.int .i64 a, .int .i64 b] w fun e w' => e = .returned (.complex .f64 (fl a) (fl b)) ∧ w = w' := by
  go_enter Tryz.func20, Tryz.ntmps20
  go_wp2
  go_ret
  exact ⟨rfl, rfl⟩

/-! ### the document's marks -/
theorem conv_fl (n : Int) (w : World) : (convert 3 101 (.int .i64 n)).run Tryz.prog w = .ok (.float .f64 (fl n)) w :=
  run_convert_int_float w _ _ _ _ _ (by rw [Tryz.underlying3]; rfl) Tryz.underlying101









end Go.Proofs.YtbjibkjenleloaaGreatDoor

end

section
namespace Go.Proofs.YtbjibkjenleloaaGreatDoor
set_option linter.unusedVariables false
set_option linter.unusedSimpArgs false
open Go.RowKit
attribute [local go_sem ↓] Go.wp_at_zero Go.wp_at_succ
attribute [local go_sem] run_store_complex run_store_float


set_option maxHeartbeats 400000 in
theorem epoch_any (a b : Int) (ha : InM a) (hb : InM b) (w : World) : Calls Tryz.prog 38 #[.complex .f64 (fl a) (fl b)] w fun e w' => e = .returned (.int .i64 a) ∧ w = w' := by
  have hcv := conv_int a ha
  have HA := hid ha
  have HB := hid hb
  clear ha hb
  go_enter Tryz.func38, Tryz.ntmps38
  go_wp2_with fail
  refine (good_yes a b HA.out HB.out _).mono ?_; rintro e w1 ⟨rfl, rfl⟩
  go_wp2
  go_ret
  exact ⟨rfl, rfl⟩

/-- a tide: nothing held, nothing applied since -/
structure Td where
  cl : Int
  life : Int
  hold : Int
  me : Int
  mn : Int
  ver : Int
  asked : Int
def TidAt (w : World) (t : Nat) (s : Td) : Prop := w.heap[t]? = some (.cells #[.int .i64 s.cl, .int .i64 s.life, .int .i64 s.hold, .complex .f64 (fl s.me) (fl s.mn), .int .i64 s.ver, .int .i64 s.asked, .slice none 0 0, .slice none 0 0] 127 (0, 0))
theorem TidAt.below {w w' : World} {t : Nat} {s : Td} (h : TidAt w t s) (hb : Below w.heap.size w w') : TidAt w' t s := heap_below hb h (blk_lt h)
theorem TidAt.chg {w w' : World} {t : Nat} {s : Td} {F : Nat → Prop} (h : TidAt w t s) (hc : Chg F w w') (hF : ¬ F t) : TidAt w' t s := heap_chg hc h hF
theorem TidAt.lt {w : World} {t : Nat} {s : Td} (h : TidAt w t s) : t < w.heap.size := blk_lt h

def newOK (cl life hold : Int) : Prop := 1 ≤ cl ∧ cl ≤ 4 ∧ 1 ≤ life ∧ life ≤ 1099511627776 ∧ 0 ≤ hold ∧ hold ≤ 8
set_option maxHeartbeats 1000000 in
theorem tide_new_no (cl life hold : Int) (h : ¬ newOK cl life hold) (w : World) : Calls Tryz.prog 45 #[.int .i64 cl, .int .i64 life, .int .i64 hold] w fun e w' => e = .returned (.tuple #[.pointer none, .int .i64 1]) ∧ w = w' := by
  unfold newOK at h
  by_cases c0 : cl < 1
  · have d0 : decide (cl < 1) = true := by simp; omega
    have g0 : decide (cl < 1) = true := by simp; omega
    clear h c0
    go_enter Tryz.func45, Tryz.ntmps45
    go_wp2
    go_ret2
    exact ⟨rfl, rfl⟩
  by_cases c1 : 4 < cl
  · have d0 : decide (cl < 1) = false := by simp; omega
    have g0 : decide (cl < 1) = false := by simp; omega
    have d1 : decide (cl > 4) = true := by simp; omega
    have g1 : decide (4 < cl) = true := by simp; omega
    clear h c0 c1
    go_enter Tryz.func45, Tryz.ntmps45
    go_wp2
    go_ret2
    exact ⟨rfl, rfl⟩
  by_cases c2 : life < 1
  · have d0 : decide (cl < 1) = false := by simp; omega
    have g0 : decide (cl < 1) = false := by simp; omega
    have d1 : decide (cl > 4) = false := by simp; omega
    have g1 : decide (4 < cl) = false := by simp; omega
    have d2 : decide (life < 1) = true := by simp; omega
    have g2 : decide (life < 1) = true := by simp; omega
    clear h c0 c1 c2
    go_enter Tryz.func45, Tryz.ntmps45
    go_wp2
    go_ret2
    exact ⟨rfl, rfl⟩
  by_cases c3 : 1099511627776 < life
  · have d0 : decide (cl < 1) = false := by simp; omega
    have g0 : decide (cl < 1) = false := by simp; omega
    have d1 : decide (cl > 4) = false := by simp; omega
    have g1 : decide (4 < cl) = false := by simp; omega
    have d2 : decide (life < 1) = false := by simp; omega
    have g2 : decide (life < 1) = false := by simp; omega
    have d3 : decide (life > 1099511627776) = true := by simp; omega
    have g3 : decide (1099511627776 < life) = true := by simp; omega
    clear h c0 c1 c2 c3
    go_enter Tryz.func45, Tryz.ntmps45
    go_wp2
    go_ret2
    exact ⟨rfl, rfl⟩
  by_cases c4 : hold < 0
  · have d0 : decide (cl < 1) = false := by simp; omega
    have g0 : decide (cl < 1) = false := by simp; omega
    have d1 : decide (cl > 4) = false := by simp; omega
    have g1 : decide (4 < cl) = false := by simp; omega
    have d2 : decide (life < 1) = false := by simp; omega
    have g2 : decide (life < 1) = false := by simp; omega
    have d3 : decide (life > 1099511627776) = false := by simp; omega
    have g3 : decide (1099511627776 < life) = false := by simp; omega
    have d4 : decide (hold < 0) = true := by simp; omega
    have g4 : decide (hold < 0) = true := by simp; omega
    clear h c0 c1 c2 c3 c4
    go_enter Tryz.func45, Tryz.ntmps45
    go_wp2
    go_ret2
    exact ⟨rfl, rfl⟩
  by_cases c5 : 8 < hold
  · have d0 : decide (cl < 1) = false := by simp; omega
    have g0 : decide (cl < 1) = false := by simp; omega
    have d1 : decide (cl > 4) = false := by simp; omega
    have g1 : decide (4 < cl) = false := by simp; omega
    have d2 : decide (life < 1) = false := by simp; omega
    have g2 : decide (life < 1) = false := by simp; omega
    have d3 : decide (life > 1099511627776) = false := by simp; omega
    have g3 : decide (1099511627776 < life) = false := by simp; omega
    have d4 : decide (hold < 0) = false := by simp; omega
    have g4 : decide (hold < 0) = false := by simp; omega
    have d5 : decide (hold > 8) = true := by simp; omega
    have g5 : decide (8 < hold) = true := by simp; omega
    clear h c0 c1 c2 c3 c4 c5
    go_enter Tryz.func45, Tryz.ntmps45
    go_wp2
    go_ret2
    exact ⟨rfl, rfl⟩
  omega
set_option maxHeartbeats 1000000 in
theorem tide_new (cl life hold : Int) (h : newOK cl life hold) (w : World) : Calls Tryz.prog 45 #[.int .i64 cl, .int .i64 life, .int .i64 hold] w fun e w' => e = .returned (.tuple #[.pointer (some ⟨w.heap.size, 0, none⟩), .int .i64 0]) ∧ TidAt w' w.heap.size ⟨cl, life, hold, 0, 0, 0, 0⟩ ∧ Below w.heap.size w w' := by
  obtain ⟨c0, c1, c2, c3, c4, c5⟩ := h
  have d0 : decide (cl < 1) = false := by simp; omega
  have g0 : decide (cl < 1) = false := by simp; omega
  have d1 : decide (cl > 4) = false := by simp; omega
  have g1 : decide (4 < cl) = false := by simp; omega
  have d2 : decide (life < 1) = false := by simp; omega
  have g2 : decide (life < 1) = false := by simp; omega
  have d3 : decide (life > 1099511627776) = false := by simp; omega
  have g3 : decide (1099511627776 < life) = false := by simp; omega
  have d4 : decide (hold < 0) = false := by simp; omega
  have g4 : decide (hold < 0) = false := by simp; omega
  have d5 : decide (hold > 8) = false := by simp; omega
  have g5 : decide (8 < hold) = false := by simp; omega
  clear c0 c1 c2 c3 c4 c5
  go_enter Tryz.func45, Tryz.ntmps45
  go_wp2
  go_ret2
  exact ⟨rfl, heap_new w _, bl1 w _⟩
set_option maxHeartbeats 400000 in
theorem tide_version (w : World) (t : Nat) (s : Td) (h : TidAt w t s) : Calls Tryz.prog 48 #[.pointer (some ⟨t, 0, none⟩)] w fun e w' => e = .returned (.int .i64 s.ver) ∧ w = w' := by
  have b := blk8 h
  clear h
  go_enter Tryz.func48, Tryz.ntmps48
  go_wp2
  go_ret
  exact ⟨rfl, rfl⟩
set_option maxHeartbeats 400000 in
theorem tide_mark (w : World) (t : Nat) (s : Td) (h : TidAt w t s) : Calls Tryz.prog 42 #[.pointer (some ⟨t, 0, none⟩)] w fun e w' => e = .returned (.complex .f64 (fl s.me) (fl s.mn)) ∧ w = w' := by
  have b := blk8 h
  clear h
  go_enter Tryz.func42, Tryz.ntmps42
  go_wp2
  go_ret
  exact ⟨rfl, rfl⟩
set_option maxHeartbeats 400000 in
theorem tide_held (w : World) (t : Nat) (s : Td) (h : TidAt w t s) : Calls Tryz.prog 49 #[.pointer (some ⟨t, 0, none⟩)] w fun e w' => e = .returned (.slice none 0 0) ∧ w = w' := by
  have b := blk8 h
  clear h
  go_enter Tryz.func49, Tryz.ntmps49
  go_wp2_with fail
  go_loopw [3, 11] (fun v3 v wr => v3 = .slice none 0 0 ∧ v = .int .i64 0 ∧ wr = w) (fun _ _ _ => 0)
  case atStart => exact ⟨rfl, rfl, rfl⟩
  case round =>
    obtain ⟨rfl, rfl, rfl⟩ := hrel
    go_wp2
    go_ret
    exact ⟨rfl, rfl⟩
end Go.Proofs.YtbjibkjenleloaaGreatDoor

end
