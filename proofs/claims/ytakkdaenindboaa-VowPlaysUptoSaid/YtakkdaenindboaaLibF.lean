/- Floats that are whole numbers: what they read as, how they compare, add, subtract, are cut. No program in it. -/
import Derived.WalkKit
import Derived.WalkLawsBesides
namespace Go.Proofs.Ytakkdaenindboaa
set_option linter.unusedVariables false
set_option linter.unusedSimpArgs false
open Ieee

/-- the bits of 'float64(n)' -/
def fl (n : Int) : Nat := floatOfInt .f64 n

theorem fl_def (n : Int) : fl n = Ieee.double.nearest (n < 0) n.natAbs 0 := rfl

theorem two_pos (n : Nat) : 0 < 2 ^ n := Nat.two_pow_pos n

/-- below 2^53 the rung is exact -/
theorem nearest_small (s : Bool) (n : Nat) (h0 : 0 < n) (h : n < 2 ^ 53) :
    Ieee.double.nearest s n 0 = Ieee.double.word s ((n.log2 + 1022) * 2 ^ 52 + n * 2 ^ (52 - n.log2)) := by
  have hne : n ≠ 0 := by omega
  have hl1 : 2 ^ n.log2 ≤ n := Nat.log2_self_le hne
  have hl2 : n < 2 ^ (n.log2 + 1) := Nat.lt_log2_self
  have hL : n.log2 ≤ 52 := by
    have := (Nat.log2_lt hne).2 h; omega
  unfold Format.nearest
  rw [if_neg hne]
  have hlp : Ieee.double.leastPlace = -1074 := by decide
  have hfb : Ieee.double.fractionBits = 52 := rfl
  have hlast : max ((0 : Int) + n.log2 - Ieee.double.fractionBits) (-1074) = (n.log2 : Int) - 52 := by
    rw [hfb]; omega
  simp only [hlp, hlast]
  have e1 : (0 - ((n.log2 : Int) - 52)).toNat = 52 - n.log2 := by omega
  have e2 : ((n.log2 : Int) - 52 - 0).toNat = 0 := by omega
  have e3 : ((n.log2 : Int) - 52 - -1074).toNat = n.log2 + 1022 := by omega
  rw [e1, e2, e3]
  have hcut : Toward.cut .even s (n <<< (52 - n.log2)) 0 = n * 2 ^ (52 - n.log2) := by
    simp [Toward.cut, Nat.shiftLeft_eq, Nat.mod_one]
  rw [hcut]
  have hb : Ieee.double.binade = 2 ^ 52 := rfl
  have hi : Ieee.double.infRung = 2047 * 2 ^ 52 := rfl
  rw [hb, hi]
  congr 1
  apply Nat.min_eq_left
  have h3 : n * 2 ^ (52 - n.log2) < 2 ^ 53 := by
    calc n * 2 ^ (52 - n.log2) < 2 ^ (n.log2 + 1) * 2 ^ (52 - n.log2) := Nat.mul_lt_mul_of_pos_right hl2 (two_pos _)
      _ = 2 ^ 53 := by rw [← Nat.pow_add]; congr 1; omega
  omega

theorem mant_bounds (n : Nat) (h0 : 0 < n) (h : n < 2 ^ 53) : n.log2 ≤ 52 ∧ 2 ^ 52 ≤ n * 2 ^ (52 - n.log2) ∧ n * 2 ^ (52 - n.log2) < 2 ^ 53 := by
  have hne : n ≠ 0 := by omega
  have hl1 : 2 ^ n.log2 ≤ n := Nat.log2_self_le hne
  have hl2 : n < 2 ^ (n.log2 + 1) := Nat.lt_log2_self
  have hL : n.log2 ≤ 52 := by
    have := (Nat.log2_lt hne).2 h; omega
  refine ⟨hL, ?_, ?_⟩
  · calc 2 ^ 52 = 2 ^ n.log2 * 2 ^ (52 - n.log2) := by rw [← Nat.pow_add]; congr 1; omega
      _ ≤ n * 2 ^ (52 - n.log2) := Nat.mul_le_mul_right _ hl1
  · calc n * 2 ^ (52 - n.log2) < 2 ^ (n.log2 + 1) * 2 ^ (52 - n.log2) := Nat.mul_lt_mul_of_pos_right hl2 (two_pos _)
      _ = 2 ^ 53 := by rw [← Nat.pow_add]; congr 1; omega

/-- a word with a rung in the normal range reads as its mantissa -/
theorem read_word (s : Bool) (e m : Nat) (he : 1 ≤ e) (he2 : e < 2047) (hm1 : 2 ^ 52 ≤ m) (hm2 : m < 2 ^ 53) :
    Ieee.double.read (Ieee.double.word s ((e - 1) * 2 ^ 52 + m)) = .number s m ((e : Int) - 1075) := by
  have hr1 : (e - 1) * 2 ^ 52 + m < 2047 * 2 ^ 52 := by omega
  have hr2 : 2 ^ 52 ≤ (e - 1) * 2 ^ 52 + m := by omega
  have hsw : Ieee.double.signWeight = 2 ^ 63 := rfl
  have hb : Ieee.double.binade = 2 ^ 52 := rfl
  have hi : Ieee.double.infRung = 2047 * 2 ^ 52 := rfl
  have hlp : Ieee.double.leastPlace = -1074 := by decide
  obtain ⟨r, hr⟩ : ∃ r, r = (e - 1) * 2 ^ 52 + m := ⟨_, rfl⟩
  rw [← hr] at hr1 hr2 ⊢
  have hmod : Ieee.double.word s r % 2 ^ 63 = r := by
    cases s <;> simp only [Format.word, hsw, if_true, Bool.false_eq_true, if_false] <;> omega
  have hdiv : (Ieee.double.word s r / 2 ^ 63 % 2 == 1) = s := by
    cases s <;> simp only [Format.word, hsw, if_true, Bool.false_eq_true, if_false]
    · have : r / 2 ^ 63 = 0 := Nat.div_eq_of_lt (by omega)
      simp [this]
    · have : (2 ^ 63 + r) / 2 ^ 63 = 1 := by omega
      simp [this]
  unfold Format.read
  simp only [hsw, hmod, hdiv, hb, hi, hlp]
  rw [if_neg (by omega), if_pos hr1]
  have hq : r / 2 ^ 52 = e := by omega
  have hmm : r % 2 ^ 52 = m - 2 ^ 52 := by omega
  rw [hq, hmm]
  have a1 : 2 ^ 52 + (m - 2 ^ 52) = m := by omega
  have a2 : (-1074 : Int) + ((e - 1 : Nat) : Int) = (e : Int) - 1075 := by omega
  rw [a1, a2]

theorem read_small (s : Bool) (n : Nat) (h0 : 0 < n) (h : n < 2 ^ 53) :
    Ieee.double.read (Ieee.double.nearest s n 0) = .number s (n * 2 ^ (52 - n.log2)) ((n.log2 : Int) - 52) := by
  obtain ⟨h1, h2, h3⟩ := mant_bounds n h0 h
  rw [nearest_small s n h0 h]
  have := read_word s (n.log2 + 1023) (n * 2 ^ (52 - n.log2)) (by omega) (by omega) h2 h3
  rw [show n.log2 + 1023 - 1 = n.log2 + 1022 from by omega] at this
  have a2 : ((n.log2 + 1023 : Nat) : Int) - 1075 = (n.log2 : Int) - 52 := by omega
  rw [this, a2]

theorem signed_eq (s : Bool) (m k : Nat) : signed s m k = (if s then -1 else 1) * ((m : Int) * 2 ^ k) := by
  cases s <;> simp [signed, Nat.shiftLeft_eq]

def E74 : Nat := 1074
theorem e74 : (E74 : Int) = 1074 := rfl

/-- x reads as the whole number v -/
def Fl (x : Nat) (v : Int) : Prop := ∃ s m i, Ieee.double.read x = .number s m i ∧ -1074 ≤ i ∧ (if s then -1 else 1) * ((m : Int) * 2 ^ (i + (E74 : Int)).toNat) = v * 2 ^ E74

theorem cmp_scale {a b A B K C : Int} (hK : 0 < K) (hC : 0 < C) (h1 : A * K = a * C) (h2 : B * K = b * C) : compare A B = compare a b := by
  have key : ∀ {a b A B : Int}, A * K = a * C → B * K = b * C → (A < B ↔ a < b) := by
    intro a b A B h1 h2
    constructor
    · intro h
      have := Int.mul_lt_mul_of_pos_right h hK
      rw [h1, h2] at this
      exact Int.lt_of_mul_lt_mul_right this (Int.le_of_lt hC)
    · intro h
      have := Int.mul_lt_mul_of_pos_right h hC
      rw [← h1, ← h2] at this
      exact Int.lt_of_mul_lt_mul_right this (Int.le_of_lt hK)
  have k1 := key h1 h2
  have k2 := key h2 h1
  simp only [compare, compareOfLessAndEq]
  by_cases hab : a < b
  · rw [if_pos hab, if_pos (k1.2 hab)]
  · rw [if_neg hab, if_neg (fun h => hab (k1.1 h))]
    have : A = B ↔ a = b := by
      have n1 : ¬ A < B := fun h => hab (k1.1 h)
      constructor
      · intro h
        have : ¬ B < A := by omega
        have := fun h => this (k2.2 h)
        omega
      · intro h
        have : ¬ b < a := by omega
        have := fun h => this (k2.1 h)
        omega
    by_cases h : a = b
    · rw [if_pos h, if_pos (this.2 h)]
    · rw [if_neg h, if_neg (fun h' => h (this.1 h'))]

theorem pow_cut {b : Int} {i : Int} (h1 : -1074 ≤ b) (h2 : b ≤ i) : (2 : Int) ^ (i - b).toNat * 2 ^ (b + (E74 : Int)).toNat = 2 ^ (i + (E74 : Int)).toNat := by
  have := e74; rw [← Int.pow_add]; congr 1; omega

theorem fl_order {x y : Nat} {a b : Int} (hx : Fl x a) (hy : Fl y b) : FloatKind.f64.format.order x y = some (compare a b) := by
  obtain ⟨s, m, i, h1, h2, h3⟩ := hx
  obtain ⟨t, n, j, k1, k2, k3⟩ := hy
  show (Datum.order (Ieee.double.read x) (Ieee.double.read y)) = _
  rw [h1, k1]
  simp only [Datum.order, signed_eq]
  congr 1
  have hb1 : -1074 ≤ min i j := by omega
  refine cmp_scale (K := 2 ^ (min i j + (E74 : Int)).toNat) (C := 2 ^ E74) (Int.pow_pos (by decide)) (Int.pow_pos (by decide)) ?_ ?_
  · rw [← h3, ← pow_cut hb1 (Int.min_le_left i j)]; simp only [Int.mul_assoc]
  · rw [← k3, ← pow_cut hb1 (Int.min_le_right i j)]; simp only [Int.mul_assoc]

theorem fl_zero : Fl 0 0 := ⟨false, 0, -1074, by decide, by decide, by simp⟩

theorem fl_nat (s : Bool) (n : Nat) (h : n < 2 ^ 53) : Fl (Ieee.double.nearest s n 0) (if s then -(n : Int) else n) := by
  rcases Nat.eq_zero_or_pos n with rfl | h0
  · cases s
    · exact ⟨false, 0, -1074, by decide, by decide, by simp⟩
    · exact ⟨true, 0, -1074, by decide, by decide, by simp⟩
  · obtain ⟨hL, _, _⟩ := mant_bounds n h0 h
    refine ⟨s, _, _, read_small s n h0 h, by omega, ?_⟩
    have e : (n : Int) * 2 ^ (52 - n.log2) * 2 ^ ((n.log2 : Int) - 52 + (E74 : Int)).toNat = n * 2 ^ E74 := by
      have := e74; rw [Int.mul_assoc, ← Int.pow_add]; congr 2; omega
    cases s
    · simp only [Bool.false_eq_true, if_false, Int.one_mul]
      rw [← e]; push_cast; rfl
    · simp only [if_true, Int.neg_mul, Int.one_mul]
      rw [← e]; push_cast; rfl

theorem fl_small (n : Int) (h : n.natAbs < 2 ^ 53) : Fl (fl n) n := by
  have := fl_nat (decide (n < 0)) n.natAbs h
  rw [fl_def]
  by_cases hn : n < 0
  · simp only [hn, decide_true, if_true] at this ⊢
    have e : -((n.natAbs : Nat) : Int) = n := by omega
    rwa [e] at this
  · simp only [hn, decide_false, Bool.false_eq_true, if_false] at this ⊢
    have e : ((n.natAbs : Nat) : Int) = n := by omega
    rwa [e] at this

theorem fl_word (s : Bool) (e m : Nat) (he : 1 ≤ e) (he2 : e < 2047) (h1 : 1075 ≤ e) (hm1 : 2 ^ 52 ≤ m) (hm2 : m < 2 ^ 53) :
    Fl (Ieee.double.word s ((e - 1) * 2 ^ 52 + m)) ((if s then -1 else 1) * ((m * 2 ^ (e - 1075) : Nat) : Int)) := by
  refine ⟨s, m, _, read_word s e m he he2 hm1 hm2, by omega, ?_⟩
  have h := e74
  have e1 : ((e : Int) - 1075 + (E74 : Int)).toNat = (e - 1075) + E74 := by omega
  rw [e1, Int.pow_add]
  push_cast
  simp only [Int.mul_assoc]

theorem nearest_big (s : Bool) (n : Nat) (h : 2 ^ 53 ≤ n) (h64 : n < 2 ^ 64) :
    ∃ m : Nat, 2 ^ 52 ≤ m ∧ m ≤ 2 ^ 53 ∧ 53 ≤ n.log2 ∧ n.log2 ≤ 63 ∧ Ieee.double.nearest s n 0 = Ieee.double.word s ((n.log2 + 1022) * 2 ^ 52 + m) := by
  have hne : n ≠ 0 := by omega
  have hl1 : 2 ^ n.log2 ≤ n := Nat.log2_self_le hne
  have hl2 : n < 2 ^ (n.log2 + 1) := Nat.lt_log2_self
  have hL : 53 ≤ n.log2 := (Nat.le_log2 hne).2 h
  have hL2 : n.log2 ≤ 63 := by
    have := (Nat.log2_lt hne).2 h64; omega
  unfold Format.nearest
  rw [if_neg hne]
  have hlp : Ieee.double.leastPlace = -1074 := by decide
  have hfb : Ieee.double.fractionBits = 52 := rfl
  have hlast : max ((0 : Int) + n.log2 - Ieee.double.fractionBits) (-1074) = (n.log2 : Int) - 52 := by
    rw [hfb]; omega
  simp only [hlp, hlast]
  have e1 : (0 - ((n.log2 : Int) - 52)).toNat = 0 := by omega
  have e2 : ((n.log2 : Int) - 52 - 0).toNat = n.log2 - 52 := by omega
  have e3 : ((n.log2 : Int) - 52 - -1074).toNat = n.log2 + 1022 := by omega
  rw [e1, e2, e3, Nat.shiftLeft_zero]
  have hb : Ieee.double.binade = 2 ^ 52 := rfl
  have hi : Ieee.double.infRung = 2047 * 2 ^ 52 := rfl
  rw [hb, hi]
  have hq1 : 2 ^ 52 ≤ n / 2 ^ (n.log2 - 52) := by
    rw [Nat.le_div_iff_mul_le (two_pos _), ← Nat.pow_add]
    exact Nat.le_trans (Nat.pow_le_pow_right (by decide) (by omega)) hl1
  have hq2 : n / 2 ^ (n.log2 - 52) < 2 ^ 53 := by
    rw [Nat.div_lt_iff_lt_mul (two_pos _), ← Nat.pow_add]
    exact Nat.lt_of_lt_of_le hl2 (Nat.pow_le_pow_right (by decide) (by omega))
  have hcut : ∃ b : Bool, Toward.cut .even s n (n.log2 - 52) = n / 2 ^ (n.log2 - 52) + b.toNat := by
    unfold Toward.cut
    rw [Nat.min_eq_left (by omega), Nat.shiftLeft_eq, Nat.one_mul]
    exact ⟨_, rfl⟩
  obtain ⟨b, hcut⟩ := hcut
  rw [hcut]
  have hb1 : b.toNat ≤ 1 := by cases b <;> decide
  refine ⟨n / 2 ^ (n.log2 - 52) + b.toNat, by omega, by omega, hL, hL2, ?_⟩
  congr 1
  apply Nat.min_eq_left
  omega

theorem two_le_pow {k : Nat} (h : 1 ≤ k) : 2 ≤ 2 ^ k := by
  obtain ⟨j, rfl⟩ : ∃ j, k = j + 1 := ⟨k - 1, by omega⟩
  have := two_pos j
  rw [Nat.pow_succ]; omega

theorem fl_big (n : Int) (h : 2 ^ 53 ≤ n.natAbs) (h64 : n.natAbs < 2 ^ 64) : ∃ v : Int, Fl (fl n) v ∧ 2 ^ 53 ≤ v.natAbs ∧ (v < 0 ↔ n < 0) := by
  obtain ⟨m, h1, h2, h3, h4, h5⟩ := nearest_big (decide (n < 0)) n.natAbs h h64
  rw [fl_def]
  have h5' : Ieee.double.nearest (n < 0) n.natAbs 0 = _ := h5
  rw [h5']
  by_cases hm : m < 2 ^ 53
  · have := fl_word (decide (n < 0)) (n.natAbs.log2 + 1023) m (by omega) (by omega) (by omega) h1 hm
    rw [show n.natAbs.log2 + 1023 - 1 = n.natAbs.log2 + 1022 from by omega] at this
    refine ⟨_, this, ?_, ?_⟩
    · have e1 : 2 ≤ 2 ^ (n.natAbs.log2 + 1023 - 1075) := two_le_pow (by omega)
      have e2 : 2 ^ 52 * 2 ≤ m * 2 ^ (n.natAbs.log2 + 1023 - 1075) := Nat.mul_le_mul h1 e1
      split <;> omega
    · have e1 : 0 < m * 2 ^ (n.natAbs.log2 + 1023 - 1075) := Nat.mul_pos (by omega) (two_pos _)
      by_cases hn : n < 0 <;> simp only [hn, decide_true, decide_false, if_true, Bool.false_eq_true, if_false, iff_true, iff_false] <;> omega
  · have hm2 : m = 2 ^ 53 := by omega
    have := fl_word (decide (n < 0)) (n.natAbs.log2 + 1024) (2 ^ 52) (by omega) (by omega) (by omega) (Nat.le_refl _) (by decide)
    rw [show (n.natAbs.log2 + 1024 - 1) * 2 ^ 52 + 2 ^ 52 = (n.natAbs.log2 + 1022) * 2 ^ 52 + m from by omega] at this
    refine ⟨_, this, ?_, ?_⟩
    · have e1 : 2 ≤ 2 ^ (n.natAbs.log2 + 1024 - 1075) := two_le_pow (by omega)
      have e2 : 2 ^ 52 * 2 ≤ 2 ^ 52 * 2 ^ (n.natAbs.log2 + 1024 - 1075) := Nat.mul_le_mul (Nat.le_refl _) e1
      split <;> omega
    · have e1 : 0 < 2 ^ 52 * 2 ^ (n.natAbs.log2 + 1024 - 1075) := Nat.mul_pos (by decide) (two_pos _)
      by_cases hn : n < 0 <;> simp only [hn, decide_true, decide_false, if_true, Bool.false_eq_true, if_false, iff_true, iff_false] <;> omega

/-- the plain form of a small whole number -/
theorem fl_read (n : Nat) (h : n < 2 ^ 53) : ∃ k : Nat, k ≤ 1074 ∧ Ieee.double.read (fl n) = .number false (n * 2 ^ k) (-(k : Int)) := by
  have e0 : fl n = Ieee.double.nearest false n 0 := by rw [fl_def]; congr 1
  rw [e0]
  rcases Nat.eq_zero_or_pos n with rfl | h0
  · exact ⟨1074, Nat.le_refl _, by simp only [Nat.zero_mul]; decide⟩
  · obtain ⟨hL, _, _⟩ := mant_bounds n h0 h
    refine ⟨52 - n.log2, by omega, ?_⟩
    rw [read_small false n h0 h]
    have : ((n.log2 : Int) - 52) = -((52 - n.log2 : Nat) : Int) := by omega
    rw [this]

theorem log2_scale (n k : Nat) (h0 : 0 < n) : (n * 2 ^ k).log2 = n.log2 + k := by
  have hne : n ≠ 0 := by omega
  have h1 : 2 ^ n.log2 ≤ n := Nat.log2_self_le hne
  have h2 : n < 2 ^ (n.log2 + 1) := Nat.lt_log2_self
  have h3 : n * 2 ^ k ≠ 0 := Nat.mul_ne_zero hne (by have := two_pos k; omega)
  have h4 : n.log2 + k ≤ (n * 2 ^ k).log2 := (Nat.le_log2 h3).2 (by rw [Nat.pow_add]; exact Nat.mul_le_mul_right _ h1)
  have h5 : (n * 2 ^ k).log2 < n.log2 + k + 1 := (Nat.log2_lt h3).2 (by rw [show n.log2 + k + 1 = n.log2 + 1 + k from by omega, Nat.pow_add]; exact Nat.mul_lt_mul_of_pos_right h2 (two_pos _))
  omega

theorem cut_exact (way : Toward) (s : Bool) (n k : Nat) : way.cut s (n * 2 ^ k) k = n := by
  rcases Nat.eq_zero_or_pos n with rfl | h0
  · unfold Toward.cut
    simp only [Nat.zero_mul, Nat.zero_div, Nat.zero_mod, Nat.mul_zero, Nat.not_lt_zero, decide_false, Bool.false_or, Nat.zero_add]
    cases way <;> simp
  · unfold Toward.cut
    rw [log2_scale n k h0, Nat.min_eq_left (by omega), Nat.shiftLeft_eq, Nat.one_mul]
    have h1 : n * 2 ^ k / 2 ^ k = n := Nat.mul_div_cancel _ (two_pos k)
    have h2 : n * 2 ^ k % 2 ^ k = 0 := Nat.mul_mod_left _ _
    have h3 := two_pos k
    simp only [h1, h2]
    cases way <;> simp <;> omega

theorem nearest_scale (n k : Nat) (h : n < 2 ^ 53) (hk : k ≤ 1074) : Ieee.double.nearest false (n * 2 ^ k) (-(k : Int)) = fl n := by
  have e0 : fl n = Ieee.double.nearest false n 0 := by rw [fl_def]; congr 1
  rw [e0]
  rcases Nat.eq_zero_or_pos n with rfl | h0
  · simp [Format.nearest]
  · rw [nearest_small false n h0 h]
    obtain ⟨hL, _, h9⟩ := mant_bounds n h0 h
    have h3 : n * 2 ^ k ≠ 0 := Nat.mul_ne_zero (by omega) (by have := two_pos k; omega)
    unfold Format.nearest
    rw [if_neg h3, log2_scale n k h0]
    have hlp : Ieee.double.leastPlace = -1074 := by decide
    have hfb : Ieee.double.fractionBits = 52 := rfl
    have hlast : max (-(k : Int) + ((n.log2 + k : Nat) : Int) - Ieee.double.fractionBits) (-1074) = (n.log2 : Int) - 52 := by
      rw [hfb]; omega
    simp only [hlp, hlast]
    have e3 : ((n.log2 : Int) - 52 - -1074).toNat = n.log2 + 1022 := by omega
    have hb : Ieee.double.binade = 2 ^ 52 := rfl
    have hi : Ieee.double.infRung = 2047 * 2 ^ 52 := rfl
    rw [e3, hb, hi]
    have hcut : Toward.even.cut false ((n * 2 ^ k) <<< (-(k : Int) - ((n.log2 : Int) - 52)).toNat) ((n.log2 : Int) - 52 - -(k : Int)).toNat = n * 2 ^ (52 - n.log2) := by
      by_cases hc : k ≤ 52 - n.log2
      · have e1 : (-(k : Int) - ((n.log2 : Int) - 52)).toNat = 52 - n.log2 - k := by omega
        have e2 : ((n.log2 : Int) - 52 - -(k : Int)).toNat = 0 := by omega
        rw [e1, e2, Nat.shiftLeft_eq, Nat.mul_assoc, ← Nat.pow_add, show k + (52 - n.log2 - k) = 52 - n.log2 from by omega]
        have := cut_exact .even false (n * 2 ^ (52 - n.log2)) 0
        simpa using this
      · have e1 : (-(k : Int) - ((n.log2 : Int) - 52)).toNat = 0 := by omega
        have e2 : ((n.log2 : Int) - 52 - -(k : Int)).toNat = k - (52 - n.log2) := by omega
        rw [e1, e2, Nat.shiftLeft_zero]
        have e4 : n * 2 ^ k = n * 2 ^ (52 - n.log2) * 2 ^ (k - (52 - n.log2)) := by
          rw [Nat.mul_assoc, ← Nat.pow_add]; congr 2; omega
        rw [e4]
        exact cut_exact _ _ _ _
    rw [hcut]
    congr 1
    apply Nat.min_eq_left
    omega

theorem signed_pow (a k K : Nat) (h : k ≤ K) : signed false (a * 2 ^ k) (-(k : Int) - -(K : Int)).toNat = ((a * 2 ^ K : Nat) : Int) := by
  have e : (-(k : Int) - -(K : Int)).toNat = K - k := by omega
  rw [e]
  simp only [signed, Bool.false_eq_true, if_false, Nat.shiftLeft_eq]
  rw [Nat.mul_assoc, ← Nat.pow_add, show k + (K - k) = K from by omega]

theorem fl_add (a b : Nat) (h : a + b < 2 ^ 53) : floatBits .add .f64 (fl a) (fl b) = some (fl ((a : Int) + b)) := by
  obtain ⟨k, hk, h1⟩ := fl_read a (by omega)
  obtain ⟨l, hl, h2⟩ := fl_read b (by omega)
  have e : fl ((a : Int) + b) = fl ((a + b : Nat) : Int) := by push_cast; rfl
  rw [e]
  show Option.map Ieee.double.write ((Ieee.double.read (fl a)).sum (Ieee.double.read (fl b))) = _
  rw [h1, h2]
  obtain ⟨K, hK⟩ : ∃ K : Nat, min (-(k : Int)) (-(l : Int)) = -(K : Int) := ⟨max k l, by omega⟩
  have hk1 : k ≤ K := by omega
  have hl1 : l ≤ K := by omega
  have hK2 : K ≤ 1074 := by omega
  simp only [Datum.sum, hK, signed_pow _ _ _ hk1, signed_pow _ _ _ hl1, Option.map_some]
  have et : ((a * 2 ^ K : Nat) : Int) + ((b * 2 ^ K : Nat) : Int) = (((a + b) * 2 ^ K : Nat) : Int) := by rw [Nat.add_mul]; omega
  rw [et]
  have en : decide ((((a + b) * 2 ^ K : Nat) : Int) < 0) = false := by rw [decide_eq_false_iff_not]; omega
  simp only [en, Bool.and_self, ite_self, Int.natAbs_natCast, Format.write]
  rw [nearest_scale (a + b) K h hK2]

theorem fl_sub (a b : Nat) (hb : b ≤ a) (h : a < 2 ^ 53) : floatBits .sub .f64 (fl a) (fl b) = some (fl ((a - b : Nat) : Int)) := by
  obtain ⟨k, hk, h1⟩ := fl_read a (by omega)
  obtain ⟨l, hl, h2⟩ := fl_read b (by omega)
  show Option.map Ieee.double.write ((Ieee.double.read (fl a)).sum (Ieee.double.read (fl b)).opposite) = _
  rw [h1, h2]
  obtain ⟨K, hK⟩ : ∃ K : Nat, min (-(k : Int)) (-(l : Int)) = -(K : Int) := ⟨max k l, by omega⟩
  have hk1 : k ≤ K := by omega
  have hl1 : l ≤ K := by omega
  have hK2 : K ≤ 1074 := by omega
  have hs : signed true (b * 2 ^ l) (-(l : Int) - -(K : Int)).toNat = -((b * 2 ^ K : Nat) : Int) := by
    rw [← signed_pow b l K hl1]; simp [signed]
  simp only [Datum.opposite, Bool.not_false, Datum.sum, hK, signed_pow _ _ _ hk1, hs, Option.map_some]
  have et : ((a * 2 ^ K : Nat) : Int) + -((b * 2 ^ K : Nat) : Int) = (((a - b) * 2 ^ K : Nat) : Int) := by
    rw [Nat.sub_mul]
    have := Nat.mul_le_mul_right (2 ^ K) hb
    omega
  rw [et]
  have en : decide ((((a - b) * 2 ^ K : Nat) : Int) < 0) = false := by rw [decide_eq_false_iff_not]; omega
  simp only [en, Bool.false_and, ite_self, Int.natAbs_natCast, Format.write]
  rw [nearest_scale (a - b) K (by omega) hK2]

theorem fl_integral (n : Nat) (h : n < 2 ^ 53) : (FloatKind.f64.decode (fl n)).integral .zero = .number false n 0 := by
  obtain ⟨k, hk, h1⟩ := fl_read n h
  show (Ieee.double.read (fl n)).integral .zero = _
  rw [h1]
  have e1 : (-(k : Int)).toNat = 0 := by omega
  have e2 : (- -(k : Int)).toNat = k := by omega
  simp only [Datum.integral, e1, e2, Nat.shiftLeft_zero, cut_exact]

theorem fl_trunc (n : Nat) (h : n < 2 ^ 53) : FloatKind.f64.encode ((FloatKind.f64.decode (fl n)).integral .zero) = fl n := by
  rw [fl_integral n h]
  show Ieee.double.nearest false n 0 = fl n
  rw [fl_def]; congr 1

theorem fl_toInt (n : Nat) (h : n < 2 ^ 53) : floatToIntVal .f64 (fl n) .i64 = some n := by
  unfold floatToIntVal Datum.toInt
  rw [fl_integral n h]
  have : signed false n 0 = n := by simp [signed]
  simp only [this]
  rw [if_pos]
  · rfl
  have h1 : IntKind.i64.min = -9223372036854775808 := by decide
  have h2 : IntKind.i64.max = 9223372036854775807 := by decide
  rw [h1, h2]; omega

/-- every 64-bit number: a whole number, of the same sign, the same below 2^53, great where it is great -/
theorem fl_any (n : Int) (h : n.natAbs < 2 ^ 64) : ∃ v : Int, Fl (fl n) v ∧ (v < 0 ↔ n < 0) ∧ (n.natAbs < 2 ^ 53 → v = n) ∧ (2 ^ 53 ≤ n.natAbs → 2 ^ 53 ≤ v.natAbs) := by
  by_cases h1 : n.natAbs < 2 ^ 53
  · exact ⟨n, fl_small n h1, Iff.rfl, fun _ => rfl, fun h => by omega⟩
  · obtain ⟨v, h2, h3, h4⟩ := fl_big n (by omega) h
    exact ⟨v, h2, h4, fun h => absurd h h1, fun _ => h3⟩

section
variable (P : Program) (w : World) (a : Addr) (m : Mode)
theorem run_store_complex (k : FloatKind) (x y : Nat) : (store a (.complex k x y) m).run P w = stored P w a (.complex k x y) m := run_store P w a _ m rfl
theorem run_store_float (k : FloatKind) (x : Nat) : (store a (.float k x) m).run P w = stored P w a (.float k x) m := run_store P w a _ m rfl
end

end Go.Proofs.Ytakkdaenindboaa
