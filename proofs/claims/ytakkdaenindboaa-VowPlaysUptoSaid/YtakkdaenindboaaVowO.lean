import Derived.Test.YtakkdaenindboaaVowN
namespace Go.Proofs.Ytakkdaenindboaa
set_option linter.unusedVariables false
set_option linter.unusedSimpArgs false
open Go.RowKit
attribute [local go_sem ↓] Go.wp_at_zero Go.wp_at_succ
attribute [local go_sem] run_store_complex run_store_float

theorem fl_three : fl 3 = 4613937818241073152 := by kernel_rfl
def kA : Ky := ⟨1, { data := #[97] }⟩
def kB : Ky := ⟨1, { data := #[98] }⟩
theorem aw1 : grantT ⟨3, 0, 1, 2, [], []⟩ kA 5 = (⟨3, 0, 1, 2, [kA], []⟩, []) := by rfl
theorem aw2 : grantT ⟨3, 0, 1, 2, [kA], []⟩ kB 6 = (⟨3, 1, 1, 2, [kB], [⟨3, 1, 6, false, [kA]⟩]⟩, [⟨3, 1, 6, false, [kA]⟩]) := by rfl

/-- one break that is told -/
theorem one_brk {w : World} {B : Nat} {a : Option Addr} {c : Nat} {R : List Bk} {b : Bp} (h : BrsAt w B a c R) (hR : R.map Bk.pl = [b]) : ∃ g ka kc, a = some ⟨g, 0, none⟩ ∧ R = [⟨b.ep, b.n, b.ver, b.all, ka, kc, b.ks⟩] ∧ g < w.heap.size ∧
    w.cell? ⟨g, 0, none⟩ = some (.complex .f64 (fl b.ep) (fl b.n)) ∧ w.cell? ⟨g, 1, none⟩ = some (.int .i64 b.ver) ∧ w.cell? ⟨g, 2, none⟩ = some (.bool b.all) ∧ w.cell? ⟨g, 3, none⟩ = some (.slice ka b.ks.length kc) ∧
    w.ownsRow B 37 2 (.slice ka b.ks.length kc) b.ks.length (kyc b.ks) := by
  match R, hR with
  | [x], hR =>
    simp only [List.map_cons, List.map_nil, List.cons.injEq, and_true] at hR
    subst hR
    obtain ⟨g, hg, _, hgz, _, _⟩ := own_loc h.row (by simp)
    subst hg
    have h1 := bks_at (Rd.own h.row) (Below.refl _ _) (k := 0) (x := x) rfl
    simp only [Nat.zero_mul, Nat.zero_add] at h1
    exact ⟨g, x.a, x.c, rfl, rfl, hgz, h1.1, h1.2.1, h1.2.2.1, h1.2.2.2, h.each x (by simp)⟩

set_option maxRecDepth 100000 in
set_option maxHeartbeats 2000000 in
theorem v_awake (w : World) : Calls Try.prog 12 #[] w fun e w' => e = .returned (.bool true) ∧ Below w.heap.size w w' := by
  have t1 : (FloatKind.f64.format.order (fl 3) 4613937818241073152 == some .eq) = true := by
    have h : InM 3 := ⟨by decide, by decide⟩
    rw [← fl_three, ord_M h h, cmp_eq]; rfl
  have t2 : (FloatKind.f64.format.order (fl 1) 4607182418800017408 == some .eq) = true := by
    have h : InM 1 := ⟨by decide, by decide⟩
    rw [← fl_one, ord_M h h, cmp_eq]; rfl
  have HB0 := hid (Below.refl w.heap.size w)
  go_enter Try.func12, Try.ntmps12
  go_wp2_with fail
  refine (v_new_yes _ 3 1 2 ⟨⟨by decide, by decide⟩, ⟨by decide, by decide⟩, by decide, by decide⟩).mono ?_
  rintro e w1 ⟨rfl, hv1, hb1⟩
  have HV1 := hid hv1
  have HB1 := hid hb1
  clear hv1 hb1
  go_wp2_with fail
  refine (t_grant _ _ _ _ 1 _ 5 HV1.out).mono ?_
  rintro e w2 hp2
  rw [show (⟨1, { data := #[97] }⟩ : Ky) = kA from rfl, aw1] at hp2
  obtain ⟨F2, a2, c2, R2, rfl, hv2, hR2, hF2, hC2, hB2, hO2⟩ := hp2
  have hRn : R2 = [] := by simpa using hR2
  subst hRn
  have HV2 := hid hv2
  have HB2 := hid (show Below w.heap.size w w2 from HB1.out.trans (hC2.toBelow HB1.out.size (fun i hi h => by omega)))
  have HFF2 := hid hF2
  clear hv2 hR2 hF2 hC2 hB2 hO2
  go_wp2_with fail
  refine (t_grant _ _ _ _ 1 _ 6 HV2.out).mono ?_
  rintro e w3 hp3
  rw [show (⟨1, { data := #[98] }⟩ : Ky) = kB from rfl, aw2] at hp3
  obtain ⟨F3, a3, c3, R3, rfl, hv3, hR3, hF3, hC3, hB3, hO3⟩ := hp3
  obtain ⟨g, ka, kc, rfl, rfl, hgz, q0, q1, q2, q3, q4⟩ := one_brk hB3 hR3
  have HV3 := hid hv3
  have HB3 := hid (show Below w.heap.size w w3 from HB2.out.trans (hC3.toBelow HB2.out.size (fun i hi h => by
    rcases HFF2.out i h with h1 | h1
    · subst h1; omega
    · have := HB1.out.size; omega)))
  obtain ⟨g4, hg4, _, hgz4, _, _⟩ := own_loc q4 (by simp)
  subst hg4
  have q5 := keys_at (Rd.own q4) (k := 0) (x := kA) rfl
  simp only [kA, Nat.zero_mul, Nat.zero_add] at q5
  simp only [kA, List.length_singleton] at q3
  have heq := fun W => eqIn_key 1 1 { data := #[97] } { data := #[97] } W
  simp only [decide_true] at heq
  clear hv3 hR3 hF3 hC3 hB3 hO3 q4
  go_wp2_with (first
    | (go_at_call 20; refine (v_mark _ _ _ _ HV3.out).mono ?_; rintro e w4 ⟨rfl, rfl⟩)
    | (go_at_call 19; refine (v_holds _ _ _ _ 1 _ HV3.out).mono ?_; rintro e w5 ⟨rfl, hb5⟩))
  go_ret
  exact ⟨rfl, HB3.out.trans (hb5.mono HB3.out.size)⟩

end Go.Proofs.Ytakkdaenindboaa
