import Derived.Test.YtmhogjecfgbchaaRefF
namespace Go.Proofs.Ytmhogjecfgbchaa
set_option linter.unusedVariables false
set_option linter.unusedSimpArgs false
open Go.RowKit
attribute [local go_sem ↓] Go.wp_at_zero Go.wp_at_succ

set_option maxRecDepth 100000 in
set_option maxHeartbeats 2000000 in
theorem dentPlays_walk (sa : Option Addr) (sc : Nat) (S : List Dop) (w : World) (hS : ScrD w (.slice sa S.length sc) S) (hz : S.length * 112 ≤ 140737488351232) (hkz : ∀ x ∈ S, x.ks.length * 24 ≤ 140737488351232) (hkb : (keysL S).length * 24 ≤ 140737488355328) :
    Calls Try.prog 9 #[.slice sa S.length sc] w fun r w' => r = .returned (.bool true) ∧ Below w.heap.size w w' := by
  have HS := hid hS
  have HZ := hid hkz
  obtain ⟨KL, hKL⟩ : ∃ KL, KL = keysL S := ⟨_, rfl⟩
  have HKL := hid hKL
  rw [← hKL] at hkb
  clear hS hkz hKL
  go_enter Try.func9, Try.ntmps9
  go_wp2_with (first
    | (go_at_call 31; refine (d_ofw' sa sc S _ HS.out (by omega) HZ.out).mono ?_; rintro r w1 ⟨p1, pr1, wh1, ws1, L1, rfl, hle1, hc1, hr1, hwr1, hwl1, hb1⟩; (have HC1 := hid hc1); (have HR1 := hid hr1); (have HW1 := hid hwr1); (have HS1 := hid (HS.out.below hb1)); (have BB1 := hid hb1); clear hle1 hc1 hr1 hwr1 hb1)
    | (go_at_call 39; (have hko := keysOf_walk sa sc S w1 HS1.out (by omega) (by rw [← HKL.out]; exact hkb)); rw [← HKL.out] at hko; refine hko.mono ?_; clear hko; rintro r w2 ⟨ka2, kc2, rfl, hko2, hb2⟩; (have HKO2 := hid hko2); (have HC2 := hid (HC1.out.below hb2)); (have HR2 := hid (HR1.out.below hb2)); (have BB2 := hid (BB1.out.trans (hb2.mono BB1.out.size))); clear hko2 hb2)
    | (go_at_call 38; refine (like_walk _ _ _ _ _ wh1 _ ws1 _ _ KL HC2.out HR2.out HW1.out (Rd.own HKO2.out) (by omega) hkb (by omega)).mono ?_; rintro r w3 ⟨rfl, hb3⟩; (have BB3 := hid (BB2.out.trans (hb3.mono BB2.out.size))); clear hb3)
    | (go_at_call 30; refine (d_awake _).mono ?_; rintro r w4 ⟨rfl, hb4⟩; (have BB4 := hid (BB3.out.trans (hb4.mono BB3.out.size))); clear hb4))
  go_ret
  exact ⟨rfl, BB4.out⟩

end Go.Proofs.Ytmhogjecfgbchaa
