import Derived.Test.YtmhogjecfgbchaaPruneP
namespace Go.Proofs.Ytmhogjecfgbchaa
set_option linter.unusedVariables false
set_option linter.unusedSimpArgs false
open Go.RowKit
attribute [local go_sem ↓] Go.wp_at_zero Go.wp_at_succ

theorem names_same {N1 N2 M : List En} (h1 : N1.Perm M) (h2 : N2.Perm M) (s1 : N1.Pairwise fun x y => nmLt x.key.name y.key.name = true) (s2 : N2.Pairwise fun x y => nmLt x.key.name y.key.name = true) : N2 = N1 :=
  uniq_sorted (h2.trans h1.symm) s1 (s2.imp (fun h => by rw [nm_asymm h]; simp))

set_option maxRecDepth 100000 in
set_option maxHeartbeats 4000000 in
theorem pruneWhole_walk (sa : Option Addr) (sc : Nat) (S : List Dop) (most neg dir : Int) (w : World) (hS : ScrD w (.slice sa S.length sc) S) (hz : S.length * 112 ≤ 140737488351232) (hkz : ∀ x ∈ S, x.ks.length * 24 ≤ 140737488351232) :
    Calls Try.prog 16 #[.slice sa S.length sc, .int .i64 most, .int .i64 neg, .int .i64 dir] w fun r w' => r = .returned (.bool true) ∧ Below w.heap.size w w' := by
  have HS := hid hS
  have HZ := hid hkz
  have BB0 := hid (Below.refl w.heap.size w)
  have hul := ups_le S
  have hn80 : (ups S).length * 80 ≤ 140737488351232 := by omega
  clear hS hkz
  go_enter Try.func16, Try.ntmps16
  go_wp2_with (go_at_call 41; refine (p_tree sa sc S _ HS.out hz HZ.out).mono ?_; rintro r w1 ⟨B, p, wh, L, rfl, hBw, hc1, hLe, hb1⟩; (have BB1 := hid (BB0.out.trans (hb1.mono BB0.out.size))); (have HC1 := hid hc1); (have HUP := hid (show ∀ e ∈ L, upE e by rw [hLe]; exact play_up S)); (have hL := hc1.len); (have HK := hid hc1.keys); (have hl1 := hc1.lt); (have hge1 := hc1.ge); (have hw1 := hb1.size); clear hc1 hb1 hLe)
  refine (c_whole _ _ _ _ _ _ dir HC1.out).mono ?_
  rintro r wx ⟨rfl, rfl⟩
  go_wp2_with (first
      | (go_at_call 36; (fail_if_success (have hxx := BB2)); refine (c_names _ _ p _ _ _ dir HC1.out hn80).mono ?_; rintro r w2 ⟨N2, a2, c2, rfl, hpm2, hrs2, hown2, hb2⟩; (have BB2 := hid (BB1.out.trans (hb2.mono BB1.out.size))); (have HC2 := hid (HC1.out.below hb2)); (have HPM2 := hid hpm2); (have HRS2 := hid hrs2); (have OM2 := hid hown2); (have hw2 := hb2.size); clear hpm2 hrs2 hown2 hb2)
      | (go_at_call 42; (fail_if_success (have hxx := HC3)); refine (c_trim _ _ p _ _ _ most neg HC2.out hn80).mono ?_; rintro r w3 ⟨s3, a3, c3, rfl, hs3, hown3, hc3, hgl3, hg3⟩; (have HTW := hid (trim_whole HK.out wh most neg dir hs3)); clear hs3; (have BB3 := hid (BB2.out.trans (hg3.toBelow BB2.out.size (fun i hi h => by have := h.1; omega)))); (have HC3 := hid hc3); (have OM3 := hid (ownsRow_chg OM2.out (fun k hk hlt => hg3.block k hlt (fun h => by have := h.1; have := h.2; have := (own_lt OM2.out hk).1; omega)))); (have hw3 := hg3.size); (have hl3 := hc3.lt); clear hc3 hg3)
      )
  refine (c_whole _ _ _ _ _ _ dir HC3.out).mono ?_
  rintro r wx ⟨rfl, rfl⟩
  cases hw : s3.wh dir with
  | false =>
    go_wp2_with (go_at_call 43; refine (p_awake _).mono ?_; rintro r w7 ⟨rfl, hb7⟩; (have BB7 := hid (BB3.out.trans (hb7.mono BB3.out.size))); clear hb7)
    go_ret
    exact ⟨rfl, BB7.out⟩
  | true =>
    obtain ⟨hwd, hfl⟩ := HTW.out hw
    have HFL := hid hfl
    clear hw hfl
    go_wp2_with (first
      | (go_at_call 36; (fail_if_success (have hxx := BB4)); refine (c_names _ _ p _ _ _ dir HC3.out hn80).mono ?_; rintro r w4 ⟨N4, a4, c4, rfl, hpm4, hrs4, hown4, hb4⟩; (have BB4 := hid (BB3.out.trans (hb4.mono BB3.out.size))); (have HC4 := hid (HC3.out.below hb4)); (have OM4 := hid (own_below OM3.out hb4)); (have HPM4 := hid hpm4); (have HRS4 := hid hrs4); (have OQ4 := hid hown4); (have hw4 := hb4.size); clear hpm4 hrs4 hown4 hb4)
      | (go_at_call 33; refine (same_entries _ _ _ _ _ _ _ (Rd.own OQ4.out) (Rd.own OM4.out)).mono ?_; rintro r w5 ⟨rfl, hb5⟩; rw [decide_eq_true (names_same HPM2.out (by rw [← HFL.out]; exact HPM4.out) HRS2.out HRS4.out)]; (have BB5 := hid (BB4.out.trans (hb5.mono BB4.out.size))); (have HC5 := hid (HC4.out.below hb5)); (have OM5 := hid (own_below OM4.out hb5)); (have OQ5 := hid (own_below OQ4.out hb5)); (have hw5 := hb5.size); clear hb5)
      | (go_at_call 43; refine (p_awake _).mono ?_; rintro r w6 ⟨rfl, hb6⟩; (have BB6 := hid (BB5.out.trans (hb6.mono BB5.out.size))); (have HC6 := hid (HC5.out.below hb6)); (have OM6 := hid (own_below OM5.out hb6)); (have OQ6 := hid (own_below OQ5.out hb6)); (have hw6 := hb6.size); clear hb6)
      )
    go_ret
    exact ⟨rfl, BB6.out⟩

end Go.Proofs.Ytmhogjecfgbchaa
