import Derived.Test.YtmhogjecfgbchaaPruneP
namespace Go.Proofs.Ytmhogjecfgbchaa
set_option linter.unusedVariables false
set_option linter.unusedSimpArgs false
open Go.RowKit
attribute [local go_sem ↓] Go.wp_at_zero Go.wp_at_succ

set_option maxRecDepth 100000 in
set_option maxHeartbeats 4000000 in
theorem pruneLeaves_walk (sa : Option Addr) (sc : Nat) (S : List Dop) (most neg : Int) (w : World) (hS : ScrD w (.slice sa S.length sc) S) (hz : S.length * 112 ≤ 140737488351232) (hkz : ∀ x ∈ S, x.ks.length * 24 ≤ 140737488351232) :
    Calls Try.prog 13 #[.slice sa S.length sc, .int .i64 most, .int .i64 neg] w fun r w' => r = .returned (.bool true) ∧ Below w.heap.size w w' := by
  have HS := hid hS
  have HZ := hid hkz
  have BB0 := hid (Below.refl w.heap.size w)
  have hul := ups_le S
  have hn80 : (ups S).length * 80 ≤ 140737488351232 := by omega
  clear hS hkz
  go_enter Try.func13, Try.ntmps13
  go_wp2_with (first
      | (go_at_call 41; refine (p_tree sa sc S _ HS.out hz HZ.out).mono ?_; rintro r w1 ⟨B, p, wh, L, rfl, hBw, hc1, hLe, hb1⟩; (have BB1 := hid (BB0.out.trans (hb1.mono BB0.out.size))); (have HC1 := hid hc1); (have HUP := hid (show ∀ e ∈ L, upE e by rw [hLe]; exact play_up S)); (have hL := hc1.len); (have HK := hid hc1.keys); (have hl1 := hc1.lt); (have hge1 := hc1.ge); (have hw1 := hb1.size); clear hc1 hb1 hLe)
      | (go_at_call 32; refine (c_entries _ _ p _ _ _ HC1.out (by omega)).mono ?_; rintro r w2 ⟨a2, c2, rfl, hown2, hb2⟩; (have BB2 := hid (BB1.out.trans (hb2.mono BB1.out.size))); (have HC2 := hid (HC1.out.below hb2)); (have OW2 := hid hown2); (have hw2 := hb2.size); clear hown2 hb2)
      | (go_at_call 42; (fail_if_success (have hxx := HC3)); refine (c_trim _ _ p _ _ _ most neg HC2.out hn80).mono ?_; rintro r w3 ⟨s3, a3, c3, rfl, hs3, hown3, hc3, hgl3, hg3⟩; (have HTL := hid (trim_leaves HK.out wh most neg hs3)); (have hL3 : s3.L.length ≤ (ups S).length := by omega); clear hs3; (have BB3 := hid (BB2.out.trans (hg3.toBelow BB2.out.size (fun i hi h => by have := h.1; omega)))); (have HC3 := hid hc3); (have OW3 := hid (ownsRow_chg OW2.out (fun k hk hlt => hg3.block k hlt (fun h => by have := h.1; have := h.2; have := (own_lt OW2.out hk).1; omega)))); (have hw3 := hg3.size); (have hl3 := hc3.lt); clear hc3 hg3)
      | (go_at_call 32; refine (c_entries _ _ p _ _ _ HC3.out (by omega)).mono ?_; rintro r w4 ⟨a4, c4, rfl, hown4, hb4⟩; (have BB4 := hid (BB3.out.trans (hb4.mono BB3.out.size))); (have HC4 := hid (HC3.out.below hb4)); (have OW4 := hid (own_below OW3.out hb4)); (have ON4 := hid hown4); (have hw4 := hb4.size); clear hown4 hb4)
      )
  go_loopw [11] (fun v11 wr => ∃ (i : Nat), i ≤ L.length ∧ v11 = .int .i64 i ∧ Hid (Below w4.heap.size w4 wr)) (fun v11 _ => L.length - (intOf v11).toNat)
  case atStart => exact ⟨0, Nat.zero_le _, rfl, hid (Below.refl _ _)⟩
  case round =>
    obtain ⟨i, hi, rfl, HB⟩ := hrel
    have BBr := hid (BB4.out.trans (HB.out.mono BB4.out.size))
    by_cases hlt : i < L.length
    · have hi0 : (0 : Int) ≤ (i : Int) := by omega
      have hi1 : (i : Int) < (L.length : Int) := by omega
      have OWr := hid (own_below OW4.out HB.out)
      have ONr := hid (own_below ON4.out HB.out)
      obtain ⟨g, hag, hBg, hgz, hg1, hg2⟩ := own_loc OWr.out (by omega)
      obtain ⟨y, hy⟩ : ∃ y, L[i]? = some y := ⟨_, List.getElem?_eq_getElem hlt⟩
      subst hag
      have b1 := ecs_at (Rd.own OWr.out) hy
      have HY := hid hy
      clear hy
      cases hng : y.neg with
      | true =>
        have b2 : wr.cell? ⟨g, i * 7 + 2, none⟩ = some (.bool true) := by rw [← hng]; exact b1.2.2.1
        clear b1 hng
        go_wp2
        exact ⟨⟨i + 1, by omega, by go_num, HB⟩, by simp [intOf]; omega⟩
      | false =>
        have b2 : wr.cell? ⟨g, i * 7 + 2, none⟩ = some (.bool false) := by rw [← hng]; exact b1.2.2.1
        have HTY := hid (HTL.out y (List.mem_of_getElem? HY.out) hng)
        have b3 := b1.1
        have b4 := b1.2.1
        clear b1 hng
        cases hh : s3.L.any (isK y.key) with
        | true =>
          have HH := hid hh
          clear hh
          go_wp2_with (go_at_call 44; refine (p_has _ s3.L _ _ y.key (Rd.own ONr.out)).mono ?_; rintro r w5 ⟨rfl, hb5⟩; rw [HH.out]; (have HB5 := hid (HB.out.trans (hb5.mono HB.out.size))); clear hb5)
          exact ⟨⟨i + 1, by omega, by go_num, HB5⟩, by simp [intOf]; omega⟩
        | false =>
          have HH := hid hh
          have HND := hid (show ∀ x ∈ s3.L, x.key.dir ≠ y.node.id from (HTY.out.resolve_left (by rw [hh]; simp)))
          clear hh
          go_wp2_with (go_at_call 44; refine (p_has _ s3.L _ _ y.key (Rd.own ONr.out)).mono ?_; rintro r w5 ⟨rfl, hb5⟩; rw [HH.out]; (have HB5 := hid (HB.out.trans (hb5.mono HB.out.size))); (have OW5 := hid (own_below OWr.out hb5)); (have ON5 := hid (own_below ONr.out hb5)); clear hb5)
          go_loopw [12] (fun v12 wr => ∃ (j : Nat), j ≤ s3.L.length ∧ v12 = .int .i64 j ∧ Hid (Below w5.heap.size w5 wr)) (fun v12 _ => s3.L.length - (intOf v12).toNat)
          case atStart => exact ⟨0, Nat.zero_le _, rfl, hid (Below.refl _ _)⟩
          case round =>
            obtain ⟨j, hj, rfl, HB6⟩ := hrel
            clear b2 b3 b4
            by_cases hlt2 : j < s3.L.length
            · have hj0 : (0 : Int) ≤ (j : Int) := by omega
              have hj1 : (j : Int) < (s3.L.length : Int) := by omega
              have ONq := hid (own_below ON5.out HB6.out)
              obtain ⟨g3, hag3, hBg3, hgz3, hg31, hg32⟩ := own_loc ONq.out (by omega)
              obtain ⟨x, hx⟩ : ∃ x, s3.L[j]? = some x := ⟨_, List.getElem?_eq_getElem hlt2⟩
              subst hag3
              have c1 := (ecs_at (Rd.own ONq.out) hx).1
              have c2 := (ecs_at (Rd.own (own_below OW5.out HB6.out)) HY.out).2.2.2.1
              have hd : (x.key.dir == y.node.id) = false := by simpa using HND.out x (List.mem_of_getElem? hx)
              clear hx
              go_wp2_with fail
              go_quiet (fail)
              go_wp2
              exact ⟨⟨j + 1, by omega, by go_num, hid (below_drewN HB6.out _)⟩, by simp [intOf]; omega⟩
            · have hnn1 : s3.L.length ≤ 9223372036854775807 := by omega
              go_wp2
              exact ⟨⟨i + 1, by omega, by go_num, hid (HB5.out.trans (HB6.out.mono HB5.out.size))⟩, by simp [intOf]; omega⟩
    · go_wp2_with (go_at_call 43; refine (p_awake _).mono ?_; rintro r w7 ⟨rfl, hb7⟩; (have BB7 := hid (BBr.out.trans (hb7.mono BBr.out.size))); clear hb7)
      go_ret
      exact ⟨rfl, BB7.out⟩

end Go.Proofs.Ytmhogjecfgbchaa
