import Derived.Test.YtmhogjecfgbchaaDentV
namespace Go.Proofs.Ytmhogjecfgbchaa
set_option linter.unusedVariables false
set_option linter.unusedSimpArgs false
open Go.RowKit
attribute [local go_sem ↓] Go.wp_at_zero Go.wp_at_succ

theorem negL_yes {L : List En} {y : En} (h : y.neg = true) : negL (L ++ [y]) = negL L + 1 := by simp [negL, h]
theorem negL_no {L : List En} {y : En} (h : y.neg = false) : negL (L ++ [y]) = negL L := by simp [negL, h]
theorem negL_le (L : List En) : negL L ≤ L.length := List.countP_le_length
def dirsL (d : Int) (L : List En) : Nat := (L.filter (inDir d)).length
theorem dirsL_yes {d : Int} {L : List En} {y : En} (h : inDir d y = true) : dirsL d (L ++ [y]) = dirsL d L + 1 := by simp [dirsL, h]
theorem dirsL_no {d : Int} {L : List En} {y : En} (h : inDir d y = false) : dirsL d (L ++ [y]) = dirsL d L := by simp [dirsL, h]
theorem dirsL_le (d : Int) (L : List En) : dirsL d L ≤ L.length := List.length_filter_le _ _
theorem any_takeE {N : List En} {j : Nat} {z y : En} (h : N[j]? = some z) : (N.take (j + 1)).any (fun x => decide (x = y)) = ((N.take j).any (fun x => decide (x = y)) || decide (z = y)) := by
  rw [List.take_add_one, h]; simp

set_option maxRecDepth 100000 in
set_option maxHeartbeats 4000000 in
theorem dentNames_walk (sa : Option Addr) (sc : Nat) (S : List Dop) (d : Int) (w : World) (hS : ScrD w (.slice sa S.length sc) S) (hz : S.length * 112 ≤ 140737488351232) (hkz : ∀ x ∈ S, x.ks.length * 24 ≤ 140737488351232) :
    Calls Try.prog 8 #[.slice sa S.length sc, .int .i64 d] w fun r w' => r = .returned (.bool true) ∧ Below w.heap.size w w' := by
  have HS := hid hS
  have HZ := hid hkz
  have BB0 := hid (Below.refl w.heap.size w)
  clear hS hkz
  go_enter Try.func8, Try.ntmps8
  go_wp2_with (first
      | (go_at_call 31; refine (d_of' sa sc S _ HS.out hz HZ.out).mono ?_; rintro r w1 ⟨p, pr, wh, ws, rfl, hp, -, hc1, -, -, -, hb1⟩; (have BB1 := hid (BB0.out.trans (hb1.mono BB0.out.size))); (have HC1 := hid hc1); (have hL := hc1.len); (have HK := hid hc1.keys); (have hl1 := hc1.lt); (have hw1 := hb1.size); clear hc1 hb1)
      | (go_at_call 32; refine (c_entries _ _ p _ _ _ HC1.out (by omega)).mono ?_; rintro r w2 ⟨a2, c2, rfl, hown2, hb2⟩; (have BB2 := hid (BB1.out.trans (hb2.mono BB1.out.size))); (have HC2 := hid (HC1.out.below hb2)); (have OW2 := hid hown2); (have hw2 := hb2.size); clear hown2 hb2)
      | (go_at_call 36; refine (c_names _ _ p _ _ _ d HC2.out (by omega)).mono ?_; rintro r w3 ⟨N, a3, c3, rfl, hpm, hrs, hown3, hb3⟩; (have BB3 := hid (BB2.out.trans (hb3.mono BB2.out.size))); (have HC3 := hid (HC2.out.below hb3)); (have OW3 := hid (own_below OW2.out hb3)); (have HPM := hid hpm); (have HRS := hid hrs); (have HNL := hid hpm.length_eq); (have hnl2 : N.length ≤ (playE S).length := Nat.le_trans (Nat.le_of_eq hpm.length_eq) (List.length_filter_le _ _)); (have ON3 := hid hown3); (have hw3 := hb3.size); clear hpm hrs hown3 hb3)
      )
  go_loopw [10, 11, 12] (fun v10 v11 v12 wr => ∃ (i : Nat), i ≤ (playE S).length ∧ v10 = .int .i64 (dirsL d ((playE S).take i)) ∧ v11 = .int .i64 (negL ((playE S).take i)) ∧ v12 = .int .i64 i ∧ Hid (Below w3.heap.size w3 wr)) (fun _ _ v12 _ => (playE S).length - (intOf v12).toNat)
  case atStart => exact ⟨0, Nat.zero_le _, rfl, rfl, rfl, hid (Below.refl _ _)⟩
  case round =>
    obtain ⟨i, hi, rfl, rfl, rfl, HB⟩ := hrel
    have hzz := HB.out.size
    have hc1 : dirsL d ((playE S).take i) ≤ i := Nat.le_trans (dirsL_le _ _) (by simp; omega)
    have hc2 : negL ((playE S).take i) ≤ i := Nat.le_trans (negL_le _) (by simp; omega)
    obtain ⟨c1, hc1e⟩ : ∃ c1, c1 = dirsL d ((playE S).take i) := ⟨_, rfl⟩
    obtain ⟨c2, hc2e⟩ : ∃ c2, c2 = negL ((playE S).take i) := ⟨_, rfl⟩
    by_cases hlt : i < (playE S).length
    · have hi0 : (0 : Int) ≤ (i : Int) := by omega
      have hi1 : (i : Int) < ((playE S).length : Int) := by omega
      have OWr := hid (own_below OW3.out HB.out)
      obtain ⟨g, hag, hBg, hgz, hg1, hg2⟩ := own_loc OWr.out (by omega)
      obtain ⟨y, hy⟩ : ∃ y, (playE S)[i]? = some y := ⟨_, List.getElem?_eq_getElem hlt⟩
      subst hag
      have HY := hid hy
      have htk : (playE S).take (i + 1) = (playE S).take i ++ [y] := by rw [List.take_add_one, hy]; rfl
      have HTK := hid htk
      have b1 := ecs_at (Rd.own OWr.out) hy
      rw [← hc1e] at hc1 ⊢
      rw [← hc2e] at hc2 ⊢
      have HC1E := hid hc1e
      have HC2E := hid hc2e
      clear hy htk hc1e hc2e
      cases hng : y.neg with
      | true =>
        have HF1 := hid (dirsL_no (d := d) (L := (playE S).take i) (y := y) (by simp [inDir, hng]))
        have HF2 := hid (negL_yes (L := (playE S).take i) hng)
        simp only [hng] at b1
        go_wp2
        exact ⟨⟨i + 1, by omega, by rw [HTK.out, HF1.out, HC1E.out], by rw [HTK.out, HF2.out, HC2E.out]; go_num, by go_num, HB⟩, by simp [intOf]; omega⟩
      | false =>
        have HF2 := hid (negL_no (L := (playE S).take i) hng)
        by_cases hd : y.key.dir = d
        · have hd1 : (y.key.dir != d) = false := by simpa using hd
          have HF1 := hid (dirsL_yes (d := d) (L := (playE S).take i) (y := y) (by simp [inDir, hng, hd]))
          have HMEM := hid (show y ∈ N from HPM.out.mem_iff.2 (List.mem_filter.2 ⟨List.mem_of_getElem? HY.out, by simp [inDir, hng, hd]⟩))
          simp only [hng] at b1
          clear hd
          obtain ⟨W0, hW0⟩ : ∃ W0, W0 = wr := ⟨_, rfl⟩
          subst hW0
          go_wp2_with fail
          go_loopw [13, 14] (fun v13 v14 wr => ∃ (j : Nat), j ≤ N.length ∧ v13 = .bool ((N.take j).any fun x => decide (x = y)) ∧ v14 = .int .i64 j ∧ Hid (Below W0.heap.size W0 wr)) (fun _ v14 _ => N.length - (intOf v14).toNat)
          case atStart => exact ⟨0, Nat.zero_le _, by simp, rfl, hid (Below.refl _ _)⟩
          case round =>
            obtain ⟨j, hj, rfl, rfl, HB3⟩ := hrel
            by_cases hlt2 : j < N.length
            · have hj0 : (0 : Int) ≤ (j : Int) := by omega
              have hj1 : (j : Int) < (N.length : Int) := by omega
              obtain ⟨z, hz⟩ : ∃ z, N[j]? = some z := ⟨_, List.getElem?_eq_getElem hlt2⟩
              have ONr := hid (own_below (own_below ON3.out HB.out) HB3.out)
              obtain ⟨g3, hag3, hBg3, hgz3, hg31, hg32⟩ := own_loc ONr.out (by omega)
              subst hag3
              have b3 := ecs_at (Rd.own ONr.out) hz
              have b2 := ecs_at (Rd.own (own_below OWr.out HB3.out)) HY.out
              have HST := hid (any_takeE (y := y) hz)
              have heq := fun W => eqIn_entry z.key.dir y.key.dir z.node.id z.node.kind z.node.mode y.node.id y.node.kind y.node.mode z.key.name y.key.name z.node.target y.node.target z.neg y.neg W
              simp only [en_eta] at heq
              simp only [hng] at heq b2
              clear hz
              cases hb : (N.take j).any fun x => decide (x = y) with
              | true =>
                rw [hb] at HST
                go_wp2_with fail
                go_quiet (fail)
                go_wp2
                exact ⟨⟨j + 1, by omega, by rw [HST.out, Bool.true_or], by go_num, hid (below_drewN HB3.out _)⟩, by simp [intOf]; omega⟩
              | false =>
                rw [hb] at HST
                generalize decide (z = y) = b4 at HST heq
                go_wp2_with fail
                go_quiet (fail)
                go_wp2
                exact ⟨⟨j + 1, by omega, by rw [HST.out, Bool.false_or], by go_num, hid (below_drewN HB3.out _)⟩, by simp [intOf]; omega⟩
            · rw [List.take_of_length_le (by omega : N.length ≤ j), show (N.any fun x => decide (x = y)) = true from List.any_eq_true.2 ⟨y, HMEM.out, by simp⟩]
              go_wp2
              exact ⟨⟨i + 1, by omega, by rw [HTK.out, HF1.out, HC1E.out]; go_num, by rw [HTK.out, HF2.out, HC2E.out], by go_num, hid (HB.out.trans (HB3.out.mono hzz))⟩, by simp [intOf]; omega⟩
        · have hd1 : (y.key.dir != d) = true := by simpa using hd
          have HF1 := hid (dirsL_no (d := d) (L := (playE S).take i) (y := y) (by simp [inDir, hd]))
          simp only [hng] at b1
          clear hd
          go_wp2
          exact ⟨⟨i + 1, by omega, by rw [HTK.out, HF1.out, HC1E.out], by rw [HTK.out, HF2.out, HC2E.out], by go_num, HB⟩, by simp [intOf]; omega⟩
    · have hje : (playE S).take i = (playE S) := List.take_of_length_le (by omega)
      rw [hje]
      clear hje hc1 hc2 hc1e hc2e
      obtain ⟨W0, hW0⟩ : ∃ W0, W0 = wr := ⟨_, rfl⟩
      subst hW0
      (have BB4 := hid (BB3.out.trans (HB.out.mono BB3.out.size)))
      (have HC4 := hid (HC3.out.below HB.out))
      (have OW4 := hid (own_below OW3.out HB.out))
      (have ON4 := hid (own_below ON3.out HB.out))
      have hcd : dirsL d (playE S) = N.length := HNL.out.symm
      rw [hcd]
      have hng1 := negL_le (playE S)
      go_wp2_with fail
      go_loopw [15] (fun v15 wr => ∃ (j : Nat), 1 ≤ j ∧ (j ≤ N.length ∨ j = 1) ∧ v15 = .int .i64 j ∧ Hid (Below W0.heap.size W0 wr)) (fun v15 _ => N.length - (intOf v15).toNat)
      case atStart => exact ⟨1, Nat.le_refl _, .inr rfl, rfl, hid (Below.refl _ _)⟩
      case round =>
        obtain ⟨j, hj, hj2, rfl, HB3⟩ := hrel
        by_cases hlt2 : j < N.length
        · have hj0 : (0 : Int) ≤ (j : Int) := by omega
          have hj1 : (j : Int) < (N.length : Int) := by omega
          obtain ⟨m, rfl⟩ : ∃ m, j = m + 1 := ⟨j - 1, by omega⟩
          have hm0 : (0 : Int) ≤ ((m + 1 : Nat) : Int) - 1 := by omega
          have hm1 : ((m + 1 : Nat) : Int) - 1 < (N.length : Int) := by omega
          have hm2 : IntKind.i64.wrap (((m + 1 : Nat) : Int) - 1) = (m : Int) := by rw [IntWalk.i64_in _ (by omega)]; omega
          obtain ⟨z, hz⟩ : ∃ z, N[m]? = some z := ⟨_, List.getElem?_eq_getElem (by omega)⟩
          obtain ⟨y, hy⟩ : ∃ y, N[m + 1]? = some y := ⟨_, List.getElem?_eq_getElem hlt2⟩
          have ONr := hid (own_below ON4.out HB3.out)
          obtain ⟨g3, hag3, hBg3, hgz3, hg31, hg32⟩ := own_loc ONr.out (by omega)
          subst hag3
          have b3 := ecs_at (Rd.own ONr.out) hz
          have b4 := ecs_at (Rd.own ONr.out) hy
          have hls : nmLt z.key.name y.key.name = true := by
            have := (List.pairwise_iff_getElem.1 HRS.out) m (m + 1) (by omega) hlt2 (by omega)
            rw [List.getElem?_eq_some_iff.1 hz |>.2, List.getElem?_eq_some_iff.1 hy |>.2] at this; exact this
          unfold nmLt at hls
          clear hz hy
          go_wp2_with fail
          go_quiet (fail)
          go_wp2
          exact ⟨⟨m + 2, by omega, by omega, by go_num, hid (below_drewN HB3.out _)⟩, by simp [intOf]; omega⟩
        · have hnn1 : N.length ≤ 9223372036854775807 := by omega
          (have BB5 := hid (BB4.out.trans (HB3.out.mono BB4.out.size)))
          (have HC5 := hid (HC4.out.below HB3.out))
          (have OW5 := hid (own_below OW4.out HB3.out))
          (have ON5 := hid (own_below ON4.out HB3.out))
          go_wp2_with (first
            | (go_at_call 37; refine (c_negatives _ _ _ _ _ _ HC5.out (by omega)).mono ?_; rintro r w6 ⟨rfl, hb6⟩; (have BB6 := hid (BB5.out.trans (hb6.mono BB5.out.size))); (have HC6 := hid (HC5.out.below hb6)); (have OW6 := hid (own_below OW5.out hb6)); (have ON6 := hid (own_below ON5.out hb6)); clear hb6)
            | (go_at_call 34; refine (c_len _ _ _ _ _ _ HC6.out).mono ?_; rintro r w7 ⟨rfl, rfl⟩)
            | (go_at_call 30; refine (d_awake _).mono ?_; rintro r w7 ⟨rfl, hb7⟩; (have BB7 := hid (BB6.out.trans (hb7.mono BB6.out.size))); (have HC7 := hid (HC6.out.below hb7)); (have OW7 := hid (own_below OW6.out hb7)); (have ON7 := hid (own_below ON6.out hb7)); clear hb7)
            )
          go_ret
          exact ⟨rfl, BB7.out⟩

end Go.Proofs.Ytmhogjecfgbchaa
