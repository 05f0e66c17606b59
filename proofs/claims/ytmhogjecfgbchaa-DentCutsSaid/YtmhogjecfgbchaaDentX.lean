import Derived.Test.YtmhogjecfgbchaaDentV
namespace Go.Proofs.Ytmhogjecfgbchaa
set_option linter.unusedVariables false
set_option linter.unusedSimpArgs false
open Go.RowKit
attribute [local go_sem ↓] Go.wp_at_zero Go.wp_at_succ

theorem cutE_yes {ks : List Ky} {L : List En} {y : En} (h : (ks.any fun k => hitE k y) = true) : cutE ks (L ++ [y]) = cutE ks L := by simp only [cutE, List.filter_append, List.filter_cons, List.filter_nil, h]; simp
theorem cutE_no {ks : List Ky} {L : List En} {y : En} (h : (ks.any fun k => hitE k y) = false) : cutE ks (L ++ [y]) = cutE ks L ++ [y] := by simp only [cutE, List.filter_append, List.filter_cons, List.filter_nil, h]; simp
theorem cutWh_off {ks : List Ky} {wh : Int → Bool} {x : Ky} (h : x ∈ ks) : cutWh ks wh x.dir = false := by
  unfold cutWh
  rw [show (ks.any fun k => k.dir == x.dir) = true from List.any_eq_true.2 ⟨x, h, by simp⟩]; simp
theorem any_take {ks : List Ky} {j : Nat} {z : Ky} (p : Ky → Bool) (h : ks[j]? = some z) : (ks.take (j + 1)).any p = ((ks.take j).any p || p z) := by
  rw [List.take_add_one, h]; simp
theorem hit_key {z : Ky} {y : En} (h : z = y.key) : hitE z y = true := by unfold hitE; split <;> simp [isK, h]
theorem hit_dir {z : Ky} {y : En} (h : z.name = ByteArray.empty) : hitE z y = (y.key.dir == z.dir) := by simp [hitE, h]
theorem hit_no {z : Ky} {y : En} (h : ¬ z.name = ByteArray.empty) (hk : ¬ z = y.key) : hitE z y = false := by simp [hitE, h, isK, hk]

set_option maxRecDepth 100000 in
set_option maxHeartbeats 4000000 in
theorem dentCuts_walk (sa : Option Addr) (sc : Nat) (S : List Dop) (ka : Option Addr) (kc : Nat) (ks : List Ky) (w : World) (hS : ScrD w (.slice sa S.length sc) S) (hz : S.length * 112 ≤ 140737488351232) (hkz : ∀ x ∈ S, x.ks.length * 24 ≤ 140737488351232) (hr : Rd w (.slice ka ks.length kc) ks.length (kyc ks)) (hkl : ks.length * 24 ≤ 140737488351232) :
    Calls Try.prog 5 #[.slice sa S.length sc, .slice ka ks.length kc] w fun r w' => r = .returned (.bool true) ∧ Below w.heap.size w w' := by
  have HS := hid hS
  have HZ := hid hkz
  have HKR := hid hr
  have BB0 := hid (Below.refl w.heap.size w)
  obtain ⟨i7, hi7, p7, q7, r7⟩ := info_parts infoEn
  have HI7 := hid hi7
  clear hS hkz hi7 hr
  go_enter Try.func5, Try.ntmps5
  go_wp2_with (first
      | (go_at_call 31; refine (d_of' sa sc S _ HS.out hz HZ.out).mono ?_; rintro r w1 ⟨p, pr, wh, ws, rfl, hp, -, hc1, -, -, -, hb1⟩; (have BB1 := hid (BB0.out.trans (hb1.mono BB0.out.size))); (have HC1 := hid hc1); (have hL := hc1.len); (have HK := hid hc1.keys); (have hl1 := hc1.lt); (have hw1 := hb1.size); clear hc1 hb1)
      | (go_at_call 32; refine (c_entries _ _ p _ _ _ HC1.out (by omega)).mono ?_; rintro r w2 ⟨a2, c2, rfl, hown2, hb2⟩; (have BB2 := hid (BB1.out.trans (hb2.mono BB1.out.size))); (have HC2 := hid (HC1.out.below hb2)); (have OW2 := hid hown2); (have hw2 := hb2.size); clear hown2 hb2)
      )
  go_loopw [8, 10] (fun vl vi wr => ∃ (i : Nat) (a5 : Option Addr) (c5 : Nat), i ≤ (playE S).length ∧ vi = .int .i64 i ∧ vl = .slice a5 (cutE ks ((playE S).take i)).length c5 ∧ Hid (Below w2.heap.size w2 wr) ∧ Hid (wr.ownsRow w2.heap.size 30 7 (.slice a5 (cutE ks ((playE S).take i)).length c5) (cutE ks ((playE S).take i)).length (ecs (cutE ks ((playE S).take i))))) (fun _ vi _ => (playE S).length - (intOf vi).toNat)
  case atStart => exact ⟨0, none, 0, Nat.zero_le _, rfl, by rw [List.take_zero]; rfl, hid (Below.refl _ _), hid (by rw [List.take_zero]; exact World.ownsRow_nil _ _ _ _)⟩
  case round =>
    obtain ⟨i, a5, c5, hi, rfl, rfl, HB, HO⟩ := hrel
    obtain ⟨W0, hW0⟩ : ∃ W0, W0 = wr := ⟨_, rfl⟩
    subst hW0
    have hzz := HB.out.size
    have hpl : (cutE ks ((playE S).take i)).length ≤ i := Nat.le_trans (cutE_le _ _) (by simp; omega)
    by_cases hlt : i < (playE S).length
    · have hi0 : (0 : Int) ≤ (i : Int) := by omega
      have hi1 : (i : Int) < ((playE S).length : Int) := by omega
      have OWr := hid (own_below OW2.out HB.out)
      obtain ⟨g, hag, hBg, hgz, hc1, hc2⟩ := own_loc OWr.out (by omega)
      obtain ⟨y, hy⟩ : ∃ y, (playE S)[i]? = some y := ⟨_, List.getElem?_eq_getElem hlt⟩
      subst hag
      have HY := hid hy
      have htk : (playE S).take (i + 1) = (playE S).take i ++ [y] := by rw [List.take_add_one, hy]; rfl
      have HTK := hid htk
      have BBr := hid (BB2.out.trans (HB.out.mono BB2.out.size))
      clear hy htk
      go_wp2_with fail
      go_loopw [11, 12] (fun v11 v12 wr => ∃ (j : Nat), j ≤ ks.length ∧ v11 = .bool ((ks.take j).any fun k => hitE k y) ∧ v12 = .int .i64 j ∧ Hid (Below W0.heap.size W0 wr)) (fun _ v12 _ => ks.length - (intOf v12).toNat)
      case atStart => exact ⟨0, Nat.zero_le _, by simp, rfl, hid (Below.refl _ _)⟩
      case round =>
        obtain ⟨j, hj, rfl, rfl, HB3⟩ := hrel
        by_cases hlt2 : j < ks.length
        · have hj0 : (0 : Int) ≤ (j : Int) := by omega
          have hj1 : (j : Int) < (ks.length : Int) := by omega
          obtain ⟨z, hz⟩ : ∃ z, ks[j]? = some z := ⟨_, List.getElem?_eq_getElem hlt2⟩
          obtain ⟨kg, ko, rfl⟩ := ks_loc HKR.out (by omega)
          have P2 := ks_at HKR.out (BBr.out.trans (HB3.out.mono BBr.out.size)) hz
          have b1 := ecs_at (Rd.own (own_below OWr.out HB3.out)) HY.out
          have HST := hid (any_take (fun k => hitE k y) hz)
          have heq := fun W => eqIn_key z.dir y.key.dir z.name y.key.name W
          clear hz
          cases hb : (ks.take j).any fun k => hitE k y with
          | true =>
            rw [hb] at HST
            go_wp2_with fail
            go_quiet (fail)
            go_wp2
            exact ⟨⟨j + 1, by omega, by rw [HST.out, Bool.true_or] <;> rfl, by go_num, hid (below_drewN HB3.out _)⟩, by simp [intOf]; omega⟩

          | false =>
            rw [hb] at HST
            by_cases hk : z = y.key
            · rw [show decide ((⟨z.dir, z.name⟩ : Ky) = ⟨y.key.dir, y.key.name⟩) = true from decide_eq_true hk] at heq
              have HF := hid (hit_key hk)
              clear hk hb
              go_wp2_with fail
              go_quiet (fail)
              go_wp2
              exact ⟨⟨j + 1, by omega, by rw [HST.out, HF.out] <;> rfl, by go_num, hid (below_drewN HB3.out _)⟩, by simp [intOf]; omega⟩

            · rw [show decide ((⟨z.dir, z.name⟩ : Ky) = ⟨y.key.dir, y.key.name⟩) = false from decide_eq_false hk] at heq
              by_cases hnm : z.name = ByteArray.empty
              · have hn1 : z.name.toList = [] := (name_empty _).1 hnm
                have hn2 : z.name.toList.isEmpty = true := by simp [hn1]
                have HF := hid (hit_dir (y := y) hnm)
                clear hk hb hnm
                by_cases hd : z.dir = y.key.dir
                · have hd1 : (z.dir == y.key.dir) = true := by simpa using hd
                  have HF2 := hid (show (y.key.dir == z.dir) = true by simp [hd])
                  clear hd
                  go_wp2_with fail
                  go_quiet (fail)
                  go_wp2
                  exact ⟨⟨j + 1, by omega, by rw [HST.out, HF.out, HF2.out] <;> rfl, by go_num, hid (below_drewN HB3.out _)⟩, by simp [intOf]; omega⟩

                · have hd1 : (z.dir == y.key.dir) = false := by simpa using hd
                  have HF2 := hid (show (y.key.dir == z.dir) = false by simpa using fun e => hd e.symm)
                  clear hd
                  go_wp2_with fail
                  go_quiet (fail)
                  go_wp2
                  exact ⟨⟨j + 1, by omega, by rw [HST.out, HF.out, HF2.out] <;> rfl, by go_num, hid (below_drewN HB3.out _)⟩, by simp [intOf]; omega⟩

              · have hn1 : ¬ (z.name.toList = []) := fun h3 => hnm ((name_empty _).2 h3)
                have hn2 : z.name.toList.isEmpty = false := by simpa using hn1
                have HF := hid (hit_no hnm hk)
                clear hk hb hnm
                go_wp2_with fail
                go_quiet (fail)
                go_wp2
                exact ⟨⟨j + 1, by omega, by rw [HST.out, HF.out] <;> rfl, by go_num, hid (below_drewN HB3.out _)⟩, by simp [intOf]; omega⟩

        · rw [List.take_of_length_le (by omega : ks.length ≤ j)]
          have hz3 := HB3.out.size
          have OW3 := hid (own_below OWr.out HB3.out)
          have b1 := ecs_at (Rd.own OW3.out) HY.out
          have HO3 := hid (own_below HO.out HB3.out)
          cases hb : ks.any fun k => hitE k y with
          | true =>
            have HF := hid (cutE_yes (L := (playE S).take i) hb)
            clear hb
            go_wp2
            exact ⟨⟨i + 1, a5, c5, by omega, by go_num, by rw [HTK.out, HF.out], hid (HB.out.trans (HB3.out.mono hzz)), hid (by rw [HTK.out, HF.out]; exact HO3.out)⟩, by simp [intOf]; omega⟩
          | false =>
            have HF := hid (cutE_no (L := (playE S).take i) hb)
            clear hb
            go_wp2_with (at_builtin; refine wpList_append_rd rfl _ _ 49 rfl w2.heap.size 30 i7 _ 7 72 Try.underlying49 HI7.out p7 q7 r7 rfl (by decide) (.slice a5 (cutE ks ((playE S).take i)).length c5) (cutE ks ((playE S).take i)).length (ecs (cutE ks ((playE S).take i))) rfl (own_alloc HO3.out _) (.slice (some ⟨wr.heap.size, 0, none⟩) 1 1) 1 [.int .i64 y.key.dir, .string y.key.name, .bool y.neg, .int .i64 y.node.id, .int .i64 y.node.kind, .int .i64 y.node.mode, .string y.node.target] rfl (rd_blk (by have e := heap_new wr (.cells #[.int .i64 y.key.dir, .string y.key.name, .bool y.neg, .int .i64 y.node.id, .int .i64 y.node.kind, .int .i64 y.node.mode, .string y.node.target] 30); exact e) (by unfold maxLen; omega)) rfl (En.one y) (by unfold maxLen; omega) (by omega) (by simp; omega) ?_; intro a6 c6 w6 hown6 hgrow6 hat6)
            refine ⟨⟨i + 1, a6, c6, by omega, by go_num, by rw [HTK.out, HF.out, List.length_append]; rfl, hid ?_, hid (by rw [HTK.out, HF.out, ecs_snoc, List.length_append]; exact hown6)⟩, by simp [intOf]; omega⟩
            exact ((HB.out.trans (HB3.out.mono hzz)).alloc (by omega) _).grown hgrow6 (by simp; omega) (fun k hk => (own_lt HO.out hk).1)
    · have hje : (playE S).take i = playE S := List.take_of_length_le (by omega)
      rw [hje] at HO ⊢
      clear hje
      (have BB3 := hid (BB2.out.trans (HB.out.mono BB2.out.size)))
      (have HC3 := hid (HC2.out.below HB.out))
      (have OW3 := hid (own_below OW2.out HB.out))
      have OL3 := HO
      go_wp2_with (first
        | (go_at_call 24; refine (copyKeys_any _ ks _ (HKR.out.below BB3.out) hkl).mono ?_; rintro r w4 ⟨a4, c4, rfl, hown4, hb4⟩; (have BB4 := hid (BB3.out.trans (hb4.mono BB3.out.size))); (have HC4 := hid (HC3.out.below hb4)); (have OW4 := hid (own_below OW3.out hb4)); (have OL4 := hid (own_below OL3.out hb4)); (have HK4 := hid hown4); (have hw4 := hb4.size); clear hown4 hb4)
        | (go_at_call 23; refine (c_cut _ _ p _ _ _ ks a4 c4 _ HC4.out HK4.out (by omega) (by omega)).mono ?_; rintro r w5 ⟨rfl, hc5, hg5⟩; (have BB5 := hid (BB4.out.trans (hg5.toBelow BB4.out.size (fun i hi h => by have := h.1; omega)))); (have HC5 := hid hc5); (have OW5 := hid (ownsRow_chg OW4.out (fun k hk hlt => hg5.block k hlt (fun h => by have := h.1; have := h.2; have := (own_lt OW4.out hk).1; omega)))); (have OL5 := hid (ownsRow_chg OL4.out (fun k hk hlt => hg5.block k hlt (fun h => by have := h.1; have := h.2; have := (own_lt OL4.out hk).1; omega)))); (have hw5 := hg5.size); (have hl5 := hc5.lt); clear hc5 hg5)
        )
      go_loopw [13] (fun v13 wr => ∃ (j : Nat), j ≤ ks.length ∧ v13 = .int .i64 j ∧ wr = w5) (fun v13 _ => ks.length - (intOf v13).toNat)
      case atStart => exact ⟨0, Nat.zero_le _, rfl, rfl⟩
      case round =>
        obtain ⟨j, hj, rfl, rfl⟩ := hrel
        by_cases hlt2 : j < ks.length
        · have hj0 : (0 : Int) ≤ (j : Int) := by omega
          have hj1 : (j : Int) < (ks.length : Int) := by omega
          obtain ⟨z, hz⟩ : ∃ z, ks[j]? = some z := ⟨_, List.getElem?_eq_getElem hlt2⟩
          obtain ⟨kg, ko, rfl⟩ := ks_loc HKR.out (by omega)
          have P2 := ks_at HKR.out BB5.out hz
          have HF := hid (cutWh_off (wh := wh) (List.mem_of_getElem? hz))
          clear hz
          go_wp2_with (go_at_call 29; refine (c_whole _ _ _ _ _ _ z.dir HC5.out).mono ?_; rintro r w6 ⟨rfl, rfl⟩; rw [HF.out])
          exact ⟨⟨j + 1, by omega, by go_num, trivial⟩, by simp [intOf]; omega⟩
        · go_wp2_with (first
            | (go_at_call 32; refine (c_entries _ _ p _ _ _ HC5.out (by omega)).mono ?_; rintro r w6 ⟨a6, c6, rfl, hown6, hb6⟩; (have BB6 := hid (BB5.out.trans (hb6.mono BB5.out.size))); (have HC6 := hid (HC5.out.below hb6)); (have OW6 := hid (own_below OW5.out hb6)); (have OL6 := hid (own_below OL5.out hb6)); (have ON6 := hid hown6); (have hw6 := hb6.size); clear hown6 hb6)
            | (go_at_call 33; refine (same_entries _ _ _ _ _ _ _ (Rd.own ON6.out) (Rd.own OL6.out)).mono ?_; rintro r w7 ⟨rfl, hb7⟩; rw [decide_eq_true rfl]; (have BB7 := hid (BB6.out.trans (hb7.mono BB6.out.size))); (have HC7 := hid (HC6.out.below hb7)); (have OW7 := hid (own_below OW6.out hb7)); (have OL7 := hid (own_below OL6.out hb7)); (have ON7 := hid (own_below ON6.out hb7)); clear hb7)
            | (go_at_call 34; refine (c_len _ _ _ _ _ _ HC7.out).mono ?_; rintro r w8 ⟨rfl, rfl⟩)
            | (go_at_call 30; refine (d_awake _).mono ?_; rintro r w8 ⟨rfl, hb8⟩; (have BB8 := hid (BB7.out.trans (hb8.mono BB7.out.size))); (have HC8 := hid (HC7.out.below hb8)); (have OW8 := hid (own_below OW7.out hb8)); (have OL8 := hid (own_below OL7.out hb8)); (have ON8 := hid (own_below ON7.out hb8)); clear hb8)
            )
          go_ret
          exact ⟨rfl, BB8.out⟩

end Go.Proofs.Ytmhogjecfgbchaa
