import Derived.Test.YtmhogjecfgbchaaRefG
namespace Go.Proofs.Ytmhogjecfgbchaa
set_option linter.unusedVariables false
set_option linter.unusedSimpArgs false
open Go.RowKit
attribute [local go_sem ↓] Go.wp_at_zero Go.wp_at_succ

/-- a row of the call's own, cut short -/
theorem own_prefix {w : World} {B e sz n m g c : Nat} {xs : List Value} (h : w.ownsRow B e sz (.slice (some ⟨g, 0, none⟩) n c) n xs) (hm : m ≤ n) : w.ownsRow B e sz (.slice (some ⟨g, 0, none⟩) m c) m (xs.take (m * sz)) := by
  have hl := h.1
  have hmn : m * sz ≤ n * sz := Nat.mul_le_mul_right _ hm
  refine ⟨by rw [List.length_take]; omega, .inr ?_⟩
  rcases h.2 with ⟨hv, _⟩ | ⟨g', cap, cur, hv, hb, hg, h1, h2, h3, h4⟩
  · cases hv
  · simp only [Value.slice.injEq, Option.some.injEq, Addr.mk.injEq] at hv
    obtain ⟨⟨rfl, _⟩, _, rfl⟩ := hv
    refine ⟨g, c, cur, rfl, hb, hg, by omega, h2, h3, ?_⟩
    rw [← h4, List.take_take, Nat.min_eq_left hmn]
def six : Ky := ⟨-6, ByteArray.empty⟩
theorem mine_take (ks : List Ky) (i : Nat) : (kyc (ks ++ List.replicate i six)).take (ks.length * 2) = kyc ks := by
  rw [kyc_append, ← kyc_len, List.take_left]
theorem mine_snoc (ks : List Ky) (i : Nat) : ks ++ List.replicate (i + 1) six = (ks ++ List.replicate i six) ++ [six] := by
  rw [List.replicate_succ', List.append_assoc]
theorem mine_lo {ks : List Ky} {i n : Nat} {k : Ky} (h : ks[i]? = some k) : (ks ++ List.replicate n six)[i]? = some k := by
  rw [List.getElem?_append_left (List.getElem?_eq_some_iff.1 h).1]; exact h
theorem mine_hi {ks : List Ky} {m n : Nat} (h : m < n) : (ks ++ List.replicate n six)[ks.length + m]? = some six := by
  rw [List.getElem?_append_right (by omega), Nat.add_sub_cancel_left, List.getElem?_replicate, if_pos h]

set_option maxRecDepth 100000 in
set_option maxHeartbeats 4000000 in
theorem dentKept_walk (sa : Option Addr) (sc : Nat) (S : List Dop) (ka : Option Addr) (kc : Nat) (ks : List Ky) (w : World) (hS : ScrD w (.slice sa S.length sc) S) (hz : S.length * 112 ≤ 140737488351232) (hkz : ∀ x ∈ S, x.ks.length * 24 ≤ 140737488351232) (hr : Rd w (.slice ka ks.length kc) ks.length (kyc ks)) (hkl : ks.length * 24 ≤ 140737488351232) :
    Calls Try.prog 11 #[.slice sa S.length sc, .slice ka ks.length kc] w fun r w' => r = .returned (.bool true) ∧ Below w.heap.size w w' := by
  have HS := hid hS
  have HZ := hid hkz
  have HK0 := hid hr
  have BB0 := hid (Below.refl w.heap.size w)
  obtain ⟨i2, hi2, p2, q2, r2⟩ := info_parts infoKy
  have HI2 := hid hi2
  have hn80 : S.length * 80 ≤ 140737488351232 := by omega
  clear hS hkz hi2 hr
  go_enter Try.func11, Try.ntmps11
  go_wp2_with (first
      | (go_at_call 31; refine (d_of' sa sc S _ HS.out hz HZ.out).mono ?_; rintro r w1 ⟨p, pr, wh, ws, rfl, hp, hppr, hc1, hr1, hwr1, hwl1, hb1⟩; (have BB1 := hid (BB0.out.trans (hb1.mono BB0.out.size))); (have HK1 := hid (HK0.out.below hb1)); (have HC1 := hid hc1); (have HR1 := hid hr1); (have HW1 := hid hwr1); (have hL := hc1.len); (have HKN := hid hc1.keys); (have hl1 := hc1.lt); (have hl2 := hr1.lt); (have hw1 := hb1.size); clear hc1 hr1 hwr1 hb1)
      | (go_at_call 24; refine (copyKeys_any _ ks _ HK1.out hkl).mono ?_; rintro r w2 ⟨a2, c2, rfl, hown2, hb2⟩; (have BB2 := hid (BB1.out.trans (hb2.mono BB1.out.size))); (have HK2 := hid (HK1.out.below hb2)); (have HC2 := hid (HC1.out.below hb2)); (have HR2 := hid (HR1.out.below hb2)); (have OM2 := hid hown2); (have hw2 := hb2.size); (have HBW2 := hid hb2); clear hown2 hb2)
      )
  have HB12 := hid (show Below w1.heap.size w1 w2 from HBW2.out)
  go_loopw [8, 9] (fun v8 v9 wr => ∃ (i : Nat) (a3 : Option Addr) (c3 : Nat), i ≤ 70 ∧ v9 = .int .i64 i ∧ v8 = .slice a3 (ks.length + i) c3 ∧ Hid (Below w1.heap.size w1 wr) ∧ Hid (wr.ownsRow w1.heap.size 26 2 (.slice a3 (ks.length + i) c3) (ks.length + i) (kyc (ks ++ List.replicate i six)))) (fun _ v9 _ => 70 - (intOf v9).toNat)
  case atStart => exact ⟨0, a2, c2, Nat.zero_le _, rfl, rfl, HB12, hid (by simpa using OM2.out)⟩
  case round =>
    obtain ⟨i, a3, c3, hi, rfl, rfl, HB, HO⟩ := hrel
    have hzz := HB.out.size
    by_cases hlt : i < 70
    · have hi1 : decide ((i : Int) < 70) = true := decide_eq_true (by omega)
      go_wp2_with (at_builtin; refine wpList_append_rd rfl _ _ 31 rfl w1.heap.size 26 i2 _ 2 24 Try.underlying31 HI2.out p2 q2 r2 rfl (by decide) (.slice a3 (ks.length + i) c3) (ks.length + i) (kyc (ks ++ List.replicate i six)) rfl (own_alloc HO.out _) (.slice (some ⟨wr.heap.size, 0, none⟩) 1 1) 1 [.int .i64 (-6), .string { data := #[] }] rfl (rd_blk (heap_new wr (.cells #[.int .i64 (-6), .string { data := #[] }] 26)) (by unfold maxLen; omega)) rfl (Ky.one six) (by unfold maxLen; omega) (by omega) (Nat.le_trans hzz (by simp)) ?_; intro a6 c6 w6 hown6 hgrow6 hat6)
      refine ⟨⟨i + 1, a6, c6, by omega, by go_num, rfl, hid ?_, hid (by rw [mine_snoc, kyc_append]; exact hown6)⟩, by simp [intOf]; omega⟩
      exact (HB.out.alloc hzz _).grown hgrow6 (Nat.le_trans hzz (by simp)) (fun k hk => (own_lt HO.out hk).1)
    · have hi70 : i = 70 := by omega
      subst hi70
      have hi1 : decide (((70 : Nat) : Int) < 70) = false := by decide
      (have BB3 := hid (BB1.out.trans (HB.out.mono BB1.out.size)))
      (have HK3 := hid (HK1.out.below HB.out))
      (have HC3 := hid (HC1.out.below HB.out))
      (have HR3 := hid (HR1.out.below HB.out))
      obtain ⟨g, hag, hBg, hgz, hg1, hg2⟩ := own_loc HO.out (by omega)
      subst hag
      have OM3 := HO
      have OP3 := hid (own_prefix (m := ks.length) OM3.out (by omega))
      rw [mine_take] at OP3
      have hm0 : (0 : Int) ≤ (ks.length : Int) := by omega
      have hm1 : (ks.length : Int) ≤ (ks.length : Int) + 70 := by omega
      have hm2 : (ks.length : Int) ≤ (c3 : Int) := by omega
      have hm3 : (ks.length : Int) + 70 ≤ (c3 : Int) := by omega
      go_wp2_with (first
        | (go_at_call 23; refine (c_cut _ _ p _ _ _ ks _ _ _ HC3.out OP3.out (by omega) (by omega)).mono ?_; rintro r w4 ⟨rfl, hc4, hg4⟩; (have HK4 := hid (HK0.out.below (BB3.out.trans (hg4.toBelow BB3.out.size (fun i hi h => by have := h.1; omega))))); (have BB4 := hid (BB3.out.trans (hg4.toBelow BB3.out.size (fun i hi h => by have := h.1; omega)))); (have HC4 := hid hc4); (have HR4 := hid (HR3.out.chg hg4 (fun k hk _ h => by have := h.2; omega))); (have OM4 := hid (ownsRow_chg OM3.out (fun k hk hlt => hg4.block k hlt (fun h => by have := h.1; have := h.2; have := (own_lt OM3.out hk).1; omega)))); (have hw4 := hg4.size); clear hc4 hg4)
        | (go_at_call 40; refine (r_cut _ pr _ _ ka kc ks HR4.out HK4.out (fun q h0 hq e => by have := rd_lt HK0.out h0 hq; omega) (by omega) (by omega) (by omega)).mono ?_; rintro r w5 ⟨rfl, hr5, hg5⟩; (have HC5 := hid (HC4.out.chg hg5 (fun k hk h => by have := hk.2; omega))); (have HR5 := hid hr5); (have OM5 := hid (ownsRow_chg OM4.out (fun k hk hlt => hg5.block k hlt (fun h => by have := (own_lt OM4.out hk).1; omega)))); (have BB5 := hid (BB4.out.trans (hg5.toBelow BB4.out.size (fun i hi h => by omega)))); (have HK5 := hid (HK0.out.below BB5.out)); (have hw5 := hg5.size); (have hl5 := hr5.lt); clear hr5 hg5)
        )
      go_loopw [10] (fun v10 wr => ∃ (i : Nat), i ≤ ks.length + 70 ∧ v10 = .int .i64 i ∧ Hid (Below w5.heap.size w5 wr)) (fun v10 _ => ks.length + 70 - (intOf v10).toNat)
      case atStart => exact ⟨0, Nat.zero_le _, rfl, hid (Below.refl _ _)⟩
      case round =>
        obtain ⟨i, hi, rfl, HB⟩ := hrel
        have OMr := hid (own_below OM5.out HB.out)
        by_cases hlt : i < ks.length + 70
        · have hi0 : (0 : Int) ≤ (i : Int) := by omega
          have hi1 : (i : Int) < (ks.length : Int) + 70 := by omega
          by_cases hik : i < ks.length
          · have hi2 : (i : Int) < (ks.length : Int) := by omega
            have t1 : decide ((i : Int) < (ks.length : Int)) = true := decide_eq_true hi2
            have t2 : decide ((i : Int) ≥ (ks.length : Int)) = false := decide_eq_false (by omega)
            have t3 : decide ((ks.length : Int) ≤ (i : Int)) = false := decide_eq_false (by omega)
            have t4 : decide (i < ks.length) = true := decide_eq_true hik
            have t5 : decide (ks.length ≤ i) = false := decide_eq_false (by omega)
            obtain ⟨k, hk⟩ : ∃ k, ks[i]? = some k := ⟨_, List.getElem?_eq_getElem hik⟩
            obtain ⟨kg, ko, rfl⟩ := ks_loc HK0.out (by omega)
            have c1 := ks_at (HK5.out.below HB.out) (Below.refl _ _) hk
            have c2 := ks_at (Rd.own OMr.out) (Below.refl _ _) (mine_lo (n := 70) hk)
            simp only [Nat.zero_add] at c2
            have heq := fun W => eqIn_key k.dir k.dir k.name k.name W
            simp only [decide_true] at heq
            clear hk
            go_wp2_with fail
            go_quiet (fail)
            go_wp2
            exact ⟨⟨i + 1, by omega, by go_num, hid (below_drewN HB.out _)⟩, by simp [intOf]; omega⟩
          · obtain ⟨m, rfl⟩ : ∃ m, i = ks.length + m := ⟨i - ks.length, by omega⟩
            have hi2 : ¬ ((((ks.length + m : Nat) : Int)) < (ks.length : Int)) := by omega
            obtain ⟨i, hie⟩ : ∃ i, i = ks.length + m := ⟨_, rfl⟩
            rw [← hie] at hi0 hi1 hi2 hi hlt ⊢
            have HIE := hid hie
            have t1 : decide ((i : Int) < (ks.length : Int)) = false := decide_eq_false hi2
            have t2 : decide ((i : Int) ≥ (ks.length : Int)) = true := decide_eq_true (by omega)
            have t3 : decide ((ks.length : Int) ≤ (i : Int)) = true := decide_eq_true (by omega)
            have t4 : decide (i < ks.length) = false := decide_eq_false (by omega)
            have t5 : decide (ks.length ≤ i) = true := decide_eq_true (by omega)
            have c2 := ks_at (Rd.own OMr.out) (Below.refl _ _) (show (ks ++ List.replicate 70 six)[i]? = some six by rw [hie]; exact mine_hi (by omega))
            simp only [Nat.zero_add] at c2
            simp only [six, show ByteArray.empty = { data := #[] } from rfl] at c2
            have heq := fun W => eqIn_key (-6) (-6) { data := #[] } { data := #[] } W
            simp only [decide_true] at heq
            clear hie hik hi2
            go_wp2_with fail
            go_quiet (fail)
            go_wp2
            exact ⟨⟨i + 1, by omega, by go_num, hid (below_drewN HB.out _)⟩, by simp [intOf]; omega⟩
        · have t0 : decide ((i : Int) < (ks.length : Int) + 70) = false := decide_eq_false (by omega)
          (have BB6 := hid (BB5.out.trans (HB.out.mono BB5.out.size)))
          (have HK6 := hid (HK5.out.below HB.out))
          (have HC6 := hid (HC5.out.below HB.out))
          (have HR6 := hid (HR5.out.below HB.out))
          obtain ⟨w6, hw6⟩ : ∃ w6, w6 = wr := ⟨_, rfl⟩
          subst hw6
          have hcl := cutE_le ks (playE S)
          have hzz6 := HB.out.size
          go_wp2_with (first
            | (go_at_call 32; refine (c_entries _ _ p _ _ _ HC6.out hn80).mono ?_; rintro r w7 ⟨a7, c7, rfl, hown7, hb7⟩; (have HC7 := hid (HC6.out.below hb7)); (have OE7 := hid hown7); (have hw7 := hb7.size); (have HB7 := hid hb7); clear hown7 hb7)
            | (go_at_call 36; refine (c_names _ _ p _ _ _ 1 HC7.out hn80).mono ?_; rintro r w8 ⟨N, a8, c8, rfl, hpm8, hrs8, hown8, hb8⟩; (have OE8 := hid (own_below OE7.out hb8)); (have ON8 := hid hown8); (have hw8 := hb8.size); (have HB8 := hid (HB7.out.trans (hb8.mono HB7.out.size))); (have hN9 : N.length ≤ (cutE ks (playE S)).length := by rw [hpm8.length_eq]; exact List.length_filter_le _ _); clear hpm8 hrs8 hown8 hb8)
            )
          go_loopw [13] (fun vi wr => ∃ (i : Nat) (X : List En), i ≤ (cutE ks (playE S)).length ∧ Hid (X.length = (cutE ks (playE S)).length) ∧ vi = .int .i64 i ∧ Hid (Below w6.heap.size w6 wr) ∧ Hid (wr.ownsRow w6.heap.size 30 7 (.slice a7 (cutE ks (playE S)).length c7) (cutE ks (playE S)).length (ecs X)) ∧ Hid (wr.ownsRow w7.heap.size 30 7 (.slice a8 N.length c8) N.length (ecs N))) (fun vi _ => (cutE ks (playE S)).length - (intOf vi).toNat)
          case atStart => exact ⟨0, _, Nat.zero_le _, hid rfl, rfl, HB8, OE8, ON8⟩
          case round =>
            obtain ⟨i, X, hi, HX, rfl, HB, HO, HON⟩ := hrel
            by_cases hlt : i < (cutE ks (playE S)).length
            · have hi0 : (0 : Int) ≤ (i : Int) := by omega
              have hi1 : (i : Int) < ((cutE ks (playE S)).length : Int) := by omega
              obtain ⟨g, hag, hBg, hgz, hg1, hg2⟩ := own_loc HO.out (by omega)
              subst hag
              obtain ⟨x, hx⟩ : ∃ x, X[i]? = some x := ⟨_, List.getElem?_eq_getElem (by have := HX.out; omega)⟩
              have c1 := ecs_at (Rd.own HO.out) hx
              obtain ⟨cur, hcur⟩ := own_type HO.out rfl
              have hfz := fun i => blk_free hcur i
              have HX1 := hid hx
              have hgl : g < w7.heap.size := (own_lt OE7.out rfl).2
              have hBg2 : w6.heap.size ≤ g := (own_lt HO.out rfl).1
              have hs0 := HB.out.size
              clear hcur hx hBg
              go_wp2
              have o1 := own_set7 zeroE HO.out HX1.out
              have s1 := set7at_chg wr g (i * 7) zeroE
              have o2 := ownsRow_chg HON.out (fun k hk hlt => s1.block k hlt (fun h => by have := (own_lt HON.out hk).1; omega))
              exact ⟨⟨i + 1, X.set i zeroE, by omega, hid (by rw [List.length_set]; exact HX.out), by go_num, hid (HB.out.trans (s1.toBelow hs0 (fun k hk h => by omega))), hid o1, hid o2⟩, by simp [intOf]; omega⟩
            · have hll : (cutE ks (playE S)).length ≤ 9223372036854775807 := by omega
              have HB9 := HB
              have HON9 := HON
              go_wp2_with fail
              go_loopw [14] (fun vi wr => ∃ (i : Nat) (X : List En), i ≤ N.length ∧ Hid (X.length = N.length) ∧ vi = .int .i64 i ∧ Hid (Below w6.heap.size w6 wr) ∧ Hid (wr.ownsRow w7.heap.size 30 7 (.slice a8 N.length c8) N.length (ecs X))) (fun vi _ => N.length - (intOf vi).toNat)
              case atStart => exact ⟨0, _, Nat.zero_le _, hid rfl, rfl, HB9, HON9⟩
              case round =>
                obtain ⟨i, X, hi, HX, rfl, HB, HO⟩ := hrel
                by_cases hlt : i < N.length
                · have hi0 : (0 : Int) ≤ (i : Int) := by omega
                  have hi1 : (i : Int) < (N.length : Int) := by omega
                  obtain ⟨g, hag, hBg, hgz, hg1, hg2⟩ := own_loc HO.out (by omega)
                  subst hag
                  obtain ⟨x, hx⟩ : ∃ x, X[i]? = some x := ⟨_, List.getElem?_eq_getElem (by have := HX.out; omega)⟩
                  have c1 := ecs_at (Rd.own HO.out) hx
                  obtain ⟨cur, hcur⟩ := own_type HO.out rfl
                  have hfz := fun i => blk_free hcur i
                  have HX1 := hid hx
                  have hBg2 : w7.heap.size ≤ g := (own_lt HO.out rfl).1
                  have hs0 := HB.out.size
                  clear hcur hx hBg
                  go_wp2
                  have o1 := own_set7 ⟨⟨0, ByteArray.empty⟩, true, ⟨0, 0, 0, ByteArray.empty⟩⟩ HO.out HX1.out
                  have s1 := set7at_chg wr g (i * 7) ⟨⟨0, ByteArray.empty⟩, true, ⟨0, 0, 0, ByteArray.empty⟩⟩
                  exact ⟨⟨i + 1, X.set i _, by omega, hid (by rw [List.length_set]; exact HX.out), by go_num, hid (HB.out.trans (s1.toBelow hs0 (fun k hk h => by omega))), hid o1⟩, by simp [intOf]; omega⟩
                · have hll2 : N.length ≤ 9223372036854775807 := by omega
                  have HC9 := hid (HC6.out.below HB.out)
                  have HR9 := hid (HR6.out.below HB.out)
                  have HK9 := hid (HK6.out.below HB.out)
                  have BB9 := hid (BB6.out.trans (HB.out.mono BB6.out.size))
                  have hcw := cutWs_le ks ws
                  go_wp2_with (first
                    | (go_at_call 38; refine (like_walk _ _ _ _ _ (cutWh ks wh) _ (cutWs ks ws) _ _ ks HC9.out HR9.out (HW1.out.cut ks) HK9.out hn80 (by omega) (by omega)).mono ?_; rintro r w10 ⟨rfl, hb10⟩; (have BB10 := hid (BB9.out.trans (hb10.mono BB9.out.size))); clear hb10)
                    | (go_at_call 30; refine (d_awake _).mono ?_; rintro r w11 ⟨rfl, hb11⟩; (have BB11 := hid (BB10.out.trans (hb11.mono BB10.out.size))); clear hb11))
                  go_ret
                  exact ⟨rfl, BB11.out⟩

end Go.Proofs.Ytmhogjecfgbchaa
