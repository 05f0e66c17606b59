import Derived.Test.YtmhogjecfgbchaaPruneP
namespace Go.Proofs.Ytmhogjecfgbchaa
set_option linter.unusedVariables false
set_option linter.unusedSimpArgs false
open Go.RowKit
attribute [local go_sem ↓] Go.wp_at_zero Go.wp_at_succ

theorem count_take {G : List Ky} {j : Nat} {z k : Ky} (h : G[j]? = some z) : (G.take (j + 1)).count k = (G.take j).count k + (if z = k then 1 else 0) := by
  rw [List.take_add_one, h]; simp [List.count_append, List.count_singleton]
theorem count_le (G : List Ky) (k : Ky) : G.count k ≤ G.length := List.count_le_length
def atP (G : List Ky) (L : List En) : Nat := (L.filter (goneP G)).length
theorem atP_yes {G : List Ky} {L : List En} {y : En} (h : goneP G y = true) : atP G (L ++ [y]) = atP G L + 1 := by simp [atP, h]
theorem atP_no {G : List Ky} {L : List En} {y : En} (h : goneP G y = false) : atP G (L ++ [y]) = atP G L := by simp [atP, h]
theorem atP_le (G : List Ky) (L : List En) : atP G L ≤ L.length := List.length_filter_le _ _

set_option maxRecDepth 100000 in
set_option maxHeartbeats 8000000 in
theorem pruneBounds_walk (sa : Option Addr) (sc : Nat) (S : List Dop) (most neg : Int) (w : World) (hS : ScrD w (.slice sa S.length sc) S) (hz : S.length * 112 ≤ 140737488351232) (hkz : ∀ x ∈ S, x.ks.length * 24 ≤ 140737488351232) :
    Calls Try.prog 12 #[.slice sa S.length sc, .int .i64 most, .int .i64 neg] w fun r w' => r = .returned (.bool true) ∧ Below w.heap.size w w' := by
  have HS := hid hS
  have HZ := hid hkz
  have BB0 := hid (Below.refl w.heap.size w)
  have hul := ups_le S
  have hn80 : (ups S).length * 80 ≤ 140737488351232 := by omega
  clear hS hkz
  go_enter Try.func12, Try.ntmps12
  go_wp2_with (first
      | (go_at_call 41; refine (p_tree sa sc S _ HS.out hz HZ.out).mono ?_; rintro r w1 ⟨B, p, wh, L, rfl, hBw, hc1, hLe, hb1⟩; (have BB1 := hid (BB0.out.trans (hb1.mono BB0.out.size))); (have HC1 := hid hc1); (have HUP := hid (show ∀ e ∈ L, upE e by rw [hLe]; exact play_up S)); (have hL := hc1.len); (have HK := hid hc1.keys); (have hl1 := hc1.lt); (have hge1 := hc1.ge); (have hw1 := hb1.size); clear hc1 hb1 hLe)
      | (go_at_call 32; refine (c_entries _ _ p _ _ _ HC1.out (by omega)).mono ?_; rintro r w2 ⟨a2, c2, rfl, hown2, hb2⟩; (have BB2 := hid (BB1.out.trans (hb2.mono BB1.out.size))); (have HC2 := hid (HC1.out.below hb2)); (have OW2 := hid hown2); (have hw2 := hb2.size); clear hown2 hb2)
      )
  refine (c_trim _ _ p _ _ _ most neg HC2.out hn80).mono ?_; rintro r w3 ⟨s3, a3, c3, rfl, hs3, hown3, hc3, hgl3, hg3⟩; (have HTI := hid (show TInv L s3 by rw [hs3]; exact trim_inv HK.out wh most neg)); (have HB1 := hid (show (s3.L.length : Int) ≤ max most 0 by rw [hs3]; exact trim_len_le HK.out HUP.out wh most neg)); (have HB2 := hid (show (negL s3.L : Int) ≤ max neg 0 by rw [hs3]; exact trim_neg_le HK.out wh most neg)); (have HB3 := hid (show (L.length : Int) ≤ most → 0 < s3.G.length → neg ≤ (negL s3.L : Int) by rw [hs3]; exact trim_room_neg HK.out wh most neg)); (have HOG := hid hown3); clear hs3; (have BB3 := hid (BB2.out.trans (hg3.toBelow BB2.out.size (fun i hi h => by have := h.1; omega)))); (have HC3 := hid hc3); (have OW3 := hid (ownsRow_chg OW2.out (fun k hk hlt => hg3.block k hlt (fun h => by have := h.1; have := h.2; have := (own_lt OW2.out hk).1; omega)))); (have hw3 := hg3.size); (have hl3 := hc3.lt); clear hc3 hg3; (have OG3 := HOG)
  go_wp2_with fail
  refine (c_entries _ _ p _ _ _ HC3.out (by omega)).mono ?_
  rintro r w4 ⟨a4, c4, rfl, hown4, hb4⟩
  (have BB4 := hid (BB3.out.trans (hb4.mono BB3.out.size)))
  (have HC4 := hid (HC3.out.below hb4))
  (have OW4 := hid (own_below OW3.out hb4))
  (have OG4 := hid (own_below OG3.out hb4))
  have ON4 := hid hown4
  have hw4 := hb4.size
  clear hown4 hb4
  have hgl := HTI.out.len
  have hnl := negL_le s3.L
  have hsum : IntKind.i64.wrap ((s3.G.length : Int) + (s3.L.length : Int)) = (s3.G.length : Int) + (s3.L.length : Int) := IntWalk.i64_in _ (by omega)
  have hsum2 : ((s3.G.length : Int) + (s3.L.length : Int) != (L.length : Int)) = false := by simp; omega
  have hB1 := HB1.out
  have hB2 := HB2.out
  rcases (show (0 ≤ most ∧ 0 ≤ neg) ∨ (0 ≤ most ∧ neg < 0) ∨ (most < 0 ∧ 0 ≤ neg) ∨ (most < 0 ∧ neg < 0) by omega) with ⟨hm, hg⟩ | ⟨hm, hg⟩ | ⟨hm, hg⟩ | ⟨hm, hg⟩
  · have t1 : decide (most ≥ 0) = true := decide_eq_true (by omega)
    have t2 : decide (most < 0) = false := decide_eq_false (by omega)
    have t3 : decide ((s3.L.length : Int) > most) = false := decide_eq_false (by omega)
    have t4 : decide (neg ≥ 0) = true := decide_eq_true (by omega)
    have t5 : decide (neg < 0) = false := decide_eq_false (by omega)
    have t6 : decide ((negL s3.L : Int) > neg) = false := decide_eq_false (by omega)
    clear hB1 hB2 hm hg
    go_wp2_with (go_at_call 37; refine (c_negatives _ _ _ _ _ _ HC4.out (by omega)).mono ?_; rintro r w5 ⟨rfl, hb5⟩; (have BB5 := hid (BB4.out.trans (hb5.mono BB4.out.size))); (have HC5 := hid (HC4.out.below hb5)); (have OW5 := hid (own_below OW4.out hb5)); (have OG5 := hid (own_below OG4.out hb5)); (have ON5 := hid (own_below ON4.out hb5)); (have hw5 := hb5.size); clear hb5)
    clear t1 t2 t3 t4 t5 t6
    go_loopw [12, 13] (fun v12 v13 wr => ∃ (i : Nat), i ≤ L.length ∧ v12 = .int .i64 (atP s3.G (L.take i)) ∧ v13 = .int .i64 i ∧ Hid (Below w5.heap.size w5 wr)) (fun _ v13 _ => L.length - (intOf v13).toNat)
    case atStart => exact ⟨0, Nat.zero_le _, rfl, rfl, hid (Below.refl _ _)⟩
    case round =>
      obtain ⟨i, hi, rfl, rfl, HB⟩ := hrel
      have BBr := hid (BB5.out.trans (HB.out.mono BB5.out.size))
      have hal : atP s3.G (L.take i) ≤ i := Nat.le_trans (atP_le _ _) (by simp; omega)
      obtain ⟨t, hte⟩ : ∃ t, t = atP s3.G (L.take i) := ⟨_, rfl⟩
      rw [← hte] at hal ⊢
      have HTE := hid hte
      clear hte
      by_cases hlt : i < L.length
      · have hi0 : (0 : Int) ≤ (i : Int) := by omega
        have hi1 : (i : Int) < (L.length : Int) := by omega
        have ht0 : (0 : Int) ≤ (t : Int) := by omega
        have OWr := hid (own_below OW5.out HB.out)
        have ONr := hid (own_below ON5.out HB.out)
        obtain ⟨g, hag, hBg, hgz, hg1, hg2⟩ := own_loc OWr.out (by omega)
        obtain ⟨y, hy⟩ : ∃ y, L[i]? = some y := ⟨_, List.getElem?_eq_getElem hlt⟩
        subst hag
        have b1 := ecs_at (Rd.own OWr.out) hy
        have HY := hid hy
        have htk : L.take (i + 1) = L.take i ++ [y] := by rw [List.take_add_one, hy]; rfl
        have HTK := hid htk
        clear hy htk
        cases hgp : goneP s3.G y with
        | true =>
          have hx : s3.L[t]? = some y := by rw [HTE.out, HTI.out.flt]; exact filter_at HY.out hgp
          have htl : t < s3.L.length := (List.getElem?_eq_some_iff.1 hx).1
          have ht1 : (t : Int) < (s3.L.length : Int) := by omega
          obtain ⟨g3, hag3, hBg3, hgz3, hg31, hg32⟩ := own_loc ONr.out (by omega)
          subst hag3
          have b3 := ecs_at (Rd.own ONr.out) hx
          have HF := hid (atP_yes (L := L.take i) hgp)
          have heq := fun W => eqIn_entry y.key.dir y.key.dir y.node.id y.node.kind y.node.mode y.node.id y.node.kind y.node.mode y.key.name y.key.name y.node.target y.node.target y.neg y.neg W
          simp only [decide_true] at heq
          clear hx hgp
          go_wp2_with fail
          go_quiet (fail)
          go_wp2
          exact ⟨⟨i + 1, by omega, by rw [HTK.out, HF.out, HTE.out]; go_num, by go_num, hid (below_drewN HB.out _)⟩, by simp [intOf]; omega⟩
        | false =>
          have HCNT := hid (gone_yes HTI.out hgp)
          have HF := hid (atP_no (L := L.take i) hgp)
          by_cases htl : t < s3.L.length
          · have ht1 : (t : Int) < (s3.L.length : Int) := by omega
            obtain ⟨x, hx⟩ : ∃ x, s3.L[t]? = some x := ⟨_, List.getElem?_eq_getElem htl⟩
            obtain ⟨g3, hag3, hBg3, hgz3, hg31, hg32⟩ := own_loc ONr.out (by omega)
            subst hag3
            have b3 := ecs_at (Rd.own ONr.out) hx
            have heq := fun W => eqIn_entry x.key.dir y.key.dir x.node.id x.node.kind x.node.mode y.node.id y.node.kind y.node.mode x.key.name y.key.name x.node.target y.node.target x.neg y.neg W
            simp only [en_eta] at heq
            rw [show decide (x = y) = false from decide_eq_false (filter_ne (k := t) (by rw [← HTI.out.flt]; exact hx) hgp)] at heq
            clear hx hgp
            go_wp2_with fail
            go_quiet (fail)
            have HBq := hid (below_drewN HB.out nq)
            have OWq := hid (own_drewN OWr.out nq)
            have OGq := hid (own_below OG5.out HBq.out)
            obtain ⟨Wq, hWq⟩ : ∃ Wq, Wq = wr.drewN nq := ⟨_, rfl⟩
            rw [← hWq] at HBq OWq OGq ⊢
            clear hWq
            go_wp2_with fail
            go_loopw [14, 15] (fun v14 v15 wr => ∃ (j : Nat), j ≤ s3.G.length ∧ v14 = .int .i64 ((s3.G.take j).count y.key) ∧ v15 = .int .i64 j ∧ Hid (Below Wq.heap.size Wq wr)) (fun _ v15 _ => s3.G.length - (intOf v15).toNat)
            case atStart => exact ⟨0, Nat.zero_le _, by simp, rfl, hid (Below.refl _ _)⟩
            case round =>
              obtain ⟨j, hj, rfl, rfl, HB6⟩ := hrel
              have hcl : (s3.G.take j).count y.key ≤ j := Nat.le_trans (count_le _ _) (by simp; omega)
              by_cases hlt2 : j < s3.G.length
              · have hj0 : (0 : Int) ≤ (j : Int) := by omega
                have hj1 : (j : Int) < (s3.G.length : Int) := by omega
                obtain ⟨z, hz⟩ : ∃ z, s3.G[j]? = some z := ⟨_, List.getElem?_eq_getElem hlt2⟩
                have OG6 := hid (own_below OGq.out HB6.out)
                obtain ⟨g4, hag4, hBg4, hgz4, hg41, hg42⟩ := own_loc OG6.out (by omega)
                subst hag4
                have c1 := ks_at (Rd.own OG6.out) (Below.refl _ _) hz
                simp only [Nat.zero_add] at c1
                have c2 := ecs_at (Rd.own (own_below OWq.out HB6.out)) HY.out
                have HST := hid (count_take (k := y.key) hz)
                obtain ⟨tt, htt⟩ : ∃ tt, tt = (s3.G.take j).count y.key := ⟨_, rfl⟩
                rw [← htt] at hcl ⊢
                have HTT := hid htt
                have heq2 := fun W => eqIn_key z.dir y.key.dir z.name y.key.name W
                clear hz htt
                by_cases hk : z = y.key
                · rw [show decide ((⟨z.dir, z.name⟩ : Ky) = ⟨y.key.dir, y.key.name⟩) = true from decide_eq_true hk] at heq2
                  have HK2 := hid (show (s3.G.take (j + 1)).count y.key = tt + 1 by rw [HST.out, if_pos hk, HTT.out])
                  clear hk
                  go_wp2_with fail
                  go_quiet (fail)
                  go_wp2
                  exact ⟨⟨j + 1, by omega, by rw [HK2.out]; go_num, by go_num, hid (below_drewN HB6.out _)⟩, by simp [intOf]; omega⟩
                · rw [show decide ((⟨z.dir, z.name⟩ : Ky) = ⟨y.key.dir, y.key.name⟩) = false from decide_eq_false hk] at heq2
                  have HK2 := hid (show (s3.G.take (j + 1)).count y.key = tt by rw [HST.out, if_neg hk, HTT.out, Nat.add_zero])
                  clear hk
                  go_wp2_with fail
                  go_quiet (fail)
                  go_wp2
                  exact ⟨⟨j + 1, by omega, by rw [HK2.out], by go_num, hid (below_drewN HB6.out _)⟩, by simp [intOf]; omega⟩
              · rw [List.take_of_length_le (by omega : s3.G.length ≤ j), HCNT.out]
                have hnn1 : s3.G.length ≤ 9223372036854775807 := by omega
                clear hcl
                go_wp2
                exact ⟨⟨i + 1, by omega, by rw [HTK.out, HF.out, HTE.out], by go_num, hid (HBq.out.trans (HB6.out.mono HBq.out.size))⟩, by simp [intOf]; omega⟩
          · have ht1 : decide ((t : Int) < (s3.L.length : Int)) = false := decide_eq_false (by omega)
            clear hgp
            go_wp2_with fail
            go_quiet (fail)
            have HBq := hid (below_drewN HB.out nq)
            have OWq := hid (own_drewN OWr.out nq)
            have OGq := hid (own_below OG5.out HBq.out)
            obtain ⟨Wq, hWq⟩ : ∃ Wq, Wq = wr.drewN nq := ⟨_, rfl⟩
            rw [← hWq] at HBq OWq OGq ⊢
            clear hWq
            go_wp2_with fail
            go_loopw [14, 15] (fun v14 v15 wr => ∃ (j : Nat), j ≤ s3.G.length ∧ v14 = .int .i64 ((s3.G.take j).count y.key) ∧ v15 = .int .i64 j ∧ Hid (Below Wq.heap.size Wq wr)) (fun _ v15 _ => s3.G.length - (intOf v15).toNat)
            case atStart => exact ⟨0, Nat.zero_le _, by simp, rfl, hid (Below.refl _ _)⟩
            case round =>
              obtain ⟨j, hj, rfl, rfl, HB6⟩ := hrel
              have hcl : (s3.G.take j).count y.key ≤ j := Nat.le_trans (count_le _ _) (by simp; omega)
              by_cases hlt2 : j < s3.G.length
              · have hj0 : (0 : Int) ≤ (j : Int) := by omega
                have hj1 : (j : Int) < (s3.G.length : Int) := by omega
                obtain ⟨z, hz⟩ : ∃ z, s3.G[j]? = some z := ⟨_, List.getElem?_eq_getElem hlt2⟩
                have OG6 := hid (own_below OGq.out HB6.out)
                obtain ⟨g4, hag4, hBg4, hgz4, hg41, hg42⟩ := own_loc OG6.out (by omega)
                subst hag4
                have c1 := ks_at (Rd.own OG6.out) (Below.refl _ _) hz
                simp only [Nat.zero_add] at c1
                have c2 := ecs_at (Rd.own (own_below OWq.out HB6.out)) HY.out
                have HST := hid (count_take (k := y.key) hz)
                obtain ⟨tt, htt⟩ : ∃ tt, tt = (s3.G.take j).count y.key := ⟨_, rfl⟩
                rw [← htt] at hcl ⊢
                have HTT := hid htt
                have heq2 := fun W => eqIn_key z.dir y.key.dir z.name y.key.name W
                clear hz htt
                by_cases hk : z = y.key
                · rw [show decide ((⟨z.dir, z.name⟩ : Ky) = ⟨y.key.dir, y.key.name⟩) = true from decide_eq_true hk] at heq2
                  have HK2 := hid (show (s3.G.take (j + 1)).count y.key = tt + 1 by rw [HST.out, if_pos hk, HTT.out])
                  clear hk
                  go_wp2_with fail
                  go_quiet (fail)
                  go_wp2
                  exact ⟨⟨j + 1, by omega, by rw [HK2.out]; go_num, by go_num, hid (below_drewN HB6.out _)⟩, by simp [intOf]; omega⟩
                · rw [show decide ((⟨z.dir, z.name⟩ : Ky) = ⟨y.key.dir, y.key.name⟩) = false from decide_eq_false hk] at heq2
                  have HK2 := hid (show (s3.G.take (j + 1)).count y.key = tt by rw [HST.out, if_neg hk, HTT.out, Nat.add_zero])
                  clear hk
                  go_wp2_with fail
                  go_quiet (fail)
                  go_wp2
                  exact ⟨⟨j + 1, by omega, by rw [HK2.out], by go_num, hid (below_drewN HB6.out _)⟩, by simp [intOf]; omega⟩
              · rw [List.take_of_length_le (by omega : s3.G.length ≤ j), HCNT.out]
                have hnn1 : s3.G.length ≤ 9223372036854775807 := by omega
                clear hcl
                go_wp2
                exact ⟨⟨i + 1, by omega, by rw [HTK.out, HF.out, HTE.out], by go_num, hid (HBq.out.trans (HB6.out.mono HBq.out.size))⟩, by simp [intOf]; omega⟩
      · have hte2 : t = s3.L.length := by rw [HTE.out, List.take_of_length_le (by omega)]; show (L.filter (goneP s3.G)).length = _; rw [← HTI.out.flt]
        subst hte2
        have h3 := HB3.out
        (have BB6 := hid (BB5.out.trans (HB.out.mono BB5.out.size)))
        (have HC6 := hid (HC5.out.below HB.out))
        (have OW6 := hid (own_below OW5.out HB.out))
        (have OG6 := hid (own_below OG5.out HB.out))
        (have ON6 := hid (own_below ON5.out HB.out))
        have HTA := hid (trim_again s3.wh most neg HB1.out HB2.out)
        clear hal
        by_cases u1 : (L.length : Int) ≤ most
        · have d1 : decide ((L.length : Int) ≤ most) = true := decide_eq_true u1
          by_cases u2 : 0 < s3.G.length
          · have d2 : decide ((s3.G.length : Int) > 0) = true := decide_eq_true (by omega)
            have d3 : decide ((negL s3.L : Int) < neg) = false := decide_eq_false (by have := h3 u1 u2; omega)
            have d4 : decide (0 < s3.G.length) = true := decide_eq_true u2
            clear u1 h3
            go_wp2_with (first
                | (go_at_call 37; refine (c_negatives _ _ _ _ _ _ HC6.out (by omega)).mono ?_; rintro r w7 ⟨rfl, hb7⟩; (have BB7 := hid (BB6.out.trans (hb7.mono BB6.out.size))); (have HC7 := hid (HC6.out.below hb7)); (have OW7 := hid (own_below OW6.out hb7)); (have OG7 := hid (own_below OG6.out hb7)); (have ON7 := hid (own_below ON6.out hb7)); (have hw7 := hb7.size); clear hb7)
                | (go_at_call 42; (fail_if_success (have hxx := HC8)); refine (c_trim _ _ p _ _ _ most neg HC7.out hn80).mono ?_; rintro r w8 ⟨s8, a8, c8, rfl, hs8, hown8, hc8, hgl8, hg8⟩; rw [HTA.out] at hs8; (have hG8 : s8.G = [] := by rw [hs8]); rw [hG8] at hown8 ⊢; simp only [List.length_nil]; clear hs8 hown8 hG8 hgl8; (have BB8 := hid (BB7.out.trans (hg8.toBelow BB7.out.size (fun i hi h => by have := h.1; omega)))); (have HC8 := hid hc8); (have OW8 := hid (ownsRow_chg OW7.out (fun k hk hlt => hg8.block k hlt (fun h => by have := h.1; have := h.2; have := (own_lt OW7.out hk).1; omega)))); (have OG8 := hid (ownsRow_chg OG7.out (fun k hk hlt => hg8.block k hlt (fun h => by have := h.1; have := h.2; have := (own_lt OG7.out hk).1; omega)))); (have ON8 := hid (ownsRow_chg ON7.out (fun k hk hlt => hg8.block k hlt (fun h => by have := h.1; have := h.2; have := (own_lt ON7.out hk).1; omega)))); (have hw8 := hg8.size); (have hl8 := hc8.lt); clear hc8 hg8)
                | (go_at_call 43; refine (p_awake _).mono ?_; rintro r w9 ⟨rfl, hb9⟩; (have BB9 := hid (BB8.out.trans (hb9.mono BB8.out.size))); (have HC9 := hid (HC8.out.below hb9)); (have OW9 := hid (own_below OW8.out hb9)); (have OG9 := hid (own_below OG8.out hb9)); (have ON9 := hid (own_below ON8.out hb9)); (have hw9 := hb9.size); clear hb9)
              )
            go_ret
            exact ⟨rfl, BB9.out⟩
          · have d2 : decide ((s3.G.length : Int) > 0) = false := decide_eq_false (by omega)
            have d4 : decide (0 < s3.G.length) = false := decide_eq_false u2
            clear u1 u2 h3
            go_wp2_with (first
                | (go_at_call 42; (fail_if_success (have hxx := HC7)); refine (c_trim _ _ p _ _ _ most neg HC6.out hn80).mono ?_; rintro r w7 ⟨s7, a7, c7, rfl, hs7, hown7, hc7, hgl7, hg7⟩; rw [HTA.out] at hs7; (have hG7 : s7.G = [] := by rw [hs7]); rw [hG7] at hown7 ⊢; simp only [List.length_nil]; clear hs7 hown7 hG7 hgl7; (have BB7 := hid (BB6.out.trans (hg7.toBelow BB6.out.size (fun i hi h => by have := h.1; omega)))); (have HC7 := hid hc7); (have OW7 := hid (ownsRow_chg OW6.out (fun k hk hlt => hg7.block k hlt (fun h => by have := h.1; have := h.2; have := (own_lt OW6.out hk).1; omega)))); (have OG7 := hid (ownsRow_chg OG6.out (fun k hk hlt => hg7.block k hlt (fun h => by have := h.1; have := h.2; have := (own_lt OG6.out hk).1; omega)))); (have ON7 := hid (ownsRow_chg ON6.out (fun k hk hlt => hg7.block k hlt (fun h => by have := h.1; have := h.2; have := (own_lt ON6.out hk).1; omega)))); (have hw7 := hg7.size); (have hl7 := hc7.lt); clear hc7 hg7)
                | (go_at_call 43; refine (p_awake _).mono ?_; rintro r w8 ⟨rfl, hb8⟩; (have BB8 := hid (BB7.out.trans (hb8.mono BB7.out.size))); (have HC8 := hid (HC7.out.below hb8)); (have OW8 := hid (own_below OW7.out hb8)); (have OG8 := hid (own_below OG7.out hb8)); (have ON8 := hid (own_below ON7.out hb8)); (have hw8 := hb8.size); clear hb8)
              )
            go_ret
            exact ⟨rfl, BB8.out⟩
        · have d1 : decide ((L.length : Int) ≤ most) = false := decide_eq_false u1
          clear u1 h3
          go_wp2_with (first
                | (go_at_call 42; (fail_if_success (have hxx := HC7)); refine (c_trim _ _ p _ _ _ most neg HC6.out hn80).mono ?_; rintro r w7 ⟨s7, a7, c7, rfl, hs7, hown7, hc7, hgl7, hg7⟩; rw [HTA.out] at hs7; (have hG7 : s7.G = [] := by rw [hs7]); rw [hG7] at hown7 ⊢; simp only [List.length_nil]; clear hs7 hown7 hG7 hgl7; (have BB7 := hid (BB6.out.trans (hg7.toBelow BB6.out.size (fun i hi h => by have := h.1; omega)))); (have HC7 := hid hc7); (have OW7 := hid (ownsRow_chg OW6.out (fun k hk hlt => hg7.block k hlt (fun h => by have := h.1; have := h.2; have := (own_lt OW6.out hk).1; omega)))); (have OG7 := hid (ownsRow_chg OG6.out (fun k hk hlt => hg7.block k hlt (fun h => by have := h.1; have := h.2; have := (own_lt OG6.out hk).1; omega)))); (have ON7 := hid (ownsRow_chg ON6.out (fun k hk hlt => hg7.block k hlt (fun h => by have := h.1; have := h.2; have := (own_lt ON6.out hk).1; omega)))); (have hw7 := hg7.size); (have hl7 := hc7.lt); clear hc7 hg7)
                | (go_at_call 43; refine (p_awake _).mono ?_; rintro r w8 ⟨rfl, hb8⟩; (have BB8 := hid (BB7.out.trans (hb8.mono BB7.out.size))); (have HC8 := hid (HC7.out.below hb8)); (have OW8 := hid (own_below OW7.out hb8)); (have OG8 := hid (own_below OG7.out hb8)); (have ON8 := hid (own_below ON7.out hb8)); (have hw8 := hb8.size); clear hb8)
            )
          go_ret
          exact ⟨rfl, BB8.out⟩
  · have t1 : decide (most ≥ 0) = true := decide_eq_true (by omega)
    have t2 : decide (most < 0) = false := decide_eq_false (by omega)
    have t3 : decide ((s3.L.length : Int) > most) = false := decide_eq_false (by omega)
    have t4 : decide (neg ≥ 0) = false := decide_eq_false (by omega)
    have t5 : decide (neg < 0) = true := decide_eq_true (by omega)
    have t6 : decide ((negL s3.L : Int) > 0) = false := decide_eq_false (by omega)
    have t8 : decide (0 < negL s3.L) = false := decide_eq_false (by omega)
    clear hB1 hB2 hm hg
    go_wp2_with (go_at_call 37; refine (c_negatives _ _ _ _ _ _ HC4.out (by omega)).mono ?_; rintro r w5 ⟨rfl, hb5⟩; (have BB5 := hid (BB4.out.trans (hb5.mono BB4.out.size))); (have HC5 := hid (HC4.out.below hb5)); (have OW5 := hid (own_below OW4.out hb5)); (have OG5 := hid (own_below OG4.out hb5)); (have ON5 := hid (own_below ON4.out hb5)); (have hw5 := hb5.size); clear hb5)
    clear t1 t2 t3 t4 t5 t6 t8
    go_loopw [12, 13] (fun v12 v13 wr => ∃ (i : Nat), i ≤ L.length ∧ v12 = .int .i64 (atP s3.G (L.take i)) ∧ v13 = .int .i64 i ∧ Hid (Below w5.heap.size w5 wr)) (fun _ v13 _ => L.length - (intOf v13).toNat)
    case atStart => exact ⟨0, Nat.zero_le _, rfl, rfl, hid (Below.refl _ _)⟩
    case round =>
      obtain ⟨i, hi, rfl, rfl, HB⟩ := hrel
      have BBr := hid (BB5.out.trans (HB.out.mono BB5.out.size))
      have hal : atP s3.G (L.take i) ≤ i := Nat.le_trans (atP_le _ _) (by simp; omega)
      obtain ⟨t, hte⟩ : ∃ t, t = atP s3.G (L.take i) := ⟨_, rfl⟩
      rw [← hte] at hal ⊢
      have HTE := hid hte
      clear hte
      by_cases hlt : i < L.length
      · have hi0 : (0 : Int) ≤ (i : Int) := by omega
        have hi1 : (i : Int) < (L.length : Int) := by omega
        have ht0 : (0 : Int) ≤ (t : Int) := by omega
        have OWr := hid (own_below OW5.out HB.out)
        have ONr := hid (own_below ON5.out HB.out)
        obtain ⟨g, hag, hBg, hgz, hg1, hg2⟩ := own_loc OWr.out (by omega)
        obtain ⟨y, hy⟩ : ∃ y, L[i]? = some y := ⟨_, List.getElem?_eq_getElem hlt⟩
        subst hag
        have b1 := ecs_at (Rd.own OWr.out) hy
        have HY := hid hy
        have htk : L.take (i + 1) = L.take i ++ [y] := by rw [List.take_add_one, hy]; rfl
        have HTK := hid htk
        clear hy htk
        cases hgp : goneP s3.G y with
        | true =>
          have hx : s3.L[t]? = some y := by rw [HTE.out, HTI.out.flt]; exact filter_at HY.out hgp
          have htl : t < s3.L.length := (List.getElem?_eq_some_iff.1 hx).1
          have ht1 : (t : Int) < (s3.L.length : Int) := by omega
          obtain ⟨g3, hag3, hBg3, hgz3, hg31, hg32⟩ := own_loc ONr.out (by omega)
          subst hag3
          have b3 := ecs_at (Rd.own ONr.out) hx
          have HF := hid (atP_yes (L := L.take i) hgp)
          have heq := fun W => eqIn_entry y.key.dir y.key.dir y.node.id y.node.kind y.node.mode y.node.id y.node.kind y.node.mode y.key.name y.key.name y.node.target y.node.target y.neg y.neg W
          simp only [decide_true] at heq
          clear hx hgp
          go_wp2_with fail
          go_quiet (fail)
          go_wp2
          exact ⟨⟨i + 1, by omega, by rw [HTK.out, HF.out, HTE.out]; go_num, by go_num, hid (below_drewN HB.out _)⟩, by simp [intOf]; omega⟩
        | false =>
          have HCNT := hid (gone_yes HTI.out hgp)
          have HF := hid (atP_no (L := L.take i) hgp)
          by_cases htl : t < s3.L.length
          · have ht1 : (t : Int) < (s3.L.length : Int) := by omega
            obtain ⟨x, hx⟩ : ∃ x, s3.L[t]? = some x := ⟨_, List.getElem?_eq_getElem htl⟩
            obtain ⟨g3, hag3, hBg3, hgz3, hg31, hg32⟩ := own_loc ONr.out (by omega)
            subst hag3
            have b3 := ecs_at (Rd.own ONr.out) hx
            have heq := fun W => eqIn_entry x.key.dir y.key.dir x.node.id x.node.kind x.node.mode y.node.id y.node.kind y.node.mode x.key.name y.key.name x.node.target y.node.target x.neg y.neg W
            simp only [en_eta] at heq
            rw [show decide (x = y) = false from decide_eq_false (filter_ne (k := t) (by rw [← HTI.out.flt]; exact hx) hgp)] at heq
            clear hx hgp
            go_wp2_with fail
            go_quiet (fail)
            have HBq := hid (below_drewN HB.out nq)
            have OWq := hid (own_drewN OWr.out nq)
            have OGq := hid (own_below OG5.out HBq.out)
            obtain ⟨Wq, hWq⟩ : ∃ Wq, Wq = wr.drewN nq := ⟨_, rfl⟩
            rw [← hWq] at HBq OWq OGq ⊢
            clear hWq
            go_wp2_with fail
            go_loopw [14, 15] (fun v14 v15 wr => ∃ (j : Nat), j ≤ s3.G.length ∧ v14 = .int .i64 ((s3.G.take j).count y.key) ∧ v15 = .int .i64 j ∧ Hid (Below Wq.heap.size Wq wr)) (fun _ v15 _ => s3.G.length - (intOf v15).toNat)
            case atStart => exact ⟨0, Nat.zero_le _, by simp, rfl, hid (Below.refl _ _)⟩
            case round =>
              obtain ⟨j, hj, rfl, rfl, HB6⟩ := hrel
              have hcl : (s3.G.take j).count y.key ≤ j := Nat.le_trans (count_le _ _) (by simp; omega)
              by_cases hlt2 : j < s3.G.length
              · have hj0 : (0 : Int) ≤ (j : Int) := by omega
                have hj1 : (j : Int) < (s3.G.length : Int) := by omega
                obtain ⟨z, hz⟩ : ∃ z, s3.G[j]? = some z := ⟨_, List.getElem?_eq_getElem hlt2⟩
                have OG6 := hid (own_below OGq.out HB6.out)
                obtain ⟨g4, hag4, hBg4, hgz4, hg41, hg42⟩ := own_loc OG6.out (by omega)
                subst hag4
                have c1 := ks_at (Rd.own OG6.out) (Below.refl _ _) hz
                simp only [Nat.zero_add] at c1
                have c2 := ecs_at (Rd.own (own_below OWq.out HB6.out)) HY.out
                have HST := hid (count_take (k := y.key) hz)
                obtain ⟨tt, htt⟩ : ∃ tt, tt = (s3.G.take j).count y.key := ⟨_, rfl⟩
                rw [← htt] at hcl ⊢
                have HTT := hid htt
                have heq2 := fun W => eqIn_key z.dir y.key.dir z.name y.key.name W
                clear hz htt
                by_cases hk : z = y.key
                · rw [show decide ((⟨z.dir, z.name⟩ : Ky) = ⟨y.key.dir, y.key.name⟩) = true from decide_eq_true hk] at heq2
                  have HK2 := hid (show (s3.G.take (j + 1)).count y.key = tt + 1 by rw [HST.out, if_pos hk, HTT.out])
                  clear hk
                  go_wp2_with fail
                  go_quiet (fail)
                  go_wp2
                  exact ⟨⟨j + 1, by omega, by rw [HK2.out]; go_num, by go_num, hid (below_drewN HB6.out _)⟩, by simp [intOf]; omega⟩
                · rw [show decide ((⟨z.dir, z.name⟩ : Ky) = ⟨y.key.dir, y.key.name⟩) = false from decide_eq_false hk] at heq2
                  have HK2 := hid (show (s3.G.take (j + 1)).count y.key = tt by rw [HST.out, if_neg hk, HTT.out, Nat.add_zero])
                  clear hk
                  go_wp2_with fail
                  go_quiet (fail)
                  go_wp2
                  exact ⟨⟨j + 1, by omega, by rw [HK2.out], by go_num, hid (below_drewN HB6.out _)⟩, by simp [intOf]; omega⟩
              · rw [List.take_of_length_le (by omega : s3.G.length ≤ j), HCNT.out]
                have hnn1 : s3.G.length ≤ 9223372036854775807 := by omega
                clear hcl
                go_wp2
                exact ⟨⟨i + 1, by omega, by rw [HTK.out, HF.out, HTE.out], by go_num, hid (HBq.out.trans (HB6.out.mono HBq.out.size))⟩, by simp [intOf]; omega⟩
          · have ht1 : decide ((t : Int) < (s3.L.length : Int)) = false := decide_eq_false (by omega)
            clear hgp
            go_wp2_with fail
            go_quiet (fail)
            have HBq := hid (below_drewN HB.out nq)
            have OWq := hid (own_drewN OWr.out nq)
            have OGq := hid (own_below OG5.out HBq.out)
            obtain ⟨Wq, hWq⟩ : ∃ Wq, Wq = wr.drewN nq := ⟨_, rfl⟩
            rw [← hWq] at HBq OWq OGq ⊢
            clear hWq
            go_wp2_with fail
            go_loopw [14, 15] (fun v14 v15 wr => ∃ (j : Nat), j ≤ s3.G.length ∧ v14 = .int .i64 ((s3.G.take j).count y.key) ∧ v15 = .int .i64 j ∧ Hid (Below Wq.heap.size Wq wr)) (fun _ v15 _ => s3.G.length - (intOf v15).toNat)
            case atStart => exact ⟨0, Nat.zero_le _, by simp, rfl, hid (Below.refl _ _)⟩
            case round =>
              obtain ⟨j, hj, rfl, rfl, HB6⟩ := hrel
              have hcl : (s3.G.take j).count y.key ≤ j := Nat.le_trans (count_le _ _) (by simp; omega)
              by_cases hlt2 : j < s3.G.length
              · have hj0 : (0 : Int) ≤ (j : Int) := by omega
                have hj1 : (j : Int) < (s3.G.length : Int) := by omega
                obtain ⟨z, hz⟩ : ∃ z, s3.G[j]? = some z := ⟨_, List.getElem?_eq_getElem hlt2⟩
                have OG6 := hid (own_below OGq.out HB6.out)
                obtain ⟨g4, hag4, hBg4, hgz4, hg41, hg42⟩ := own_loc OG6.out (by omega)
                subst hag4
                have c1 := ks_at (Rd.own OG6.out) (Below.refl _ _) hz
                simp only [Nat.zero_add] at c1
                have c2 := ecs_at (Rd.own (own_below OWq.out HB6.out)) HY.out
                have HST := hid (count_take (k := y.key) hz)
                obtain ⟨tt, htt⟩ : ∃ tt, tt = (s3.G.take j).count y.key := ⟨_, rfl⟩
                rw [← htt] at hcl ⊢
                have HTT := hid htt
                have heq2 := fun W => eqIn_key z.dir y.key.dir z.name y.key.name W
                clear hz htt
                by_cases hk : z = y.key
                · rw [show decide ((⟨z.dir, z.name⟩ : Ky) = ⟨y.key.dir, y.key.name⟩) = true from decide_eq_true hk] at heq2
                  have HK2 := hid (show (s3.G.take (j + 1)).count y.key = tt + 1 by rw [HST.out, if_pos hk, HTT.out])
                  clear hk
                  go_wp2_with fail
                  go_quiet (fail)
                  go_wp2
                  exact ⟨⟨j + 1, by omega, by rw [HK2.out]; go_num, by go_num, hid (below_drewN HB6.out _)⟩, by simp [intOf]; omega⟩
                · rw [show decide ((⟨z.dir, z.name⟩ : Ky) = ⟨y.key.dir, y.key.name⟩) = false from decide_eq_false hk] at heq2
                  have HK2 := hid (show (s3.G.take (j + 1)).count y.key = tt by rw [HST.out, if_neg hk, HTT.out, Nat.add_zero])
                  clear hk
                  go_wp2_with fail
                  go_quiet (fail)
                  go_wp2
                  exact ⟨⟨j + 1, by omega, by rw [HK2.out], by go_num, hid (below_drewN HB6.out _)⟩, by simp [intOf]; omega⟩
              · rw [List.take_of_length_le (by omega : s3.G.length ≤ j), HCNT.out]
                have hnn1 : s3.G.length ≤ 9223372036854775807 := by omega
                clear hcl
                go_wp2
                exact ⟨⟨i + 1, by omega, by rw [HTK.out, HF.out, HTE.out], by go_num, hid (HBq.out.trans (HB6.out.mono HBq.out.size))⟩, by simp [intOf]; omega⟩
      · have hte2 : t = s3.L.length := by rw [HTE.out, List.take_of_length_le (by omega)]; show (L.filter (goneP s3.G)).length = _; rw [← HTI.out.flt]
        subst hte2
        have h3 := HB3.out
        (have BB6 := hid (BB5.out.trans (HB.out.mono BB5.out.size)))
        (have HC6 := hid (HC5.out.below HB.out))
        (have OW6 := hid (own_below OW5.out HB.out))
        (have OG6 := hid (own_below OG5.out HB.out))
        (have ON6 := hid (own_below ON5.out HB.out))
        have HTA := hid (trim_again s3.wh most neg HB1.out HB2.out)
        clear hal
        by_cases u1 : (L.length : Int) ≤ most
        · have d1 : decide ((L.length : Int) ≤ most) = true := decide_eq_true u1
          by_cases u2 : 0 < s3.G.length
          · have d2 : decide ((s3.G.length : Int) > 0) = true := decide_eq_true (by omega)
            have d3 : decide ((negL s3.L : Int) < neg) = false := decide_eq_false (by have := h3 u1 u2; omega)
            have d4 : decide (0 < s3.G.length) = true := decide_eq_true u2
            clear u1 h3
            go_wp2_with (first
                | (go_at_call 37; refine (c_negatives _ _ _ _ _ _ HC6.out (by omega)).mono ?_; rintro r w7 ⟨rfl, hb7⟩; (have BB7 := hid (BB6.out.trans (hb7.mono BB6.out.size))); (have HC7 := hid (HC6.out.below hb7)); (have OW7 := hid (own_below OW6.out hb7)); (have OG7 := hid (own_below OG6.out hb7)); (have ON7 := hid (own_below ON6.out hb7)); (have hw7 := hb7.size); clear hb7)
                | (go_at_call 42; (fail_if_success (have hxx := HC8)); refine (c_trim _ _ p _ _ _ most neg HC7.out hn80).mono ?_; rintro r w8 ⟨s8, a8, c8, rfl, hs8, hown8, hc8, hgl8, hg8⟩; rw [HTA.out] at hs8; (have hG8 : s8.G = [] := by rw [hs8]); rw [hG8] at hown8 ⊢; simp only [List.length_nil]; clear hs8 hown8 hG8 hgl8; (have BB8 := hid (BB7.out.trans (hg8.toBelow BB7.out.size (fun i hi h => by have := h.1; omega)))); (have HC8 := hid hc8); (have OW8 := hid (ownsRow_chg OW7.out (fun k hk hlt => hg8.block k hlt (fun h => by have := h.1; have := h.2; have := (own_lt OW7.out hk).1; omega)))); (have OG8 := hid (ownsRow_chg OG7.out (fun k hk hlt => hg8.block k hlt (fun h => by have := h.1; have := h.2; have := (own_lt OG7.out hk).1; omega)))); (have ON8 := hid (ownsRow_chg ON7.out (fun k hk hlt => hg8.block k hlt (fun h => by have := h.1; have := h.2; have := (own_lt ON7.out hk).1; omega)))); (have hw8 := hg8.size); (have hl8 := hc8.lt); clear hc8 hg8)
                | (go_at_call 43; refine (p_awake _).mono ?_; rintro r w9 ⟨rfl, hb9⟩; (have BB9 := hid (BB8.out.trans (hb9.mono BB8.out.size))); (have HC9 := hid (HC8.out.below hb9)); (have OW9 := hid (own_below OW8.out hb9)); (have OG9 := hid (own_below OG8.out hb9)); (have ON9 := hid (own_below ON8.out hb9)); (have hw9 := hb9.size); clear hb9)
              )
            go_ret
            exact ⟨rfl, BB9.out⟩
          · have d2 : decide ((s3.G.length : Int) > 0) = false := decide_eq_false (by omega)
            have d4 : decide (0 < s3.G.length) = false := decide_eq_false u2
            clear u1 u2 h3
            go_wp2_with (first
                | (go_at_call 42; (fail_if_success (have hxx := HC7)); refine (c_trim _ _ p _ _ _ most neg HC6.out hn80).mono ?_; rintro r w7 ⟨s7, a7, c7, rfl, hs7, hown7, hc7, hgl7, hg7⟩; rw [HTA.out] at hs7; (have hG7 : s7.G = [] := by rw [hs7]); rw [hG7] at hown7 ⊢; simp only [List.length_nil]; clear hs7 hown7 hG7 hgl7; (have BB7 := hid (BB6.out.trans (hg7.toBelow BB6.out.size (fun i hi h => by have := h.1; omega)))); (have HC7 := hid hc7); (have OW7 := hid (ownsRow_chg OW6.out (fun k hk hlt => hg7.block k hlt (fun h => by have := h.1; have := h.2; have := (own_lt OW6.out hk).1; omega)))); (have OG7 := hid (ownsRow_chg OG6.out (fun k hk hlt => hg7.block k hlt (fun h => by have := h.1; have := h.2; have := (own_lt OG6.out hk).1; omega)))); (have ON7 := hid (ownsRow_chg ON6.out (fun k hk hlt => hg7.block k hlt (fun h => by have := h.1; have := h.2; have := (own_lt ON6.out hk).1; omega)))); (have hw7 := hg7.size); (have hl7 := hc7.lt); clear hc7 hg7)
                | (go_at_call 43; refine (p_awake _).mono ?_; rintro r w8 ⟨rfl, hb8⟩; (have BB8 := hid (BB7.out.trans (hb8.mono BB7.out.size))); (have HC8 := hid (HC7.out.below hb8)); (have OW8 := hid (own_below OW7.out hb8)); (have OG8 := hid (own_below OG7.out hb8)); (have ON8 := hid (own_below ON7.out hb8)); (have hw8 := hb8.size); clear hb8)
              )
            go_ret
            exact ⟨rfl, BB8.out⟩
        · have d1 : decide ((L.length : Int) ≤ most) = false := decide_eq_false u1
          clear u1 h3
          go_wp2_with (first
                | (go_at_call 42; (fail_if_success (have hxx := HC7)); refine (c_trim _ _ p _ _ _ most neg HC6.out hn80).mono ?_; rintro r w7 ⟨s7, a7, c7, rfl, hs7, hown7, hc7, hgl7, hg7⟩; rw [HTA.out] at hs7; (have hG7 : s7.G = [] := by rw [hs7]); rw [hG7] at hown7 ⊢; simp only [List.length_nil]; clear hs7 hown7 hG7 hgl7; (have BB7 := hid (BB6.out.trans (hg7.toBelow BB6.out.size (fun i hi h => by have := h.1; omega)))); (have HC7 := hid hc7); (have OW7 := hid (ownsRow_chg OW6.out (fun k hk hlt => hg7.block k hlt (fun h => by have := h.1; have := h.2; have := (own_lt OW6.out hk).1; omega)))); (have OG7 := hid (ownsRow_chg OG6.out (fun k hk hlt => hg7.block k hlt (fun h => by have := h.1; have := h.2; have := (own_lt OG6.out hk).1; omega)))); (have ON7 := hid (ownsRow_chg ON6.out (fun k hk hlt => hg7.block k hlt (fun h => by have := h.1; have := h.2; have := (own_lt ON6.out hk).1; omega)))); (have hw7 := hg7.size); (have hl7 := hc7.lt); clear hc7 hg7)
                | (go_at_call 43; refine (p_awake _).mono ?_; rintro r w8 ⟨rfl, hb8⟩; (have BB8 := hid (BB7.out.trans (hb8.mono BB7.out.size))); (have HC8 := hid (HC7.out.below hb8)); (have OW8 := hid (own_below OW7.out hb8)); (have OG8 := hid (own_below OG7.out hb8)); (have ON8 := hid (own_below ON7.out hb8)); (have hw8 := hb8.size); clear hb8)
            )
          go_ret
          exact ⟨rfl, BB8.out⟩
  · have t1 : decide (most ≥ 0) = false := decide_eq_false (by omega)
    have t2 : decide (most < 0) = true := decide_eq_true (by omega)
    have t3 : decide ((s3.L.length : Int) > 0) = false := decide_eq_false (by omega)
    have t4 : decide (neg ≥ 0) = true := decide_eq_true (by omega)
    have t5 : decide (neg < 0) = false := decide_eq_false (by omega)
    have t6 : decide ((negL s3.L : Int) > neg) = false := decide_eq_false (by omega)
    have t7 : decide (0 < s3.L.length) = false := decide_eq_false (by omega)
    clear hB1 hB2 hm hg
    go_wp2_with (go_at_call 37; refine (c_negatives _ _ _ _ _ _ HC4.out (by omega)).mono ?_; rintro r w5 ⟨rfl, hb5⟩; (have BB5 := hid (BB4.out.trans (hb5.mono BB4.out.size))); (have HC5 := hid (HC4.out.below hb5)); (have OW5 := hid (own_below OW4.out hb5)); (have OG5 := hid (own_below OG4.out hb5)); (have ON5 := hid (own_below ON4.out hb5)); (have hw5 := hb5.size); clear hb5)
    clear t1 t2 t3 t4 t5 t6 t7
    go_loopw [12, 13] (fun v12 v13 wr => ∃ (i : Nat), i ≤ L.length ∧ v12 = .int .i64 (atP s3.G (L.take i)) ∧ v13 = .int .i64 i ∧ Hid (Below w5.heap.size w5 wr)) (fun _ v13 _ => L.length - (intOf v13).toNat)
    case atStart => exact ⟨0, Nat.zero_le _, rfl, rfl, hid (Below.refl _ _)⟩
    case round =>
      obtain ⟨i, hi, rfl, rfl, HB⟩ := hrel
      have BBr := hid (BB5.out.trans (HB.out.mono BB5.out.size))
      have hal : atP s3.G (L.take i) ≤ i := Nat.le_trans (atP_le _ _) (by simp; omega)
      obtain ⟨t, hte⟩ : ∃ t, t = atP s3.G (L.take i) := ⟨_, rfl⟩
      rw [← hte] at hal ⊢
      have HTE := hid hte
      clear hte
      by_cases hlt : i < L.length
      · have hi0 : (0 : Int) ≤ (i : Int) := by omega
        have hi1 : (i : Int) < (L.length : Int) := by omega
        have ht0 : (0 : Int) ≤ (t : Int) := by omega
        have OWr := hid (own_below OW5.out HB.out)
        have ONr := hid (own_below ON5.out HB.out)
        obtain ⟨g, hag, hBg, hgz, hg1, hg2⟩ := own_loc OWr.out (by omega)
        obtain ⟨y, hy⟩ : ∃ y, L[i]? = some y := ⟨_, List.getElem?_eq_getElem hlt⟩
        subst hag
        have b1 := ecs_at (Rd.own OWr.out) hy
        have HY := hid hy
        have htk : L.take (i + 1) = L.take i ++ [y] := by rw [List.take_add_one, hy]; rfl
        have HTK := hid htk
        clear hy htk
        cases hgp : goneP s3.G y with
        | true =>
          have hx : s3.L[t]? = some y := by rw [HTE.out, HTI.out.flt]; exact filter_at HY.out hgp
          have htl : t < s3.L.length := (List.getElem?_eq_some_iff.1 hx).1
          have ht1 : (t : Int) < (s3.L.length : Int) := by omega
          obtain ⟨g3, hag3, hBg3, hgz3, hg31, hg32⟩ := own_loc ONr.out (by omega)
          subst hag3
          have b3 := ecs_at (Rd.own ONr.out) hx
          have HF := hid (atP_yes (L := L.take i) hgp)
          have heq := fun W => eqIn_entry y.key.dir y.key.dir y.node.id y.node.kind y.node.mode y.node.id y.node.kind y.node.mode y.key.name y.key.name y.node.target y.node.target y.neg y.neg W
          simp only [decide_true] at heq
          clear hx hgp
          go_wp2_with fail
          go_quiet (fail)
          go_wp2
          exact ⟨⟨i + 1, by omega, by rw [HTK.out, HF.out, HTE.out]; go_num, by go_num, hid (below_drewN HB.out _)⟩, by simp [intOf]; omega⟩
        | false =>
          have HCNT := hid (gone_yes HTI.out hgp)
          have HF := hid (atP_no (L := L.take i) hgp)
          by_cases htl : t < s3.L.length
          · have ht1 : (t : Int) < (s3.L.length : Int) := by omega
            obtain ⟨x, hx⟩ : ∃ x, s3.L[t]? = some x := ⟨_, List.getElem?_eq_getElem htl⟩
            obtain ⟨g3, hag3, hBg3, hgz3, hg31, hg32⟩ := own_loc ONr.out (by omega)
            subst hag3
            have b3 := ecs_at (Rd.own ONr.out) hx
            have heq := fun W => eqIn_entry x.key.dir y.key.dir x.node.id x.node.kind x.node.mode y.node.id y.node.kind y.node.mode x.key.name y.key.name x.node.target y.node.target x.neg y.neg W
            simp only [en_eta] at heq
            rw [show decide (x = y) = false from decide_eq_false (filter_ne (k := t) (by rw [← HTI.out.flt]; exact hx) hgp)] at heq
            clear hx hgp
            go_wp2_with fail
            go_quiet (fail)
            have HBq := hid (below_drewN HB.out nq)
            have OWq := hid (own_drewN OWr.out nq)
            have OGq := hid (own_below OG5.out HBq.out)
            obtain ⟨Wq, hWq⟩ : ∃ Wq, Wq = wr.drewN nq := ⟨_, rfl⟩
            rw [← hWq] at HBq OWq OGq ⊢
            clear hWq
            go_wp2_with fail
            go_loopw [14, 15] (fun v14 v15 wr => ∃ (j : Nat), j ≤ s3.G.length ∧ v14 = .int .i64 ((s3.G.take j).count y.key) ∧ v15 = .int .i64 j ∧ Hid (Below Wq.heap.size Wq wr)) (fun _ v15 _ => s3.G.length - (intOf v15).toNat)
            case atStart => exact ⟨0, Nat.zero_le _, by simp, rfl, hid (Below.refl _ _)⟩
            case round =>
              obtain ⟨j, hj, rfl, rfl, HB6⟩ := hrel
              have hcl : (s3.G.take j).count y.key ≤ j := Nat.le_trans (count_le _ _) (by simp; omega)
              by_cases hlt2 : j < s3.G.length
              · have hj0 : (0 : Int) ≤ (j : Int) := by omega
                have hj1 : (j : Int) < (s3.G.length : Int) := by omega
                obtain ⟨z, hz⟩ : ∃ z, s3.G[j]? = some z := ⟨_, List.getElem?_eq_getElem hlt2⟩
                have OG6 := hid (own_below OGq.out HB6.out)
                obtain ⟨g4, hag4, hBg4, hgz4, hg41, hg42⟩ := own_loc OG6.out (by omega)
                subst hag4
                have c1 := ks_at (Rd.own OG6.out) (Below.refl _ _) hz
                simp only [Nat.zero_add] at c1
                have c2 := ecs_at (Rd.own (own_below OWq.out HB6.out)) HY.out
                have HST := hid (count_take (k := y.key) hz)
                obtain ⟨tt, htt⟩ : ∃ tt, tt = (s3.G.take j).count y.key := ⟨_, rfl⟩
                rw [← htt] at hcl ⊢
                have HTT := hid htt
                have heq2 := fun W => eqIn_key z.dir y.key.dir z.name y.key.name W
                clear hz htt
                by_cases hk : z = y.key
                · rw [show decide ((⟨z.dir, z.name⟩ : Ky) = ⟨y.key.dir, y.key.name⟩) = true from decide_eq_true hk] at heq2
                  have HK2 := hid (show (s3.G.take (j + 1)).count y.key = tt + 1 by rw [HST.out, if_pos hk, HTT.out])
                  clear hk
                  go_wp2_with fail
                  go_quiet (fail)
                  go_wp2
                  exact ⟨⟨j + 1, by omega, by rw [HK2.out]; go_num, by go_num, hid (below_drewN HB6.out _)⟩, by simp [intOf]; omega⟩
                · rw [show decide ((⟨z.dir, z.name⟩ : Ky) = ⟨y.key.dir, y.key.name⟩) = false from decide_eq_false hk] at heq2
                  have HK2 := hid (show (s3.G.take (j + 1)).count y.key = tt by rw [HST.out, if_neg hk, HTT.out, Nat.add_zero])
                  clear hk
                  go_wp2_with fail
                  go_quiet (fail)
                  go_wp2
                  exact ⟨⟨j + 1, by omega, by rw [HK2.out], by go_num, hid (below_drewN HB6.out _)⟩, by simp [intOf]; omega⟩
              · rw [List.take_of_length_le (by omega : s3.G.length ≤ j), HCNT.out]
                have hnn1 : s3.G.length ≤ 9223372036854775807 := by omega
                clear hcl
                go_wp2
                exact ⟨⟨i + 1, by omega, by rw [HTK.out, HF.out, HTE.out], by go_num, hid (HBq.out.trans (HB6.out.mono HBq.out.size))⟩, by simp [intOf]; omega⟩
          · have ht1 : decide ((t : Int) < (s3.L.length : Int)) = false := decide_eq_false (by omega)
            clear hgp
            go_wp2_with fail
            go_quiet (fail)
            have HBq := hid (below_drewN HB.out nq)
            have OWq := hid (own_drewN OWr.out nq)
            have OGq := hid (own_below OG5.out HBq.out)
            obtain ⟨Wq, hWq⟩ : ∃ Wq, Wq = wr.drewN nq := ⟨_, rfl⟩
            rw [← hWq] at HBq OWq OGq ⊢
            clear hWq
            go_wp2_with fail
            go_loopw [14, 15] (fun v14 v15 wr => ∃ (j : Nat), j ≤ s3.G.length ∧ v14 = .int .i64 ((s3.G.take j).count y.key) ∧ v15 = .int .i64 j ∧ Hid (Below Wq.heap.size Wq wr)) (fun _ v15 _ => s3.G.length - (intOf v15).toNat)
            case atStart => exact ⟨0, Nat.zero_le _, by simp, rfl, hid (Below.refl _ _)⟩
            case round =>
              obtain ⟨j, hj, rfl, rfl, HB6⟩ := hrel
              have hcl : (s3.G.take j).count y.key ≤ j := Nat.le_trans (count_le _ _) (by simp; omega)
              by_cases hlt2 : j < s3.G.length
              · have hj0 : (0 : Int) ≤ (j : Int) := by omega
                have hj1 : (j : Int) < (s3.G.length : Int) := by omega
                obtain ⟨z, hz⟩ : ∃ z, s3.G[j]? = some z := ⟨_, List.getElem?_eq_getElem hlt2⟩
                have OG6 := hid (own_below OGq.out HB6.out)
                obtain ⟨g4, hag4, hBg4, hgz4, hg41, hg42⟩ := own_loc OG6.out (by omega)
                subst hag4
                have c1 := ks_at (Rd.own OG6.out) (Below.refl _ _) hz
                simp only [Nat.zero_add] at c1
                have c2 := ecs_at (Rd.own (own_below OWq.out HB6.out)) HY.out
                have HST := hid (count_take (k := y.key) hz)
                obtain ⟨tt, htt⟩ : ∃ tt, tt = (s3.G.take j).count y.key := ⟨_, rfl⟩
                rw [← htt] at hcl ⊢
                have HTT := hid htt
                have heq2 := fun W => eqIn_key z.dir y.key.dir z.name y.key.name W
                clear hz htt
                by_cases hk : z = y.key
                · rw [show decide ((⟨z.dir, z.name⟩ : Ky) = ⟨y.key.dir, y.key.name⟩) = true from decide_eq_true hk] at heq2
                  have HK2 := hid (show (s3.G.take (j + 1)).count y.key = tt + 1 by rw [HST.out, if_pos hk, HTT.out])
                  clear hk
                  go_wp2_with fail
                  go_quiet (fail)
                  go_wp2
                  exact ⟨⟨j + 1, by omega, by rw [HK2.out]; go_num, by go_num, hid (below_drewN HB6.out _)⟩, by simp [intOf]; omega⟩
                · rw [show decide ((⟨z.dir, z.name⟩ : Ky) = ⟨y.key.dir, y.key.name⟩) = false from decide_eq_false hk] at heq2
                  have HK2 := hid (show (s3.G.take (j + 1)).count y.key = tt by rw [HST.out, if_neg hk, HTT.out, Nat.add_zero])
                  clear hk
                  go_wp2_with fail
                  go_quiet (fail)
                  go_wp2
                  exact ⟨⟨j + 1, by omega, by rw [HK2.out], by go_num, hid (below_drewN HB6.out _)⟩, by simp [intOf]; omega⟩
              · rw [List.take_of_length_le (by omega : s3.G.length ≤ j), HCNT.out]
                have hnn1 : s3.G.length ≤ 9223372036854775807 := by omega
                clear hcl
                go_wp2
                exact ⟨⟨i + 1, by omega, by rw [HTK.out, HF.out, HTE.out], by go_num, hid (HBq.out.trans (HB6.out.mono HBq.out.size))⟩, by simp [intOf]; omega⟩
      · have hte2 : t = s3.L.length := by rw [HTE.out, List.take_of_length_le (by omega)]; show (L.filter (goneP s3.G)).length = _; rw [← HTI.out.flt]
        subst hte2
        have h3 := HB3.out
        (have BB6 := hid (BB5.out.trans (HB.out.mono BB5.out.size)))
        (have HC6 := hid (HC5.out.below HB.out))
        (have OW6 := hid (own_below OW5.out HB.out))
        (have OG6 := hid (own_below OG5.out HB.out))
        (have ON6 := hid (own_below ON5.out HB.out))
        have HTA := hid (trim_again s3.wh most neg HB1.out HB2.out)
        clear hal
        by_cases u1 : (L.length : Int) ≤ most
        · have d1 : decide ((L.length : Int) ≤ most) = true := decide_eq_true u1
          by_cases u2 : 0 < s3.G.length
          · have d2 : decide ((s3.G.length : Int) > 0) = true := decide_eq_true (by omega)
            have d3 : decide ((negL s3.L : Int) < neg) = false := decide_eq_false (by have := h3 u1 u2; omega)
            have d4 : decide (0 < s3.G.length) = true := decide_eq_true u2
            clear u1 h3
            go_wp2_with (first
                | (go_at_call 37; refine (c_negatives _ _ _ _ _ _ HC6.out (by omega)).mono ?_; rintro r w7 ⟨rfl, hb7⟩; (have BB7 := hid (BB6.out.trans (hb7.mono BB6.out.size))); (have HC7 := hid (HC6.out.below hb7)); (have OW7 := hid (own_below OW6.out hb7)); (have OG7 := hid (own_below OG6.out hb7)); (have ON7 := hid (own_below ON6.out hb7)); (have hw7 := hb7.size); clear hb7)
                | (go_at_call 42; (fail_if_success (have hxx := HC8)); refine (c_trim _ _ p _ _ _ most neg HC7.out hn80).mono ?_; rintro r w8 ⟨s8, a8, c8, rfl, hs8, hown8, hc8, hgl8, hg8⟩; rw [HTA.out] at hs8; (have hG8 : s8.G = [] := by rw [hs8]); rw [hG8] at hown8 ⊢; simp only [List.length_nil]; clear hs8 hown8 hG8 hgl8; (have BB8 := hid (BB7.out.trans (hg8.toBelow BB7.out.size (fun i hi h => by have := h.1; omega)))); (have HC8 := hid hc8); (have OW8 := hid (ownsRow_chg OW7.out (fun k hk hlt => hg8.block k hlt (fun h => by have := h.1; have := h.2; have := (own_lt OW7.out hk).1; omega)))); (have OG8 := hid (ownsRow_chg OG7.out (fun k hk hlt => hg8.block k hlt (fun h => by have := h.1; have := h.2; have := (own_lt OG7.out hk).1; omega)))); (have ON8 := hid (ownsRow_chg ON7.out (fun k hk hlt => hg8.block k hlt (fun h => by have := h.1; have := h.2; have := (own_lt ON7.out hk).1; omega)))); (have hw8 := hg8.size); (have hl8 := hc8.lt); clear hc8 hg8)
                | (go_at_call 43; refine (p_awake _).mono ?_; rintro r w9 ⟨rfl, hb9⟩; (have BB9 := hid (BB8.out.trans (hb9.mono BB8.out.size))); (have HC9 := hid (HC8.out.below hb9)); (have OW9 := hid (own_below OW8.out hb9)); (have OG9 := hid (own_below OG8.out hb9)); (have ON9 := hid (own_below ON8.out hb9)); (have hw9 := hb9.size); clear hb9)
              )
            go_ret
            exact ⟨rfl, BB9.out⟩
          · have d2 : decide ((s3.G.length : Int) > 0) = false := decide_eq_false (by omega)
            have d4 : decide (0 < s3.G.length) = false := decide_eq_false u2
            clear u1 u2 h3
            go_wp2_with (first
                | (go_at_call 42; (fail_if_success (have hxx := HC7)); refine (c_trim _ _ p _ _ _ most neg HC6.out hn80).mono ?_; rintro r w7 ⟨s7, a7, c7, rfl, hs7, hown7, hc7, hgl7, hg7⟩; rw [HTA.out] at hs7; (have hG7 : s7.G = [] := by rw [hs7]); rw [hG7] at hown7 ⊢; simp only [List.length_nil]; clear hs7 hown7 hG7 hgl7; (have BB7 := hid (BB6.out.trans (hg7.toBelow BB6.out.size (fun i hi h => by have := h.1; omega)))); (have HC7 := hid hc7); (have OW7 := hid (ownsRow_chg OW6.out (fun k hk hlt => hg7.block k hlt (fun h => by have := h.1; have := h.2; have := (own_lt OW6.out hk).1; omega)))); (have OG7 := hid (ownsRow_chg OG6.out (fun k hk hlt => hg7.block k hlt (fun h => by have := h.1; have := h.2; have := (own_lt OG6.out hk).1; omega)))); (have ON7 := hid (ownsRow_chg ON6.out (fun k hk hlt => hg7.block k hlt (fun h => by have := h.1; have := h.2; have := (own_lt ON6.out hk).1; omega)))); (have hw7 := hg7.size); (have hl7 := hc7.lt); clear hc7 hg7)
                | (go_at_call 43; refine (p_awake _).mono ?_; rintro r w8 ⟨rfl, hb8⟩; (have BB8 := hid (BB7.out.trans (hb8.mono BB7.out.size))); (have HC8 := hid (HC7.out.below hb8)); (have OW8 := hid (own_below OW7.out hb8)); (have OG8 := hid (own_below OG7.out hb8)); (have ON8 := hid (own_below ON7.out hb8)); (have hw8 := hb8.size); clear hb8)
              )
            go_ret
            exact ⟨rfl, BB8.out⟩
        · have d1 : decide ((L.length : Int) ≤ most) = false := decide_eq_false u1
          clear u1 h3
          go_wp2_with (first
                | (go_at_call 42; (fail_if_success (have hxx := HC7)); refine (c_trim _ _ p _ _ _ most neg HC6.out hn80).mono ?_; rintro r w7 ⟨s7, a7, c7, rfl, hs7, hown7, hc7, hgl7, hg7⟩; rw [HTA.out] at hs7; (have hG7 : s7.G = [] := by rw [hs7]); rw [hG7] at hown7 ⊢; simp only [List.length_nil]; clear hs7 hown7 hG7 hgl7; (have BB7 := hid (BB6.out.trans (hg7.toBelow BB6.out.size (fun i hi h => by have := h.1; omega)))); (have HC7 := hid hc7); (have OW7 := hid (ownsRow_chg OW6.out (fun k hk hlt => hg7.block k hlt (fun h => by have := h.1; have := h.2; have := (own_lt OW6.out hk).1; omega)))); (have OG7 := hid (ownsRow_chg OG6.out (fun k hk hlt => hg7.block k hlt (fun h => by have := h.1; have := h.2; have := (own_lt OG6.out hk).1; omega)))); (have ON7 := hid (ownsRow_chg ON6.out (fun k hk hlt => hg7.block k hlt (fun h => by have := h.1; have := h.2; have := (own_lt ON6.out hk).1; omega)))); (have hw7 := hg7.size); (have hl7 := hc7.lt); clear hc7 hg7)
                | (go_at_call 43; refine (p_awake _).mono ?_; rintro r w8 ⟨rfl, hb8⟩; (have BB8 := hid (BB7.out.trans (hb8.mono BB7.out.size))); (have HC8 := hid (HC7.out.below hb8)); (have OW8 := hid (own_below OW7.out hb8)); (have OG8 := hid (own_below OG7.out hb8)); (have ON8 := hid (own_below ON7.out hb8)); (have hw8 := hb8.size); clear hb8)
            )
          go_ret
          exact ⟨rfl, BB8.out⟩
  · have t1 : decide (most ≥ 0) = false := decide_eq_false (by omega)
    have t2 : decide (most < 0) = true := decide_eq_true (by omega)
    have t3 : decide ((s3.L.length : Int) > 0) = false := decide_eq_false (by omega)
    have t4 : decide (neg ≥ 0) = false := decide_eq_false (by omega)
    have t5 : decide (neg < 0) = true := decide_eq_true (by omega)
    have t6 : decide ((negL s3.L : Int) > 0) = false := decide_eq_false (by omega)
    have t7 : decide (0 < s3.L.length) = false := decide_eq_false (by omega)
    have t8 : decide (0 < negL s3.L) = false := decide_eq_false (by omega)
    clear hB1 hB2 hm hg
    go_wp2_with (go_at_call 37; refine (c_negatives _ _ _ _ _ _ HC4.out (by omega)).mono ?_; rintro r w5 ⟨rfl, hb5⟩; (have BB5 := hid (BB4.out.trans (hb5.mono BB4.out.size))); (have HC5 := hid (HC4.out.below hb5)); (have OW5 := hid (own_below OW4.out hb5)); (have OG5 := hid (own_below OG4.out hb5)); (have ON5 := hid (own_below ON4.out hb5)); (have hw5 := hb5.size); clear hb5)
    clear t1 t2 t3 t4 t5 t6 t7 t8
    go_loopw [12, 13] (fun v12 v13 wr => ∃ (i : Nat), i ≤ L.length ∧ v12 = .int .i64 (atP s3.G (L.take i)) ∧ v13 = .int .i64 i ∧ Hid (Below w5.heap.size w5 wr)) (fun _ v13 _ => L.length - (intOf v13).toNat)
    case atStart => exact ⟨0, Nat.zero_le _, rfl, rfl, hid (Below.refl _ _)⟩
    case round =>
      obtain ⟨i, hi, rfl, rfl, HB⟩ := hrel
      have BBr := hid (BB5.out.trans (HB.out.mono BB5.out.size))
      have hal : atP s3.G (L.take i) ≤ i := Nat.le_trans (atP_le _ _) (by simp; omega)
      obtain ⟨t, hte⟩ : ∃ t, t = atP s3.G (L.take i) := ⟨_, rfl⟩
      rw [← hte] at hal ⊢
      have HTE := hid hte
      clear hte
      by_cases hlt : i < L.length
      · have hi0 : (0 : Int) ≤ (i : Int) := by omega
        have hi1 : (i : Int) < (L.length : Int) := by omega
        have ht0 : (0 : Int) ≤ (t : Int) := by omega
        have OWr := hid (own_below OW5.out HB.out)
        have ONr := hid (own_below ON5.out HB.out)
        obtain ⟨g, hag, hBg, hgz, hg1, hg2⟩ := own_loc OWr.out (by omega)
        obtain ⟨y, hy⟩ : ∃ y, L[i]? = some y := ⟨_, List.getElem?_eq_getElem hlt⟩
        subst hag
        have b1 := ecs_at (Rd.own OWr.out) hy
        have HY := hid hy
        have htk : L.take (i + 1) = L.take i ++ [y] := by rw [List.take_add_one, hy]; rfl
        have HTK := hid htk
        clear hy htk
        cases hgp : goneP s3.G y with
        | true =>
          have hx : s3.L[t]? = some y := by rw [HTE.out, HTI.out.flt]; exact filter_at HY.out hgp
          have htl : t < s3.L.length := (List.getElem?_eq_some_iff.1 hx).1
          have ht1 : (t : Int) < (s3.L.length : Int) := by omega
          obtain ⟨g3, hag3, hBg3, hgz3, hg31, hg32⟩ := own_loc ONr.out (by omega)
          subst hag3
          have b3 := ecs_at (Rd.own ONr.out) hx
          have HF := hid (atP_yes (L := L.take i) hgp)
          have heq := fun W => eqIn_entry y.key.dir y.key.dir y.node.id y.node.kind y.node.mode y.node.id y.node.kind y.node.mode y.key.name y.key.name y.node.target y.node.target y.neg y.neg W
          simp only [decide_true] at heq
          clear hx hgp
          go_wp2_with fail
          go_quiet (fail)
          go_wp2
          exact ⟨⟨i + 1, by omega, by rw [HTK.out, HF.out, HTE.out]; go_num, by go_num, hid (below_drewN HB.out _)⟩, by simp [intOf]; omega⟩
        | false =>
          have HCNT := hid (gone_yes HTI.out hgp)
          have HF := hid (atP_no (L := L.take i) hgp)
          by_cases htl : t < s3.L.length
          · have ht1 : (t : Int) < (s3.L.length : Int) := by omega
            obtain ⟨x, hx⟩ : ∃ x, s3.L[t]? = some x := ⟨_, List.getElem?_eq_getElem htl⟩
            obtain ⟨g3, hag3, hBg3, hgz3, hg31, hg32⟩ := own_loc ONr.out (by omega)
            subst hag3
            have b3 := ecs_at (Rd.own ONr.out) hx
            have heq := fun W => eqIn_entry x.key.dir y.key.dir x.node.id x.node.kind x.node.mode y.node.id y.node.kind y.node.mode x.key.name y.key.name x.node.target y.node.target x.neg y.neg W
            simp only [en_eta] at heq
            rw [show decide (x = y) = false from decide_eq_false (filter_ne (k := t) (by rw [← HTI.out.flt]; exact hx) hgp)] at heq
            clear hx hgp
            go_wp2_with fail
            go_quiet (fail)
            have HBq := hid (below_drewN HB.out nq)
            have OWq := hid (own_drewN OWr.out nq)
            have OGq := hid (own_below OG5.out HBq.out)
            obtain ⟨Wq, hWq⟩ : ∃ Wq, Wq = wr.drewN nq := ⟨_, rfl⟩
            rw [← hWq] at HBq OWq OGq ⊢
            clear hWq
            go_wp2_with fail
            go_loopw [14, 15] (fun v14 v15 wr => ∃ (j : Nat), j ≤ s3.G.length ∧ v14 = .int .i64 ((s3.G.take j).count y.key) ∧ v15 = .int .i64 j ∧ Hid (Below Wq.heap.size Wq wr)) (fun _ v15 _ => s3.G.length - (intOf v15).toNat)
            case atStart => exact ⟨0, Nat.zero_le _, by simp, rfl, hid (Below.refl _ _)⟩
            case round =>
              obtain ⟨j, hj, rfl, rfl, HB6⟩ := hrel
              have hcl : (s3.G.take j).count y.key ≤ j := Nat.le_trans (count_le _ _) (by simp; omega)
              by_cases hlt2 : j < s3.G.length
              · have hj0 : (0 : Int) ≤ (j : Int) := by omega
                have hj1 : (j : Int) < (s3.G.length : Int) := by omega
                obtain ⟨z, hz⟩ : ∃ z, s3.G[j]? = some z := ⟨_, List.getElem?_eq_getElem hlt2⟩
                have OG6 := hid (own_below OGq.out HB6.out)
                obtain ⟨g4, hag4, hBg4, hgz4, hg41, hg42⟩ := own_loc OG6.out (by omega)
                subst hag4
                have c1 := ks_at (Rd.own OG6.out) (Below.refl _ _) hz
                simp only [Nat.zero_add] at c1
                have c2 := ecs_at (Rd.own (own_below OWq.out HB6.out)) HY.out
                have HST := hid (count_take (k := y.key) hz)
                obtain ⟨tt, htt⟩ : ∃ tt, tt = (s3.G.take j).count y.key := ⟨_, rfl⟩
                rw [← htt] at hcl ⊢
                have HTT := hid htt
                have heq2 := fun W => eqIn_key z.dir y.key.dir z.name y.key.name W
                clear hz htt
                by_cases hk : z = y.key
                · rw [show decide ((⟨z.dir, z.name⟩ : Ky) = ⟨y.key.dir, y.key.name⟩) = true from decide_eq_true hk] at heq2
                  have HK2 := hid (show (s3.G.take (j + 1)).count y.key = tt + 1 by rw [HST.out, if_pos hk, HTT.out])
                  clear hk
                  go_wp2_with fail
                  go_quiet (fail)
                  go_wp2
                  exact ⟨⟨j + 1, by omega, by rw [HK2.out]; go_num, by go_num, hid (below_drewN HB6.out _)⟩, by simp [intOf]; omega⟩
                · rw [show decide ((⟨z.dir, z.name⟩ : Ky) = ⟨y.key.dir, y.key.name⟩) = false from decide_eq_false hk] at heq2
                  have HK2 := hid (show (s3.G.take (j + 1)).count y.key = tt by rw [HST.out, if_neg hk, HTT.out, Nat.add_zero])
                  clear hk
                  go_wp2_with fail
                  go_quiet (fail)
                  go_wp2
                  exact ⟨⟨j + 1, by omega, by rw [HK2.out], by go_num, hid (below_drewN HB6.out _)⟩, by simp [intOf]; omega⟩
              · rw [List.take_of_length_le (by omega : s3.G.length ≤ j), HCNT.out]
                have hnn1 : s3.G.length ≤ 9223372036854775807 := by omega
                clear hcl
                go_wp2
                exact ⟨⟨i + 1, by omega, by rw [HTK.out, HF.out, HTE.out], by go_num, hid (HBq.out.trans (HB6.out.mono HBq.out.size))⟩, by simp [intOf]; omega⟩
          · have ht1 : decide ((t : Int) < (s3.L.length : Int)) = false := decide_eq_false (by omega)
            clear hgp
            go_wp2_with fail
            go_quiet (fail)
            have HBq := hid (below_drewN HB.out nq)
            have OWq := hid (own_drewN OWr.out nq)
            have OGq := hid (own_below OG5.out HBq.out)
            obtain ⟨Wq, hWq⟩ : ∃ Wq, Wq = wr.drewN nq := ⟨_, rfl⟩
            rw [← hWq] at HBq OWq OGq ⊢
            clear hWq
            go_wp2_with fail
            go_loopw [14, 15] (fun v14 v15 wr => ∃ (j : Nat), j ≤ s3.G.length ∧ v14 = .int .i64 ((s3.G.take j).count y.key) ∧ v15 = .int .i64 j ∧ Hid (Below Wq.heap.size Wq wr)) (fun _ v15 _ => s3.G.length - (intOf v15).toNat)
            case atStart => exact ⟨0, Nat.zero_le _, by simp, rfl, hid (Below.refl _ _)⟩
            case round =>
              obtain ⟨j, hj, rfl, rfl, HB6⟩ := hrel
              have hcl : (s3.G.take j).count y.key ≤ j := Nat.le_trans (count_le _ _) (by simp; omega)
              by_cases hlt2 : j < s3.G.length
              · have hj0 : (0 : Int) ≤ (j : Int) := by omega
                have hj1 : (j : Int) < (s3.G.length : Int) := by omega
                obtain ⟨z, hz⟩ : ∃ z, s3.G[j]? = some z := ⟨_, List.getElem?_eq_getElem hlt2⟩
                have OG6 := hid (own_below OGq.out HB6.out)
                obtain ⟨g4, hag4, hBg4, hgz4, hg41, hg42⟩ := own_loc OG6.out (by omega)
                subst hag4
                have c1 := ks_at (Rd.own OG6.out) (Below.refl _ _) hz
                simp only [Nat.zero_add] at c1
                have c2 := ecs_at (Rd.own (own_below OWq.out HB6.out)) HY.out
                have HST := hid (count_take (k := y.key) hz)
                obtain ⟨tt, htt⟩ : ∃ tt, tt = (s3.G.take j).count y.key := ⟨_, rfl⟩
                rw [← htt] at hcl ⊢
                have HTT := hid htt
                have heq2 := fun W => eqIn_key z.dir y.key.dir z.name y.key.name W
                clear hz htt
                by_cases hk : z = y.key
                · rw [show decide ((⟨z.dir, z.name⟩ : Ky) = ⟨y.key.dir, y.key.name⟩) = true from decide_eq_true hk] at heq2
                  have HK2 := hid (show (s3.G.take (j + 1)).count y.key = tt + 1 by rw [HST.out, if_pos hk, HTT.out])
                  clear hk
                  go_wp2_with fail
                  go_quiet (fail)
                  go_wp2
                  exact ⟨⟨j + 1, by omega, by rw [HK2.out]; go_num, by go_num, hid (below_drewN HB6.out _)⟩, by simp [intOf]; omega⟩
                · rw [show decide ((⟨z.dir, z.name⟩ : Ky) = ⟨y.key.dir, y.key.name⟩) = false from decide_eq_false hk] at heq2
                  have HK2 := hid (show (s3.G.take (j + 1)).count y.key = tt by rw [HST.out, if_neg hk, HTT.out, Nat.add_zero])
                  clear hk
                  go_wp2_with fail
                  go_quiet (fail)
                  go_wp2
                  exact ⟨⟨j + 1, by omega, by rw [HK2.out], by go_num, hid (below_drewN HB6.out _)⟩, by simp [intOf]; omega⟩
              · rw [List.take_of_length_le (by omega : s3.G.length ≤ j), HCNT.out]
                have hnn1 : s3.G.length ≤ 9223372036854775807 := by omega
                clear hcl
                go_wp2
                exact ⟨⟨i + 1, by omega, by rw [HTK.out, HF.out, HTE.out], by go_num, hid (HBq.out.trans (HB6.out.mono HBq.out.size))⟩, by simp [intOf]; omega⟩
      · have hte2 : t = s3.L.length := by rw [HTE.out, List.take_of_length_le (by omega)]; show (L.filter (goneP s3.G)).length = _; rw [← HTI.out.flt]
        subst hte2
        have h3 := HB3.out
        (have BB6 := hid (BB5.out.trans (HB.out.mono BB5.out.size)))
        (have HC6 := hid (HC5.out.below HB.out))
        (have OW6 := hid (own_below OW5.out HB.out))
        (have OG6 := hid (own_below OG5.out HB.out))
        (have ON6 := hid (own_below ON5.out HB.out))
        have HTA := hid (trim_again s3.wh most neg HB1.out HB2.out)
        clear hal
        by_cases u1 : (L.length : Int) ≤ most
        · have d1 : decide ((L.length : Int) ≤ most) = true := decide_eq_true u1
          by_cases u2 : 0 < s3.G.length
          · have d2 : decide ((s3.G.length : Int) > 0) = true := decide_eq_true (by omega)
            have d3 : decide ((negL s3.L : Int) < neg) = false := decide_eq_false (by have := h3 u1 u2; omega)
            have d4 : decide (0 < s3.G.length) = true := decide_eq_true u2
            clear u1 h3
            go_wp2_with (first
                | (go_at_call 37; refine (c_negatives _ _ _ _ _ _ HC6.out (by omega)).mono ?_; rintro r w7 ⟨rfl, hb7⟩; (have BB7 := hid (BB6.out.trans (hb7.mono BB6.out.size))); (have HC7 := hid (HC6.out.below hb7)); (have OW7 := hid (own_below OW6.out hb7)); (have OG7 := hid (own_below OG6.out hb7)); (have ON7 := hid (own_below ON6.out hb7)); (have hw7 := hb7.size); clear hb7)
                | (go_at_call 42; (fail_if_success (have hxx := HC8)); refine (c_trim _ _ p _ _ _ most neg HC7.out hn80).mono ?_; rintro r w8 ⟨s8, a8, c8, rfl, hs8, hown8, hc8, hgl8, hg8⟩; rw [HTA.out] at hs8; (have hG8 : s8.G = [] := by rw [hs8]); rw [hG8] at hown8 ⊢; simp only [List.length_nil]; clear hs8 hown8 hG8 hgl8; (have BB8 := hid (BB7.out.trans (hg8.toBelow BB7.out.size (fun i hi h => by have := h.1; omega)))); (have HC8 := hid hc8); (have OW8 := hid (ownsRow_chg OW7.out (fun k hk hlt => hg8.block k hlt (fun h => by have := h.1; have := h.2; have := (own_lt OW7.out hk).1; omega)))); (have OG8 := hid (ownsRow_chg OG7.out (fun k hk hlt => hg8.block k hlt (fun h => by have := h.1; have := h.2; have := (own_lt OG7.out hk).1; omega)))); (have ON8 := hid (ownsRow_chg ON7.out (fun k hk hlt => hg8.block k hlt (fun h => by have := h.1; have := h.2; have := (own_lt ON7.out hk).1; omega)))); (have hw8 := hg8.size); (have hl8 := hc8.lt); clear hc8 hg8)
                | (go_at_call 43; refine (p_awake _).mono ?_; rintro r w9 ⟨rfl, hb9⟩; (have BB9 := hid (BB8.out.trans (hb9.mono BB8.out.size))); (have HC9 := hid (HC8.out.below hb9)); (have OW9 := hid (own_below OW8.out hb9)); (have OG9 := hid (own_below OG8.out hb9)); (have ON9 := hid (own_below ON8.out hb9)); (have hw9 := hb9.size); clear hb9)
              )
            go_ret
            exact ⟨rfl, BB9.out⟩
          · have d2 : decide ((s3.G.length : Int) > 0) = false := decide_eq_false (by omega)
            have d4 : decide (0 < s3.G.length) = false := decide_eq_false u2
            clear u1 u2 h3
            go_wp2_with (first
                | (go_at_call 42; (fail_if_success (have hxx := HC7)); refine (c_trim _ _ p _ _ _ most neg HC6.out hn80).mono ?_; rintro r w7 ⟨s7, a7, c7, rfl, hs7, hown7, hc7, hgl7, hg7⟩; rw [HTA.out] at hs7; (have hG7 : s7.G = [] := by rw [hs7]); rw [hG7] at hown7 ⊢; simp only [List.length_nil]; clear hs7 hown7 hG7 hgl7; (have BB7 := hid (BB6.out.trans (hg7.toBelow BB6.out.size (fun i hi h => by have := h.1; omega)))); (have HC7 := hid hc7); (have OW7 := hid (ownsRow_chg OW6.out (fun k hk hlt => hg7.block k hlt (fun h => by have := h.1; have := h.2; have := (own_lt OW6.out hk).1; omega)))); (have OG7 := hid (ownsRow_chg OG6.out (fun k hk hlt => hg7.block k hlt (fun h => by have := h.1; have := h.2; have := (own_lt OG6.out hk).1; omega)))); (have ON7 := hid (ownsRow_chg ON6.out (fun k hk hlt => hg7.block k hlt (fun h => by have := h.1; have := h.2; have := (own_lt ON6.out hk).1; omega)))); (have hw7 := hg7.size); (have hl7 := hc7.lt); clear hc7 hg7)
                | (go_at_call 43; refine (p_awake _).mono ?_; rintro r w8 ⟨rfl, hb8⟩; (have BB8 := hid (BB7.out.trans (hb8.mono BB7.out.size))); (have HC8 := hid (HC7.out.below hb8)); (have OW8 := hid (own_below OW7.out hb8)); (have OG8 := hid (own_below OG7.out hb8)); (have ON8 := hid (own_below ON7.out hb8)); (have hw8 := hb8.size); clear hb8)
              )
            go_ret
            exact ⟨rfl, BB8.out⟩
        · have d1 : decide ((L.length : Int) ≤ most) = false := decide_eq_false u1
          clear u1 h3
          go_wp2_with (first
                | (go_at_call 42; (fail_if_success (have hxx := HC7)); refine (c_trim _ _ p _ _ _ most neg HC6.out hn80).mono ?_; rintro r w7 ⟨s7, a7, c7, rfl, hs7, hown7, hc7, hgl7, hg7⟩; rw [HTA.out] at hs7; (have hG7 : s7.G = [] := by rw [hs7]); rw [hG7] at hown7 ⊢; simp only [List.length_nil]; clear hs7 hown7 hG7 hgl7; (have BB7 := hid (BB6.out.trans (hg7.toBelow BB6.out.size (fun i hi h => by have := h.1; omega)))); (have HC7 := hid hc7); (have OW7 := hid (ownsRow_chg OW6.out (fun k hk hlt => hg7.block k hlt (fun h => by have := h.1; have := h.2; have := (own_lt OW6.out hk).1; omega)))); (have OG7 := hid (ownsRow_chg OG6.out (fun k hk hlt => hg7.block k hlt (fun h => by have := h.1; have := h.2; have := (own_lt OG6.out hk).1; omega)))); (have ON7 := hid (ownsRow_chg ON6.out (fun k hk hlt => hg7.block k hlt (fun h => by have := h.1; have := h.2; have := (own_lt ON6.out hk).1; omega)))); (have hw7 := hg7.size); (have hl7 := hc7.lt); clear hc7 hg7)
                | (go_at_call 43; refine (p_awake _).mono ?_; rintro r w8 ⟨rfl, hb8⟩; (have BB8 := hid (BB7.out.trans (hb8.mono BB7.out.size))); (have HC8 := hid (HC7.out.below hb8)); (have OW8 := hid (own_below OW7.out hb8)); (have OG8 := hid (own_below OG7.out hb8)); (have ON8 := hid (own_below ON7.out hb8)); (have hw8 := hb8.size); clear hb8)
            )
          go_ret
          exact ⟨rfl, BB8.out⟩

end Go.Proofs.Ytmhogjecfgbchaa
