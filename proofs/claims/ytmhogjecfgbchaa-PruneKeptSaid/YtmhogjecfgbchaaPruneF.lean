import Derived.Test.YtmhogjecfgbchaaPruneE
namespace Go.Proofs.Ytmhogjecfgbchaa
set_option linter.unusedVariables false
set_option linter.unusedSimpArgs false
open Go.RowKit
attribute [local go_sem ↓] Go.wp_at_zero Go.wp_at_succ

theorem negL_drop {L : List En} {v : En} : negL (dropL v.key L) ≤ negL L := (List.filter_sublist ..).countP_le
theorem trim_room (L : List En) (wh : Int → Bool) : trimT (L.length : Int) (negL L : Int) ⟨L, wh, []⟩ = ⟨L, wh, []⟩ := by
  unfold trimT
  rw [trN_stop (s := ⟨L, wh, []⟩) (by show ¬ (negL L : Int) > max (negL L : Int) 0; omega)]
  exact trM_stop (s := ⟨L, wh, []⟩) (by show ¬ (L.length : Int) > max (L.length : Int) 0; omega)
theorem trim_one {L : List En} {v : En} (wh : Int → Bool) (hn : (L.map En.key).Nodup) (hv : vicL false L = some v) : trimT ((L.length : Int) - 1) (negL L : Int) ⟨L, wh, []⟩ = ⟨dropL v.key L, evictWh v.key L wh, [v.key]⟩ := by
  have hl := drop_len hn (vic_mem hv)
  unfold trimT
  rw [trN_stop (s := ⟨L, wh, []⟩) (by show ¬ (negL L : Int) > max (negL L : Int) 0; omega)]
  rw [trM_step (s := ⟨L, wh, []⟩) hn (by show (L.length : Int) > max ((L.length : Int) - 1) 0; omega) hv, evT_some (s := ⟨L, wh, []⟩) hv]
  exact trM_stop (by show ¬ ((dropL v.key L).length : Int) > max ((L.length : Int) - 1) 0; omega)
theorem vic_leafy {L : List En} (hn : (L.map En.key).Nodup) (hu : ∀ e ∈ L, upE e) (hL : L ≠ []) : ∃ v, vicL false L = some v := by
  obtain ⟨e, he, hl⟩ := some_leaf hn hu hL
  cases hf : vicL false L with
  | some v => exact ⟨v, rfl⟩
  | none => have := (List.find?_eq_none.1 hf) e he; rw [vicP_false, hl] at this; simp at this

set_option maxRecDepth 100000 in
set_option maxHeartbeats 4000000 in
theorem pruneRoom_walk (sa : Option Addr) (sc : Nat) (S : List Dop) (w : World) (hS : ScrD w (.slice sa S.length sc) S) (hz : S.length * 112 ≤ 140737488351232) (hkz : ∀ x ∈ S, x.ks.length * 24 ≤ 140737488351232) :
    Calls Try.prog 15 #[.slice sa S.length sc] w fun r w' => r = .returned (.bool true) ∧ Below w.heap.size w w' := by
  have HS := hid hS
  have HZ := hid hkz
  have BB0 := hid (Below.refl w.heap.size w)
  have hul := ups_le S
  have hn80 : (ups S).length * 80 ≤ 140737488351232 := by omega
  clear hS hkz
  go_enter Try.func15, Try.ntmps15
  go_wp2_with (go_at_call 41; refine (p_tree sa sc S _ HS.out hz HZ.out).mono ?_; rintro r w1 ⟨B, p, wh, L, rfl, hBw, hc1, hLe, hb1⟩; (have BB1 := hid (BB0.out.trans (hb1.mono BB0.out.size))); (have HC1 := hid hc1); (have HUP := hid (show ∀ e ∈ L, upE e by rw [hLe]; exact play_up S)); (have hL := hc1.len); (have HK := hid hc1.keys); (have hl1 := hc1.lt); (have hge1 := hc1.ge); (have hw1 := hb1.size); clear hc1 hb1 hLe)
  obtain ⟨nl, hnl⟩ : ∃ nl, nl = negL L := ⟨_, rfl⟩
  have HNL := hid hnl
  clear hnl
  refine (c_len _ _ _ _ _ _ HC1.out).mono ?_
  rintro r wx ⟨rfl, rfl⟩
  by_cases hl0 : L.length = 0
  · have hl2 : ((L.length : Int) == 0) = true := by simp [hl0]
    clear hl0
    go_wp2_with (first
      | (go_at_call 37; refine (c_negatives _ _ _ _ _ _ HC1.out (by omega)).mono ?_; rintro r w2 ⟨rfl, hb2⟩; rw [← HNL.out]; (have BB2 := hid (BB1.out.trans (hb2.mono BB1.out.size))); (have HC2 := hid (HC1.out.below hb2)); (have hw2 := hb2.size); clear hb2)
      | (go_at_call 32; refine (c_entries _ _ p _ _ _ HC2.out (by omega)).mono ?_; rintro r w3 ⟨a3, c3, rfl, hown3, hb3⟩; (have BB3 := hid (BB2.out.trans (hb3.mono BB2.out.size))); (have HC3 := hid (HC2.out.below hb3)); (have OW3 := hid hown3); (have hw3 := hb3.size); clear hown3 hb3)
      | (go_at_call 42; (fail_if_success (have hxx := HC4)); refine (c_trim _ _ p _ _ _ (L.length : Int) (nl : Int) HC3.out hn80).mono ?_; rintro r w4 ⟨s4, a4, c4, rfl, hs4, hown4, hc4, hgl4, hg4⟩; rw [HNL.out, trim_room] at hs4; (have hG4 : s4.G = [] := by rw [hs4]); (have hL4 : s4.L = L := by rw [hs4]); rw [hG4] at hown4 ⊢; rw [hL4] at hc4; (have HWH4 := hid hc4); simp only [List.length_nil]; clear hs4 hown4 hG4 hL4 hgl4; (have BB4 := hid (BB3.out.trans (hg4.toBelow BB3.out.size (fun i hi h => by have := h.1; omega)))); (have HC4 := hid hc4); (have OW4 := hid (ownsRow_chg OW3.out (fun k hk hlt => hg4.block k hlt (fun h => by have := h.1; have := h.2; have := (own_lt OW3.out hk).1; omega)))); (have hw4 := hg4.size); (have hl4 := hc4.lt); clear hc4 hg4)
      | (go_at_call 32; refine (c_entries _ _ p _ _ _ HC4.out (by omega)).mono ?_; rintro r w5 ⟨a5, c5, rfl, hown5, hb5⟩; (have BB5 := hid (BB4.out.trans (hb5.mono BB4.out.size))); (have HC5 := hid (HC4.out.below hb5)); (have OW5 := hid (own_below OW4.out hb5)); (have ON5 := hid hown5); (have hw5 := hb5.size); clear hown5 hb5)
      | (go_at_call 33; refine (same_entries _ _ _ _ _ _ _ (Rd.own ON5.out) (Rd.own OW5.out)).mono ?_; rintro r w6 ⟨rfl, hb6⟩; rw [decide_eq_true rfl]; (have BB6 := hid (BB5.out.trans (hb6.mono BB5.out.size))); (have HC6 := hid (HC5.out.below hb6)); (have OW6 := hid (own_below OW5.out hb6)); (have ON6 := hid (own_below ON5.out hb6)); (have hw6 := hb6.size); clear hb6)
      | (go_at_call 43; refine (p_awake _).mono ?_; rintro r w7 ⟨rfl, hb7⟩; (have BB7 := hid (BB6.out.trans (hb7.mono BB6.out.size))); (have HC7 := hid (HC6.out.below hb7)); (have OW7 := hid (own_below OW6.out hb7)); (have ON7 := hid (own_below ON6.out hb7)); (have hw7 := hb7.size); clear hb7)
      )
    go_ret
    exact ⟨rfl, BB7.out⟩
  · obtain ⟨v, hv⟩ := vic_leafy HK.out HUP.out (fun e => hl0 (by rw [e]; rfl))
    have HV := hid hv
    have HVK := hid (show vicK false L = v.key by simp [vicK, hv])
    have hdr := drop_len HK.out (vic_mem hv)
    have hl2 : ((L.length : Int) == 0) = false := by simp [hl0]
    have hwr : IntKind.i64.wrap ((L.length : Int) - 1) = (L.length : Int) - 1 := IntWalk.i64_in _ (by omega)
    have hdr2 : (((dropL v.key L).length : Int) == (L.length : Int) - 1) = true := by simp; omega
    have heq := fun W => eqIn_key v.key.dir v.key.dir v.key.name v.key.name W
    simp only [decide_true] at heq
    clear hv hl0 hdr
    go_wp2_with (first
      | (go_at_call 37; refine (c_negatives _ _ _ _ _ _ HC1.out (by omega)).mono ?_; rintro r w2 ⟨rfl, hb2⟩; rw [← HNL.out]; (have BB2 := hid (BB1.out.trans (hb2.mono BB1.out.size))); (have HC2 := hid (HC1.out.below hb2)); (have hw2 := hb2.size); clear hb2)
      | (go_at_call 32; refine (c_entries _ _ p _ _ _ HC2.out (by omega)).mono ?_; rintro r w3 ⟨a3, c3, rfl, hown3, hb3⟩; (have BB3 := hid (BB2.out.trans (hb3.mono BB2.out.size))); (have HC3 := hid (HC2.out.below hb3)); (have OW3 := hid hown3); (have hw3 := hb3.size); clear hown3 hb3)
      | (go_at_call 42; (fail_if_success (have hxx := HC4)); refine (c_trim _ _ p _ _ _ (L.length : Int) (nl : Int) HC3.out hn80).mono ?_; rintro r w4 ⟨s4, a4, c4, rfl, hs4, hown4, hc4, hgl4, hg4⟩; rw [HNL.out, trim_room] at hs4; (have hG4 : s4.G = [] := by rw [hs4]); (have hL4 : s4.L = L := by rw [hs4]); rw [hG4] at hown4 ⊢; rw [hL4] at hc4; (have HWH4 := hid hc4); simp only [List.length_nil]; clear hs4 hown4 hG4 hL4 hgl4; (have BB4 := hid (BB3.out.trans (hg4.toBelow BB3.out.size (fun i hi h => by have := h.1; omega)))); (have HC4 := hid hc4); (have OW4 := hid (ownsRow_chg OW3.out (fun k hk hlt => hg4.block k hlt (fun h => by have := h.1; have := h.2; have := (own_lt OW3.out hk).1; omega)))); (have hw4 := hg4.size); (have hl4 := hc4.lt); clear hc4 hg4)
      | (go_at_call 32; refine (c_entries _ _ p _ _ _ HC4.out (by omega)).mono ?_; rintro r w5 ⟨a5, c5, rfl, hown5, hb5⟩; (have BB5 := hid (BB4.out.trans (hb5.mono BB4.out.size))); (have HC5 := hid (HC4.out.below hb5)); (have OW5 := hid (own_below OW4.out hb5)); (have ON5 := hid hown5); (have hw5 := hb5.size); clear hown5 hb5)
      | (go_at_call 33; refine (same_entries _ _ _ _ _ _ _ (Rd.own ON5.out) (Rd.own OW5.out)).mono ?_; rintro r w6 ⟨rfl, hb6⟩; rw [decide_eq_true rfl]; (have BB6 := hid (BB5.out.trans (hb6.mono BB5.out.size))); (have HC6 := hid (HC5.out.below hb6)); (have OW6 := hid (own_below OW5.out hb6)); (have ON6 := hid (own_below ON5.out hb6)); (have hw6 := hb6.size); clear hb6)
      | (go_at_call 45; refine (c_victim _ _ p _ _ _ false HC6.out hn80).mono ?_; rintro r w7 ⟨rfl, hb7⟩; rw [HVK.out, HV.out]; simp only [Option.isSome_some]; (have BB7 := hid (BB6.out.trans ((hb7.alloc hb7.size (.cells #[.int .i64 v.key.dir, .string v.key.name] 26)).mono BB6.out.size))); (have HC7 := hid (HC6.out.below (hb7.alloc hb7.size (.cells #[.int .i64 v.key.dir, .string v.key.name] 26)))); (have OW7 := hid (own_below OW6.out (hb7.alloc hb7.size (.cells #[.int .i64 v.key.dir, .string v.key.name] 26)))); (have ON7 := hid (own_below ON6.out (hb7.alloc hb7.size (.cells #[.int .i64 v.key.dir, .string v.key.name] 26)))); (have hw7 := hb7.size); (have KK7 := hid (heap_new w7 (.cells #[.int .i64 v.key.dir, .string v.key.name] 26))); (have b_KK7 := blk2 KK7.out); clear hb7)
      | (go_at_call 42; (fail_if_success (have hxx := HC8)); refine (c_trim _ _ p _ _ _ ((L.length : Int) - 1) (nl : Int) HC7.out hn80).mono ?_; rintro r w8 ⟨s8, a8, c8, rfl, hs8, hown8, hc8, hgl8, hg8⟩; rw [HNL.out, trim_one _ HK.out HV.out] at hs8; (have hG8 : s8.G = [v.key] := by rw [hs8]); (have hL8 : s8.L = dropL v.key L := by rw [hs8]); rw [hG8] at hown8 ⊢; rw [hL8] at hc8; simp only [List.length_singleton] at hown8 ⊢; obtain ⟨g, hag, hBg, hgz, hg1, hg2⟩ := own_loc hown8 (by omega); subst hag; (have HGO := hid hown8); (have bG0 := (Rd.own hown8).at 0 _ rfl); (have bG1 := (Rd.own hown8).at 1 _ rfl); clear hs8 hown8 hG8 hL8 hgl8; (have BB8 := hid (BB7.out.trans (hg8.toBelow BB7.out.size (fun i hi h => by have := h.1; omega)))); (have HC8 := hid hc8); (have OW8 := hid (ownsRow_chg OW7.out (fun k hk hlt => hg8.block k hlt (fun h => by have := h.1; have := h.2; have := (own_lt OW7.out hk).1; omega)))); (have ON8 := hid (ownsRow_chg ON7.out (fun k hk hlt => hg8.block k hlt (fun h => by have := h.1; have := h.2; have := (own_lt ON7.out hk).1; omega)))); (have KK8 := hid (heap_chg hg8 KK7.out (fun h => by have := h.1; have := h.2; omega))); (have b_KK8 := blk2 KK8.out); clear b_KK7; (have hw8 := hg8.size); (have hl8 := hc8.lt); clear hc8 hg8)
      )
    have q0 := blk2 KK8.out
    have KR : w8.cell? ⟨w7.heap.size, 0, none⟩ = some (.int .i64 v.key.dir) ∧ w8.cell? ⟨w7.heap.size, 1, none⟩ = some (.string v.key.name) ∧ w8.cell? ⟨g, 0, none⟩ = some (.int .i64 v.key.dir) ∧ w8.cell? ⟨g, 1, none⟩ = some (.string v.key.name) := And.intro4 q0.1 q0.2.1 (by simpa using bG0) (by simpa using bG1)
    have KRd : w8.drew.cell? ⟨w7.heap.size, 0, none⟩ = some (.int .i64 v.key.dir) ∧ w8.drew.cell? ⟨w7.heap.size, 1, none⟩ = some (.string v.key.name) ∧ w8.drew.cell? ⟨g, 0, none⟩ = some (.int .i64 v.key.dir) ∧ w8.drew.cell? ⟨g, 1, none⟩ = some (.string v.key.name) := KR
    clear q0 bG0 bG1
    go_region_held3 (fun w' => w'.cell? ⟨w7.heap.size, 0, none⟩ = some (.int .i64 v.key.dir) ∧ w'.cell? ⟨w7.heap.size, 1, none⟩ = some (.string v.key.name) ∧ w'.cell? ⟨g, 0, none⟩ = some (.int .i64 v.key.dir) ∧ w'.cell? ⟨g, 1, none⟩ = some (.string v.key.name))
      (first | with_reducible exact KR | with_reducible exact KRd | with_reducible exact K9)
      (first
        | (go_at_call 34; refine (c_len _ _ _ _ _ _ HC8.out.drew).mono ?_; rintro r wy ⟨rfl, rfl⟩)
        | (go_at_call 43; refine (p_awake _).mono ?_; rintro r w9 ⟨rfl, hb9⟩; (have q0 := blk2 (heap_below hb9 KK8.out (blk_lt KK8.out))); (have g9 := Rd.own (own_below (own_drew HGO.out) hb9)); (have q1 := g9.at 0 _ rfl); (have q2 := g9.at 1 _ rfl); (have K9 : w9.cell? ⟨w7.heap.size, 0, none⟩ = some (.int .i64 v.key.dir) ∧ w9.cell? ⟨w7.heap.size, 1, none⟩ = some (.string v.key.name) ∧ w9.cell? ⟨g, 0, none⟩ = some (.int .i64 v.key.dir) ∧ w9.cell? ⟨g, 1, none⟩ = some (.string v.key.name) := And.intro4 q0.1 q0.2.1 (by simpa using q1) (by simpa using q2)); (have BB9 := hid (BB8.out.drew.trans (hb9.mono BB8.out.size))); clear hb9 q0 q1 q2 g9))
    all_goals
      go_wp2_with fail
      go_ret
      exact ⟨rfl, BB9.out⟩

end Go.Proofs.Ytmhogjecfgbchaa
