import Derived.Test.YtmhogjecfgbchaaPruneD
namespace Go.Proofs.Ytmhogjecfgbchaa
set_option linter.unusedVariables false
set_option linter.unusedSimpArgs false
open Go.RowKit
attribute [local go_sem ↓] Go.wp_at_zero Go.wp_at_succ

theorem And.intro4 {a b c d : Prop} (h1 : a) (h2 : b) (h3 : c) (h4 : d) : a ∧ b ∧ c ∧ d := ⟨h1, h2, h3, h4⟩
theorem vicP_true {L : List En} {y : En} : vicP true L y = y.neg := rfl
theorem vicP_false {L : List En} {y : En} : vicP false L y = leafL y.key L := rfl

set_option maxRecDepth 100000 in
set_option maxHeartbeats 4000000 in
theorem pruneVictims_walk (sa : Option Addr) (sc : Nat) (S : List Dop) (neg : Bool) (w : World) (hS : ScrD w (.slice sa S.length sc) S) (hz : S.length * 112 ≤ 140737488351232) (hkz : ∀ x ∈ S, x.ks.length * 24 ≤ 140737488351232) :
    Calls Try.prog 14 #[.slice sa S.length sc, .bool neg] w fun r w' => r = .returned (.bool true) ∧ Below w.heap.size w w' := by
  have HS := hid hS
  have HZ := hid hkz
  have BB0 := hid (Below.refl w.heap.size w)
  have hn80 : S.length * 80 ≤ 140737488351232 := by omega
  clear hS hkz
  cases neg with
  | false =>
    cases hv : vicL false (playE S) with
    | none =>
      have HV := hid hv
      have HVK := hid (show vicK false (playE S) = ⟨0, ByteArray.empty⟩ by simp [vicK, hv])
      have HNO := hid (List.find?_eq_none.1 hv)
      clear hv
      go_enter Try.func14, Try.ntmps14
      go_wp2_with (first
        | (go_at_call 31; refine (d_of' sa sc S _ HS.out hz HZ.out).mono ?_; rintro r w1 ⟨p, pr, wh, ws, rfl, hp, -, hc1, -, -, -, hb1⟩; (have BB1 := hid (BB0.out.trans (hb1.mono BB0.out.size))); (have HC1 := hid hc1); (have hL := hc1.len); (have HK := hid hc1.keys); (have hl1 := hc1.lt); (have hw1 := hb1.size); clear hc1 hb1)
        | (go_at_call 32; refine (c_entries _ _ p _ _ _ HC1.out (by omega)).mono ?_; rintro r w2 ⟨a2, c2, rfl, hown2, hb2⟩; (have BB2 := hid (BB1.out.trans (hb2.mono BB1.out.size))); (have HC2 := hid (HC1.out.below hb2)); (have OW2 := hid hown2); (have hw2 := hb2.size); clear hown2 hb2)
        | (go_at_call 45; refine (c_victim _ _ p _ _ _ false HC2.out hn80).mono ?_; rintro r w3 ⟨rfl, hb3⟩; rw [HVK.out, HV.out]; simp only [Option.isSome_none]; (have BB3 := hid (BB2.out.trans ((hb3.alloc hb3.size (.cells #[.int .i64 0, .string { data := #[] }] 26)).mono BB2.out.size))); (have HC3 := hid (HC2.out.below (hb3.alloc hb3.size (.cells #[.int .i64 0, .string { data := #[] }] 26)))); (have OW3 := hid (own_below OW2.out (hb3.alloc hb3.size (.cells #[.int .i64 0, .string { data := #[] }] 26)))); (have hw3 := hb3.size); (have KK3 := hid (heap_new w3 (.cells #[.int .i64 0, .string { data := #[] }] 26))); (have bKK3 := blk2 KK3.out); clear hb3)
        )
      go_loopw [11] (fun v11 wr => ∃ (i : Nat), i ≤ (playE S).length ∧ v11 = .int .i64 i ∧ Hid (Below (w3.alloc (.cells #[.int .i64 0, .string { data := #[] }] 26)).heap.size (w3.alloc (.cells #[.int .i64 0, .string { data := #[] }] 26)) wr) ∧ Hid (((playE S).take i).find? (vicP false (playE S)) = none)) (fun v11 _ => (playE S).length - (intOf v11).toNat)
      case atStart => exact ⟨0, Nat.zero_le _, rfl, hid (Below.refl _ _), hid (by simp)⟩
      case round =>
        obtain ⟨i, hi, rfl, HB, HN⟩ := hrel
        have BBr := hid (BB3.out.trans (HB.out.mono BB3.out.size))
        have HCr := hid (HC3.out.below HB.out)
        have KKr := hid (heap_below HB.out KK3.out (blk_lt KK3.out))
        clear bKK3
        by_cases hlt : i < (playE S).length
        · have hi0 : (0 : Int) ≤ (i : Int) := by omega
          have hi1 : (i : Int) < ((playE S).length : Int) := by omega
          have OWr := hid (own_below OW3.out HB.out)
          obtain ⟨g, hag, hBg, hgz, hg1, hg2⟩ := own_loc OWr.out (by omega)
          obtain ⟨y, hy⟩ : ∃ y, (playE S)[i]? = some y := ⟨_, List.getElem?_eq_getElem hlt⟩
          subst hag
          have b1 := ecs_at (Rd.own OWr.out) hy
          have htk : (playE S).take (i + 1) = (playE S).take i ++ [y] := by rw [List.take_add_one, hy]; rfl
          have HTK := hid htk
          have HY := hid hy
          clear hy htk
          have HP := hid (show leafL y.key (playE S) = false by have := HNO.out y (List.mem_of_getElem? HY.out); simpa [vicP] using this)
          have HF := hid (find_snoc_none HN.out (show vicP false (playE S) y = false from HP.out))
          go_wp2_with (go_at_call 35; refine (c_leaf _ _ _ _ _ _ y.key HCr.out).mono ?_; rintro r w4 ⟨rfl, hb4⟩; rw [HP.out]; (have HC4 := hid (HCr.out.below hb4)); (have OW4 := hid (own_below OWr.out hb4)); (have KK4 := hid (heap_below hb4 KKr.out (blk_lt KKr.out))); (have BB4 := hid (BBr.out.trans (hb4.mono BBr.out.size))); (have HB4 := hid (HB.out.trans (hb4.mono HB.out.size))); clear hb4)
          exact ⟨⟨i + 1, by omega, by go_num, HB4, hid (by rw [HTK.out]; exact HF.out)⟩, by simp [intOf]; omega⟩
        · rw [List.take_of_length_le (by omega)] at HN
          have q0 := blk2 KKr.out
          have heq := fun W => eqIn_key 0 0 { data := #[] } { data := #[] } W
          simp only [decide_true] at heq
          go_wp2_with (go_at_call 43; refine (p_awake _).mono ?_; rintro r w7 ⟨rfl, hb7⟩; (have BB7 := hid (BBr.out.trans (hb7.mono BBr.out.size))); clear hb7)
          go_ret
          exact ⟨rfl, BB7.out⟩
    | some v =>
      have HV := hid hv
      have HVK := hid (show vicK false (playE S) = v.key by simp [vicK, hv])
      clear hv
      go_enter Try.func14, Try.ntmps14
      go_wp2_with (first
        | (go_at_call 31; refine (d_of' sa sc S _ HS.out hz HZ.out).mono ?_; rintro r w1 ⟨p, pr, wh, ws, rfl, hp, -, hc1, -, -, -, hb1⟩; (have BB1 := hid (BB0.out.trans (hb1.mono BB0.out.size))); (have HC1 := hid hc1); (have hL := hc1.len); (have HK := hid hc1.keys); (have hl1 := hc1.lt); (have hw1 := hb1.size); clear hc1 hb1)
        | (go_at_call 32; refine (c_entries _ _ p _ _ _ HC1.out (by omega)).mono ?_; rintro r w2 ⟨a2, c2, rfl, hown2, hb2⟩; (have BB2 := hid (BB1.out.trans (hb2.mono BB1.out.size))); (have HC2 := hid (HC1.out.below hb2)); (have OW2 := hid hown2); (have hw2 := hb2.size); clear hown2 hb2)
        | (go_at_call 45; refine (c_victim _ _ p _ _ _ false HC2.out hn80).mono ?_; rintro r w3 ⟨rfl, hb3⟩; rw [HVK.out, HV.out]; simp only [Option.isSome_some]; (have BB3 := hid (BB2.out.trans ((hb3.alloc hb3.size (.cells #[.int .i64 v.key.dir, .string v.key.name] 26)).mono BB2.out.size))); (have HC3 := hid (HC2.out.below (hb3.alloc hb3.size (.cells #[.int .i64 v.key.dir, .string v.key.name] 26)))); (have OW3 := hid (own_below OW2.out (hb3.alloc hb3.size (.cells #[.int .i64 v.key.dir, .string v.key.name] 26)))); (have hw3 := hb3.size); (have KK3 := hid (heap_new w3 (.cells #[.int .i64 v.key.dir, .string v.key.name] 26))); (have bKK3 := blk2 KK3.out); clear hb3)
        )
      go_loopw [11] (fun v11 wr => ∃ (i : Nat), i ≤ (playE S).length ∧ v11 = .int .i64 i ∧ Hid (Below (w3.alloc (.cells #[.int .i64 v.key.dir, .string v.key.name] 26)).heap.size (w3.alloc (.cells #[.int .i64 v.key.dir, .string v.key.name] 26)) wr) ∧ Hid (((playE S).take i).find? (vicP false (playE S)) = none)) (fun v11 _ => (playE S).length - (intOf v11).toNat)
      case atStart => exact ⟨0, Nat.zero_le _, rfl, hid (Below.refl _ _), hid (by simp)⟩
      case round =>
        obtain ⟨i, hi, rfl, HB, HN⟩ := hrel
        have BBr := hid (BB3.out.trans (HB.out.mono BB3.out.size))
        have HCr := hid (HC3.out.below HB.out)
        have KKr := hid (heap_below HB.out KK3.out (blk_lt KK3.out))
        clear bKK3
        by_cases hlt : i < (playE S).length
        · have hi0 : (0 : Int) ≤ (i : Int) := by omega
          have hi1 : (i : Int) < ((playE S).length : Int) := by omega
          have OWr := hid (own_below OW3.out HB.out)
          obtain ⟨g, hag, hBg, hgz, hg1, hg2⟩ := own_loc OWr.out (by omega)
          obtain ⟨y, hy⟩ : ∃ y, (playE S)[i]? = some y := ⟨_, List.getElem?_eq_getElem hlt⟩
          subst hag
          have b1 := ecs_at (Rd.own OWr.out) hy
          have htk : (playE S).take (i + 1) = (playE S).take i ++ [y] := by rw [List.take_add_one, hy]; rfl
          have HTK := hid htk
          have HY := hid hy
          clear hy htk
          cases hp : leafL y.key (playE S) with
          | true =>
            have HP := hid hp
            clear hp
            have HF := hid (find_take HN.out HY.out (show vicP false (playE S) y = true from HP.out))
            have hvy : y = v := Option.some.inj (HF.out.symm.trans HV.out)
            subst hvy
            have heq := fun W => eqIn_key y.key.dir y.key.dir y.key.name y.key.name W
            simp only [decide_true] at heq
            go_wp2_with (go_at_call 35; refine (c_leaf _ _ _ _ _ _ y.key HCr.out).mono ?_; rintro r w4 ⟨rfl, hb4⟩; rw [HP.out]; (have HC4 := hid (HCr.out.below hb4)); (have OW4 := hid (own_below OWr.out hb4)); (have KK4 := hid (heap_below hb4 KKr.out (blk_lt KKr.out))); (have BB4 := hid (BBr.out.trans (hb4.mono BBr.out.size))); (have HB4 := hid (HB.out.trans (hb4.mono HB.out.size))); clear hb4)
            have q0 := blk2 KK4.out
            have q1 := ecs_at (Rd.own OW4.out) HY.out
            have KR := And.intro4 q0.1 q0.2.1 q1.1 q1.2.1
            have KRd : w4.drew.cell? ⟨w3.heap.size, 0, none⟩ = some (.int .i64 y.key.dir) ∧ w4.drew.cell? ⟨w3.heap.size, 1, none⟩ = some (.string y.key.name) ∧ w4.drew.cell? ⟨g, i * 7, none⟩ = some (.int .i64 y.key.dir) ∧ w4.drew.cell? ⟨g, i * 7 + 1, none⟩ = some (.string y.key.name) := KR
            clear q0 q1
            go_region_held3 (fun w' => w'.cell? ⟨w3.heap.size, 0, none⟩ = some (.int .i64 y.key.dir) ∧ w'.cell? ⟨w3.heap.size, 1, none⟩ = some (.string y.key.name) ∧ w'.cell? ⟨g, i * 7, none⟩ = some (.int .i64 y.key.dir) ∧ w'.cell? ⟨g, i * 7 + 1, none⟩ = some (.string y.key.name))
              (first | with_reducible exact KR | with_reducible exact KRd | with_reducible exact K5 | with_reducible exact K6 | with_reducible exact K7)
              (first
                | (go_at_call 32; refine (c_entries _ _ p _ _ _ HC4.out.drew hn80).mono ?_; rintro r w5 ⟨a5, c5, rfl, hown5, hb5⟩; (have OW5 := hid (own_below (own_drew OW4.out) hb5)); (have KK5 := hid (heap_below hb5 KK4.out (blk_lt KK4.out))); (have ON5 := hid hown5); (have BB5 := hid (BB4.out.drew.trans (hb5.mono BB4.out.size))); (have q0 := blk2 KK5.out); (have q1 := ecs_at (Rd.own OW5.out) HY.out); (have K5 := And.intro4 q0.1 q0.2.1 q1.1 q1.2.1); clear hown5 hb5 q0 q1)
                | (go_at_call 33; refine (same_entries _ (playE S) (playE S) _ _ _ _ (Rd.own ON5.out) (Rd.own OW5.out)).mono ?_; rintro r w6 ⟨rfl, hb6⟩; rw [decide_eq_true rfl]; (have OW6 := hid (own_below OW5.out hb6)); (have KK6 := hid (heap_below hb6 KK5.out (blk_lt KK5.out))); (have BB6 := hid (BB5.out.trans (hb6.mono BB5.out.size))); (have q0 := blk2 KK6.out); (have q1 := ecs_at (Rd.own OW6.out) HY.out); (have K6 := And.intro4 q0.1 q0.2.1 q1.1 q1.2.1); clear hb6 q0 q1)
                | (go_at_call 43; refine (p_awake _).mono ?_; rintro r w7 ⟨rfl, hb7⟩; (have q0 := blk2 (heap_below hb7 KK6.out (blk_lt KK6.out))); (have q1 := ecs_at (Rd.own (own_below OW6.out hb7)) HY.out); (have K7 := And.intro4 q0.1 q0.2.1 q1.1 q1.2.1); (have BB7 := hid (BB6.out.trans (hb7.mono BB6.out.size))); clear hb7 q0 q1))
            all_goals
              go_wp2_with fail
              go_ret
              exact ⟨rfl, BB7.out⟩
          | false =>
            have HP := hid hp
            clear hp
            have HF := hid (find_snoc_none HN.out (show vicP false (playE S) y = false from HP.out))
            go_wp2_with (go_at_call 35; refine (c_leaf _ _ _ _ _ _ y.key HCr.out).mono ?_; rintro r w4 ⟨rfl, hb4⟩; rw [HP.out]; (have HC4 := hid (HCr.out.below hb4)); (have OW4 := hid (own_below OWr.out hb4)); (have KK4 := hid (heap_below hb4 KKr.out (blk_lt KKr.out))); (have BB4 := hid (BBr.out.trans (hb4.mono BBr.out.size))); (have HB4 := hid (HB.out.trans (hb4.mono HB.out.size))); clear hb4)
            exact ⟨⟨i + 1, by omega, by go_num, HB4, hid (by rw [HTK.out]; exact HF.out)⟩, by simp [intOf]; omega⟩
        · rw [List.take_of_length_le (by omega)] at HN
          have h0 : vicL false (playE S) = none := HN.out
          rw [HV.out] at h0
          cases h0
  | true =>
    cases hv : vicL true (playE S) with
    | none =>
      have HV := hid hv
      have HVK := hid (show vicK true (playE S) = ⟨0, ByteArray.empty⟩ by simp [vicK, hv])
      have HNO := hid (List.find?_eq_none.1 hv)
      clear hv
      go_enter Try.func14, Try.ntmps14
      go_wp2_with (first
        | (go_at_call 31; refine (d_of' sa sc S _ HS.out hz HZ.out).mono ?_; rintro r w1 ⟨p, pr, wh, ws, rfl, hp, -, hc1, -, -, -, hb1⟩; (have BB1 := hid (BB0.out.trans (hb1.mono BB0.out.size))); (have HC1 := hid hc1); (have hL := hc1.len); (have HK := hid hc1.keys); (have hl1 := hc1.lt); (have hw1 := hb1.size); clear hc1 hb1)
        | (go_at_call 32; refine (c_entries _ _ p _ _ _ HC1.out (by omega)).mono ?_; rintro r w2 ⟨a2, c2, rfl, hown2, hb2⟩; (have BB2 := hid (BB1.out.trans (hb2.mono BB1.out.size))); (have HC2 := hid (HC1.out.below hb2)); (have OW2 := hid hown2); (have hw2 := hb2.size); clear hown2 hb2)
        | (go_at_call 45; refine (c_victim _ _ p _ _ _ true HC2.out hn80).mono ?_; rintro r w3 ⟨rfl, hb3⟩; rw [HVK.out, HV.out]; simp only [Option.isSome_none]; (have BB3 := hid (BB2.out.trans ((hb3.alloc hb3.size (.cells #[.int .i64 0, .string { data := #[] }] 26)).mono BB2.out.size))); (have HC3 := hid (HC2.out.below (hb3.alloc hb3.size (.cells #[.int .i64 0, .string { data := #[] }] 26)))); (have OW3 := hid (own_below OW2.out (hb3.alloc hb3.size (.cells #[.int .i64 0, .string { data := #[] }] 26)))); (have hw3 := hb3.size); (have KK3 := hid (heap_new w3 (.cells #[.int .i64 0, .string { data := #[] }] 26))); (have bKK3 := blk2 KK3.out); clear hb3)
        )
      go_loopw [11] (fun v11 wr => ∃ (i : Nat), i ≤ (playE S).length ∧ v11 = .int .i64 i ∧ Hid (Below (w3.alloc (.cells #[.int .i64 0, .string { data := #[] }] 26)).heap.size (w3.alloc (.cells #[.int .i64 0, .string { data := #[] }] 26)) wr) ∧ Hid (((playE S).take i).find? (vicP true (playE S)) = none)) (fun v11 _ => (playE S).length - (intOf v11).toNat)
      case atStart => exact ⟨0, Nat.zero_le _, rfl, hid (Below.refl _ _), hid (by simp)⟩
      case round =>
        obtain ⟨i, hi, rfl, HB, HN⟩ := hrel
        have BBr := hid (BB3.out.trans (HB.out.mono BB3.out.size))
        have HCr := hid (HC3.out.below HB.out)
        have KKr := hid (heap_below HB.out KK3.out (blk_lt KK3.out))
        clear bKK3
        by_cases hlt : i < (playE S).length
        · have hi0 : (0 : Int) ≤ (i : Int) := by omega
          have hi1 : (i : Int) < ((playE S).length : Int) := by omega
          have OWr := hid (own_below OW3.out HB.out)
          obtain ⟨g, hag, hBg, hgz, hg1, hg2⟩ := own_loc OWr.out (by omega)
          obtain ⟨y, hy⟩ : ∃ y, (playE S)[i]? = some y := ⟨_, List.getElem?_eq_getElem hlt⟩
          subst hag
          have b1 := ecs_at (Rd.own OWr.out) hy
          have htk : (playE S).take (i + 1) = (playE S).take i ++ [y] := by rw [List.take_add_one, hy]; rfl
          have HTK := hid htk
          have HY := hid hy
          clear hy htk
          have HP := hid (show y.neg = false by have := HNO.out y (List.mem_of_getElem? HY.out); simpa [vicP] using this)
          have HF := hid (find_snoc_none HN.out (show vicP true (playE S) y = false from HP.out))
          have b2 : wr.cell? ⟨g, i * 7 + 2, none⟩ = some (.bool false) := by rw [← HP.out]; exact b1.2.2.1
          clear b1
          go_wp2
          exact ⟨⟨i + 1, by omega, by go_num, HB, hid (by rw [HTK.out]; exact HF.out)⟩, by simp [intOf]; omega⟩
        · rw [List.take_of_length_le (by omega)] at HN
          have q0 := blk2 KKr.out
          have heq := fun W => eqIn_key 0 0 { data := #[] } { data := #[] } W
          simp only [decide_true] at heq
          go_wp2_with (go_at_call 43; refine (p_awake _).mono ?_; rintro r w7 ⟨rfl, hb7⟩; (have BB7 := hid (BBr.out.trans (hb7.mono BBr.out.size))); clear hb7)
          go_ret
          exact ⟨rfl, BB7.out⟩
    | some v =>
      have HV := hid hv
      have HVK := hid (show vicK true (playE S) = v.key by simp [vicK, hv])
      clear hv
      go_enter Try.func14, Try.ntmps14
      go_wp2_with (first
        | (go_at_call 31; refine (d_of' sa sc S _ HS.out hz HZ.out).mono ?_; rintro r w1 ⟨p, pr, wh, ws, rfl, hp, -, hc1, -, -, -, hb1⟩; (have BB1 := hid (BB0.out.trans (hb1.mono BB0.out.size))); (have HC1 := hid hc1); (have hL := hc1.len); (have HK := hid hc1.keys); (have hl1 := hc1.lt); (have hw1 := hb1.size); clear hc1 hb1)
        | (go_at_call 32; refine (c_entries _ _ p _ _ _ HC1.out (by omega)).mono ?_; rintro r w2 ⟨a2, c2, rfl, hown2, hb2⟩; (have BB2 := hid (BB1.out.trans (hb2.mono BB1.out.size))); (have HC2 := hid (HC1.out.below hb2)); (have OW2 := hid hown2); (have hw2 := hb2.size); clear hown2 hb2)
        | (go_at_call 45; refine (c_victim _ _ p _ _ _ true HC2.out hn80).mono ?_; rintro r w3 ⟨rfl, hb3⟩; rw [HVK.out, HV.out]; simp only [Option.isSome_some]; (have BB3 := hid (BB2.out.trans ((hb3.alloc hb3.size (.cells #[.int .i64 v.key.dir, .string v.key.name] 26)).mono BB2.out.size))); (have HC3 := hid (HC2.out.below (hb3.alloc hb3.size (.cells #[.int .i64 v.key.dir, .string v.key.name] 26)))); (have OW3 := hid (own_below OW2.out (hb3.alloc hb3.size (.cells #[.int .i64 v.key.dir, .string v.key.name] 26)))); (have hw3 := hb3.size); (have KK3 := hid (heap_new w3 (.cells #[.int .i64 v.key.dir, .string v.key.name] 26))); (have bKK3 := blk2 KK3.out); clear hb3)
        )
      go_loopw [11] (fun v11 wr => ∃ (i : Nat), i ≤ (playE S).length ∧ v11 = .int .i64 i ∧ Hid (Below (w3.alloc (.cells #[.int .i64 v.key.dir, .string v.key.name] 26)).heap.size (w3.alloc (.cells #[.int .i64 v.key.dir, .string v.key.name] 26)) wr) ∧ Hid (((playE S).take i).find? (vicP true (playE S)) = none)) (fun v11 _ => (playE S).length - (intOf v11).toNat)
      case atStart => exact ⟨0, Nat.zero_le _, rfl, hid (Below.refl _ _), hid (by simp)⟩
      case round =>
        obtain ⟨i, hi, rfl, HB, HN⟩ := hrel
        have BBr := hid (BB3.out.trans (HB.out.mono BB3.out.size))
        have HCr := hid (HC3.out.below HB.out)
        have KKr := hid (heap_below HB.out KK3.out (blk_lt KK3.out))
        clear bKK3
        by_cases hlt : i < (playE S).length
        · have hi0 : (0 : Int) ≤ (i : Int) := by omega
          have hi1 : (i : Int) < ((playE S).length : Int) := by omega
          have OWr := hid (own_below OW3.out HB.out)
          obtain ⟨g, hag, hBg, hgz, hg1, hg2⟩ := own_loc OWr.out (by omega)
          obtain ⟨y, hy⟩ : ∃ y, (playE S)[i]? = some y := ⟨_, List.getElem?_eq_getElem hlt⟩
          subst hag
          have b1 := ecs_at (Rd.own OWr.out) hy
          have htk : (playE S).take (i + 1) = (playE S).take i ++ [y] := by rw [List.take_add_one, hy]; rfl
          have HTK := hid htk
          have HY := hid hy
          clear hy htk
          cases hp : y.neg with
          | true =>
            have HP := hid hp
            clear hp
            have HF := hid (find_take HN.out HY.out (show vicP true (playE S) y = true from HP.out))
            have hvy : y = v := Option.some.inj (HF.out.symm.trans HV.out)
            subst hvy
            have b2 : wr.cell? ⟨g, i * 7 + 2, none⟩ = some (.bool true) := by rw [← HP.out]; exact b1.2.2.1
            clear b1
            have heq := fun W => eqIn_key y.key.dir y.key.dir y.key.name y.key.name W
            simp only [decide_true] at heq
            go_wp2_with fail
            have q0 := blk2 KKr.out
            have q1 := ecs_at (Rd.own OWr.out) HY.out
            have KR := And.intro4 q0.1 q0.2.1 q1.1 q1.2.1
            have KRd : wr.drew.cell? ⟨w3.heap.size, 0, none⟩ = some (.int .i64 y.key.dir) ∧ wr.drew.cell? ⟨w3.heap.size, 1, none⟩ = some (.string y.key.name) ∧ wr.drew.cell? ⟨g, i * 7, none⟩ = some (.int .i64 y.key.dir) ∧ wr.drew.cell? ⟨g, i * 7 + 1, none⟩ = some (.string y.key.name) := KR
            clear q0 q1
            go_region_held3 (fun w' => w'.cell? ⟨w3.heap.size, 0, none⟩ = some (.int .i64 y.key.dir) ∧ w'.cell? ⟨w3.heap.size, 1, none⟩ = some (.string y.key.name) ∧ w'.cell? ⟨g, i * 7, none⟩ = some (.int .i64 y.key.dir) ∧ w'.cell? ⟨g, i * 7 + 1, none⟩ = some (.string y.key.name))
              (first | with_reducible exact KR | with_reducible exact KRd | with_reducible exact K5 | with_reducible exact K6 | with_reducible exact K7)
              (first
                | (go_at_call 32; refine (c_entries _ _ p _ _ _ HCr.out.drew hn80).mono ?_; rintro r w5 ⟨a5, c5, rfl, hown5, hb5⟩; (have OW5 := hid (own_below (own_drew OWr.out) hb5)); (have KK5 := hid (heap_below hb5 KKr.out (blk_lt KKr.out))); (have ON5 := hid hown5); (have BB5 := hid (BBr.out.drew.trans (hb5.mono BBr.out.size))); (have q0 := blk2 KK5.out); (have q1 := ecs_at (Rd.own OW5.out) HY.out); (have K5 := And.intro4 q0.1 q0.2.1 q1.1 q1.2.1); clear hown5 hb5 q0 q1)
                | (go_at_call 33; refine (same_entries _ (playE S) (playE S) _ _ _ _ (Rd.own ON5.out) (Rd.own OW5.out)).mono ?_; rintro r w6 ⟨rfl, hb6⟩; rw [decide_eq_true rfl]; (have OW6 := hid (own_below OW5.out hb6)); (have KK6 := hid (heap_below hb6 KK5.out (blk_lt KK5.out))); (have BB6 := hid (BB5.out.trans (hb6.mono BB5.out.size))); (have q0 := blk2 KK6.out); (have q1 := ecs_at (Rd.own OW6.out) HY.out); (have K6 := And.intro4 q0.1 q0.2.1 q1.1 q1.2.1); clear hb6 q0 q1)
                | (go_at_call 43; refine (p_awake _).mono ?_; rintro r w7 ⟨rfl, hb7⟩; (have q0 := blk2 (heap_below hb7 KK6.out (blk_lt KK6.out))); (have q1 := ecs_at (Rd.own (own_below OW6.out hb7)) HY.out); (have K7 := And.intro4 q0.1 q0.2.1 q1.1 q1.2.1); (have BB7 := hid (BB6.out.trans (hb7.mono BB6.out.size))); clear hb7 q0 q1))
            all_goals
              go_wp2_with fail
              go_ret
              exact ⟨rfl, BB7.out⟩
          | false =>
            have HP := hid hp
            clear hp
            have HF := hid (find_snoc_none HN.out (show vicP true (playE S) y = false from HP.out))
            have b2 : wr.cell? ⟨g, i * 7 + 2, none⟩ = some (.bool false) := by rw [← HP.out]; exact b1.2.2.1
            clear b1
            go_wp2
            exact ⟨⟨i + 1, by omega, by go_num, HB, hid (by rw [HTK.out]; exact HF.out)⟩, by simp [intOf]; omega⟩
        · rw [List.take_of_length_le (by omega)] at HN
          have h0 : vicL true (playE S) = none := HN.out
          rw [HV.out] at h0
          cases h0

end Go.Proofs.Ytmhogjecfgbchaa
