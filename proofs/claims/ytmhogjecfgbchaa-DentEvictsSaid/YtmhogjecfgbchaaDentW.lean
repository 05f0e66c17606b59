import Derived.Test.YtmhogjecfgbchaaDentV
namespace Go.Proofs.Ytmhogjecfgbchaa
set_option linter.unusedVariables false
set_option linter.unusedSimpArgs false
open Go.RowKit
attribute [local go_sem ↓] Go.wp_at_zero Go.wp_at_succ

theorem evw_none {k : Ky} {L : List En} {wh : Int → Bool} (hf : findL k L = none) : evictWh k L (fun d' => wh d' || k.dir == d') k.dir = true := by simp [evictWh, hf]
theorem evw_some {k : Ky} {y : En} {L : List En} {wh : Int → Bool} (hf : findL k L = some y) : evictWh k L (fun d' => wh d' || k.dir == d') k.dir = y.neg := by simp [evictWh, hf]

set_option maxRecDepth 100000 in
set_option maxHeartbeats 4000000 in
theorem dentEvicts_walk (sa : Option Addr) (sc : Nat) (S : List Dop) (k0 : Ky) (w : World) (hS : ScrD w (.slice sa S.length sc) S) (hz : S.length * 112 ≤ 140737488351232) (hkz : ∀ x ∈ S, x.ks.length * 24 ≤ 140737488351232) :
    Calls Try.prog 6 #[.slice sa S.length sc, .agg #[.int .i64 k0.dir, .string k0.name]] w fun r w' => r = .returned (.bool true) ∧ Below w.heap.size w w' := by
  have HS := hid (hS.below (bl1 w (.cells #[.int .i64 k0.dir, .string k0.name] 26)))
  have HZ := hid hkz
  have KB0 := hid (heap_new w (.cells #[.int .i64 k0.dir, .string k0.name] 26))
  have BB0 := hid (bl1 w (.cells #[.int .i64 k0.dir, .string k0.name] 26))
  have hB0 : (w.alloc (.cells #[.int .i64 k0.dir, .string k0.name] 26)).heap.size = w.heap.size + 1 := by simp
  have b_KB0 := blk2 KB0.out
  obtain ⟨i7, hi7, p7, q7, r7⟩ := info_parts infoEn
  have HI7 := hid hi7
  have hDl := dropL_le k0 (playE S)
  clear hS hkz hi7
  cases hf : findL k0 (playE S) with
  | none =>
    have hge : getE k0 (playE S) = zeroE := by simp [getE, hf]
    go_enter Try.func6, Try.ntmps6
    go_wp2_with (first
      | (go_at_call 31; refine (d_of' sa sc S _ HS.out hz HZ.out).mono ?_; rintro r w1 ⟨p, pr, wh, ws, rfl, hp, -, hc1, -, -, -, hb1⟩; (have KB1 := hid (heap_below hb1 KB0.out (blk_lt KB0.out))); (have b_KB1 := blk2 KB1.out); (have BB1 := hid (BB0.out.trans (hb1.mono BB0.out.size))); clear b_KB0; (have HC1 := hid hc1); (have hL := hc1.len); (have HK := hid hc1.keys); (have hl1 := hc1.lt); (have hw1 := hb1.size); clear hc1 hb1)
      | (go_at_call 28; refine (c_setwhole _ _ p _ _ _ k0.dir HC1.out).mono ?_; rintro r w2 ⟨rfl, hc2, hg2⟩; (have KB2 := hid (heap_chg hg2 KB1.out (fun h => by have := h.1; have := h.2; omega))); (have b_KB2 := blk2 KB2.out); (have BB2 := hid (BB1.out.trans (hg2.toBelow BB1.out.size (fun i hi h => by have := h.1; omega)))); (have HC2 := hid hc2); clear b_KB1; (have hw2 := hg2.size); (have hl2 := hc2.lt); clear hc2 hg2)
      | (go_at_call 32; refine (c_entries _ _ p _ _ _ HC2.out (by omega)).mono ?_; rintro r w3 ⟨a3, c3, rfl, hown3, hb3⟩; (have KB3 := hid (heap_below hb3 KB2.out (blk_lt KB2.out))); (have b_KB3 := blk2 KB3.out); (have BB3 := hid (BB2.out.trans (hb3.mono BB2.out.size))); (have HC3 := hid (HC2.out.below hb3)); clear b_KB2; (have OW3 := hid hown3); (have hw3 := hb3.size); clear hown3 hb3)
      | (go_at_call 26; refine (c_get _ _ p _ _ _ k0 HC3.out).mono ?_; rintro r w4 ⟨rfl, hb4⟩; rw [hge, hf]; rw [zev]; simp only [Option.isSome_none]; (have KB4 := hid (heap_below (hb4.alloc hb4.size (.cells #[.int .i64 0, .string { data := #[] }, .bool false, .int .i64 0, .int .i64 0, .int .i64 0, .string { data := #[] }] 30)) KB3.out (blk_lt KB3.out))); (have b_KB4 := blk2 KB4.out); (have BB4 := hid (BB3.out.trans ((hb4.alloc hb4.size (.cells #[.int .i64 0, .string { data := #[] }, .bool false, .int .i64 0, .int .i64 0, .int .i64 0, .string { data := #[] }] 30)).mono BB3.out.size))); (have HC4 := hid (HC3.out.below (hb4.alloc hb4.size (.cells #[.int .i64 0, .string { data := #[] }, .bool false, .int .i64 0, .int .i64 0, .int .i64 0, .string { data := #[] }] 30)))); (have OW4 := hid (own_below OW3.out (hb4.alloc hb4.size (.cells #[.int .i64 0, .string { data := #[] }, .bool false, .int .i64 0, .int .i64 0, .int .i64 0, .string { data := #[] }] 30)))); clear b_KB3; (have hw4 := hb4.size); clear hb4)
      | (go_at_call 27; refine (c_evict _ _ p _ _ _ k0 HC4.out).mono ?_; rintro r w5 ⟨rfl, hc5, hg5⟩; rw [hf]; simp only [Option.isSome_none]; (have KB5 := hid (heap_chg hg5 KB4.out (fun h => by have := h.1; have := h.2; omega))); (have b_KB5 := blk2 KB5.out); (have BB5 := hid (BB4.out.trans (hg5.toBelow BB4.out.size (fun i hi h => by have := h.1; omega)))); (have HC5 := hid hc5); (have OW5 := hid (ownsRow_chg OW4.out (fun k hk hlt => hg5.block k hlt (fun h => by have := h.1; have := h.2; have := (own_lt OW4.out hk).1; omega)))); clear b_KB4; (have hw5 := hg5.size); (have hl5 := hc5.lt); clear hc5 hg5)
      )
    go_loopw [11, 12] (fun vl vi wr => ∃ (i : Nat) (a5 : Option Addr) (c5 : Nat), i ≤ (playE S).length ∧ vi = .int .i64 i ∧ vl = .slice a5 (dropL k0 ((playE S).take i)).length c5 ∧ Hid (Below w5.heap.size w5 wr) ∧ Hid (wr.ownsRow w5.heap.size 30 7 (.slice a5 (dropL k0 ((playE S).take i)).length c5) (dropL k0 ((playE S).take i)).length (ecs (dropL k0 ((playE S).take i))))) (fun _ vi _ => (playE S).length - (intOf vi).toNat)
    case atStart => exact ⟨0, none, 0, Nat.zero_le _, rfl, rfl, hid (Below.refl _ _), hid (World.ownsRow_nil _ _ _ _)⟩
    case round =>
      obtain ⟨i, a5, c5, hi, rfl, rfl, HB, HO⟩ := hrel
      have hzz := HB.out.size
      have KBr := hid (heap_below HB.out KB5.out (blk_lt KB5.out))
      have hpl : (dropL k0 ((playE S).take i)).length ≤ i := Nat.le_trans (dropL_le _ _) (by simp; omega)
      by_cases hlt : i < (playE S).length
      · have b_KBr := blk2 KBr.out
        have hi0 : (0 : Int) ≤ (i : Int) := by omega
        have hi1 : (i : Int) < ((playE S).length : Int) := by omega
        have OWr := hid (own_below OW5.out HB.out)
        obtain ⟨g, hag, hBg, hgz, hc1, hc2⟩ := own_loc OWr.out (by omega)
        obtain ⟨y, hy⟩ : ∃ y, (playE S)[i]? = some y := ⟨_, List.getElem?_eq_getElem hlt⟩
        subst hag
        have b1 := ecs_at (Rd.own OWr.out) hy
        have htk : (playE S).take (i + 1) = (playE S).take i ++ [y] := by rw [List.take_add_one, hy]; rfl
        have HTK := hid htk
        have heq := fun W => eqIn_key y.key.dir k0.dir y.key.name k0.name W
        clear hy htk
        by_cases hk : y.key = k0
        · rw [show decide ((⟨y.key.dir, y.key.name⟩ : Ky) = ⟨k0.dir, k0.name⟩) = true by rw [hk]; simp] at heq
          have HF := hid (dropL_yes (L := (playE S).take i) (show isK k0 y = true by simp [isK, hk]))
          clear hk
          go_wp2_with fail
          go_quiet (fail)
          go_wp2
          exact ⟨⟨i + 1, a5, c5, by omega, by go_num, by rw [HTK.out, HF.out], hid (below_drewN HB.out _), hid (by rw [HTK.out, HF.out]; exact own_drewN HO.out _)⟩, by simp [intOf]; omega⟩
        · have hne : ¬ ((⟨y.key.dir, y.key.name⟩ : Ky) = ⟨k0.dir, k0.name⟩) := hk
          simp only [hne, decide_false] at heq
          have HF := hid (dropL_no (L := (playE S).take i) (show isK k0 y = false by simp [isK]; exact fun e => hk e.symm))
          clear hk hne
          go_wp2_with fail
          go_quiet (fail)
          go_wp2_with (at_builtin; refine wpList_append_rd rfl _ _ 49 rfl w5.heap.size 30 i7 _ 7 72 Try.underlying49 HI7.out p7 q7 r7 rfl (by decide) (.slice a5 (dropL k0 ((playE S).take i)).length c5) (dropL k0 ((playE S).take i)).length (ecs (dropL k0 ((playE S).take i))) rfl (own_alloc (own_drewN HO.out nq) _) (.slice (some ⟨wr.heap.size, 0, none⟩) 1 1) 1 [.int .i64 y.key.dir, .string y.key.name, .bool y.neg, .int .i64 y.node.id, .int .i64 y.node.kind, .int .i64 y.node.mode, .string y.node.target] rfl (rd_blk (by have e := heap_new (wr.drewN nq) (.cells #[.int .i64 y.key.dir, .string y.key.name, .bool y.neg, .int .i64 y.node.id, .int .i64 y.node.kind, .int .i64 y.node.mode, .string y.node.target] 30); exact e) (by unfold maxLen; omega)) rfl (En.one y) (by unfold maxLen; omega) (by omega) (Nat.le_trans hzz (by simp)) ?_; intro a6 c6 w6 hown6 hgrow6 hat6)
          refine ⟨⟨i + 1, a6, c6, by omega, by go_num, by rw [HTK.out, HF.out, List.length_append]; rfl, hid ?_, hid (by rw [HTK.out, HF.out, ecs_snoc, List.length_append]; exact hown6)⟩, by simp [intOf]; omega⟩
          exact ((below_drewN HB.out nq).alloc hzz _).grown hgrow6 (Nat.le_trans hzz (by simp)) (fun k hk => (own_lt HO.out hk).1)
      · have hje : (playE S).take i = playE S := List.take_of_length_le (by omega)
        rw [hje] at HO ⊢
        clear hje
        (have KB6 := hid (heap_below HB.out KB5.out (blk_lt KB5.out)))
        (have b_KB6 := blk2 KB6.out)
        (have BB6 := hid (BB5.out.trans (HB.out.mono BB5.out.size)))
        (have HC6 := hid (HC5.out.below HB.out))
        (have OW6 := hid (own_below OW5.out HB.out))
        have OL6 := HO
        go_wp2_with (first
          | (go_at_call 29; refine (c_whole _ _ _ _ _ _ k0.dir HC6.out).mono ?_; rintro r w7 ⟨rfl, rfl⟩; rw [evw_none hf])
          | (go_at_call 32; refine (c_entries _ _ p _ _ _ HC6.out (by omega)).mono ?_; rintro r w7 ⟨a7, c7, rfl, hown7, hb7⟩; (have KB7 := hid (heap_below hb7 KB6.out (blk_lt KB6.out))); (have b_KB7 := blk2 KB7.out); (have BB7 := hid (BB6.out.trans (hb7.mono BB6.out.size))); (have HC7 := hid (HC6.out.below hb7)); (have OW7 := hid (own_below OW6.out hb7)); (have OL7 := hid (own_below OL6.out hb7)); clear b_KB6; (have ON7 := hid hown7); (have hw7 := hb7.size); clear hown7 hb7)
          | (go_at_call 33; refine (same_entries _ _ _ _ _ _ _ (Rd.own ON7.out) (Rd.own OL7.out)).mono ?_; rintro r w8 ⟨rfl, hb8⟩; rw [decide_eq_true rfl]; (have KB8 := hid (heap_below hb8 KB7.out (blk_lt KB7.out))); (have b_KB8 := blk2 KB8.out); (have BB8 := hid (BB7.out.trans (hb8.mono BB7.out.size))); (have HC8 := hid (HC7.out.below hb8)); (have OW8 := hid (own_below OW7.out hb8)); (have OL8 := hid (own_below OL7.out hb8)); (have ON8 := hid (own_below ON7.out hb8)); clear b_KB7; clear hb8)
          | (go_at_call 27; refine (c_evict _ _ p _ _ _ k0 HC8.out).mono ?_; rintro r w9 ⟨rfl, hc9, hg9⟩; rw [find_drop]; simp only [Option.isSome_none]; (have KB9 := hid (heap_chg hg9 KB8.out (fun h => by have := h.1; have := h.2; omega))); (have b_KB9 := blk2 KB9.out); (have BB9 := hid (BB8.out.trans (hg9.toBelow BB8.out.size (fun i hi h => by have := h.1; omega)))); (have HC9 := hid hc9); (have OW9 := hid (ownsRow_chg OW8.out (fun k hk hlt => hg9.block k hlt (fun h => by have := h.1; have := h.2; have := (own_lt OW8.out hk).1; omega)))); (have OL9 := hid (ownsRow_chg OL8.out (fun k hk hlt => hg9.block k hlt (fun h => by have := h.1; have := h.2; have := (own_lt OL8.out hk).1; omega)))); (have ON9 := hid (ownsRow_chg ON8.out (fun k hk hlt => hg9.block k hlt (fun h => by have := h.1; have := h.2; have := (own_lt ON8.out hk).1; omega)))); clear b_KB8; (have hw9 := hg9.size); (have hl9 := hc9.lt); clear hc9 hg9)
          | (go_at_call 30; refine (d_awake _).mono ?_; rintro r w10 ⟨rfl, hb10⟩; (have KB10 := hid (heap_below hb10 KB9.out (blk_lt KB9.out))); (have b_KB10 := blk2 KB10.out); (have BB10 := hid (BB9.out.trans (hb10.mono BB9.out.size))); (have HC10 := hid (HC9.out.below hb10)); (have OW10 := hid (own_below OW9.out hb10)); (have OL10 := hid (own_below OL9.out hb10)); (have ON10 := hid (own_below ON9.out hb10)); clear b_KB9; clear hb10)
          )
        go_ret
        exact ⟨rfl, BB10.out⟩
  | some y =>
    have hge : getE k0 (playE S) = y := by simp [getE, hf]
    go_enter Try.func6, Try.ntmps6
    go_wp2_with (first
      | (go_at_call 31; refine (d_of' sa sc S _ HS.out hz HZ.out).mono ?_; rintro r w1 ⟨p, pr, wh, ws, rfl, hp, -, hc1, -, -, -, hb1⟩; (have KB1 := hid (heap_below hb1 KB0.out (blk_lt KB0.out))); (have b_KB1 := blk2 KB1.out); (have BB1 := hid (BB0.out.trans (hb1.mono BB0.out.size))); clear b_KB0; (have HC1 := hid hc1); (have hL := hc1.len); (have HK := hid hc1.keys); (have hl1 := hc1.lt); (have hw1 := hb1.size); clear hc1 hb1)
      | (go_at_call 28; refine (c_setwhole _ _ p _ _ _ k0.dir HC1.out).mono ?_; rintro r w2 ⟨rfl, hc2, hg2⟩; (have KB2 := hid (heap_chg hg2 KB1.out (fun h => by have := h.1; have := h.2; omega))); (have b_KB2 := blk2 KB2.out); (have BB2 := hid (BB1.out.trans (hg2.toBelow BB1.out.size (fun i hi h => by have := h.1; omega)))); (have HC2 := hid hc2); clear b_KB1; (have hw2 := hg2.size); (have hl2 := hc2.lt); clear hc2 hg2)
      | (go_at_call 32; refine (c_entries _ _ p _ _ _ HC2.out (by omega)).mono ?_; rintro r w3 ⟨a3, c3, rfl, hown3, hb3⟩; (have KB3 := hid (heap_below hb3 KB2.out (blk_lt KB2.out))); (have b_KB3 := blk2 KB3.out); (have BB3 := hid (BB2.out.trans (hb3.mono BB2.out.size))); (have HC3 := hid (HC2.out.below hb3)); clear b_KB2; (have OW3 := hid hown3); (have hw3 := hb3.size); clear hown3 hb3)
      | (go_at_call 26; refine (c_get _ _ p _ _ _ k0 HC3.out).mono ?_; rintro r w4 ⟨rfl, hb4⟩; rw [hge, hf]; simp only [Option.isSome_some]; unfold En.v; (have KB4 := hid (heap_below (hb4.alloc hb4.size (.cells #[.int .i64 y.key.dir, .string y.key.name, .bool y.neg, .int .i64 y.node.id, .int .i64 y.node.kind, .int .i64 y.node.mode, .string y.node.target] 30)) KB3.out (blk_lt KB3.out))); (have b_KB4 := blk2 KB4.out); (have BB4 := hid (BB3.out.trans ((hb4.alloc hb4.size (.cells #[.int .i64 y.key.dir, .string y.key.name, .bool y.neg, .int .i64 y.node.id, .int .i64 y.node.kind, .int .i64 y.node.mode, .string y.node.target] 30)).mono BB3.out.size))); (have HC4 := hid (HC3.out.below (hb4.alloc hb4.size (.cells #[.int .i64 y.key.dir, .string y.key.name, .bool y.neg, .int .i64 y.node.id, .int .i64 y.node.kind, .int .i64 y.node.mode, .string y.node.target] 30)))); (have OW4 := hid (own_below OW3.out (hb4.alloc hb4.size (.cells #[.int .i64 y.key.dir, .string y.key.name, .bool y.neg, .int .i64 y.node.id, .int .i64 y.node.kind, .int .i64 y.node.mode, .string y.node.target] 30)))); clear b_KB3; (have hw4 := hb4.size); (have KE4 := hid (heap_new w4 (.cells #[.int .i64 y.key.dir, .string y.key.name, .bool y.neg, .int .i64 y.node.id, .int .i64 y.node.kind, .int .i64 y.node.mode, .string y.node.target] 30))); (have b_KE4 := blk7 KE4.out); clear hb4)
      | (go_at_call 27; refine (c_evict _ _ p _ _ _ k0 HC4.out).mono ?_; rintro r w5 ⟨rfl, hc5, hg5⟩; rw [hf]; simp only [Option.isSome_some]; (have KB5 := hid (heap_chg hg5 KB4.out (fun h => by have := h.1; have := h.2; omega))); (have b_KB5 := blk2 KB5.out); (have BB5 := hid (BB4.out.trans (hg5.toBelow BB4.out.size (fun i hi h => by have := h.1; omega)))); (have HC5 := hid hc5); (have OW5 := hid (ownsRow_chg OW4.out (fun k hk hlt => hg5.block k hlt (fun h => by have := h.1; have := h.2; have := (own_lt OW4.out hk).1; omega)))); (have KE5 := hid (heap_chg hg5 KE4.out (fun h => by have := h.1; have := h.2; omega))); (have b_KE5 := blk7 KE5.out); clear b_KB4 b_KE4; (have hw5 := hg5.size); (have hl5 := hc5.lt); clear hc5 hg5)
      )
    go_loopw [11, 12] (fun vl vi wr => ∃ (i : Nat) (a5 : Option Addr) (c5 : Nat), i ≤ (playE S).length ∧ vi = .int .i64 i ∧ vl = .slice a5 (dropL k0 ((playE S).take i)).length c5 ∧ Hid (Below w5.heap.size w5 wr) ∧ Hid (wr.ownsRow w5.heap.size 30 7 (.slice a5 (dropL k0 ((playE S).take i)).length c5) (dropL k0 ((playE S).take i)).length (ecs (dropL k0 ((playE S).take i))))) (fun _ vi _ => (playE S).length - (intOf vi).toNat)
    case atStart => exact ⟨0, none, 0, Nat.zero_le _, rfl, rfl, hid (Below.refl _ _), hid (World.ownsRow_nil _ _ _ _)⟩
    case round =>
      obtain ⟨i, a5, c5, hi, rfl, rfl, HB, HO⟩ := hrel
      have hzz := HB.out.size
      have KBr := hid (heap_below HB.out KB5.out (blk_lt KB5.out))
      have hpl : (dropL k0 ((playE S).take i)).length ≤ i := Nat.le_trans (dropL_le _ _) (by simp; omega)
      by_cases hlt : i < (playE S).length
      · have b_KBr := blk2 KBr.out
        have hi0 : (0 : Int) ≤ (i : Int) := by omega
        have hi1 : (i : Int) < ((playE S).length : Int) := by omega
        have OWr := hid (own_below OW5.out HB.out)
        obtain ⟨g, hag, hBg, hgz, hc1, hc2⟩ := own_loc OWr.out (by omega)
        obtain ⟨y, hy⟩ : ∃ y, (playE S)[i]? = some y := ⟨_, List.getElem?_eq_getElem hlt⟩
        subst hag
        have b1 := ecs_at (Rd.own OWr.out) hy
        have htk : (playE S).take (i + 1) = (playE S).take i ++ [y] := by rw [List.take_add_one, hy]; rfl
        have HTK := hid htk
        have heq := fun W => eqIn_key y.key.dir k0.dir y.key.name k0.name W
        clear hy htk
        by_cases hk : y.key = k0
        · rw [show decide ((⟨y.key.dir, y.key.name⟩ : Ky) = ⟨k0.dir, k0.name⟩) = true by rw [hk]; simp] at heq
          have HF := hid (dropL_yes (L := (playE S).take i) (show isK k0 y = true by simp [isK, hk]))
          clear hk
          go_wp2_with fail
          go_quiet (fail)
          go_wp2
          exact ⟨⟨i + 1, a5, c5, by omega, by go_num, by rw [HTK.out, HF.out], hid (below_drewN HB.out _), hid (by rw [HTK.out, HF.out]; exact own_drewN HO.out _)⟩, by simp [intOf]; omega⟩
        · have hne : ¬ ((⟨y.key.dir, y.key.name⟩ : Ky) = ⟨k0.dir, k0.name⟩) := hk
          simp only [hne, decide_false] at heq
          have HF := hid (dropL_no (L := (playE S).take i) (show isK k0 y = false by simp [isK]; exact fun e => hk e.symm))
          clear hk hne
          go_wp2_with fail
          go_quiet (fail)
          go_wp2_with (at_builtin; refine wpList_append_rd rfl _ _ 49 rfl w5.heap.size 30 i7 _ 7 72 Try.underlying49 HI7.out p7 q7 r7 rfl (by decide) (.slice a5 (dropL k0 ((playE S).take i)).length c5) (dropL k0 ((playE S).take i)).length (ecs (dropL k0 ((playE S).take i))) rfl (own_alloc (own_drewN HO.out nq) _) (.slice (some ⟨wr.heap.size, 0, none⟩) 1 1) 1 [.int .i64 y.key.dir, .string y.key.name, .bool y.neg, .int .i64 y.node.id, .int .i64 y.node.kind, .int .i64 y.node.mode, .string y.node.target] rfl (rd_blk (by have e := heap_new (wr.drewN nq) (.cells #[.int .i64 y.key.dir, .string y.key.name, .bool y.neg, .int .i64 y.node.id, .int .i64 y.node.kind, .int .i64 y.node.mode, .string y.node.target] 30); exact e) (by unfold maxLen; omega)) rfl (En.one y) (by unfold maxLen; omega) (by omega) (Nat.le_trans hzz (by simp)) ?_; intro a6 c6 w6 hown6 hgrow6 hat6)
          refine ⟨⟨i + 1, a6, c6, by omega, by go_num, by rw [HTK.out, HF.out, List.length_append]; rfl, hid ?_, hid (by rw [HTK.out, HF.out, ecs_snoc, List.length_append]; exact hown6)⟩, by simp [intOf]; omega⟩
          exact ((below_drewN HB.out nq).alloc hzz _).grown hgrow6 (Nat.le_trans hzz (by simp)) (fun k hk => (own_lt HO.out hk).1)
      · have hje : (playE S).take i = playE S := List.take_of_length_le (by omega)
        rw [hje] at HO ⊢
        clear hje
        (have KB6 := hid (heap_below HB.out KB5.out (blk_lt KB5.out)))
        (have b_KB6 := blk2 KB6.out)
        (have BB6 := hid (BB5.out.trans (HB.out.mono BB5.out.size)))
        (have HC6 := hid (HC5.out.below HB.out))
        (have OW6 := hid (own_below OW5.out HB.out))
        (have KE6 := hid (heap_below HB.out KE5.out (blk_lt KE5.out)))
        (have b_KE6 := blk7 KE6.out)
        have OL6 := HO
        go_wp2_with (first
          | (go_at_call 29; refine (c_whole _ _ _ _ _ _ k0.dir HC6.out).mono ?_; rintro r w7 ⟨rfl, rfl⟩; rw [evw_some hf])
          | (go_at_call 32; refine (c_entries _ _ p _ _ _ HC6.out (by omega)).mono ?_; rintro r w7 ⟨a7, c7, rfl, hown7, hb7⟩; (have KB7 := hid (heap_below hb7 KB6.out (blk_lt KB6.out))); (have b_KB7 := blk2 KB7.out); (have BB7 := hid (BB6.out.trans (hb7.mono BB6.out.size))); (have HC7 := hid (HC6.out.below hb7)); (have OW7 := hid (own_below OW6.out hb7)); (have KE7 := hid (heap_below hb7 KE6.out (blk_lt KE6.out))); (have b_KE7 := blk7 KE7.out); (have OL7 := hid (own_below OL6.out hb7)); clear b_KB6 b_KE6; (have ON7 := hid hown7); (have hw7 := hb7.size); clear hown7 hb7)
          | (go_at_call 33; refine (same_entries _ _ _ _ _ _ _ (Rd.own ON7.out) (Rd.own OL7.out)).mono ?_; rintro r w8 ⟨rfl, hb8⟩; rw [decide_eq_true rfl]; (have KB8 := hid (heap_below hb8 KB7.out (blk_lt KB7.out))); (have b_KB8 := blk2 KB8.out); (have BB8 := hid (BB7.out.trans (hb8.mono BB7.out.size))); (have HC8 := hid (HC7.out.below hb8)); (have OW8 := hid (own_below OW7.out hb8)); (have KE8 := hid (heap_below hb8 KE7.out (blk_lt KE7.out))); (have b_KE8 := blk7 KE8.out); (have OL8 := hid (own_below OL7.out hb8)); (have ON8 := hid (own_below ON7.out hb8)); clear b_KB7 b_KE7; clear hb8)
          | (go_at_call 27; refine (c_evict _ _ p _ _ _ k0 HC8.out).mono ?_; rintro r w9 ⟨rfl, hc9, hg9⟩; rw [find_drop]; simp only [Option.isSome_none]; (have KB9 := hid (heap_chg hg9 KB8.out (fun h => by have := h.1; have := h.2; omega))); (have b_KB9 := blk2 KB9.out); (have BB9 := hid (BB8.out.trans (hg9.toBelow BB8.out.size (fun i hi h => by have := h.1; omega)))); (have HC9 := hid hc9); (have OW9 := hid (ownsRow_chg OW8.out (fun k hk hlt => hg9.block k hlt (fun h => by have := h.1; have := h.2; have := (own_lt OW8.out hk).1; omega)))); (have KE9 := hid (heap_chg hg9 KE8.out (fun h => by have := h.1; have := h.2; omega))); (have b_KE9 := blk7 KE9.out); (have OL9 := hid (ownsRow_chg OL8.out (fun k hk hlt => hg9.block k hlt (fun h => by have := h.1; have := h.2; have := (own_lt OL8.out hk).1; omega)))); (have ON9 := hid (ownsRow_chg ON8.out (fun k hk hlt => hg9.block k hlt (fun h => by have := h.1; have := h.2; have := (own_lt ON8.out hk).1; omega)))); clear b_KB8 b_KE8; (have hw9 := hg9.size); (have hl9 := hc9.lt); clear hc9 hg9)
          | (go_at_call 30; refine (d_awake _).mono ?_; rintro r w10 ⟨rfl, hb10⟩; (have KB10 := hid (heap_below hb10 KB9.out (blk_lt KB9.out))); (have b_KB10 := blk2 KB10.out); (have BB10 := hid (BB9.out.trans (hb10.mono BB9.out.size))); (have HC10 := hid (HC9.out.below hb10)); (have OW10 := hid (own_below OW9.out hb10)); (have KE10 := hid (heap_below hb10 KE9.out (blk_lt KE9.out))); (have b_KE10 := blk7 KE10.out); (have OL10 := hid (own_below OL9.out hb10)); (have ON10 := hid (own_below ON9.out hb10)); clear b_KB9 b_KE9; clear hb10)
          )
        go_ret
        exact ⟨rfl, BB10.out⟩

end Go.Proofs.Ytmhogjecfgbchaa
