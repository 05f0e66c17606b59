import Derived.Test.YtmhogjecfgbchaaDentU
namespace Go.Proofs.Ytmhogjecfgbchaa
set_option linter.unusedVariables false
set_option linter.unusedSimpArgs false
open Go.RowKit
attribute [local go_sem ↓] Go.wp_at_zero Go.wp_at_succ

theorem d_of' (sa : Option Addr) (sc : Nat) (S : List Dop) (w : World) (hS : ScrD w (.slice sa S.length sc) S) (hz : S.length * 112 ≤ 140737488351232) (hkz : ∀ x ∈ S, x.ks.length * 24 ≤ 140737488351232) :
    Calls Try.prog 31 #[.slice sa S.length sc] w fun e w' => ∃ (p pr : Nat) (wh : Int → Bool) (ws : List Int), e = .returned (.tuple #[.pointer (some ⟨p, 0, none⟩), .pointer (some ⟨pr, 0, none⟩), .bool true]) ∧ w.heap.size < p ∧ p < pr ∧ CAt w' w.heap.size p S.length (playE S) wh ∧ RAt w' pr (playE S) ws ∧ WhR wh ws ∧ ws.length ≤ S.length ∧ Below w.heap.size w w' := by
  refine (d_of sa sc S w hS hz hkz).mono ?_
  rintro r w' ⟨pr, wh, ws, rfl, h⟩
  exact ⟨_, pr, wh, ws, rfl, by omega, h⟩
theorem ScrD.below {w w' : World} {v : Value} {S : List Dop} (h : ScrD w v S) (hb : Below w.heap.size w w') : ScrD w' v S := ⟨h.row.below hb, fun x hx => (h.each x hx).below hb⟩
theorem And.intro14 {a b c d e f g a' b' c' d' e' f' g' : Prop} (h1 : a) (h2 : b) (h3 : c) (h4 : d) (h5 : e) (h6 : f) (h7 : g) (k1 : a') (k2 : b') (k3 : c') (k4 : d') (k5 : e') (k6 : f') (k7 : g') : a ∧ b ∧ c ∧ d ∧ e ∧ f ∧ g ∧ a' ∧ b' ∧ c' ∧ d' ∧ e' ∧ f' ∧ g' := ⟨h1, h2, h3, h4, h5, h6, h7, k1, k2, k3, k4, k5, k6, k7⟩
def set7 (w : World) (q : Nat) (y : En) : World := ((((((w.setCell ⟨q, 0, none⟩ (.int .i64 y.key.dir)).setCell ⟨q, 1, none⟩ (.string y.key.name)).setCell ⟨q, 2, none⟩ (.bool y.neg)).setCell ⟨q, 3, none⟩ (.int .i64 y.node.id)).setCell ⟨q, 4, none⟩ (.int .i64 y.node.kind)).setCell ⟨q, 5, none⟩ (.int .i64 y.node.mode)).setCell ⟨q, 6, none⟩ (.string y.node.target)
theorem set7_heap {w : World} {q t : Nat} {x0 x1 x2 x3 x4 x5 x6 : Value} (y : En) (h : w.heap[q]? = some (.cells #[x0, x1, x2, x3, x4, x5, x6] t (0, 0))) : (set7 w q y).heap[q]? = some (.cells #[.int .i64 y.key.dir, .string y.key.name, .bool y.neg, .int .i64 y.node.id, .int .i64 y.node.kind, .int .i64 y.node.mode, .string y.node.target] t (0, 0)) := by
  have h1 := heap_set h 0 (.int .i64 y.key.dir)
  have h2 := heap_set h1 1 (.string y.key.name)
  have h3 := heap_set h2 2 (.bool y.neg)
  have h4 := heap_set h3 3 (.int .i64 y.node.id)
  have h5 := heap_set h4 4 (.int .i64 y.node.kind)
  have h6 := heap_set h5 5 (.int .i64 y.node.mode)
  have h7 := heap_set h6 6 (.string y.node.target)
  unfold set7
  rw [h7]; simp
theorem set7_chg (w : World) (q : Nat) (y : En) : Chg (fun k => k = q) w (set7 w q y) :=
  (((((((Chg.refl (fun k => k = q) w).setCell ⟨q, 0, none⟩ _ (.inl rfl)).setCell ⟨q, 1, none⟩ _ (.inl rfl)).setCell ⟨q, 2, none⟩ _ (.inl rfl)).setCell ⟨q, 3, none⟩ _ (.inl rfl)).setCell ⟨q, 4, none⟩ _ (.inl rfl)).setCell ⟨q, 5, none⟩ _ (.inl rfl)).setCell ⟨q, 6, none⟩ _ (.inl rfl)
theorem putL_no {e : En} {L : List En} (h : e.key.name = ByteArray.empty) : putL e L = L := by simp [putL, h]
theorem putL_yes {e : En} {L : List En} (h : ¬ e.key.name = ByteArray.empty) : putL e L = dropL e.key L ++ [e] := by simp [putL, h]

set_option maxRecDepth 100000 in
set_option maxHeartbeats 4000000 in
theorem dentUses_walk (sa : Option Addr) (sc : Nat) (S : List Dop) (e0 : En) (use : Bool) (w : World) (hS : ScrD w (.slice sa S.length sc) S) (hz : S.length * 112 ≤ 140737488351232) (hkz : ∀ x ∈ S, x.ks.length * 24 ≤ 140737488351232) :
    Calls Try.prog 4 #[.slice sa S.length sc, .agg #[.int .i64 e0.key.dir, .string e0.key.name, .bool e0.neg, .int .i64 e0.node.id, .int .i64 e0.node.kind, .int .i64 e0.node.mode, .string e0.node.target], .bool use] w fun r w' => r = .returned (.bool true) ∧ Below w.heap.size w w' := by
  have HS := hid (hS.below (bl1 w (.cells #[.int .i64 e0.key.dir, .string e0.key.name, .bool e0.neg, .int .i64 e0.node.id, .int .i64 e0.node.kind, .int .i64 e0.node.mode, .string e0.node.target] 30)))
  have HZ := hid hkz
  have KB0 := hid (heap_new w (.cells #[.int .i64 e0.key.dir, .string e0.key.name, .bool e0.neg, .int .i64 e0.node.id, .int .i64 e0.node.kind, .int .i64 e0.node.mode, .string e0.node.target] 30))
  have BB0 := hid (bl1 w (.cells #[.int .i64 e0.key.dir, .string e0.key.name, .bool e0.neg, .int .i64 e0.node.id, .int .i64 e0.node.kind, .int .i64 e0.node.mode, .string e0.node.target] 30))
  have hB0 : (w.alloc (.cells #[.int .i64 e0.key.dir, .string e0.key.name, .bool e0.neg, .int .i64 e0.node.id, .int .i64 e0.node.kind, .int .i64 e0.node.mode, .string e0.node.target] 30)).heap.size = w.heap.size + 1 := by simp
  have b_KB0 := blk7 KB0.out
  clear hS hkz
  cases use with
  | false =>
    by_cases hnm : e0.key.name = ByteArray.empty
    · have hn1 : e0.key.name.toList = [] := (name_empty _).1 hnm
      have hn2 : e0.key.name.toList.isEmpty = true := by simp [hn1]
      have HNM := hid hnm
      clear hn1 hnm
      go_enter Try.func4, Try.ntmps4
      go_wp2_with (first
        | (go_at_call 31; refine (d_of' sa sc S _ HS.out hz HZ.out).mono ?_; rintro r w1 ⟨p, pr, wh, ws, rfl, hp, -, hc1, -, -, -, hb1⟩; (have KB1 := hid (heap_below hb1 KB0.out (blk_lt KB0.out))); (have b_KB1 := blk7 KB1.out); (have BB1 := hid (BB0.out.trans (hb1.mono BB0.out.size))); clear b_KB0; (have HC1 := hid hc1); (have hL := hc1.len); (have HK := hid hc1.keys); (have hl1 := hc1.lt); (have hw1 := hb1.size); clear hc1 hb1)
        | (go_at_call 32; refine (c_entries _ _ p _ _ _ HC1.out (by omega)).mono ?_; rintro r w2 ⟨a2, c2, rfl, hown2, hb2⟩; (have KB2 := hid (heap_below hb2 KB1.out (blk_lt KB1.out))); (have b_KB2 := blk7 KB2.out); (have BB2 := hid (BB1.out.trans (hb2.mono BB1.out.size))); (have HC2 := hid (HC1.out.below hb2)); clear b_KB1; (have OW2 := hid hown2); (have hw2 := hb2.size); clear hown2 hb2)
        | (go_at_call 21; refine (c_put _ _ p _ _ _ e0 HC2.out (by omega)).mono ?_; rintro r w3 ⟨rfl, hc3, hg3⟩; rw [putL_no HNM.out] at hc3; rw [if_pos HNM.out]; (have KB3 := hid (heap_chg hg3 KB2.out (fun h => by have := h.1; have := h.2; omega))); (have b_KB3 := blk7 KB3.out); (have BB3 := hid (BB2.out.trans (hg3.toBelow BB2.out.size (fun i hi h => by have := h.1; omega)))); (have HC3 := hid hc3); (have OW3 := hid (ownsRow_chg OW2.out (fun k hk hlt => hg3.block k hlt (fun h => by have := h.1; have := h.2; have := (own_lt OW2.out hk).1; omega)))); clear b_KB2; (have hw3 := hg3.size); (have hl3 := hc3.lt); clear hc3 hg3)
        | (go_at_call 32; refine (c_entries _ _ p _ _ _ HC3.out (by omega)).mono ?_; rintro r w4 ⟨a4, c4, rfl, hown4, hb4⟩; (have KB4 := hid (heap_below hb4 KB3.out (blk_lt KB3.out))); (have b_KB4 := blk7 KB4.out); (have BB4 := hid (BB3.out.trans (hb4.mono BB3.out.size))); (have HC4 := hid (HC3.out.below hb4)); (have OW4 := hid (own_below OW3.out hb4)); clear b_KB3; (have ON4 := hid hown4); (have hw4 := hb4.size); clear hown4 hb4)
        | (go_at_call 33; refine (same_entries _ _ _ _ _ _ _ (Rd.own OW4.out) (Rd.own ON4.out)).mono ?_; rintro r w5 ⟨rfl, hb5⟩; rw [decide_eq_true rfl]; (have KB5 := hid (heap_below hb5 KB4.out (blk_lt KB4.out))); (have b_KB5 := blk7 KB5.out); (have BB5 := hid (BB4.out.trans (hb5.mono BB4.out.size))); (have HC5 := hid (HC4.out.below hb5)); (have OW5 := hid (own_below OW4.out hb5)); (have ON5 := hid (own_below ON4.out hb5)); clear b_KB4; clear hb5)
        | (go_at_call 30; refine (d_awake _).mono ?_; rintro r w6 ⟨rfl, hb6⟩; (have KB6 := hid (heap_below hb6 KB5.out (blk_lt KB5.out))); (have b_KB6 := blk7 KB6.out); (have BB6 := hid (BB5.out.trans (hb6.mono BB5.out.size))); (have HC6 := hid (HC5.out.below hb6)); (have OW6 := hid (own_below OW5.out hb6)); (have ON6 := hid (own_below ON5.out hb6)); clear b_KB5; clear hb6)
        )
      go_ret
      exact ⟨rfl, BB6.out⟩
    · have hn1 : ¬ (e0.key.name.toList = []) := fun h3 => hnm ((name_empty _).2 h3)
      have hn2 : e0.key.name.toList.isEmpty = false := by simpa using hn1
      have HNM := hid hnm
      clear hn1 hnm
      obtain ⟨i7, hi7, p7, q7, r7⟩ := info_parts infoEn
      have HI7 := hid hi7
      clear hi7
      go_enter Try.func4, Try.ntmps4
      go_wp2_with (first
        | (go_at_call 31; refine (d_of' sa sc S _ HS.out hz HZ.out).mono ?_; rintro r w1 ⟨p, pr, wh, ws, rfl, hp, -, hc1, -, -, -, hb1⟩; (have KB1 := hid (heap_below hb1 KB0.out (blk_lt KB0.out))); (have b_KB1 := blk7 KB1.out); (have BB1 := hid (BB0.out.trans (hb1.mono BB0.out.size))); clear b_KB0; (have HC1 := hid hc1); (have hL := hc1.len); (have HK := hid hc1.keys); (have hl1 := hc1.lt); (have hw1 := hb1.size); clear hc1 hb1)
        | (go_at_call 32; refine (c_entries _ _ p _ _ _ HC1.out (by omega)).mono ?_; rintro r w2 ⟨a2, c2, rfl, hown2, hb2⟩; (have KB2 := hid (heap_below hb2 KB1.out (blk_lt KB1.out))); (have b_KB2 := blk7 KB2.out); (have BB2 := hid (BB1.out.trans (hb2.mono BB1.out.size))); (have HC2 := hid (HC1.out.below hb2)); clear b_KB1; (have OW2 := hid hown2); (have hw2 := hb2.size); clear hown2 hb2)
        | (go_at_call 21; refine (c_put _ _ p _ _ _ e0 HC2.out (by omega)).mono ?_; rintro r w3 ⟨rfl, hc3, hg3⟩; rw [putL_yes HNM.out] at hc3; rw [if_neg HNM.out]; (have KB3 := hid (heap_chg hg3 KB2.out (fun h => by have := h.1; have := h.2; omega))); (have b_KB3 := blk7 KB3.out); (have BB3 := hid (BB2.out.trans (hg3.toBelow BB2.out.size (fun i hi h => by have := h.1; omega)))); (have HC3 := hid hc3); (have OW3 := hid (ownsRow_chg OW2.out (fun k hk hlt => hg3.block k hlt (fun h => by have := h.1; have := h.2; have := (own_lt OW2.out hk).1; omega)))); clear b_KB2; (have hw3 := hg3.size); (have hl3 := hc3.lt); clear hc3 hg3)
        | (go_at_call 32; refine (c_entries _ _ p _ _ _ HC3.out (by omega)).mono ?_; rintro r w4 ⟨a4, c4, rfl, hown4, hb4⟩; rw [List.length_append, List.length_singleton] at hown4 ⊢; (have KB4 := hid (heap_below hb4 KB3.out (blk_lt KB3.out))); (have b_KB4 := blk7 KB4.out); (have BB4 := hid (BB3.out.trans (hb4.mono BB3.out.size))); (have HC4 := hid (HC3.out.below hb4)); (have OW4 := hid (own_below OW3.out hb4)); clear b_KB3; (have ON4 := hid hown4); (have hw4 := hb4.size); clear hown4 hb4)
        )
      have hDl := dropL_le e0.key (playE S)
      have KL5 := hid (heap_new w4 (.cells #[.int .i64 e0.key.dir, .string e0.key.name, .bool e0.neg, .int .i64 e0.node.id, .int .i64 e0.node.kind, .int .i64 e0.node.mode, .string e0.node.target] 30))
      have KB5 := hid (heap_old KB4.out (.cells #[.int .i64 e0.key.dir, .string e0.key.name, .bool e0.neg, .int .i64 e0.node.id, .int .i64 e0.node.kind, .int .i64 e0.node.mode, .string e0.node.target] 30))
      have OW5 := hid (own_alloc OW4.out (.cells #[.int .i64 e0.key.dir, .string e0.key.name, .bool e0.neg, .int .i64 e0.node.id, .int .i64 e0.node.kind, .int .i64 e0.node.mode, .string e0.node.target] 30))
      have ON5 := hid (own_alloc ON4.out (.cells #[.int .i64 e0.key.dir, .string e0.key.name, .bool e0.neg, .int .i64 e0.node.id, .int .i64 e0.node.kind, .int .i64 e0.node.mode, .string e0.node.target] 30))
      have BB5 := hid (BB4.out.alloc BB4.out.size (.cells #[.int .i64 e0.key.dir, .string e0.key.name, .bool e0.neg, .int .i64 e0.node.id, .int .i64 e0.node.kind, .int .i64 e0.node.mode, .string e0.node.target] 30))
      clear b_KB4
      go_loopw [13, 15] (fun v13 v15 wr => ∃ (i : Nat) (a5 : Option Addr) (c5 : Nat), i ≤ (playE S).length ∧ v15 = .int .i64 i ∧ v13 = .slice a5 (dropL e0.key ((playE S).take i)).length c5 ∧ Hid (Below (w4.alloc (.cells #[.int .i64 e0.key.dir, .string e0.key.name, .bool e0.neg, .int .i64 e0.node.id, .int .i64 e0.node.kind, .int .i64 e0.node.mode, .string e0.node.target] 30)).heap.size (w4.alloc (.cells #[.int .i64 e0.key.dir, .string e0.key.name, .bool e0.neg, .int .i64 e0.node.id, .int .i64 e0.node.kind, .int .i64 e0.node.mode, .string e0.node.target] 30)) wr) ∧ Hid (wr.ownsRow (w4.alloc (.cells #[.int .i64 e0.key.dir, .string e0.key.name, .bool e0.neg, .int .i64 e0.node.id, .int .i64 e0.node.kind, .int .i64 e0.node.mode, .string e0.node.target] 30)).heap.size 30 7 (.slice a5 (dropL e0.key ((playE S).take i)).length c5) (dropL e0.key ((playE S).take i)).length (ecs (dropL e0.key ((playE S).take i))))) (fun _ v15 _ => (playE S).length - (intOf v15).toNat)
      case atStart => exact ⟨0, none, 0, Nat.zero_le _, rfl, rfl, hid (Below.refl _ _), hid (World.ownsRow_nil _ _ _ _)⟩
      case round =>
        obtain ⟨i, a5, c5, hi, rfl, rfl, HB, HO⟩ := hrel
        have hzz := HB.out.size
        have KBr := hid (heap_below HB.out KB5.out (blk_lt KB5.out))
        have b_KBr := blk7 KBr.out
        have hpl : (dropL e0.key ((playE S).take i)).length ≤ i := Nat.le_trans (dropL_le _ _) (by simp; omega)
        by_cases hlt : i < (playE S).length
        · have hi0 : (0 : Int) ≤ (i : Int) := by omega
          have hi1 : (i : Int) < ((playE S).length : Int) := by omega
          have OWr := hid (own_below OW5.out HB.out)
          obtain ⟨g, hag, hBg, hgz, hc1, hc2⟩ := own_loc OWr.out (by omega)
          obtain ⟨y, hy⟩ : ∃ y, (playE S)[i]? = some y := ⟨_, List.getElem?_eq_getElem hlt⟩
          subst hag
          have b1 := ecs_at (Rd.own OWr.out) hy
          have htk : (playE S).take (i + 1) = (playE S).take i ++ [y] := by rw [List.take_add_one, hy]; rfl
          have HTK := hid htk
          have heq := fun W => eqIn_key y.key.dir e0.key.dir y.key.name e0.key.name W
          clear hy htk
          by_cases hk : y.key = e0.key
          · rw [show decide ((⟨y.key.dir, y.key.name⟩ : Ky) = ⟨e0.key.dir, e0.key.name⟩) = true by rw [hk]; simp] at heq
            have HF := hid (dropL_yes (L := (playE S).take i) (show isK e0.key y = true by simp [isK, hk]))
            clear hk
            go_wp2_with fail
            go_quiet (fail)
            go_wp2
            exact ⟨⟨i + 1, a5, c5, by omega, by go_num, by rw [HTK.out, HF.out], hid (below_drewN HB.out _), hid (by rw [HTK.out, HF.out]; exact own_drewN HO.out _)⟩, by simp [intOf]; omega⟩
          · have hne : ¬ ((⟨y.key.dir, y.key.name⟩ : Ky) = ⟨e0.key.dir, e0.key.name⟩) := hk
            simp only [hne, decide_false] at heq
            have HF := hid (dropL_no (L := (playE S).take i) (show isK e0.key y = false by simp [isK]; exact fun e => hk e.symm))
            clear hk hne
            go_wp2_with fail
            go_quiet (fail)
            go_wp2_with (at_builtin; refine wpList_append_rd rfl _ _ 49 rfl (w4.alloc (.cells #[.int .i64 e0.key.dir, .string e0.key.name, .bool e0.neg, .int .i64 e0.node.id, .int .i64 e0.node.kind, .int .i64 e0.node.mode, .string e0.node.target] 30)).heap.size 30 i7 _ 7 72 Try.underlying49 HI7.out p7 q7 r7 rfl (by decide) (.slice a5 (dropL e0.key ((playE S).take i)).length c5) (dropL e0.key ((playE S).take i)).length (ecs (dropL e0.key ((playE S).take i))) rfl (own_alloc (own_drewN HO.out nq) _) (.slice (some ⟨wr.heap.size, 0, none⟩) 1 1) 1 [.int .i64 y.key.dir, .string y.key.name, .bool y.neg, .int .i64 y.node.id, .int .i64 y.node.kind, .int .i64 y.node.mode, .string y.node.target] rfl (rd_blk (by have e := heap_new (wr.drewN nq) (.cells #[.int .i64 y.key.dir, .string y.key.name, .bool y.neg, .int .i64 y.node.id, .int .i64 y.node.kind, .int .i64 y.node.mode, .string y.node.target] 30); exact e) (by unfold maxLen; omega)) rfl (En.one y) (by unfold maxLen; omega) (by omega) (by have h9 := hzz; simp at h9 ⊢; omega) ?_; intro a6 c6 w6 hown6 hgrow6 hat6)
            refine ⟨⟨i + 1, a6, c6, by omega, by go_num, by rw [HTK.out, HF.out, List.length_append]; rfl, hid ?_, hid (by rw [HTK.out, HF.out, ecs_snoc, List.length_append]; exact hown6)⟩, by simp [intOf]; omega⟩
            exact ((below_drewN HB.out nq).alloc hzz _).grown hgrow6 (by have h9 := hzz; simp at h9 ⊢; omega) (fun k hk => (own_lt HO.out hk).1)
        · have hje : (playE S).take i = playE S := List.take_of_length_le (by omega)
          rw [hje] at HO ⊢
          clear hje
          have ONr := hid (own_below ON5.out HB.out)
          obtain ⟨g4, ha4, hBg4, hgz4, hg41, hg42⟩ := own_loc ONr.out (by omega)
          subst ha4
          have hx4 : (dropL e0.key (playE S) ++ [e0])[(dropL e0.key (playE S)).length]? = some e0 := by simp
          have C4 := ecs_at (Rd.own ONr.out) hx4
          have RP := hid (rd_prefix (i := (dropL e0.key (playE S)).length) (sz := 7) (Rd.own ONr.out) (by omega))
          rw [show (ecs (dropL e0.key (playE S) ++ [e0])).take ((dropL e0.key (playE S)).length * 7) = ecs (dropL e0.key (playE S)) by rw [ecs, flat_take (f := En.cells) (sz := 7) (fun _ => rfl), List.take_left]; rfl] at RP
          have KLr := hid (heap_below HB.out KL5.out (blk_lt KL5.out))
          have q0 := blk7 KLr.out
          have KR := And.intro14 C4.1 C4.2.1 C4.2.2.1 C4.2.2.2.1 C4.2.2.2.2.1 C4.2.2.2.2.2.1 C4.2.2.2.2.2.2 q0.1 q0.2.1 q0.2.2.1 q0.2.2.2.1 q0.2.2.2.2.1 q0.2.2.2.2.2.1 q0.2.2.2.2.2.2.1
          have KRd : wr.drew.cell? ⟨g4, (dropL e0.key (playE S)).length * 7, none⟩ = some (.int .i64 e0.key.dir) ∧ wr.drew.cell? ⟨g4, (dropL e0.key (playE S)).length * 7 + 1, none⟩ = some (.string e0.key.name) ∧ wr.drew.cell? ⟨g4, (dropL e0.key (playE S)).length * 7 + 2, none⟩ = some (.bool e0.neg) ∧ wr.drew.cell? ⟨g4, (dropL e0.key (playE S)).length * 7 + 3, none⟩ = some (.int .i64 e0.node.id) ∧ wr.drew.cell? ⟨g4, (dropL e0.key (playE S)).length * 7 + 4, none⟩ = some (.int .i64 e0.node.kind) ∧ wr.drew.cell? ⟨g4, (dropL e0.key (playE S)).length * 7 + 5, none⟩ = some (.int .i64 e0.node.mode) ∧ wr.drew.cell? ⟨g4, (dropL e0.key (playE S)).length * 7 + 6, none⟩ = some (.string e0.node.target) ∧ wr.drew.cell? ⟨w4.heap.size, 0, none⟩ = some (.int .i64 e0.key.dir) ∧ wr.drew.cell? ⟨w4.heap.size, 1, none⟩ = some (.string e0.key.name) ∧ wr.drew.cell? ⟨w4.heap.size, 2, none⟩ = some (.bool e0.neg) ∧ wr.drew.cell? ⟨w4.heap.size, 3, none⟩ = some (.int .i64 e0.node.id) ∧ wr.drew.cell? ⟨w4.heap.size, 4, none⟩ = some (.int .i64 e0.node.kind) ∧ wr.drew.cell? ⟨w4.heap.size, 5, none⟩ = some (.int .i64 e0.node.mode) ∧ wr.drew.cell? ⟨w4.heap.size, 6, none⟩ = some (.string e0.node.target) := KR
          have HO2 := hid HO.out
          have heq := fun W => eqIn_entry e0.key.dir e0.key.dir e0.node.id e0.node.kind e0.node.mode e0.node.id e0.node.kind e0.node.mode e0.key.name e0.key.name e0.node.target e0.node.target e0.neg e0.neg W
          simp only [decide_true] at heq
          have BBr := hid (BB5.out.trans (HB.out.mono BB5.out.size))
          have hm0 : (0 : Int) ≤ ((dropL e0.key (playE S)).length : Int) := by omega
          have hm1 : ((dropL e0.key (playE S)).length : Int) ≤ ((dropL e0.key (playE S)).length : Int) + 1 := by omega
          have hm2 : ((dropL e0.key (playE S)).length : Int) ≤ (c4 : Int) := by omega
          have hm3 : ((dropL e0.key (playE S)).length : Int) < ((dropL e0.key (playE S)).length : Int) + 1 := by omega
          have hm4 : IntKind.i64.wrap (((dropL e0.key (playE S)).length : Int) + 1) = ((dropL e0.key (playE S)).length : Int) + 1 := IntWalk.i64_in _ (by omega)
          have HX4 := hid hx4
          clear hx4 C4 q0
          go_wp2_with fail
          go_region_held3 (fun w' => w'.cell? ⟨g4, (dropL e0.key (playE S)).length * 7, none⟩ = some (.int .i64 e0.key.dir) ∧ w'.cell? ⟨g4, (dropL e0.key (playE S)).length * 7 + 1, none⟩ = some (.string e0.key.name) ∧ w'.cell? ⟨g4, (dropL e0.key (playE S)).length * 7 + 2, none⟩ = some (.bool e0.neg) ∧ w'.cell? ⟨g4, (dropL e0.key (playE S)).length * 7 + 3, none⟩ = some (.int .i64 e0.node.id) ∧ w'.cell? ⟨g4, (dropL e0.key (playE S)).length * 7 + 4, none⟩ = some (.int .i64 e0.node.kind) ∧ w'.cell? ⟨g4, (dropL e0.key (playE S)).length * 7 + 5, none⟩ = some (.int .i64 e0.node.mode) ∧ w'.cell? ⟨g4, (dropL e0.key (playE S)).length * 7 + 6, none⟩ = some (.string e0.node.target) ∧ w'.cell? ⟨w4.heap.size, 0, none⟩ = some (.int .i64 e0.key.dir) ∧ w'.cell? ⟨w4.heap.size, 1, none⟩ = some (.string e0.key.name) ∧ w'.cell? ⟨w4.heap.size, 2, none⟩ = some (.bool e0.neg) ∧ w'.cell? ⟨w4.heap.size, 3, none⟩ = some (.int .i64 e0.node.id) ∧ w'.cell? ⟨w4.heap.size, 4, none⟩ = some (.int .i64 e0.node.kind) ∧ w'.cell? ⟨w4.heap.size, 5, none⟩ = some (.int .i64 e0.node.mode) ∧ w'.cell? ⟨w4.heap.size, 6, none⟩ = some (.string e0.node.target))
            (first | with_reducible exact KR | with_reducible exact KRd | with_reducible exact KS | with_reducible exact KT)
            (first | (go_at_call 33; refine (same_entries _ (dropL e0.key (playE S)) (dropL e0.key (playE S)) _ _ _ _ RP.out.drew (Rd.own HO2.out).drew).mono ?_; rintro r w6 ⟨rfl, hb6⟩; rw [decide_eq_true rfl]; (have kl6 := heap_below hb6 KLr.out (blk_lt KLr.out)); (have q6 := blk7 kl6); (have on6 := own_below (own_drew ONr.out) hb6); (have C6 := ecs_at (Rd.own on6) HX4.out); (have KS := And.intro14 C6.1 C6.2.1 C6.2.2.1 C6.2.2.2.1 C6.2.2.2.2.1 C6.2.2.2.2.2.1 C6.2.2.2.2.2.2 q6.1 q6.2.1 q6.2.2.1 q6.2.2.2.1 q6.2.2.2.2.1 q6.2.2.2.2.2.1 q6.2.2.2.2.2.2.1); (have BB6 := hid (BBr.out.drew.trans (hb6.mono BBr.out.size))); (have KL6 := hid kl6); (have ON6 := hid on6); clear kl6 q6 on6 C6 hb6) | (go_at_call 30; refine (d_awake _).mono ?_; rintro r w7 ⟨rfl, hb7⟩; (have q7 := blk7 (heap_below hb7 KL6.out (blk_lt KL6.out))); (have C7 := ecs_at (Rd.own (own_below ON6.out hb7)) HX4.out); (have KT := And.intro14 C7.1 C7.2.1 C7.2.2.1 C7.2.2.2.1 C7.2.2.2.2.1 C7.2.2.2.2.2.1 C7.2.2.2.2.2.2 q7.1 q7.2.1 q7.2.2.1 q7.2.2.2.1 q7.2.2.2.2.1 q7.2.2.2.2.2.1 q7.2.2.2.2.2.2.1); (have BB7 := hid (BB6.out.trans (hb7.mono BB6.out.size))); clear hb7 q7 C7))
          all_goals
            go_wp2_with fail
            go_ret
            exact ⟨rfl, BB7.out⟩
  | true =>
    cases hf : findL e0.key (playE S) with
    | none =>
      have HF0 := hid hf
      clear hf
      go_enter Try.func4, Try.ntmps4
      go_wp2_with (first
        | (go_at_call 31; refine (d_of' sa sc S _ HS.out hz HZ.out).mono ?_; rintro r w1 ⟨p, pr, wh, ws, rfl, hp, -, hc1, -, -, -, hb1⟩; (have KB1 := hid (heap_below hb1 KB0.out (blk_lt KB0.out))); (have b_KB1 := blk7 KB1.out); (have BB1 := hid (BB0.out.trans (hb1.mono BB0.out.size))); clear b_KB0; (have HC1 := hid hc1); (have hL := hc1.len); (have HK := hid hc1.keys); (have hl1 := hc1.lt); (have hw1 := hb1.size); clear hc1 hb1)
        | (go_at_call 32; refine (c_entries _ _ p _ _ _ HC1.out (by omega)).mono ?_; rintro r w2 ⟨a2, c2, rfl, hown2, hb2⟩; (have KB2 := hid (heap_below hb2 KB1.out (blk_lt KB1.out))); (have b_KB2 := blk7 KB2.out); (have BB2 := hid (BB1.out.trans (hb2.mono BB1.out.size))); (have HC2 := hid (HC1.out.below hb2)); clear b_KB1; (have OW2 := hid hown2); (have hw2 := hb2.size); clear hown2 hb2)
        | (go_at_call 22; refine (c_use _ _ p _ _ _ e0.key HC2.out (by omega)).mono ?_; rintro r w3 ⟨rfl, hc3, hg3⟩; rw [useL_none HF0.out] at hc3; rw [HF0.out]; simp only [Option.isSome_none]; (have KB3 := hid (heap_chg hg3 KB2.out (fun h => by have := h.1; have := h.2; omega))); (have b_KB3 := blk7 KB3.out); (have BB3 := hid (BB2.out.trans (hg3.toBelow BB2.out.size (fun i hi h => by have := h.1; omega)))); (have HC3 := hid hc3); (have OW3 := hid (ownsRow_chg OW2.out (fun k hk hlt => hg3.block k hlt (fun h => by have := h.1; have := h.2; have := (own_lt OW2.out hk).1; omega)))); clear b_KB2; (have hw3 := hg3.size); (have hl3 := hc3.lt); clear hc3 hg3)
        | (go_at_call 32; refine (c_entries _ _ p _ _ _ HC3.out (by omega)).mono ?_; rintro r w4 ⟨a4, c4, rfl, hown4, hb4⟩; (have KB4 := hid (heap_below hb4 KB3.out (blk_lt KB3.out))); (have b_KB4 := blk7 KB4.out); (have BB4 := hid (BB3.out.trans (hb4.mono BB3.out.size))); (have HC4 := hid (HC3.out.below hb4)); (have OW4 := hid (own_below OW3.out hb4)); clear b_KB3; (have ON4 := hid hown4); (have hw4 := hb4.size); clear hown4 hb4)
        | (go_at_call 33; refine (same_entries _ _ _ _ _ _ _ (Rd.own OW4.out) (Rd.own ON4.out)).mono ?_; rintro r w5 ⟨rfl, hb5⟩; rw [decide_eq_true rfl]; (have KB5 := hid (heap_below hb5 KB4.out (blk_lt KB4.out))); (have b_KB5 := blk7 KB5.out); (have BB5 := hid (BB4.out.trans (hb5.mono BB4.out.size))); (have HC5 := hid (HC4.out.below hb5)); (have OW5 := hid (own_below OW4.out hb5)); (have ON5 := hid (own_below ON4.out hb5)); clear b_KB4; clear hb5)
        | (go_at_call 30; refine (d_awake _).mono ?_; rintro r w6 ⟨rfl, hb6⟩; (have KB6 := hid (heap_below hb6 KB5.out (blk_lt KB5.out))); (have b_KB6 := blk7 KB6.out); (have BB6 := hid (BB5.out.trans (hb6.mono BB5.out.size))); (have HC6 := hid (HC5.out.below hb6)); (have OW6 := hid (own_below OW5.out hb6)); (have ON6 := hid (own_below ON5.out hb6)); clear b_KB5; clear hb6)
        )
      go_ret
      exact ⟨rfl, BB6.out⟩
    | some y0 =>
      have HF0 := hid hf
      clear hf
      obtain ⟨i7, hi7, p7, q7, r7⟩ := info_parts infoEn
      have HI7 := hid hi7
      clear hi7
      go_enter Try.func4, Try.ntmps4
      go_wp2_with (first
        | (go_at_call 31; refine (d_of' sa sc S _ HS.out hz HZ.out).mono ?_; rintro r w1 ⟨p, pr, wh, ws, rfl, hp, -, hc1, -, -, -, hb1⟩; (have KB1 := hid (heap_below hb1 KB0.out (blk_lt KB0.out))); (have b_KB1 := blk7 KB1.out); (have BB1 := hid (BB0.out.trans (hb1.mono BB0.out.size))); clear b_KB0; (have HC1 := hid hc1); (have hL := hc1.len); (have HK := hid hc1.keys); (have hl1 := hc1.lt); (have hw1 := hb1.size); clear hc1 hb1)
        | (go_at_call 32; refine (c_entries _ _ p _ _ _ HC1.out (by omega)).mono ?_; rintro r w2 ⟨a2, c2, rfl, hown2, hb2⟩; (have KB2 := hid (heap_below hb2 KB1.out (blk_lt KB1.out))); (have b_KB2 := blk7 KB2.out); (have BB2 := hid (BB1.out.trans (hb2.mono BB1.out.size))); (have HC2 := hid (HC1.out.below hb2)); clear b_KB1; (have OW2 := hid hown2); (have hw2 := hb2.size); clear hown2 hb2)
        | (go_at_call 22; refine (c_use _ _ p _ _ _ e0.key HC2.out (by omega)).mono ?_; rintro r w3 ⟨rfl, hc3, hg3⟩; rw [useL_some HF0.out] at hc3; rw [HF0.out]; simp only [Option.isSome_some]; (have KB3 := hid (heap_chg hg3 KB2.out (fun h => by have := h.1; have := h.2; omega))); (have b_KB3 := blk7 KB3.out); (have BB3 := hid (BB2.out.trans (hg3.toBelow BB2.out.size (fun i hi h => by have := h.1; omega)))); (have HC3 := hid hc3); (have OW3 := hid (ownsRow_chg OW2.out (fun k hk hlt => hg3.block k hlt (fun h => by have := h.1; have := h.2; have := (own_lt OW2.out hk).1; omega)))); clear b_KB2; (have hw3 := hg3.size); (have hl3 := hc3.lt); clear hc3 hg3)
        | (go_at_call 32; refine (c_entries _ _ p _ _ _ HC3.out (by omega)).mono ?_; rintro r w4 ⟨a4, c4, rfl, hown4, hb4⟩; rw [List.length_append, List.length_singleton] at hown4 ⊢; (have KB4 := hid (heap_below hb4 KB3.out (blk_lt KB3.out))); (have b_KB4 := blk7 KB4.out); (have BB4 := hid (BB3.out.trans (hb4.mono BB3.out.size))); (have HC4 := hid (HC3.out.below hb4)); (have OW4 := hid (own_below OW3.out hb4)); clear b_KB3; (have ON4 := hid hown4); (have hw4 := hb4.size); clear hown4 hb4)
        )
      have hDl := dropL_le e0.key (playE S)
      have KL5 := hid (heap_new w4 (.cells #[.int .i64 e0.key.dir, .string e0.key.name, .bool e0.neg, .int .i64 e0.node.id, .int .i64 e0.node.kind, .int .i64 e0.node.mode, .string e0.node.target] 30))
      have KB5 := hid (heap_old KB4.out (.cells #[.int .i64 e0.key.dir, .string e0.key.name, .bool e0.neg, .int .i64 e0.node.id, .int .i64 e0.node.kind, .int .i64 e0.node.mode, .string e0.node.target] 30))
      have OW5 := hid (own_alloc OW4.out (.cells #[.int .i64 e0.key.dir, .string e0.key.name, .bool e0.neg, .int .i64 e0.node.id, .int .i64 e0.node.kind, .int .i64 e0.node.mode, .string e0.node.target] 30))
      have ON5 := hid (own_alloc ON4.out (.cells #[.int .i64 e0.key.dir, .string e0.key.name, .bool e0.neg, .int .i64 e0.node.id, .int .i64 e0.node.kind, .int .i64 e0.node.mode, .string e0.node.target] 30))
      have BB5 := hid (BB4.out.alloc BB4.out.size (.cells #[.int .i64 e0.key.dir, .string e0.key.name, .bool e0.neg, .int .i64 e0.node.id, .int .i64 e0.node.kind, .int .i64 e0.node.mode, .string e0.node.target] 30))
      clear b_KB4
      go_loopw [13, 15] (fun v13 v15 wr => ∃ (i : Nat) (a5 : Option Addr) (c5 : Nat) (l : En), i ≤ (playE S).length ∧ v15 = .int .i64 i ∧ v13 = .slice a5 (dropL e0.key ((playE S).take i)).length c5 ∧ Hid (l = lastE e0.key e0 ((playE S).take i)) ∧ Hid (Below w4.heap.size w4 wr) ∧ w4.heap.size + 1 ≤ wr.heap.size ∧ Hid (wr.heap[w4.heap.size]? = some (.cells #[.int .i64 l.key.dir, .string l.key.name, .bool l.neg, .int .i64 l.node.id, .int .i64 l.node.kind, .int .i64 l.node.mode, .string l.node.target] 30)) ∧ Hid (wr.ownsRow (w4.heap.size + 1) 30 7 (.slice a5 (dropL e0.key ((playE S).take i)).length c5) (dropL e0.key ((playE S).take i)).length (ecs (dropL e0.key ((playE S).take i))))) (fun _ v15 _ => (playE S).length - (intOf v15).toNat)
      case atStart => exact ⟨0, none, 0, e0, Nat.zero_le _, rfl, rfl, hid rfl, hid (bl1 w4 _), by simp, KL5, hid (World.ownsRow_nil _ _ _ _)⟩
      case round =>
        obtain ⟨i, a5, c5, l, hi, rfl, rfl, HLE, HB, hzz, HKL, HO⟩ := hrel
        have KBr := hid (heap_below HB.out KB4.out (blk_lt KB4.out))
        have b_KBr := blk7 KBr.out
        have b_KLr := blk7 HKL.out
        have hpl : (dropL e0.key ((playE S).take i)).length ≤ i := Nat.le_trans (dropL_le _ _) (by simp; omega)
        by_cases hlt : i < (playE S).length
        · have hi0 : (0 : Int) ≤ (i : Int) := by omega
          have hi1 : (i : Int) < ((playE S).length : Int) := by omega
          have OWr := hid (own_below OW4.out HB.out)
          obtain ⟨g, hag, hBg, hgz, hc1, hc2⟩ := own_loc OWr.out (by omega)
          obtain ⟨y, hy⟩ : ∃ y, (playE S)[i]? = some y := ⟨_, List.getElem?_eq_getElem hlt⟩
          subst hag
          have b1 := ecs_at (Rd.own OWr.out) hy
          have htk : (playE S).take (i + 1) = (playE S).take i ++ [y] := by rw [List.take_add_one, hy]; rfl
          have HTK := hid htk
          have heq := fun W => eqIn_key y.key.dir e0.key.dir y.key.name e0.key.name W
          clear hy htk
          by_cases hk : y.key = e0.key
          · rw [show decide ((⟨y.key.dir, y.key.name⟩ : Ky) = ⟨e0.key.dir, e0.key.name⟩) = true by rw [hk]; simp] at heq
            have HF := hid (dropL_yes (L := (playE S).take i) (show isK e0.key y = true by simp [isK, hk]))
            have HG := hid (lastE_yes (e := e0) (L := (playE S).take i) (show isK e0.key y = true by simp [isK, hk]))
            clear hk
            go_wp2_with fail
            go_quiet (fail)
            go_wp2
            have hg7 := set7_chg (wr.drewN nq) w4.heap.size y
            have hh7 := set7_heap (w := wr.drewN nq) y HKL.out
            have hs7 : w4.heap.size + 1 ≤ (set7 (wr.drewN nq) w4.heap.size y).heap.size := Nat.le_trans hzz hg7.size
            have hb7 : Below w4.heap.size w4 (set7 (wr.drewN nq) w4.heap.size y) := (below_drewN HB.out nq).trans (hg7.toBelow (by simp; omega) (fun i hi h => by omega))
            have ho7 := ownsRow_chg (own_drewN HO.out nq) (fun k hk hlt => hg7.block k hlt (fun h => by have := (own_lt HO.out hk).1; omega))
            exact ⟨⟨i + 1, a5, c5, y, by omega, by go_num, by rw [HTK.out, HF.out], hid (by rw [HTK.out, HG.out]), hid hb7, hs7, hid hh7, hid (by rw [HTK.out, HF.out]; exact ho7)⟩, by simp [intOf]; omega⟩
          · have hne : ¬ ((⟨y.key.dir, y.key.name⟩ : Ky) = ⟨e0.key.dir, e0.key.name⟩) := hk
            simp only [hne, decide_false] at heq
            have HF := hid (dropL_no (L := (playE S).take i) (show isK e0.key y = false by simp [isK]; exact fun e => hk e.symm))
            have HG := hid (lastE_no (e := e0) (L := (playE S).take i) (show isK e0.key y = false by simp [isK]; exact fun e => hk e.symm))
            clear hk hne
            go_wp2_with fail
            go_quiet (fail)
            go_wp2_with (at_builtin; refine wpList_append_rd rfl _ _ 49 rfl (w4.heap.size + 1) 30 i7 _ 7 72 Try.underlying49 HI7.out p7 q7 r7 rfl (by decide) (.slice a5 (dropL e0.key ((playE S).take i)).length c5) (dropL e0.key ((playE S).take i)).length (ecs (dropL e0.key ((playE S).take i))) rfl (own_alloc (own_drewN HO.out nq) _) (.slice (some ⟨wr.heap.size, 0, none⟩) 1 1) 1 [.int .i64 y.key.dir, .string y.key.name, .bool y.neg, .int .i64 y.node.id, .int .i64 y.node.kind, .int .i64 y.node.mode, .string y.node.target] rfl (rd_blk (by have e := heap_new (wr.drewN nq) (.cells #[.int .i64 y.key.dir, .string y.key.name, .bool y.neg, .int .i64 y.node.id, .int .i64 y.node.kind, .int .i64 y.node.mode, .string y.node.target] 30); exact e) (by unfold maxLen; omega)) rfl (En.one y) (by unfold maxLen; omega) (by omega) (by simp; omega) ?_; intro a6 c6 w6 hown6 hgrow6 hat6)
            refine ⟨⟨i + 1, a6, c6, l, by omega, by go_num, by rw [HTK.out, HF.out, List.length_append]; rfl, hid (by rw [HTK.out, HG.out]; exact HLE.out), hid ?_, ?_, hid ?_, hid (by rw [HTK.out, HF.out, ecs_snoc, List.length_append]; exact hown6)⟩, by simp [intOf]; omega⟩
            · exact ((below_drewN HB.out nq).alloc (by simp; omega) _).grown hgrow6 (by simp; omega) (fun k hk => by have := (own_lt HO.out hk).1; omega)
            · have := hgrow6.size; simp at this; omega
            · exact heap_grown hgrow6 (heap_old (w := wr.drewN nq) HKL.out _) (fun e => by have := (own_lt HO.out e.symm).1; omega)
        · have hje : (playE S).take i = playE S := List.take_of_length_le (by omega)
          rw [hje] at HO HLE ⊢
          have hly : l = y0 := by rw [HLE.out]; exact lastE_find HK.out HF0.out
          subst hly
          clear hje
          have ONr := hid (own_below ON4.out HB.out)
          obtain ⟨g4, ha4, hBg4, hgz4, hg41, hg42⟩ := own_loc ONr.out (by omega)
          subst ha4
          have hx4 : (dropL e0.key (playE S) ++ [l])[(dropL e0.key (playE S)).length]? = some l := by simp
          have C4 := ecs_at (Rd.own ONr.out) hx4
          have RP := hid (rd_prefix (i := (dropL e0.key (playE S)).length) (sz := 7) (Rd.own ONr.out) (by omega))
          rw [show (ecs (dropL e0.key (playE S) ++ [l])).take ((dropL e0.key (playE S)).length * 7) = ecs (dropL e0.key (playE S)) by rw [ecs, flat_take (f := En.cells) (sz := 7) (fun _ => rfl), List.take_left]; rfl] at RP
          have KLr := hid (HKL.out)
          have q0 := blk7 KLr.out
          have KR := And.intro14 C4.1 C4.2.1 C4.2.2.1 C4.2.2.2.1 C4.2.2.2.2.1 C4.2.2.2.2.2.1 C4.2.2.2.2.2.2 q0.1 q0.2.1 q0.2.2.1 q0.2.2.2.1 q0.2.2.2.2.1 q0.2.2.2.2.2.1 q0.2.2.2.2.2.2.1
          have KRd : wr.drew.cell? ⟨g4, (dropL e0.key (playE S)).length * 7, none⟩ = some (.int .i64 l.key.dir) ∧ wr.drew.cell? ⟨g4, (dropL e0.key (playE S)).length * 7 + 1, none⟩ = some (.string l.key.name) ∧ wr.drew.cell? ⟨g4, (dropL e0.key (playE S)).length * 7 + 2, none⟩ = some (.bool l.neg) ∧ wr.drew.cell? ⟨g4, (dropL e0.key (playE S)).length * 7 + 3, none⟩ = some (.int .i64 l.node.id) ∧ wr.drew.cell? ⟨g4, (dropL e0.key (playE S)).length * 7 + 4, none⟩ = some (.int .i64 l.node.kind) ∧ wr.drew.cell? ⟨g4, (dropL e0.key (playE S)).length * 7 + 5, none⟩ = some (.int .i64 l.node.mode) ∧ wr.drew.cell? ⟨g4, (dropL e0.key (playE S)).length * 7 + 6, none⟩ = some (.string l.node.target) ∧ wr.drew.cell? ⟨w4.heap.size, 0, none⟩ = some (.int .i64 l.key.dir) ∧ wr.drew.cell? ⟨w4.heap.size, 1, none⟩ = some (.string l.key.name) ∧ wr.drew.cell? ⟨w4.heap.size, 2, none⟩ = some (.bool l.neg) ∧ wr.drew.cell? ⟨w4.heap.size, 3, none⟩ = some (.int .i64 l.node.id) ∧ wr.drew.cell? ⟨w4.heap.size, 4, none⟩ = some (.int .i64 l.node.kind) ∧ wr.drew.cell? ⟨w4.heap.size, 5, none⟩ = some (.int .i64 l.node.mode) ∧ wr.drew.cell? ⟨w4.heap.size, 6, none⟩ = some (.string l.node.target) := KR
          have HO2 := hid HO.out
          have heq := fun W => eqIn_entry l.key.dir l.key.dir l.node.id l.node.kind l.node.mode l.node.id l.node.kind l.node.mode l.key.name l.key.name l.node.target l.node.target l.neg l.neg W
          simp only [decide_true] at heq
          have BBr := hid (BB4.out.trans (HB.out.mono BB4.out.size))
          have hm0 : (0 : Int) ≤ ((dropL e0.key (playE S)).length : Int) := by omega
          have hm1 : ((dropL e0.key (playE S)).length : Int) ≤ ((dropL e0.key (playE S)).length : Int) + 1 := by omega
          have hm2 : ((dropL e0.key (playE S)).length : Int) ≤ (c4 : Int) := by omega
          have hm3 : ((dropL e0.key (playE S)).length : Int) < ((dropL e0.key (playE S)).length : Int) + 1 := by omega
          have hm4 : IntKind.i64.wrap (((dropL e0.key (playE S)).length : Int) + 1) = ((dropL e0.key (playE S)).length : Int) + 1 := IntWalk.i64_in _ (by omega)
          have HX4 := hid hx4
          clear hx4 C4 q0
          go_wp2_with fail
          go_region_held3 (fun w' => w'.cell? ⟨g4, (dropL e0.key (playE S)).length * 7, none⟩ = some (.int .i64 l.key.dir) ∧ w'.cell? ⟨g4, (dropL e0.key (playE S)).length * 7 + 1, none⟩ = some (.string l.key.name) ∧ w'.cell? ⟨g4, (dropL e0.key (playE S)).length * 7 + 2, none⟩ = some (.bool l.neg) ∧ w'.cell? ⟨g4, (dropL e0.key (playE S)).length * 7 + 3, none⟩ = some (.int .i64 l.node.id) ∧ w'.cell? ⟨g4, (dropL e0.key (playE S)).length * 7 + 4, none⟩ = some (.int .i64 l.node.kind) ∧ w'.cell? ⟨g4, (dropL e0.key (playE S)).length * 7 + 5, none⟩ = some (.int .i64 l.node.mode) ∧ w'.cell? ⟨g4, (dropL e0.key (playE S)).length * 7 + 6, none⟩ = some (.string l.node.target) ∧ w'.cell? ⟨w4.heap.size, 0, none⟩ = some (.int .i64 l.key.dir) ∧ w'.cell? ⟨w4.heap.size, 1, none⟩ = some (.string l.key.name) ∧ w'.cell? ⟨w4.heap.size, 2, none⟩ = some (.bool l.neg) ∧ w'.cell? ⟨w4.heap.size, 3, none⟩ = some (.int .i64 l.node.id) ∧ w'.cell? ⟨w4.heap.size, 4, none⟩ = some (.int .i64 l.node.kind) ∧ w'.cell? ⟨w4.heap.size, 5, none⟩ = some (.int .i64 l.node.mode) ∧ w'.cell? ⟨w4.heap.size, 6, none⟩ = some (.string l.node.target))
            (first | with_reducible exact KR | with_reducible exact KRd | with_reducible exact KS | with_reducible exact KT)
            (first | (go_at_call 33; refine (same_entries _ (dropL e0.key (playE S)) (dropL e0.key (playE S)) _ _ _ _ RP.out.drew (Rd.own HO2.out).drew).mono ?_; rintro r w6 ⟨rfl, hb6⟩; rw [decide_eq_true rfl]; (have kl6 := heap_below hb6 KLr.out (blk_lt KLr.out)); (have q6 := blk7 kl6); (have on6 := own_below (own_drew ONr.out) hb6); (have C6 := ecs_at (Rd.own on6) HX4.out); (have KS := And.intro14 C6.1 C6.2.1 C6.2.2.1 C6.2.2.2.1 C6.2.2.2.2.1 C6.2.2.2.2.2.1 C6.2.2.2.2.2.2 q6.1 q6.2.1 q6.2.2.1 q6.2.2.2.1 q6.2.2.2.2.1 q6.2.2.2.2.2.1 q6.2.2.2.2.2.2.1); (have BB6 := hid (BBr.out.drew.trans (hb6.mono BBr.out.size))); (have KL6 := hid kl6); (have ON6 := hid on6); clear kl6 q6 on6 C6 hb6) | (go_at_call 30; refine (d_awake _).mono ?_; rintro r w7 ⟨rfl, hb7⟩; (have q7 := blk7 (heap_below hb7 KL6.out (blk_lt KL6.out))); (have C7 := ecs_at (Rd.own (own_below ON6.out hb7)) HX4.out); (have KT := And.intro14 C7.1 C7.2.1 C7.2.2.1 C7.2.2.2.1 C7.2.2.2.2.1 C7.2.2.2.2.2.1 C7.2.2.2.2.2.2 q7.1 q7.2.1 q7.2.2.1 q7.2.2.2.1 q7.2.2.2.2.1 q7.2.2.2.2.2.1 q7.2.2.2.2.2.2.1); (have BB7 := hid (BB6.out.trans (hb7.mono BB6.out.size))); clear hb7 q7 C7))
          all_goals
            go_wp2_with fail
            go_ret
            exact ⟨rfl, BB7.out⟩

end Go.Proofs.Ytmhogjecfgbchaa
