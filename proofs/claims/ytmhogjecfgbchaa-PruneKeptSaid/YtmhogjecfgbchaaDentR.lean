import Derived.Test.YtmhogjecfgbchaaDentQ
namespace Go.Proofs.Ytmhogjecfgbchaa
set_option linter.unusedVariables false
set_option linter.unusedSimpArgs false
open Go.RowKit
attribute [local go_sem ↓] Go.wp_at_zero Go.wp_at_succ

theorem infoInt : (Try.prog.info? 3).map (fun i => (i.zero, i.size, i.bytes)) = some (some (.int .i64 0), 1, 8) := by kernel_rfl
theorem ics_len (l : List Int) : (ics l).length = l.length * 1 := by simp [ics]
theorem ics_snoc (l : List Int) (d : Int) : ics (l ++ [d]) = ics l ++ [.int .i64 d] := by simp [ics]
theorem ics_at {w : World} {g n c m : Nat} {l : List Int} {j : Nat} {d : Int} (h : Rd w (.slice (some ⟨g, 0, none⟩) n c) m (ics l)) (hx : l[j]? = some d) : w.cell? ⟨g, j, none⟩ = some (.int .i64 d) := by
  have := h.at j (.int .i64 d) (by simp [ics, hx])
  simpa using this

set_option maxRecDepth 100000 in
set_option maxHeartbeats 2000000 in
theorem r_use (w : World) (p : Nat) (L : List En) (ws : List Int) (k : Ky) (h : RAt w p L ws) (hk : (L.map En.key).Nodup) (hn : (L.length + 1) * 72 ≤ 140737488351232) :
    Calls Try.prog 52 #[.pointer (some ⟨p, 0, none⟩), .agg #[.int .i64 k.dir, .string k.name]] w fun r w' => r = .returned (.bool (findL k L).isSome) ∧ RAt w' p (useL k L) ws ∧ Chg (RF w p) w w' := by
  obtain ⟨i7, hi7, p7, q7, r7⟩ := info_parts infoEn
  have HI7 := hid hi7
  have HH := hid h
  have HK := hid hk
  have hp := h.lt
  have BX := blk2 (heap_new w (.cells #[.int .i64 k.dir, .string k.name] 26))
  clear hi7 h hk
  rcases atE_cases k L with ⟨hf, ha⟩ | ⟨j, x, hf, ha, hx, hxk, hjl, hfi⟩
  · have HF := hid hf
    clear hf
    go_enter Try.func52, Try.ntmps52
    go_wp2_with (go_at_call 70; refine (r_at _ p L ws k (HH.out.below (bl1 w _)) (by omega)).mono ?_; rintro r w0 ⟨rfl, hb1⟩; rw [ha]; (have HB1 := hid hb1); clear hb1)
    go_ret
    have hb := (bl1 w (.cells #[.int .i64 k.dir, .string k.name] 26)).trans (HB1.out.mono (by simp))
    exact ⟨by rw [HF.out]; rfl, by rw [useL, HF.out]; exact HH.out.below hb, Chg.mono (Chg.below hb) fun _ _ h => h.elim⟩
  · obtain ⟨M, hM⟩ : ∃ M, M = L.eraseIdx j := ⟨_, rfl⟩
    have hMl : M.length ≤ L.length := by rw [hM]; exact List.length_eraseIdx_le ..
    have HM := hid hM
    have HF := hid hf
    have HX := hid hx
    have HFI := hid hfi
    have HONE := hid (En.one x)
    have hj0 : (0 : Int) ≤ (j : Int) := by omega
    have hj1 : (j : Int) < (L.length : Int) := by omega
    have hnn : L.length ≤ 9223372036854775807 := by omega
    clear hf hx hxk hfi hM
    go_enter Try.func52, Try.ntmps52
    go_upto_region 4 with (go_at_call 70; refine (r_at _ p L ws k (HH.out.below (bl1 w _)) (by omega)).mono ?_; rintro r w0 ⟨rfl, hb1⟩; rw [ha]; (have HB1 := hid hb1); clear hb1)
    have hz0 := HB1.out.size
    have HR0 := hid ((HH.out.below (bl1 w _)).below HB1.out)
    obtain ⟨aL, cL, aW, cW, K, O, Wd⟩ := HR0.out.ex
    obtain ⟨g, hag, hBg, hgz, hc1, hc2⟩ := own_loc O (by omega)
    subst hag
    have b0 := blk2 K
    have b1 := ecs_at (Rd.own O) HX.out
    clear K O Wd BX
    go_wp2_with (go_at_call 71; refine (r_out _ p L ws (j : Int) (HR0.out.below (bl1 w0 _)) hj0 hj1 (by omega)).mono ?_; rintro r w1 ⟨rfl, hr1, hg1⟩; rw [Int.toNat_natCast, ← HM.out] at hr1; (have HR1 := hid hr1); (have HG1 := hid hg1); clear hr1 hg1 b0 b1)
    have hz1 := HG1.out.size
    have hlow : p < w1.heap.size := by simp at hz0 hz1; omega
    have k1 := heap_chg HG1.out (heap_new w0 (.cells #[.int .i64 x.key.dir, .string x.key.name, .bool x.neg, .int .i64 x.node.id, .int .i64 x.node.kind, .int .i64 x.node.mode, .string x.node.target] 30)) (fun e => by simp at hz0; omega)
    have BX1 := blk7 k1
    obtain ⟨aL3, cL3, aW3, cW3, K, O, Wd⟩ := HR1.out.ex
    have b1 := blk2 K
    have K3 := hid K
    have O3 := hid O
    have W3 := hid Wd
    clear K O Wd k1
    go_wp2_with fail
    go_region_law (refine step_append_rd (by rfl) _ _ 49 (by rfl) (p + 1) 30 i7 _ 7 72 Try.underlying49 HI7.out p7 q7 r7 rfl (by decide) (.slice aL3 (M).length cL3) (M).length (ecs (M)) (by rfl) (own_alloc (own_drew O3.out) _) (.slice (some ⟨w1.heap.size, 0, none⟩) 1 1) 1 [.int .i64 x.key.dir, .string x.key.name, .bool x.neg, .int .i64 x.node.id, .int .i64 x.node.kind, .int .i64 x.node.mode, .string x.node.target] (by rfl) (rd_blk (heap_new w1.drew (.cells #[.int .i64 x.key.dir, .string x.key.name, .bool x.neg, .int .i64 x.node.id, .int .i64 x.node.kind, .int .i64 x.node.mode, .string x.node.target] 30)) (by unfold maxLen; omega)) rfl HONE.out (by unfold maxLen; omega) (by omega) (by simp; omega) ?_; intro a2 c2 w2 hown2 hgrow2 hat2; (have kp := heap_grown hgrow2 (heap_old K3.out _) (fun e => by have := (own_lt O3.out e.symm).1; omega)); (have b3 := blk2 kp); (have KP := hid kp); clear kp)
    all_goals
      go_wp2
      go_ret
      obtain ⟨f1, f2⟩ := rApp_fin (W := w1.drew) K3.out O3.out W3.out hgrow2 hown2
      have H1 : Chg (fun k => k = p) w w1.drew := Chg.trans (Chg.trans (Chg.trans (Chg.below (bl1 w _)) (Chg.below HB1.out) (fun _ _ h => h) (fun _ _ h => h)) (Chg.below (bl1 w0 _)) (fun _ _ h => h) (fun _ _ h => h)) HG1.out.drew (fun _ _ h => h.elim) (fun i _ h => h)
      refine ⟨by rw [HF.out]; rfl, ?_, Chg.trans H1 f2 (fun _ _ h => .inl h) (RF.back H1)⟩
      rw [useL, HF.out, ← erase_drop HK.out HFI.out, ← HM.out]; exact f1

set_option maxHeartbeats 1000000 in
theorem r_iswhole (w : World) (p : Nat) (L : List En) (ws : List Int) (d : Int) (h : RAt w p L ws) (hn : ws.length < 4611686018427387904) :
    Calls Try.prog 64 #[.pointer (some ⟨p, 0, none⟩), .int .i64 d] w fun r w' => r = .returned (.bool (ws.contains d)) ∧ w = w' := by
  obtain ⟨aL, cL, aW, cW, h1, h2, h3⟩ := h.ex
  have b0 := blk2 h1
  have O := hid h3
  have hnn : ws.length ≤ 9223372036854775807 := by omega
  clear h h1 h2 h3
  go_enter Try.func64, Try.ntmps64
  go_wp2_with fail
  go_loopw [5] (fun v wr => ∃ (j : Nat), j ≤ ws.length ∧ v = .int .i64 j ∧ wr = w ∧ Hid ((ws.take j).contains d = false)) (fun v _ => ws.length - (intOf v).toNat)
  case atStart => exact ⟨0, Nat.zero_le _, rfl, rfl, hid rfl⟩
  case round =>
    obtain ⟨j, hj, rfl, rfl, HN⟩ := hrel
    by_cases hlt : j < ws.length
    · have hk0 : (0 : Int) ≤ (j : Int) := by omega
      have hk1 : (j : Int) < (ws.length : Int) := by omega
      obtain ⟨g, hag, hBg, hgz, hc1, hc2⟩ := own_loc O.out (by omega)
      obtain ⟨x, hx⟩ : ∃ x, ws[j]? = some x := ⟨_, List.getElem?_eq_getElem hlt⟩
      subst hag
      have b1 := ics_at (Rd.own O.out) hx
      have HX := hid hx
      clear hx
      by_cases hk : x = d
      · have hk' : (x == d) = true := by simpa using hk
        have HF := hid (show ws.contains d = true by rw [List.contains_iff_mem, ← hk]; exact List.mem_of_getElem? HX.out)
        clear hk
        go_wp2
        go_ret
        exact ⟨by rw [HF.out]; rfl, rfl⟩
      · have hk' : (x == d) = false := by simpa using hk
        have HF := hid (show (ws.take (j + 1)).contains d = false by
          rw [List.take_add_one, HX.out]
          have := HN.out
          simp only [Option.toList_some]
          rw [Bool.eq_false_iff, ne_eq, List.contains_iff_mem] at this ⊢
          simp only [List.mem_append, List.mem_singleton]
          rintro (h | h)
          · exact this h
          · exact hk h.symm)
        clear hk
        go_wp2
        exact ⟨⟨j + 1, by omega, by go_num, trivial, HF⟩, by simp [intOf]; omega⟩
    · have hje : ws.take j = ws := List.take_of_length_le (by omega)
      rw [hje] at HN
      clear hje
      go_wp2
      go_ret
      exact ⟨by rw [HN.out]; rfl, rfl⟩

set_option maxHeartbeats 1000000 in
theorem r_clear (w : World) (p : Nat) (L : List En) (ws : List Int) (h : RAt w p L ws) :
    Calls Try.prog 53 #[.pointer (some ⟨p, 0, none⟩)] w fun r w' => r = .returned (.tuple #[]) ∧ RAt w' p [] [] ∧ Chg (fun k => k = p) w w' := by
  obtain ⟨aL, cL, aW, cW, h1, h2, h3⟩ := h.ex
  have b0 := blk2 h1
  have K := hid h1
  clear h h1 h2 h3
  go_enter Try.func53, Try.ntmps53
  go_wp2_with fail
  go_end0
  refine ⟨rfl, ⟨none, 0, none, 0, ?_, World.ownsRow_nil _ _ _ _, World.ownsRow_nil _ _ _ _⟩, chg_set2 w p 0 1 _ _⟩
  have := heap_set (heap_set K.out 0 (.slice none 0 0)) 1 (.slice none 0 0)
  simpa using this

/-- without a directory -/
def partL (d : Int) (ws : List Int) : List Int := ws.filter fun x => x != d
theorem partL_yes {d x : Int} {l : List Int} (h : x ≠ d) : partL d (l ++ [x]) = partL d l ++ [x] := by simp [partL, h]
theorem partL_no {d x : Int} {l : List Int} (h : x = d) : partL d (l ++ [x]) = partL d l := by simp [partL, h]
theorem partL_le (d : Int) (l : List Int) : (partL d l).length ≤ l.length := List.length_filter_le _ _

set_option maxRecDepth 100000 in
set_option maxHeartbeats 1000000 in
theorem r_part (w : World) (p : Nat) (L : List En) (ws : List Int) (d : Int) (h : RAt w p L ws) (hn : ws.length * 8 ≤ 140737488351232) :
    Calls Try.prog 66 #[.pointer (some ⟨p, 0, none⟩), .int .i64 d] w fun r w' => r = .returned (.tuple #[]) ∧ RAt w' p L (partL d ws) ∧ Chg (fun k => k = p) w w' := by
  obtain ⟨i1, hi1, p1, q1, r1⟩ := info_parts infoInt
  obtain ⟨aL, cL, aW, cW, h1, h2, h3⟩ := h.ex
  have K := hid h1
  have OL := hid h2
  have O := hid h3
  have HI1 := hid hi1
  have hp := blk_lt h1
  have hnn : ws.length ≤ 9223372036854775807 := by omega
  clear h h1 h2 h3 hi1
  go_enter Try.func66, Try.ntmps66
  go_wp2_with fail
  go_loopw [4, 5] (fun v4 v5 wr => ∃ (j : Nat) (a2 : Option Addr) (c2 : Nat), j ≤ ws.length ∧ v5 = .int .i64 j ∧ v4 = .slice a2 (partL d (ws.take j)).length c2 ∧ Hid (Below w.heap.size w wr) ∧ Hid (wr.ownsRow w.heap.size 3 1 (.slice a2 (partL d (ws.take j)).length c2) (partL d (ws.take j)).length (ics (partL d (ws.take j))))) (fun _ v5 _ => ws.length - (intOf v5).toNat)
  case atStart => exact ⟨0, none, 0, Nat.zero_le _, rfl, rfl, hid (Below.refl _ _), hid (World.ownsRow_nil _ _ _ _)⟩
  case round =>
    obtain ⟨j, a2, c2, hj, rfl, rfl, HB, HO⟩ := hrel
    have hz := HB.out.size
    have b0 := blk2 (heap_below HB.out K.out hp)
    have hpl : (partL d (ws.take j)).length ≤ j := Nat.le_trans (partL_le _ _) (by simp; omega)
    by_cases hlt : j < ws.length
    · have hk0 : (0 : Int) ≤ (j : Int) := by omega
      have hk1 : (j : Int) < (ws.length : Int) := by omega
      have O2 := hid (own_below O.out HB.out)
      obtain ⟨g, hag, hBg, hgz, hc1, hc2⟩ := own_loc O2.out (by omega)
      obtain ⟨x, hx⟩ : ∃ x, ws[j]? = some x := ⟨_, List.getElem?_eq_getElem hlt⟩
      subst hag
      have b1 := ics_at (Rd.own O2.out) hx
      have htk : ws.take (j + 1) = ws.take j ++ [x] := by rw [List.take_add_one, hx]; rfl
      have HTK := hid htk
      clear hx htk
      by_cases hk : x = d
      · have hk' : (x != d) = false := by simpa using hk
        have HF := hid (partL_no (l := ws.take j) hk)
        clear hk
        go_wp2
        exact ⟨⟨j + 1, a2, c2, by omega, by go_num, by rw [HTK.out, HF.out], HB, hid (by rw [HTK.out, HF.out]; exact HO.out)⟩, by simp [intOf]; omega⟩
      · have hk' : (x != d) = true := by simpa using hk
        have HF := hid (partL_yes (l := ws.take j) hk)
        clear hk
        go_wp2_with (at_builtin; refine wpList_append_rd rfl _ _ 80 rfl w.heap.size 3 i1 _ 1 8 Try.underlying80 HI1.out p1 q1 r1 rfl (by decide) (.slice a2 (partL d (ws.take j)).length c2) (partL d (ws.take j)).length (ics (partL d (ws.take j))) rfl (own_alloc HO.out _) (.slice (some ⟨wr.heap.size, 0, none⟩) 1 1) 1 [.int .i64 x] rfl (rd_blk (heap_new wr (.cells #[.int .i64 x] 3)) (by unfold maxLen; omega)) rfl (by simp [Value.oneCell']) (by unfold maxLen; omega) (by omega) (by simp; omega) ?_; intro a5 c5 w5 hown5 hgrow5 hat5)
        exact ⟨⟨j + 1, a5, c5, by omega, by go_num, by rw [HTK.out, HF.out, List.length_append]; rfl, hid ((HB.out.alloc hz _).grown hgrow5 (by simp; omega) (fun k hk => (own_lt HO.out hk).1)), hid (by rw [HTK.out, HF.out, ics_snoc, List.length_append]; exact hown5)⟩, by simp [intOf]; omega⟩
    · have hje : ws.take j = ws := List.take_of_length_le (by omega)
      rw [hje] at HO ⊢
      clear hje
      go_wp2
      go_end0
      have k2 := heap_below HB.out K.out hp
      have hb := HB.out
      refine ⟨rfl, ⟨aL, cL, a2, c2, ?_, own_set (own_below OL.out HB.out) (own_ne (own_below OL.out HB.out) k2 (by decide)) _ _, own_set (ownsRow_mono HO.out (by omega)) (own_ne (ownsRow_mono (B' := p + 1) HO.out (by omega)) k2 (by decide)) _ _⟩, (Chg.mono (Chg.below hb) fun _ _ h => h.elim).setCell ⟨p, 1, none⟩ _ (.inl rfl)⟩
      have := heap_set k2 1 (.slice a2 (partL d ws).length c2)
      simpa using this

def setL (d : Int) (ws : List Int) : List Int := if ws.contains d then ws else ws ++ [d]

set_option maxRecDepth 100000 in
set_option maxHeartbeats 1000000 in
theorem r_setwhole (w : World) (p : Nat) (L : List En) (ws : List Int) (d : Int) (h : RAt w p L ws) (hn : (ws.length + 1) * 8 ≤ 140737488351232) :
    Calls Try.prog 54 #[.pointer (some ⟨p, 0, none⟩), .int .i64 d] w fun r w' => r = .returned (.tuple #[]) ∧ RAt w' p L (setL d ws) ∧ Chg (RF w p) w w' := by
  obtain ⟨i1, hi1, p1, q1, r1⟩ := info_parts infoInt
  have HH := hid h
  obtain ⟨aL, cL, a2, c2, h1, h2, h3⟩ := h.ex
  have K := hid h1
  have OL := hid h2
  have O := hid h3
  have HI1 := hid hi1
  have hp := blk_lt h1
  have b0 := blk2 h1
  clear h h1 h2 h3 hi1
  cases hc : ws.contains d with
  | true =>
    have HC := hid hc
    clear hc
    go_enter Try.func54, Try.ntmps54
    go_wp2_with (go_at_call 64; refine (r_iswhole _ p L ws d HH.out (by omega)).mono ?_; rintro r w0 ⟨rfl, rfl⟩; rw [HC.out])
    go_end0
    exact ⟨rfl, by rw [setL, if_pos HC.out]; exact HH.out, Chg.refl _ _⟩
  | false =>
    have HC := hid hc
    clear hc
    go_enter Try.func54, Try.ntmps54
    go_wp2_with (first
      | (go_at_call 64; refine (r_iswhole _ p L ws d HH.out (by omega)).mono ?_; rintro r w0 ⟨rfl, rfl⟩; rw [HC.out])
      | (at_builtin; refine wpList_append_rd rfl _ _ 80 rfl (p + 1) 3 i1 _ 1 8 Try.underlying80 HI1.out p1 q1 r1 rfl (by decide) (.slice a2 ws.length c2) ws.length (ics ws) rfl (own_alloc O.out _) (.slice (some ⟨w.heap.size, 0, none⟩) 1 1) 1 [.int .i64 d] rfl (rd_blk (heap_new w (.cells #[.int .i64 d] 3)) (by unfold maxLen; omega)) rfl (by simp [Value.oneCell']) (by unfold maxLen; omega) (by omega) (by simp; omega) ?_; intro a5 c5 w5 hown5 hgrow5 hat5; (have kp := heap_grown hgrow5 (heap_old K.out _) (fun e => by have := (own_lt O.out e.symm).1; omega)); (have b3 := blk2 kp); (have KP := hid kp); clear kp))
    go_end0
    have wl := own_grown (own_alloc OL.out (.cells #[.int .i64 d] 3)) hgrow5 (fun k hk => own_ne2 OL.out O.out (by decide) k hk)
    refine ⟨rfl, ⟨aL, cL, a5, c5, ?_, own_set wl (own_ne wl KP.out (by decide)) _ _, ?_⟩, (((Chg.refl _ w).alloc _).grown hgrow5 (fun k hk => .inl (.inr ⟨by have := (own_lt O.out hk).1; omega, .inr (own_type O.out hk)⟩))).setCell ⟨p, 1, none⟩ _ (.inl (.inl rfl))⟩
    · have := heap_set KP.out 1 (.slice a5 (ws.length + 1) c5)
      rw [setL, if_neg (by rw [HC.out]; simp), List.length_append]; simpa using this
    · rw [setL, if_neg (by rw [HC.out]; simp), List.length_append, ics_snoc]; exact own_set hown5 (own_ne hown5 KP.out (by decide)) _ _

def evictWs (k : Ky) (L : List En) (ws : List Int) : List Int := if (findL k L).any (fun e => !e.neg) then partL k.dir ws else ws
set_option maxRecDepth 100000 in
set_option maxHeartbeats 2000000 in
theorem r_evict (w : World) (p : Nat) (L : List En) (ws : List Int) (k : Ky) (h : RAt w p L ws) (hk : (L.map En.key).Nodup) (hn : (L.length + 1) * 72 ≤ 140737488351232) (hnw : ws.length * 8 ≤ 140737488351232) :
    Calls Try.prog 49 #[.pointer (some ⟨p, 0, none⟩), .agg #[.int .i64 k.dir, .string k.name]] w fun r w' => r = .returned (.bool (findL k L).isSome) ∧ RAt w' p (dropL k L) (evictWs k L ws) ∧ Chg (fun k => k = p) w w' := by
  have HH := hid h
  have HK := hid hk
  have hp := h.lt
  have BX := blk2 (heap_new w (.cells #[.int .i64 k.dir, .string k.name] 26))
  clear h hk
  rcases atE_cases k L with ⟨hf, ha⟩ | ⟨j, x, hf, ha, hx, hxk, hjl, hfi⟩
  · have HF := hid hf
    clear hf
    go_enter Try.func49, Try.ntmps49
    go_wp2_with (go_at_call 70; refine (r_at _ p L ws k (HH.out.below (bl1 w _)) (by omega)).mono ?_; rintro r w0 ⟨rfl, hb1⟩; rw [ha]; (have HB1 := hid hb1); clear hb1)
    go_ret
    have hb := (bl1 w (.cells #[.int .i64 k.dir, .string k.name] 26)).trans (HB1.out.mono (by simp))
    exact ⟨by rw [HF.out]; rfl, by rw [drop_none HF.out, evictWs, HF.out]; exact HH.out.below hb, Chg.mono (Chg.below hb) fun _ _ h => h.elim⟩
  · have HF := hid hf
    have HX := hid hx
    have HFI := hid hfi
    have hj0 : (0 : Int) ≤ (j : Int) := by omega
    have hj1 : (j : Int) < (L.length : Int) := by omega
    have hnn : L.length ≤ 9223372036854775807 := by omega
    clear hf hx hxk hfi
    cases hng : x.neg with
    | true =>
      have HG := hid hng
      go_enter Try.func49, Try.ntmps49
      go_upto_region 4 with (go_at_call 70; refine (r_at _ p L ws k (HH.out.below (bl1 w _)) (by omega)).mono ?_; rintro r w0 ⟨rfl, hb1⟩; rw [ha]; (have HB1 := hid hb1); clear hb1)
      have hz0 := HB1.out.size
      have HR0 := hid ((HH.out.below (bl1 w _)).below HB1.out)
      obtain ⟨aL, cL, aW, cW, K, O, Wd⟩ := HR0.out.ex
      obtain ⟨g, hag, hBg, hgz, hc1, hc2⟩ := own_loc O (by omega)
      subst hag
      have b0 := blk2 K
      have b1 := ecs_at (Rd.own O) HX.out
      have kb := heap_below HB1.out (heap_new w (.cells #[.int .i64 k.dir, .string k.name] 26)) (by simp)
      rw [hng] at b1
      clear K O Wd BX hng
      go_wp2_with (go_at_call 71; refine (r_out _ p L ws (j : Int) HR0.out hj0 hj1 (by omega)).mono ?_; rintro r w1 ⟨rfl, hr1, hg1⟩; rw [Int.toNat_natCast] at hr1; (have HR1 := hid hr1); (have HG1 := hid hg1); (have BY := blk2 (heap_chg hg1 kb (fun e => by omega))); clear hr1 hg1 b0 b1)
      go_wp2
      go_ret
      refine ⟨by rw [HF.out]; rfl, ?_, (Chg.trans (Chg.trans (Chg.below (bl1 w _)) (Chg.below HB1.out) (fun _ _ h => h) (fun _ _ h => h)) HG1.out (fun _ _ h => h.elim) (fun _ _ h => h))⟩
      rw [← erase_drop HK.out HFI.out, evictWs, HF.out]; simp only [Option.any_some, HG.out, Bool.not_true, Bool.false_eq_true, if_false]; exact HR1.out
    | false =>
      have HG := hid hng
      go_enter Try.func49, Try.ntmps49
      go_upto_region 4 with (go_at_call 70; refine (r_at _ p L ws k (HH.out.below (bl1 w _)) (by omega)).mono ?_; rintro r w0 ⟨rfl, hb1⟩; rw [ha]; (have HB1 := hid hb1); clear hb1)
      have hz0 := HB1.out.size
      have HR0 := hid ((HH.out.below (bl1 w _)).below HB1.out)
      obtain ⟨aL, cL, aW, cW, K, O, Wd⟩ := HR0.out.ex
      obtain ⟨g, hag, hBg, hgz, hc1, hc2⟩ := own_loc O (by omega)
      subst hag
      have b0 := blk2 K
      have b1 := ecs_at (Rd.own O) HX.out
      have kb := heap_below HB1.out (heap_new w (.cells #[.int .i64 k.dir, .string k.name] 26)) (by simp)
      rw [hng] at b1
      clear K O Wd BX hng
      go_upto_region 6 with (go_at_call 71; refine (r_out _ p L ws (j : Int) HR0.out hj0 hj1 (by omega)).mono ?_; rintro r w1 ⟨rfl, hr1, hg1⟩; rw [Int.toNat_natCast] at hr1; (have HR1 := hid hr1); (have HG1 := hid hg1); (have BY := blk2 (heap_chg hg1 kb (fun e => by omega))); clear hr1 hg1 b0 b1)
      go_wp2_with (go_at_call 66; refine (r_part _ p (L.eraseIdx j) ws k.dir HR1.out hnw).mono ?_; rintro r w2 ⟨rfl, hr2, hg2⟩)
      go_ret
      refine ⟨by rw [HF.out]; rfl, ?_, Chg.trans (Chg.trans (Chg.trans (Chg.below (bl1 w _)) (Chg.below HB1.out) (fun _ _ h => h) (fun _ _ h => h)) HG1.out (fun _ _ h => h.elim) (fun _ _ h => h)) hg2 (fun _ _ h => h) (fun _ _ h => h)⟩
      rw [← erase_drop HK.out HFI.out, evictWs, HF.out]; simp only [Option.any_some, HG.out, Bool.not_false, if_true]; exact hr2

end Go.Proofs.Ytmhogjecfgbchaa
