import Derived.Test.YtmhogjecfgbchaaDentP
namespace Go.Proofs.Ytmhogjecfgbchaa
set_option linter.unusedVariables false
set_option linter.unusedSimpArgs false
open Go.RowKit
attribute [local go_sem ↓] Go.wp_at_zero Go.wp_at_succ

theorem atE_cases (k : Ky) (L : List En) : (findL k L = none ∧ atE k L = -1) ∨ ∃ j e, findL k L = some e ∧ atE k L = (j : Nat) ∧ L[j]? = some e ∧ e.key = k ∧ j < L.length ∧ L.findIdx? (isK k) = some j := by
  cases hf : L.findIdx? (isK k) with
  | none =>
    left
    refine ⟨?_, by simp [atE, hf]⟩
    rw [findL, List.find?_eq_none]
    intro x hx
    simpa using List.findIdx?_eq_none_iff.1 hf x hx
  | some j =>
    right
    obtain ⟨hjl, h1, h2⟩ := List.findIdx?_eq_some_iff_getElem.1 hf
    refine ⟨j, L[j], ?_, by simp [atE, hf], List.getElem?_eq_getElem hjl, by simpa [isK, eq_comm] using h1, hjl, rfl⟩
    rw [findL, List.find?_eq_some_iff_getElem]
    exact ⟨h1, j, hjl, rfl, fun i hi => by simpa using h2 i hi⟩
theorem erase_drop {k : Ky} {L : List En} {j : Nat} (hn : (L.map En.key).Nodup) (h : L.findIdx? (isK k) = some j) : L.eraseIdx j = dropL k L := by
  induction L generalizing j with
  | nil => simp at h
  | cons x L ih =>
    simp only [List.map_cons, List.nodup_cons] at hn
    rw [List.findIdx?_cons] at h
    by_cases hk : isK k x = true
    · simp only [hk, if_true, Option.some.injEq] at h
      subst h
      have hx : k = x.key := by simpa [isK] using hk
      rw [List.eraseIdx_cons_zero, dropL, List.filter_cons_of_neg (by simp [hk])]
      exact (List.filter_eq_self.2 fun y hy => by
        have : k ≠ y.key := fun e => hn.1 (List.mem_map.2 ⟨y, hy, by rw [← e, hx]⟩)
        simp [isK, this]).symm
    · simp only [hk, Bool.false_eq_true, if_false, Option.map_eq_some_iff] at h
      obtain ⟨i, hi, rfl⟩ := h
      rw [List.eraseIdx_cons_succ, ih hn.2 hi, dropL, dropL, List.filter_cons_of_pos (by simp [hk])]

/-- the blocks that the document's cache may write to: its own, and rows of entries and of integers -/
def RF (w : World) (p : Nat) (k : Nat) : Prop := k = p ∨ (p < k ∧ ((∃ cur, w.heap[k]? = some (.cells cur 30 (0, 0))) ∨ ∃ cur, w.heap[k]? = some (.cells cur 3 (0, 0))))
theorem RF.back {w w' : World} {p : Nat} (hc : Chg (fun k => k = p) w w') : ∀ i, i < w.heap.size → RF w' p i → RF w p i := by
  rintro i hi (h | ⟨h1, h2⟩)
  · exact .inl h
  · have e : w'.heap[i]? = w.heap[i]? := hc.block i hi (by omega)
    rw [e] at h2; exact .inr ⟨h1, h2⟩
theorem RF.ge {w : World} {p k : Nat} (h : RF w p k) : p ≤ k := by rcases h with h | ⟨h, _⟩ <;> omega
theorem RF.not {w : World} {p k T : Nat} {cs : Array Value} {fr : Nat × Nat} (hp : k ≠ p) (hk : w.heap[k]? = some (.cells cs T fr)) (h1 : T ≠ 30) (h2 : T ≠ 3) : ¬ RF w p k := by
  rintro (h | ⟨_, ⟨cur, h⟩ | ⟨cur, h⟩⟩)
  · exact hp h
  · rw [hk] at h; simp at h; exact h1 h.2.1
  · rw [hk] at h; simp at h; exact h2 h.2.1

theorem rApp_fin {W w2 : World} {p : Nat} {L : List En} {ws : List Int} {aL a2 aW : Option Addr} {cL c2 cW : Nat} {e : En} {o : Obj} (h1 : W.heap[p]? = some (.cells #[.slice aL L.length cL, .slice aW ws.length cW] 82 (0, 0)))
    (h2 : W.ownsRow (p + 1) 30 7 (.slice aL L.length cL) L.length (ecs L)) (h3 : W.ownsRow (p + 1) 3 1 (.slice aW ws.length cW) ws.length (ics ws))
    (hg : (W.alloc o).grownBy w2 (Value.slice aL L.length cL).ownBlock) (hown : w2.ownsRow (p + 1) 30 7 (.slice a2 (L.length + 1) c2) (L.length + 1) (ecs L ++ e.cells)) :
    RAt (w2.setCell ⟨p, 0, none⟩ (.slice a2 (L.length + 1) c2)) p (L ++ [e]) ws ∧ Chg (RF W p) W (w2.setCell ⟨p, 0, none⟩ (.slice a2 (L.length + 1) c2)) := by
  have hne : some p ≠ (Value.slice aL L.length cL).ownBlock := fun e => by have := (own_lt h2 e.symm).1; omega
  have k2 := heap_grown hg (heap_old h1 o) hne
  have w3 := own_grown (own_alloc h3 o) hg (fun k hk => own_ne2 h3 h2 (by decide) k hk)
  refine ⟨⟨a2, c2, aW, cW, ?_, ?_, own_set w3 (own_ne w3 k2 (by decide)) _ _⟩, ?_⟩
  · have := heap_set k2 0 (.slice a2 (L.length + 1) c2)
    rw [List.length_append]; simpa using this
  · rw [List.length_append, ecs_snoc]; exact own_set hown (own_ne hown k2 (by decide)) _ _
  · exact (((Chg.refl _ W).alloc o).grown hg (fun k hk => .inl (.inr ⟨by have := (own_lt h2 hk).1; omega, .inl (own_type h2 hk)⟩))).setCell ⟨p, 0, none⟩ _ (.inl (.inl rfl))

set_option maxRecDepth 100000 in
set_option maxHeartbeats 2000000 in
theorem r_put (w : World) (p : Nat) (L : List En) (ws : List Int) (e : En) (h : RAt w p L ws) (hk : (L.map En.key).Nodup) (hn : (L.length + 1) * 72 ≤ 140737488351232) :
    Calls Try.prog 51 #[.pointer (some ⟨p, 0, none⟩), .agg #[.int .i64 e.key.dir, .string e.key.name, .bool e.neg, .int .i64 e.node.id, .int .i64 e.node.kind, .int .i64 e.node.mode, .string e.node.target]] w fun r w' => r = .returned (.int .i64 (if e.key.name = ByteArray.empty then 1 else 0)) ∧ RAt w' p (putL e L) ws ∧ Chg (RF w p) w w' := by
  by_cases hne : e.key.name = ByteArray.empty
  · have h1 := (name_empty _).1 hne
    have h2 : e.key.name.toList.isEmpty = true := by simp [h1]
    have HH := hid h
    have HN := hid hne
    clear h hne
    go_enter Try.func51, Try.ntmps51
    go_wp2
    go_ret
    exact ⟨by simp [HN.out], by rw [putL, if_pos HN.out]; exact HH.out.below (bl1 w _), Chg.mono (Chg.below (bl1 w _)) fun _ _ h => h.elim⟩
  · have h3 : e.key.name.toList ≠ [] := fun h3 => hne ((name_empty _).2 h3)
    have h2 : e.key.name.toList.isEmpty = false := by simpa using h3
    obtain ⟨i7, hi7, p7, q7, r7⟩ := info_parts infoEn
    have HI7 := hid hi7
    have HH := hid h
    have HN := hid hne
    have HK := hid hk
    have HONE := hid (En.one e)
    have hp := h.lt
    have BX := blk7 (heap_new w (.cells #[.int .i64 e.key.dir, .string e.key.name, .bool e.neg, .int .i64 e.node.id, .int .i64 e.node.kind, .int .i64 e.node.mode, .string e.node.target] 30))
    clear hne h3 hi7 h hk
    rcases atE_cases e.key L with ⟨hf, ha⟩ | ⟨j, x, hf, ha, hx, hxk, hjl, hfi⟩
    · have HF := hid hf
      clear hf
      go_enter Try.func51, Try.ntmps51
      go_wp2_with (go_at_call 70; refine (r_at _ p L ws e.key (HH.out.below (bl1 w _)) (by omega)).mono ?_; rintro r w1 ⟨rfl, hb1⟩; rw [ha])
      have hz1 := hb1.size
      have k1 := heap_below hb1 (heap_new w (.cells #[.int .i64 e.key.dir, .string e.key.name, .bool e.neg, .int .i64 e.node.id, .int .i64 e.node.kind, .int .i64 e.node.mode, .string e.node.target] 30)) (by simp)
      have BX1 := blk7 k1
      have hlow : p < w1.heap.size := by simp at hz1; omega
      obtain ⟨aL3, cL3, aW3, cW3, K, O, Wd⟩ := ((HH.out.below (bl1 w _)).below hb1).ex
      have b1 := blk2 K
      have K3 := hid K
      have O3 := hid O
      have W3 := hid Wd
      clear K O Wd BX k1
      go_wp2_with fail
      go_region_law (refine step_append_rd (by rfl) _ _ 49 (by rfl) (p + 1) 30 i7 _ 7 72 Try.underlying49 HI7.out p7 q7 r7 rfl (by decide) (.slice aL3 (L).length cL3) (L).length (ecs (L)) (by rfl) (own_alloc (own_drew O3.out) _) (.slice (some ⟨w1.heap.size, 0, none⟩) 1 1) 1 [.int .i64 e.key.dir, .string e.key.name, .bool e.neg, .int .i64 e.node.id, .int .i64 e.node.kind, .int .i64 e.node.mode, .string e.node.target] (by rfl) (rd_blk (heap_new w1.drew (.cells #[.int .i64 e.key.dir, .string e.key.name, .bool e.neg, .int .i64 e.node.id, .int .i64 e.node.kind, .int .i64 e.node.mode, .string e.node.target] 30)) (by unfold maxLen; omega)) rfl HONE.out (by unfold maxLen; omega) (by omega) (by simp; omega) ?_; intro a2 c2 w2 hown2 hgrow2 hat2; (have kp := heap_grown hgrow2 (heap_old K3.out _) (fun e => by have := (own_lt O3.out e.symm).1; omega)); (have b3 := blk2 kp); (have KP := hid kp); clear kp)
      all_goals
        go_wp2
        go_ret
        obtain ⟨f1, f2⟩ := rApp_fin (W := w1.drew) K3.out O3.out W3.out hgrow2 hown2
        have H1 : Chg (fun k => k = p) w w1.drew := Chg.mono (Chg.trans (Chg.below (bl1 w _)) (Chg.below hb1).drew (fun _ _ h => h) (fun _ _ h => h)) (fun _ _ h => h.elim)
        refine ⟨by simp [HN.out], ?_, Chg.trans H1 f2 (fun _ _ h => .inl h) (RF.back H1)⟩
        rw [putL, if_neg HN.out, drop_none HF.out]; exact f1
    · obtain ⟨M, hM⟩ : ∃ M, M = L.eraseIdx j := ⟨_, rfl⟩
      have hMl : M.length ≤ L.length := by rw [hM]; exact List.length_eraseIdx_le ..
      have HFI := hid hfi
      have HM := hid hM
      have hj0 : (0 : Int) ≤ (j : Int) := by omega
      have hj1 : (j : Int) < (L.length : Int) := by omega
      clear hf hx hxk hfi hM
      go_enter Try.func51, Try.ntmps51
      go_wp2_with (first
        | (go_at_call 70; refine (r_at _ p L ws e.key (HH.out.below (bl1 w _)) (by omega)).mono ?_; rintro r w0 ⟨rfl, hb1⟩; rw [ha]; (have HB1 := hid hb1))
        | (go_at_call 71; refine (r_out _ p L ws (j : Int) ((HH.out.below (bl1 w _)).below HB1.out) hj0 hj1 (by omega)).mono ?_; rintro r w1 ⟨rfl, hr1, hg1⟩; rw [Int.toNat_natCast, ← HM.out] at hr1; (have HR1 := hid hr1); (have HG1 := hid hg1); clear hr1 hg1))
      have hz0 := HB1.out.size
      have hz1 := HG1.out.size
      have hlow : p < w1.heap.size := by simp at hz0; omega
      have k1 := heap_chg HG1.out (heap_below HB1.out (heap_new w (.cells #[.int .i64 e.key.dir, .string e.key.name, .bool e.neg, .int .i64 e.node.id, .int .i64 e.node.kind, .int .i64 e.node.mode, .string e.node.target] 30)) (by simp)) (fun e => by omega)
      have BX1 := blk7 k1
      obtain ⟨aL3, cL3, aW3, cW3, K, O, Wd⟩ := HR1.out.ex
      have b1 := blk2 K
      have K3 := hid K
      have O3 := hid O
      have W3 := hid Wd
      clear K O Wd BX k1
      go_wp2_with fail
      go_region_law (refine step_append_rd (by rfl) _ _ 49 (by rfl) (p + 1) 30 i7 _ 7 72 Try.underlying49 HI7.out p7 q7 r7 rfl (by decide) (.slice aL3 (M).length cL3) (M).length (ecs (M)) (by rfl) (own_alloc (own_drew O3.out) _) (.slice (some ⟨w1.heap.size, 0, none⟩) 1 1) 1 [.int .i64 e.key.dir, .string e.key.name, .bool e.neg, .int .i64 e.node.id, .int .i64 e.node.kind, .int .i64 e.node.mode, .string e.node.target] (by rfl) (rd_blk (heap_new w1.drew (.cells #[.int .i64 e.key.dir, .string e.key.name, .bool e.neg, .int .i64 e.node.id, .int .i64 e.node.kind, .int .i64 e.node.mode, .string e.node.target] 30)) (by unfold maxLen; omega)) rfl HONE.out (by unfold maxLen; omega) (by omega) (by simp; omega) ?_; intro a2 c2 w2 hown2 hgrow2 hat2; (have kp := heap_grown hgrow2 (heap_old K3.out _) (fun e => by have := (own_lt O3.out e.symm).1; omega)); (have b3 := blk2 kp); (have KP := hid kp); clear kp)
      all_goals
        go_wp2
        go_ret
        obtain ⟨f1, f2⟩ := rApp_fin (W := w1.drew) K3.out O3.out W3.out hgrow2 hown2
        have H1 : Chg (fun k => k = p) w w1.drew := Chg.trans (Chg.trans (Chg.below (bl1 w _)) (Chg.below HB1.out) (fun _ _ h => h) (fun _ _ h => h)) HG1.out.drew (fun _ _ h => h.elim) (fun i _ h => h)
        refine ⟨by simp [HN.out], ?_, Chg.trans H1 f2 (fun _ _ h => .inl h) (RF.back H1)⟩
        rw [putL, if_neg HN.out, ← erase_drop HK.out HFI.out, ← HM.out]; exact f1

end Go.Proofs.Ytmhogjecfgbchaa
