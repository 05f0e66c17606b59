import Derived.Test.YtmhogjecfgbchaaPruneA
namespace Go.Proofs.Ytmhogjecfgbchaa
set_option linter.unusedVariables false
set_option linter.unusedSimpArgs false
open Go.RowKit
attribute [local go_sem ↓] Go.wp_at_zero Go.wp_at_succ

/-- what Trim has at hand: the entries, the whole directories, what went -/
structure Ts where
  L : List En
  wh : Int → Bool
  G : List Ky
def evT (neg : Bool) (s : Ts) : Ts := match vicL neg s.L with | none => s | some v => ⟨dropL v.key s.L, evictWh v.key s.L s.wh, s.G ++ [v.key]⟩
def trN (neg : Int) : Nat → Ts → Ts
  | 0, s => s
  | k + 1, s => if (negL s.L : Int) > max neg 0 then trN neg k (evT true s) else s
def trM (most : Int) : Nat → Ts → Ts
  | 0, s => s
  | k + 1, s => if (s.L.length : Int) > max most 0 then (if (vicL false s.L).isSome then trM most k (evT false s) else s) else s
def trimT (most neg : Int) (s : Ts) : Ts := trM most (trN neg s.L.length s).L.length (trN neg s.L.length s)

theorem drop_len {L : List En} {v : En} (hn : (L.map En.key).Nodup) (hv : v ∈ L) : (dropL v.key L).length + 1 = L.length := by
  induction L with
  | nil => simp at hv
  | cons y L ih =>
    simp only [List.map_cons, List.nodup_cons] at hn
    unfold dropL
    by_cases hk : isK v.key y = true
    · have hky : v.key = y.key := by simpa [isK] using hk
      have hno : ∀ e ∈ L, (!isK v.key e) = true := fun e he => by
        have : v.key ≠ e.key := fun h => hn.1 (List.mem_map.2 ⟨e, he, by rw [← h, hky]⟩)
        simp [isK, this]
      rw [List.filter_cons_of_neg (by simp [hk]), List.filter_eq_self.2 hno]; simp
    · have hvL : v ∈ L := by
        rcases List.mem_cons.1 hv with rfl | h
        · exact absurd (by simp [isK]) hk
        · exact h
      rw [List.filter_cons_of_pos (by simp [hk]), List.length_cons, List.length_cons, ← ih hn.2 hvL]; rfl
theorem vic_mem {neg : Bool} {L : List En} {v : En} (h : vicL neg L = some v) : v ∈ L := List.mem_of_find?_eq_some h
theorem vic_some {L : List En} (h : 0 < negL L) : ∃ v, vicL true L = some v := by
  cases hf : vicL true L with
  | some v => exact ⟨v, rfl⟩
  | none =>
    unfold vicL at hf
    rw [List.find?_eq_none] at hf
    have : negL L = 0 := by rw [negL, List.countP_eq_zero]; intro e he; have := hf e he; simpa [vicP] using this
    omega
theorem evT_none {neg : Bool} {s : Ts} (h : vicL neg s.L = none) : evT neg s = s := by simp [evT, h]
theorem evT_some {neg : Bool} {s : Ts} {v : En} (h : vicL neg s.L = some v) : evT neg s = ⟨dropL v.key s.L, evictWh v.key s.L s.wh, s.G ++ [v.key]⟩ := by simp [evT, h]
theorem trN_step {neg : Int} {s : Ts} {v : En} (hn : (s.L.map En.key).Nodup) (h : (negL s.L : Int) > max neg 0) (hv : vicL true s.L = some v) : trN neg s.L.length s = trN neg (evT true s).L.length (evT true s) := by
  have hl := drop_len hn (vic_mem hv)
  rw [← hl, trN, if_pos h]
  rw [evT_some hv]
theorem trN_stop {neg : Int} {s : Ts} (h : ¬ (negL s.L : Int) > max neg 0) : trN neg s.L.length s = s := by
  cases hl : s.L.length with
  | zero => rfl
  | succ k => rw [trN, if_neg h]
theorem trM_step {most : Int} {s : Ts} {v : En} (hn : (s.L.map En.key).Nodup) (h : (s.L.length : Int) > max most 0) (hv : vicL false s.L = some v) : trM most s.L.length s = trM most (evT false s).L.length (evT false s) := by
  have hl := drop_len hn (vic_mem hv)
  obtain ⟨k, hk⟩ : ∃ k, s.L.length = k + 1 := ⟨_, hl.symm⟩
  have hk2 : (evT false s).L.length = k := by rw [evT_some hv]; show (dropL v.key s.L).length = k; omega
  rw [hk2, hk, trM, if_pos h, hv]; rfl
theorem trM_stop {most : Int} {s : Ts} (h : ¬ (s.L.length : Int) > max most 0) : trM most s.L.length s = s := by
  cases hl : s.L.length with
  | zero => rfl
  | succ k => rw [trM, if_neg h]
theorem trM_none {most : Int} {s : Ts} (hv : vicL false s.L = none) : trM most s.L.length s = s := by
  cases hl : s.L.length with
  | zero => rfl
  | succ k => rw [trM, hv]; simp

/-- the blocks of Trim's own variables: q the cache's, q + 1 the slice's; the row of what went above them -/
structure TrimAt (w : World) (B p n q : Nat) (s : Ts) : Prop where
  cat : CAt w B p n s.L s.wh
  pq : p < q
  b1 : w.heap[q]? = some (.cells #[.pointer (some ⟨p, 0, none⟩)] 23)
  b2 : ∃ a c, w.heap[q + 1]? = some (.cells #[.slice a s.G.length c] 31) ∧ w.ownsRow (q + 2) 26 2 (.slice a s.G.length c) s.G.length (kyc s.G)
  gl : s.G.length + s.L.length ≤ n
def TF (B p q k : Nat) : Prop := CF B p k ∨ q ≤ k
def glen (w : World) (k : Nat) : Nat := match w.cell? ⟨k, 0, none⟩ with | some (.slice _ n _) => n | _ => 0
theorem TrimAt.glen {w : World} {B p n q : Nat} {s : Ts} (h : TrimAt w B p n q s) : glen w (q + 1) = s.G.length := by
  obtain ⟨a, c, hb, _⟩ := h.b2
  unfold Go.Proofs.Ytmhogjecfgbchaa.glen; rw [(blk1 hb).1]
theorem TrimAt.below {w w' : World} {B p n q : Nat} {s : Ts} (h : TrimAt w B p n q s) (hb : Below w.heap.size w w') : TrimAt w' B p n q s := by
  obtain ⟨a, c, h1, h2⟩ := h.b2
  exact ⟨h.cat.below hb, h.pq, heap_below hb h.b1 (blk_lt h.b1), ⟨a, c, heap_below hb h1 (blk_lt h1), own_below h2 hb⟩, h.gl⟩
theorem Ky.one (x : Ky) : ∀ u ∈ x.cells, u.oneCell' = true := by
  intro u hu; simp [Ky.cells] at hu; rcases hu with rfl | rfl <;> rfl

set_option maxHeartbeats 2000000 in
theorem trim_evict (w : World) (B p n q : Nat) (s : Ts) (neg : Bool) (h : TrimAt w B p n q s) (hn : n * 80 ≤ 140737488351232) :
    Calls Try.prog 67 #[.bool neg, .pointer (some ⟨q, 0, none⟩), .pointer (some ⟨q + 1, 0, none⟩)] w fun r w' => r = .returned (.bool (vicL neg s.L).isSome) ∧ TrimAt w' B p n q (evT neg s) ∧ Chg (TF B p q) w w' := by
  obtain ⟨a, c, hb2, hown⟩ := h.b2
  obtain ⟨i2, hi2, p2, q2, r2⟩ := info_parts infoKy
  have HI2 := hid hi2
  have HT := hid h
  have HG0 := hid hb2
  have HO0 := hid hown
  have hpq := h.pq
  have hgl := h.gl
  have hqz := blk_lt hb2
  have b1 := blk1 h.b1
  have HKN := hid h.cat.keys
  clear h hb2 hown hi2
  cases hv : vicL neg s.L with
  | none =>
    have HV := hid hv
    have HVK := hid (show vicK neg s.L = ⟨0, ByteArray.empty⟩ by simp [vicK, hv])
    clear hv
    go_enter Try.func67, Try.ntmps67
    go_wp2_with (go_at_call 45; refine (c_victim _ _ p _ _ _ neg HT.out.cat hn).mono ?_; rintro r w1 ⟨rfl, hb1⟩; rw [HVK.out, HV.out]; simp only [Option.isSome_none])
    go_ret
    exact ⟨rfl, by rw [evT_none HV.out]; exact (HT.out.below hb1).below (bl1 w1 _), (Chg.below (hb1.alloc hb1.size _)).mono (fun _ _ h => h.elim)⟩
  | some v =>
    have HV := hid hv
    have HVK := hid (show vicK neg s.L = v.key by simp [vicK, hv])
    have HVM := hid (vic_mem hv)
    have HEV := hid (evT_some hv)
    have HDL := hid (drop_len HKN.out (vic_mem hv))
    have hnv : 1 ≤ s.L.length := List.length_pos_of_mem (vic_mem hv)
    clear hv
    go_enter Try.func67, Try.ntmps67
    go_wp2_with (first
      | (go_at_call 45; refine (c_victim _ _ p _ _ _ neg HT.out.cat hn).mono ?_; rintro r w1 ⟨rfl, hb1⟩; rw [HVK.out, HV.out]; simp only [Option.isSome_some]; (have HT1 := hid ((HT.out.below hb1).below (bl1 w1 (.cells #[.int .i64 v.key.dir, .string v.key.name] 26)))); (have bq1 := blk1 HT1.out.b1); (have KB1 := hid (heap_new w1 (.cells #[.int .i64 v.key.dir, .string v.key.name] 26))); (have bk1 := blk2 KB1.out); (have hw1 := hb1.size); (have HBL1 := hid (hb1.alloc hb1.size (.cells #[.int .i64 v.key.dir, .string v.key.name] 26))); clear hb1 b1)
      | (go_at_call 27; refine (c_evict _ _ p _ _ _ v.key HT1.out.cat).mono ?_; rintro r w2 ⟨rfl, hc2, hg2⟩; (have HC2 := hid hc2); (have HP2 := hid (heap_chg hg2 HT1.out.b1 (fun h => by have := h.2; omega))); (have HG2 := hid (heap_chg hg2 (heap_below HBL1.out HG0.out (blk_lt HG0.out)) (fun h => by have := h.2; omega))); (have HO2 := hid (ownsRow_chg (own_below HO0.out HBL1.out) (fun k hk hlt => hg2.block k hlt (fun h => by have := h.2; have := (own_lt HO0.out hk).1; omega)))); (have KB2 := hid (heap_chg hg2 KB1.out (fun h => by have := h.2; omega))); (have bg2 := blk1 HG2.out); (have bk2 := blk2 KB2.out); (have hw2 := hg2.size); simp only [World.size_alloc] at hw2; (have HGG2 := hid hg2); clear hc2 hg2 bk1)
      | (at_builtin; refine wpList_append_rd rfl _ _ 31 rfl (q + 2) 26 i2 _ 2 24 Try.underlying31 HI2.out p2 q2 r2 rfl (by decide) (.slice a s.G.length c) s.G.length (kyc s.G) rfl (own_alloc HO2.out _) (.slice (some ⟨w2.heap.size, 0, none⟩) 1 1) 1 [.int .i64 v.key.dir, .string v.key.name] rfl (rd_blk (heap_new w2 (.cells #[.int .i64 v.key.dir, .string v.key.name] 26)) (by unfold maxLen; omega)) rfl (Ky.one v.key) (by unfold maxLen; omega) (by omega) (by simp; omega) ?_; intro a6 c6 w6 hown6 hgrow6 hat6; (have kg6 := heap_grown hgrow6 (heap_old HG2.out (.cells #[.int .i64 v.key.dir, .string v.key.name] 26)) (fun e => by have := (own_lt HO2.out e.symm).1; omega)); (have bg6 := blk1 kg6); (have KG6 := hid kg6); (have HO6 := hid hown6); (have HGR6 := hid hgrow6); clear kg6 hown6 hgrow6 hat6))
    go_ret
    have hgs := HGR6.out.size
    have hch : Chg (fun k => q ≤ k) w2 (w6.setCell ⟨q + 1, 0, none⟩ (.slice a6 (s.G.length + 1) c6)) := (((Chg.refl _ w2).alloc (.cells #[.int .i64 v.key.dir, .string v.key.name] 26)).grown HGR6.out (fun k hk => .inl (by have := (own_lt HO2.out hk).1; omega))).setCell ⟨q + 1, 0, none⟩ _ (.inl (by simp))
    refine ⟨rfl, ?_, ?_⟩
    · rw [HEV.out]
      refine ⟨HC2.out.chg hch (fun k hk h => by have := hk.2; omega), hpq, ?_, ⟨a6, c6, ?_, ?_⟩, ?_⟩
      · exact heap_set_ne (heap_grown HGR6.out (heap_old HP2.out (.cells #[.int .i64 v.key.dir, .string v.key.name] 26)) (fun e => by have := (own_lt HO2.out e.symm).1; omega)) _ _ (by omega)
      · have := heap_set KG6.out 0 (.slice a6 (s.G.length + 1) c6)
        simpa using this
      · have ho := own_set HO6.out (p := q + 1) (fun e => by have := (own_lt HO6.out e).1; omega) 0 (.slice a6 (s.G.length + 1) c6)
        show World.ownsRow _ _ _ _ (.slice a6 (s.G ++ [v.key]).length c6) (s.G ++ [v.key]).length (kyc (s.G ++ [v.key]))
        rw [kyc_snoc, List.length_append]; exact ho
      · have := HDL.out
        show (s.G ++ [v.key]).length + (dropL v.key s.L).length ≤ n
        rw [List.length_append, List.length_singleton]; omega
    · exact Chg.trans (Chg.trans (Chg.below HBL1.out) HGG2.out (fun _ _ h => h.elim) (fun i hi h => .inl h)) hch (fun _ _ h => h) (fun i hi h => .inr h)

end Go.Proofs.Ytmhogjecfgbchaa
