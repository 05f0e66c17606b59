/- Parts of a proof about the given program, in build order: TidF. No condition. -/
import Derived.Test.YtbjibkjenleloaaGreatDoorMg08
section
namespace Go.Proofs.YtbjibkjenleloaaGreatDoor
set_option linter.unusedVariables false
set_option linter.unusedSimpArgs false
open Go.RowKit
attribute [local go_sem ↓] Go.wp_at_zero Go.wp_at_succ
attribute [local go_sem] run_store_complex run_store_float


theorem infoAct : (Tryz.prog.info? 94).map (fun i => (i.zero, i.size, i.bytes)) = some (some (.agg #[.bool false, .bool false, .bool false, .bool false, .slice none 0 0, .int .i64 0, .slice none 0 0]), 7, 64) := by kernel_rfl
theorem rd_none (w : World) : Rd w (.slice none 0 0) 0 [] := .inl ⟨rfl, rfl, rfl⟩
set_option maxRecDepth 100000 in
set_option maxHeartbeats 4000000 in
theorem tide_take (w : World) (t : Nat) (s s2 : Td) (m : Ms) (L : List En) (ag re wh : Bool) (er : Int) (h : TidAt w t s) (hk : m.kind = 2) (hc : m.client = s.cl) (hl : m.life = s.life) (h1 : InM m.me) (h3 : InM s.me) (h4 : InM s.mn) (hle : s.me < m.me) (hmn : m.mn = 0) (hsq : m.seq = s.asked) (h0 : 0 < s.asked)
    (hu : ∀ w1, TidAt w1 t { s with me := m.me, mn := 0 } → Chg (fun j => j = t) w w1 → Calls Tryz.prog 63 #[.pointer (some ⟨t, 0, none⟩), m.v] w1 fun e w' => ∃ a c, e = .returned (actV false ag re wh none 0 0 er a L.length c) ∧ w'.ownsRow w1.heap.size 55 7 (.slice a L.length c) L.length (ecs L) ∧ TidAt w' t s2 ∧ Chg (fun j => j = t) w1 w') :
    Calls Tryz.prog 32 #[.pointer (some ⟨t, 0, none⟩), m.v] w fun e w' => ∃ aa ca a c, e = .returned (.slice aa 2 ca) ∧ w'.ownsRow w.heap.size 94 7 (.slice aa 2 ca) 2 ([.bool true, .bool false, .bool false, .bool false, .slice none 0 0, .int .i64 0, .slice none 0 0] ++ [.bool false, .bool ag, .bool re, .bool wh, .slice none 0 0, .int .i64 er, .slice a L.length c]) ∧ w'.ownsRow w.heap.size 55 7 (.slice a L.length c) L.length (ecs L) ∧ TidAt w' t s2 ∧ Chg (fun j => j = t) w w' := by
  have hmx : InM 0 := by unfold InM; omega
  have HCT := hid (fun w1 (ht : TidAt w1 t s) => tide_counts w1 t s m ht (by omega) (by omega) hc hl h1 (by rw [hmn]; exact hmx) h3 h4 (by omega))
  have HAH := hid (fun w1 (ht : TidAt w1 t { s with me := m.me, mn := 0 }) => (tide_ahead w1 t _ m ht rfl (by rw [hmn]; exact hmx) h1 hmx (by rw [hmn]; exact Int.le_refl _)).mono (R' := fun e w' => e = .returned (.int .i64 0) ∧ Below w1.heap.size w1 w') (fun e w' h => ⟨by rw [h.1, hmn]; rfl, h.2⟩))
  have HWT := hid (fun w1 (ht : TidAt w1 t { s with me := m.me, mn := 0 }) => tide_wanted w1 t _ m ht hsq h0)
  have HU := hid hu
  have HI1 := hid h1; have HI3 := hid h3; have HI4 := hid h4; have HI0 := hid hmx
  have HM := hid (heap_new w (.cells m.cs 50))
  have HT0 := hid (h.below (bl1 w (.cells m.cs 50)))
  have ht := h.lt
  have HK := hid (And.intro hk hmn)
  have g1 : decide (m.me > s.me) = true := by simp; omega
  have g2 : decide (s.me < m.me) = true := by simp; omega
  obtain ⟨i0, hi, hz0, hz1, hz2⟩ := info_parts infoAct
  have HI := hid hi
  clear h hk hc hl h1 h3 h4 hle hmn hsq h0 hu hmx hi
  unfold Ms.v at HCT HAH HWT HU ⊢
  unfold Ms.cs at HM HT0 HCT HAH HWT HU ⊢
  rw [HK.out.1, HK.out.2] at HM HT0 HCT HAH HWT HU ⊢
  go_enter Tryz.func32, Tryz.ntmps32
  have bm0 := (blk16 HM.out).1
  go_wp2_with fail
  refine (HCT.out _ HT0.out).mono ?_; rintro e w1 ⟨rfl, hb1⟩
  have HT1 := hid (HT0.out.below hb1)
  have HM1 := hid (heap_below hb1 HM.out (blk_lt HM.out))
  have HC1 := hid (show Chg (fun j => j = t) w w1 from chg_new (Chg.alloc (Chg.refl _ w) _) (Chg.below hb1) (by intro j hj; exact hj.elim))
  have b1 := blk8 HT1.out
  have bm1 := (blk16 HM1.out).1
  clear hb1 HM HT0 HCT bm0
  go_wp2_with fail
  refine (epoch_any _ _ HI1.out HI0.out _).mono ?_; rintro e w2 ⟨rfl, rfl⟩
  go_wp2_with fail
  refine (epoch_any _ _ HI3.out HI4.out _).mono ?_; rintro e w2 ⟨rfl, rfl⟩
  go_wp2_with fail
  refine (mark_at_yes _ _ HI1.out HI0.out _).mono ?_; rintro e w2 ⟨rfl, rfl⟩
  have hW := heap_set (heap_set (heap_set HT1.out 3 (.complex .f64 (fl m.me) (fl 0))) 6 (.slice none 0 0)) 7 (.slice none 0 0)
  simp only [List.setIfInBounds_toArray, List.set_cons_zero, List.set_cons_succ] at hW
  have HTW := hid (show TidAt (((w1.setCell ⟨t, 3, none⟩ (.complex .f64 (fl m.me) (fl 0))).setCell ⟨t, 6, none⟩ (.slice none 0 0)).setCell ⟨t, 7, none⟩ (.slice none 0 0)) t { s with me := m.me, mn := 0 } from hW)
  have hlt : t < w1.heap.size := HT1.out.lt
  have HMW := hid (heap_set_ne (heap_set_ne (heap_set_ne HM1.out 3 (.complex .f64 (fl m.me) (fl 0)) (j := t) (by omega)) 6 (.slice none 0 0) (j := t) (by omega)) 7 (.slice none 0 0) (j := t) (by omega))
  have HCW := hid (show Chg (fun j => j = t) w (((w1.setCell ⟨t, 3, none⟩ (.complex .f64 (fl m.me) (fl 0))).setCell ⟨t, 6, none⟩ (.slice none 0 0)).setCell ⟨t, 7, none⟩ (.slice none 0 0)) from Chg.set1 (Chg.set1 (Chg.set1 HC1.out _ _ rfl) _ _ rfl) _ _ rfl)
  have hnew := heap_new (((w1.setCell ⟨t, 3, none⟩ (.complex .f64 (fl m.me) (fl 0))).setCell ⟨t, 6, none⟩ (.slice none 0 0)).setCell ⟨t, 7, none⟩ (.slice none 0 0)) (.cells #[.bool true, .bool false, .bool false, .bool false, .slice none 0 0, .int .i64 0, .slice none 0 0] 94)
  rw [set_size, set_size, set_size] at hnew
  have HN := hid hnew
  have HZ := hid (show w.heap.size ≤ ((((w1.setCell ⟨t, 3, none⟩ (.complex .f64 (fl m.me) (fl 0))).setCell ⟨t, 6, none⟩ (.slice none 0 0)).setCell ⟨t, 7, none⟩ (.slice none 0 0)).alloc (.cells #[.bool true, .bool false, .bool false, .bool false, .slice none 0 0, .int .i64 0, .slice none 0 0] 94)).heap.size by have := HC1.out.size; simp; omega)
  clear hnew hW
  go_wp2_with (at_builtin; refine wpList_append_rd rfl _ _ 91 rfl w.heap.size 94 i0 _ 7 64 Tryz.underlying91 HI.out hz0 hz1 hz2 rfl (by decide) (.slice none 0 0) 0 [] rfl (World.ownsRow_nil _ _ _ _) (.slice (some ⟨w1.heap.size, 0, none⟩) 1 1) 1 [.bool true, .bool false, .bool false, .bool false, .slice none 0 0, .int .i64 0, .slice none 0 0] rfl (rd_blk HN.out (by unfold maxLen; omega)) rfl (by intro u hu; simp at hu; rcases hu with rfl | rfl | rfl | rfl | rfl | rfl | rfl <;> rfl) (by unfold maxLen; omega) (by omega) HZ.out ?_; intro a2 c2 w2 hown2 hgrow2 hat2; (have ht2 := heap_grown hgrow2 (heap_old HTW.out _) (by simp [Value.ownBlock])); (have hm2 := heap_grown hgrow2 (heap_old HMW.out _) (by simp [Value.ownBlock])); (have HT2 := hid (show TidAt w2 t { s with me := m.me, mn := 0 } from ht2)); (have HM2 := hid hm2); (have b2 := blk8 ht2); (have bm2 := (blk16 hm2).1); (have HO2 := hid (show w2.ownsRow w.heap.size 94 7 (.slice a2 1 c2) 1 [.bool true, .bool false, .bool false, .bool false, .slice none 0 0, .int .i64 0, .slice none 0 0] from hown2)); (have HC2 := hid (show Chg (fun j => j = t) w w2 from (Chg.alloc HCW.out _).grown hgrow2 (fun j hj => by simp [Value.ownBlock] at hj))); clear hown2 hgrow2 hat2 ht2 hm2 b1 bm1)
  refine (HAH.out _ HT2.out).mono ?_; rintro e w3 ⟨rfl, hb3⟩
  have HT3 := hid (HT2.out.below hb3)
  have HM3 := hid (heap_below hb3 HM2.out (blk_lt HM2.out))
  have HO3 := hid (own_below HO2.out hb3)
  have HC3 := hid (chg_new HC2.out (Chg.below hb3) (by intro j hj; exact hj.elim))
  have b3 := blk8 HT3.out
  have bm3 := (blk16 HM3.out).1
  clear hb3 b2 bm2 HT2 HM2 HO2 HC2 HAH HTW HMW HCW HN HT1 HM1 HC1
  go_wp2_with fail
  refine (HWT.out _ HT3.out).mono ?_; rintro e w4 ⟨rfl, hb4⟩
  have HT4 := hid (HT3.out.below hb4)
  have HM4 := hid (heap_below hb4 HM3.out (blk_lt HM3.out))
  have HO4 := hid (own_below HO3.out hb4)
  have HC4 := hid (chg_new HC3.out (Chg.below hb4) (by intro j hj; exact hj.elim))
  have b4 := blk8 HT4.out
  have bm4 := (blk16 HM4.out).1
  clear hb4 b3 bm3 HT3 HM3 HO3 HC3 HWT
  go_wp2_with fail
  refine (HU.out _ HT4.out HC4.out).mono ?_; rintro e w5 ⟨a, c, rfl, hE5, ht5, hc5⟩
  have HE5 := hid (ownsRow_mono hE5 HC4.out.size)
  have HT5 := hid ht5
  have HO5 := hid (ownsRow_chg HO4.out fun j hj hl => hc5.block j hl fun e1 => by subst e1; exact own_ne HO4.out HT4.out (by decide) hj)
  have HC5 := hid (chg_new HC4.out hc5 (by intro j hj; exact .inl hj))
  have HN5 := hid (heap_new w5 (.cells #[.bool false, .bool ag, .bool re, .bool wh, .slice none 0 0, .int .i64 er, .slice a L.length c] 94))
  have HZ5 := hid (show w.heap.size ≤ (w5.alloc (.cells #[.bool false, .bool ag, .bool re, .bool wh, .slice none 0 0, .int .i64 er, .slice a L.length c] 94)).heap.size by have := HC5.out.size; simp; omega)
  unfold actV
  clear hE5 ht5 hc5 HO4 HC4 HM4 HU b4 bm4
  go_wp2_with (at_builtin; refine wpList_append_rd rfl _ _ 91 rfl w.heap.size 94 i0 _ 7 64 Tryz.underlying91 HI.out hz0 hz1 hz2 rfl (by decide) (.slice a2 1 c2) 1 [.bool true, .bool false, .bool false, .bool false, .slice none 0 0, .int .i64 0, .slice none 0 0] rfl (own_alloc HO5.out _) (.slice (some ⟨w5.heap.size, 0, none⟩) 1 1) 1 [.bool false, .bool ag, .bool re, .bool wh, .slice none 0 0, .int .i64 er, .slice a L.length c] rfl (rd_blk HN5.out (by unfold maxLen; omega)) rfl (by intro u hu; simp at hu; rcases hu with rfl | rfl | rfl | rfl | rfl | rfl | rfl <;> rfl) (by unfold maxLen; omega) (by omega) HZ5.out ?_; intro a6 c6 w6 hown6 hgrow6 hat6; (have ht6 := heap_grown hgrow6 (heap_old HT5.out _) (Ne.symm (own_ne HO5.out HT5.out (by decide)))); (have HT6 := hid (show TidAt w6 t s2 from ht6)); (have HO6 := hid (show w6.ownsRow w.heap.size 94 7 (.slice a6 2 c6) 2 ([.bool true, .bool false, .bool false, .bool false, .slice none 0 0, .int .i64 0, .slice none 0 0] ++ [.bool false, .bool ag, .bool re, .bool wh, .slice none 0 0, .int .i64 er, .slice a L.length c]) from hown6)); (have hcg := (Chg.refl (fun j => (Value.slice a2 1 c2).ownBlock = some j) (w5.alloc (.cells #[.bool false, .bool ag, .bool re, .bool wh, .slice none 0 0, .int .i64 er, .slice a L.length c] 94))).grown hgrow6 (fun j hj => .inl hj)); (have HE6 := hid (ownsRow_chg (own_alloc HE5.out (.cells #[.bool false, .bool ag, .bool re, .bool wh, .slice none 0 0, .int .i64 er, .slice a L.length c] 94)) fun j hj hl => hcg.block j hl (fun hf => own_ne2 HE5.out HO5.out (by decide) j hj hf))); (have HC6 := hid (chg_new (Chg.alloc HC5.out _) hcg (fun j hf => .inr (own_lt HO5.out hf).1))); clear hown6 hgrow6 hat6 hcg ht6)
  refine (settle_nil _ t s2 HT6.out).mono ?_; rintro e w7 ⟨rfl, ht7, hc7⟩
  have HT7 := hid ht7
  have HO7 := hid (ownsRow_chg HO6.out fun j hj hl => hc7.block j hl fun e1 => by subst e1; exact own_ne HO6.out HT6.out (by decide) hj)
  have HE7 := hid (ownsRow_chg HE6.out fun j hj hl => hc7.block j hl fun e1 => by subst e1; exact own_ne HE6.out HT6.out (by decide) hj)
  have HC7 := hid (chg_new HC6.out hc7 (by intro j hj; exact .inl hj))
  have HZ7 := hid HC7.out.size
  clear ht7 hc7 HO6 HE6 HC6 HT6 HN5 HZ5 HO5 HE5 HC5 HT5
  go_wp2_with (at_builtin; refine wpList_append_rd rfl _ _ 91 rfl w.heap.size 94 i0 _ 7 64 Tryz.underlying91 HI.out hz0 hz1 hz2 rfl (by decide) (.slice a6 2 c6) 2 ([.bool true, .bool false, .bool false, .bool false, .slice none 0 0, .int .i64 0, .slice none 0 0] ++ [.bool false, .bool ag, .bool re, .bool wh, .slice none 0 0, .int .i64 er, .slice a L.length c]) rfl HO7.out (.slice none 0 0) 0 [] rfl (rd_none _) rfl (by simp) (by unfold maxLen; omega) (by omega) HZ7.out ?_; intro a8 c8 w8 hown8 hgrow8 hat8)
  have ht8 := heap_grown hgrow8 HT7.out (Ne.symm (own_ne HO7.out HT7.out (by decide)))
  have hcg := (Chg.refl (fun j => (Value.slice a6 2 c6).ownBlock = some j) w7).grown hgrow8 (fun j hj => .inl hj)
  have hE8 := ownsRow_chg HE7.out fun j hj hl => hcg.block j hl (fun hf => own_ne2 HE7.out HO7.out (by decide) j hj hf)
  have hC8 := chg_new HC7.out hcg (fun j hf => .inr (own_lt HO7.out hf).1)
  rw [List.append_nil] at hown8
  go_ret
  exact ⟨a8, c8, a, c, rfl, hown8, hE8, ht8, hC8⟩
end Go.Proofs.YtbjibkjenleloaaGreatDoor

end
