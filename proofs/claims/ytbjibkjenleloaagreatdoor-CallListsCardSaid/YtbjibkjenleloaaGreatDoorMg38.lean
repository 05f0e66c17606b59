/- Parts of a proof about the given program, in build order: LstS. No condition. -/
import Derived.Test.YtbjibkjenleloaaGreatDoorMg37
section
namespace Go.Proofs.YtbjibkjenleloaaGreatDoor
set_option linter.unusedVariables false
set_option linter.unusedSimpArgs false
open Go.RowKit
attribute [local go_sem ↓] Go.wp_at_zero Go.wp_at_succ
attribute [local go_sem] run_store_complex run_store_float

set_option maxRecDepth 100000 in
set_option maxHeartbeats 8000000 in
theorem tide_break (w : World) (t : Nat) (s : Td) (m : Ms) (L : List Ky) (h : TidAt w t s) (hk : m.kind = 3) (hc : m.client = s.cl) (hl : m.life = s.life) (h1 : InM m.me) (h2 : InM m.mn) (h3 : InM s.me) (h4 : InM s.mn) (hme : m.me = s.me) (hmn : m.mn = s.mn + 1) (ha : s.asked = 0) (hL : m.kl = L.length) (hE : Rd w (.slice m.ka m.kl m.kc) L.length (kyc L)) (hlen : L.length * 24 ≤ 140737488355328) (hne : m.ka.map (·.block) ≠ some t) :
    Calls Tryz.prog 32 #[.pointer (some ⟨t, 0, none⟩), m.v] w fun e w' => ∃ aa ca a c, e = .returned (.slice aa 1 ca) ∧ w'.ownsRow w.heap.size 94 7 (.slice aa 1 ca) 1 [.bool false, .bool false, .bool false, .bool false, .slice a L.length c, .int .i64 0, .slice none 0 0] ∧ w'.ownsRow w.heap.size 53 2 (.slice a L.length c) L.length (kyc L) ∧ TidAt w' t { s with me := m.me, mn := m.mn, ver := max s.ver m.ver } ∧ Chg (fun j => j = t) w w' := by
  have hmx : InM 0 := by unfold InM; omega
  have HCT := hid (fun w1 (ht : TidAt w1 t s) => tide_counts w1 t s m ht (by omega) (by omega) hc hl h1 h2 h3 h4 (by omega))
  have HAH := hid (fun w1 (ht : TidAt w1 t s) => (tide_ahead w1 t _ m ht hme h2 h3 h4 (by omega)).mono (R' := fun e w' => e = .returned (.int .i64 1) ∧ Below w1.heap.size w1 w') (fun e w' h => ⟨by rw [h.1, hmn]; congr 2; omega, h.2⟩))
  have HAP := hid (fun w1 (ht : TidAt w1 t s) (hx : Chg (fun j => j = t) w w1) => tide_apply w1 t s m L ht ha hk hL (hE.chg fun k hk hlt => hx.block k hlt (fun e2 => hne (by rw [← ownBlock_slice (n := m.kl) (c := m.kc), hk, e2]))) hlen hne)
  have HI1 := hid h1; have HI2 := hid h2; have HI3 := hid h3; have HI4 := hid h4
  have HM := hid (heap_new w (.cells m.cs 50))
  have HT0 := hid (h.below (bl1 w (.cells m.cs 50)))
  have ht := h.lt
  have g1 : decide (m.me > s.me) = false := by simp; omega
  have g2 : decide (s.me < m.me) = false := by simp; omega
  obtain ⟨i0, hi, hz0, hz1, hz2⟩ := info_parts infoAct
  have HI := hid hi
  have HK := hid hk
  clear h hk hc hl h1 h2 h3 h4 hme hmn ha hL hE hlen hne hmx hi
  unfold Ms.v at HCT HAH HAP ⊢
  unfold Ms.cs at HM HT0 HCT HAH HAP ⊢
  rw [HK.out] at HM HT0 HCT HAH HAP ⊢
  go_enter Tryz.func32, Tryz.ntmps32
  have bm0 := (blk16 HM.out).1
  go_wp2_with fail
  refine (HCT.out _ HT0.out).mono ?_; rintro e w1 ⟨rfl, hb1⟩
  have HT1 := hid (HT0.out.below hb1)
  have HM1 := hid (heap_below hb1 HM.out (blk_lt HM.out))
  have HC1 := hid (show Chg (fun j => j = t) w w1 from chg_new (Chg.alloc (Chg.refl _ w) _) (Chg.below hb1) (by intro j hj; exact hj.elim))
  have b1 := blk8 HT1.out
  have bm1 := (blk16 HM1.out).1
  clear hb1 HM HT0 HCT bm0
  go_wp2_with fail
  refine (epoch_any _ _ HI1.out HI2.out _).mono ?_; rintro e w2 ⟨rfl, rfl⟩
  go_wp2_with fail
  refine (epoch_any _ _ HI3.out HI4.out _).mono ?_; rintro e w2 ⟨rfl, rfl⟩
  go_wp2_with fail
  refine (HAH.out _ HT1.out).mono ?_; rintro e w3 ⟨rfl, hb3⟩
  have HT3 := hid (HT1.out.below hb3)
  have HM3 := hid (heap_below hb3 HM1.out (blk_lt HM1.out))
  have HC3 := hid (chg_new HC1.out (Chg.below hb3) (by intro j hj; exact hj.elim))
  have b3 := blk8 HT3.out
  have bm3 := (blk16 HM3.out).1
  clear hb3 b1 bm1 HT1 HM1 HC1 HAH
  go_wp2_with fail
  refine (HAP.out _ HT3.out HC3.out).mono ?_; rintro e w5 ⟨a, c, rfl, hE5, ht5, hc5⟩
  have HE5 := hid (ownsRow_mono hE5 HC3.out.size)
  have HT5 := hid ht5
  have HC5 := hid (chg_new HC3.out hc5 (by intro j hj; exact .inl hj))
  have HN5 := hid (heap_new w5 (.cells #[.bool false, .bool false, .bool false, .bool false, .slice a L.length c, .int .i64 0, .slice none 0 0] 94))
  have HZ5 := hid (show w.heap.size ≤ (w5.alloc (.cells #[.bool false, .bool false, .bool false, .bool false, .slice a L.length c, .int .i64 0, .slice none 0 0] 94)).heap.size by have := HC5.out.size; simp; omega)
  unfold actV
  clear hE5 ht5 hc5 HM3 HAP b3 bm3
  go_wp2_with (at_builtin; refine wpList_append_rd rfl _ _ 91 rfl w.heap.size 94 i0 _ 7 64 Tryz.underlying91 HI.out hz0 hz1 hz2 rfl (by decide) (.slice none 0 0) 0 [] rfl (World.ownsRow_nil _ _ _ _) (.slice (some ⟨w5.heap.size, 0, none⟩) 1 1) 1 [.bool false, .bool false, .bool false, .bool false, .slice a L.length c, .int .i64 0, .slice none 0 0] rfl (rd_blk HN5.out (by unfold maxLen; omega)) rfl (by intro u hu; simp at hu; rcases hu with rfl | rfl | rfl | rfl | rfl | rfl | rfl <;> rfl) (by unfold maxLen; omega) (by omega) HZ5.out ?_; intro a6 c6 w6 hown6 hgrow6 hat6; (have ht6 := heap_grown hgrow6 (heap_old HT5.out _) (by simp [Value.ownBlock])); (have HT6 := hid (show TidAt w6 t { s with me := m.me, mn := m.mn, ver := max s.ver m.ver } from ht6)); (have HO6 := hid (show w6.ownsRow w.heap.size 94 7 (.slice a6 1 c6) 1 [.bool false, .bool false, .bool false, .bool false, .slice a L.length c, .int .i64 0, .slice none 0 0] from hown6)); (have HC6 := hid (show Chg (fun j => j = t) w w6 from (Chg.alloc HC5.out _).grown hgrow6 (fun j hj => by simp [Value.ownBlock] at hj))); (have HE6 := hid (own_grown (own_alloc HE5.out (.cells #[.bool false, .bool false, .bool false, .bool false, .slice a L.length c, .int .i64 0, .slice none 0 0] 94)) hgrow6 (fun k hk e => by simp [Value.ownBlock] at e))); clear hown6 hgrow6 hat6 ht6)
  refine (settle_nil _ t { s with me := m.me, mn := m.mn, ver := max s.ver m.ver } HT6.out).mono ?_; rintro e w7 ⟨rfl, ht7, hc7⟩
  have HT7 := hid ht7
  have HO7 := hid (ownsRow_chg HO6.out fun j hj hl => hc7.block j hl fun e1 => by subst e1; exact own_ne HO6.out HT6.out (by decide) hj)
  have HE7 := hid (ownsRow_chg HE6.out fun j hj hl => hc7.block j hl fun e1 => by subst e1; exact own_ne HE6.out HT6.out (by decide) hj)
  have HC7 := hid (chg_new HC6.out hc7 (by intro j hj; exact .inl hj))
  have HZ7 := hid HC7.out.size
  clear ht7 hc7 HO6 HE6 HC6 HT6 HN5 HZ5 HE5 HC5 HT5
  go_wp2_with (at_builtin; refine wpList_append_rd rfl _ _ 91 rfl w.heap.size 94 i0 _ 7 64 Tryz.underlying91 HI.out hz0 hz1 hz2 rfl (by decide) (.slice a6 1 c6) 1 [.bool false, .bool false, .bool false, .bool false, .slice a L.length c, .int .i64 0, .slice none 0 0] rfl HO7.out (.slice none 0 0) 0 [] rfl (rd_none _) rfl (by simp) (by unfold maxLen; omega) (by omega) HZ7.out ?_; intro a8 c8 w8 hown8 hgrow8 hat8)
  have ht8 := heap_grown hgrow8 HT7.out (Ne.symm (own_ne HO7.out HT7.out (by decide)))
  have hcg := (Chg.refl (fun j => (Value.slice a6 1 c6).ownBlock = some j) w7).grown hgrow8 (fun j hj => .inl hj)
  have hE8 := ownsRow_chg HE7.out fun j hj hl => hcg.block j hl (fun hf => own_ne2 HE7.out HO7.out (by decide) j hj hf)
  have hC8 := chg_new HC7.out hcg (fun j hf => .inr (own_lt HO7.out hf).1)
  rw [List.append_nil] at hown8
  go_ret
  exact ⟨a8, c8, a, c, rfl, hown8, hE8, ht8, hC8⟩
end Go.Proofs.YtbjibkjenleloaaGreatDoor

end
