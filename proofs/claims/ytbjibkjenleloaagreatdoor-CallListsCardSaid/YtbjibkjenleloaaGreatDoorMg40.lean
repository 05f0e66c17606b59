/- Parts of a proof about the given program, in build order: CalQ. No condition. -/
import Derived.Test.YtbjibkjenleloaaGreatDoorMg33
section
namespace Go.Proofs.YtbjibkjenleloaaGreatDoor
set_option linter.unusedVariables false
set_option linter.unusedSimpArgs false
open Go.RowKit
attribute [local go_sem ↓] Go.wp_at_zero Go.wp_at_succ
attribute [local go_sem] run_store_complex run_store_float


def opAgain : Op7 := ⟨4, 0, ByteArray.empty, 0, ByteArray.empty, 0, ByteArray.empty⟩
def markAm (m : Ms) (td : Td) : Ms := { m with me := td.me, mn := td.mn }
theorem infoMs : (Tryz.prog.info? 50).map (fun i => (i.zero, i.size, i.bytes)) = some (some (.agg #[.int .i64 0, .int .i64 0, .int .i64 0, .int .i64 0, .complex .f64 0 0, .int .i64 0, .int .i64 0, .int .i64 0, .int .i64 0, .string ByteArray.empty, .int .i64 0, .string ByteArray.empty, .int .i64 0, .string ByteArray.empty, .slice none 0 0, .slice none 0 0]), 16, 192) := by kernel_rfl
set_option maxRecDepth 100000 in
set_option maxHeartbeats 4000000 in
theorem tick_ask (w : World) (c t B p n : Nat) (s : Cl) (td : Td) (L : List En) (wh : Int → Bool) (h : CliAt w c t B p n s td L wh) (h1 : InM td.me) (h2 : InM td.mn) (h3 : td.me = 0) (h4 : s.am.kind ≠ 0) :
    Calls Tryz.prog 18 #[.pointer (some ⟨c, 0, none⟩)] w fun e w' => ∃ a cc, e = .returned (.slice a 1 cc) ∧ w'.ownsRow w.heap.size 50 16 (.slice a 1 cc) 1 ([.int .i64 s.am.kind, .int .i64 s.am.client, .int .i64 s.am.life, .int .i64 s.am.seq, .complex .f64 (fl td.me) (fl td.mn), .int .i64 s.am.ver, .int .i64 s.am.err, .int .i64 s.am.op.kind, .int .i64 s.am.op.dir, .string s.am.op.name, .int .i64 s.am.op.to_, .string s.am.op.new_, .int .i64 s.am.op.mode, .string s.am.op.target, .slice none 0 0, .slice none 0 0]) ∧ CliAt w' c t B p n { s with am := markAm s.am td } td L wh ∧ Chg (fun j => j = c) w w' := by
  have HC := hid h
  have HM := hid (And.intro h1 h2)
  have d1 : decide (td.me ≥ 1) = false := by simp; omega
  have d2 : decide (1 ≤ td.me) = false := by simp; omega
  have d3 : (s.am.kind != 0) = true := by simp [h4]
  have hcz := blk_lt h.hc
  obtain ⟨i0, hi, hz0, hz1, hz2⟩ := info_parts infoMs
  have HI := hid hi
  clear h h1 h2 h3 h4 hi
  go_enter Tryz.func18, Tryz.ntmps18
  go_wp2_with fail
  refine (cli_mark _ c t B p n s td L wh HC.out).mono ?_; rintro e w1 ⟨rfl, rfl⟩
  go_wp2_with fail
  refine (epoch_any _ _ HM.out.1 HM.out.2 _).mono ?_; rintro e w1 ⟨rfl, rfl⟩
  have HC1 := HC
  have HX1 := hid (Chg.refl (fun j => j = c) w)
  have e17 := cell_of HC.out.hc 17 (.int .i64 s.am.kind) rfl
  have hn := heap_new (w.setCell ⟨c, 21, none⟩ (.complex .f64 (fl td.me) (fl td.mn))) (.cells #[.int .i64 s.am.kind, .int .i64 s.am.client, .int .i64 s.am.life, .int .i64 s.am.seq, .complex .f64 (fl td.me) (fl td.mn), .int .i64 s.am.ver, .int .i64 s.am.err, .int .i64 s.am.op.kind, .int .i64 s.am.op.dir, .string s.am.op.name, .int .i64 s.am.op.to_, .string s.am.op.new_, .int .i64 s.am.op.mode, .string s.am.op.target, .slice none 0 0, .slice none 0 0] 50)
  rw [set_size] at hn
  have HN := hid hn
  have HZ := hid (show w.heap.size ≤ ((w.setCell ⟨c, 21, none⟩ (.complex .f64 (fl td.me) (fl td.mn))).alloc (.cells #[.int .i64 s.am.kind, .int .i64 s.am.client, .int .i64 s.am.life, .int .i64 s.am.seq, .complex .f64 (fl td.me) (fl td.mn), .int .i64 s.am.ver, .int .i64 s.am.err, .int .i64 s.am.op.kind, .int .i64 s.am.op.dir, .string s.am.op.name, .int .i64 s.am.op.to_, .string s.am.op.new_, .int .i64 s.am.op.mode, .string s.am.op.target, .slice none 0 0, .slice none 0 0] 50)).heap.size by have := HX1.out.size; simp <;> omega)
  have h9 := heap_set HC.out.hc 21 (.complex .f64 (fl td.me) (fl td.mn))
  simp only [cli, List.setIfInBounds_toArray, List.set_cons_zero, List.set_cons_succ] at h9
  have H9 := hid (show (w.setCell ⟨c, 21, none⟩ (.complex .f64 (fl td.me) (fl td.mn))).heap[c]? = some (.cells (cli t p { s with am := markAm s.am td }) 86 (0, 0)) from h9)
  have HS := hid (show Chg (fun j => j = c) w (w.setCell ⟨c, 21, none⟩ (.complex .f64 (fl td.me) (fl td.mn))) from Chg.set1 HX1.out _ _ rfl)
  have e17 := cell_of HC.out.hc 17 (.int .i64 s.am.kind) rfl
  have e18 := cell_of HC.out.hc 18 (.int .i64 s.am.client) rfl
  have e19 := cell_of HC.out.hc 19 (.int .i64 s.am.life) rfl
  have e20 := cell_of HC.out.hc 20 (.int .i64 s.am.seq) rfl
  have e21 := cell_of HC.out.hc 21 (.complex .f64 (fl s.am.me) (fl s.am.mn)) rfl
  have e22 := cell_of HC.out.hc 22 (.int .i64 s.am.ver) rfl
  have e23 := cell_of HC.out.hc 23 (.int .i64 s.am.err) rfl
  have e24 := cell_of HC.out.hc 24 (.int .i64 s.am.op.kind) rfl
  have e25 := cell_of HC.out.hc 25 (.int .i64 s.am.op.dir) rfl
  have e26 := cell_of HC.out.hc 26 (.string s.am.op.name) rfl
  have e27 := cell_of HC.out.hc 27 (.int .i64 s.am.op.to_) rfl
  have e28 := cell_of HC.out.hc 28 (.string s.am.op.new_) rfl
  have e29 := cell_of HC.out.hc 29 (.int .i64 s.am.op.mode) rfl
  have e30 := cell_of HC.out.hc 30 (.string s.am.op.target) rfl
  have e31 := cell_of HC.out.hc 31 (.slice none 0 0) rfl
  have e32 := cell_of HC.out.hc 32 (.slice none 0 0) rfl
  clear hn h9
  go_wp2_with fail
  refine (cli_mark _ c t B p n s td L wh HC.out).mono ?_; rintro e wz ⟨rfl, rfl⟩
  go_wp2_with (at_builtin; refine wpList_append_rd rfl _ _ 38 rfl w.heap.size 50 i0 _ 16 192 Tryz.underlying38 HI.out hz0 hz1 hz2 rfl (by decide) (.slice none 0 0) 0 ([]) rfl (World.ownsRow_nil _ _ _ _) (.slice (some ⟨w.heap.size, 0, none⟩) 1 1) 1 ([.int .i64 s.am.kind, .int .i64 s.am.client, .int .i64 s.am.life, .int .i64 s.am.seq, .complex .f64 (fl td.me) (fl td.mn), .int .i64 s.am.ver, .int .i64 s.am.err, .int .i64 s.am.op.kind, .int .i64 s.am.op.dir, .string s.am.op.name, .int .i64 s.am.op.to_, .string s.am.op.new_, .int .i64 s.am.op.mode, .string s.am.op.target, .slice none 0 0, .slice none 0 0]) rfl (rd_blk HN.out (by unfold maxLen; omega)) rfl (by intro u hu; simp only [List.mem_cons, List.mem_nil_iff, or_false] at hu; rcases hu with rfl | rfl | rfl | rfl | rfl | rfl | rfl | rfl | rfl | rfl | rfl | rfl | rfl | rfl | rfl | rfl <;> rfl) (by unfold maxLen; omega) (by omega) (HZ.out) ?_; intro a4 c4 w4 hown4 hgrow4 hat4)
  (try simp only [Exit.inBlock, Exit.then])
  have hcz4 : t ≠ c := heap_ty HC.out.ht HC.out.hc (by decide)
  have hX : Chg (fun j => j = c) w w4 := (Chg.alloc HS.out _).grown hgrow4 (fun j hj => by simp [Value.ownBlock] at hj)
  have hk4 := heap_grown hgrow4 (heap_old H9.out (.cells #[.int .i64 s.am.kind, .int .i64 s.am.client, .int .i64 s.am.life, .int .i64 s.am.seq, .complex .f64 (fl td.me) (fl td.mn), .int .i64 s.am.ver, .int .i64 s.am.err, .int .i64 s.am.op.kind, .int .i64 s.am.op.dir, .string s.am.op.name, .int .i64 s.am.op.to_, .string s.am.op.new_, .int .i64 s.am.op.mode, .string s.am.op.target, .slice none 0 0, .slice none 0 0] 50)) (by simp [Value.ownBlock])
  have hC4 : CliAt w4 c t B p n { s with am := markAm s.am td } td L wh := ⟨hk4, HC.out.ht.chg hX (fun e1 => hcz4 e1), HC.out.hp.chg hX (fun k hk e1 => HC.out.ncp (e1 ▸ hk)), HC.out.ncp, HC.out.ntp⟩
  have HF4 := hid (And.intro hC4 hX)
  have HO4 := hid hown4
  clear hC4 hX hk4 hown4 hgrow4 hat4
  go_ret
  exact ⟨a4, c4, rfl, HO4.out, HF4.out.1, HF4.out.2⟩
set_option maxRecDepth 100000 in
set_option maxHeartbeats 4000000 in
theorem tick_both (w : World) (c t B p n : Nat) (s : Cl) (td : Td) (L : List En) (wh : Int → Bool) (h : CliAt w c t B p n s td L wh) (h1 : InM td.me) (h2 : InM td.mn) (h3 : 1 ≤ td.me) (h4 : s.am.kind ≠ 0) :
    Calls Tryz.prog 18 #[.pointer (some ⟨c, 0, none⟩)] w fun e w' => ∃ a cc, e = .returned (.slice a 2 cc) ∧ w'.ownsRow w.heap.size 50 16 (.slice a 2 cc) 2 ([.int .i64 1, .int .i64 s.id, .int .i64 s.life, .int .i64 1, .complex .f64 (fl td.me) (fl td.mn), .int .i64 0, .int .i64 0, .int .i64 4, .int .i64 0, .string { data := #[] }, .int .i64 0, .string { data := #[] }, .int .i64 0, .string { data := #[] }, .slice none 0 0, .slice none 0 0] ++ [.int .i64 s.am.kind, .int .i64 s.am.client, .int .i64 s.am.life, .int .i64 s.am.seq, .complex .f64 (fl td.me) (fl td.mn), .int .i64 s.am.ver, .int .i64 s.am.err, .int .i64 s.am.op.kind, .int .i64 s.am.op.dir, .string s.am.op.name, .int .i64 s.am.op.to_, .string s.am.op.new_, .int .i64 s.am.op.mode, .string s.am.op.target, .slice none 0 0, .slice none 0 0]) ∧ CliAt w' c t B p n { s with am := markAm s.am td } td L wh ∧ Chg (fun j => j = c) w w' := by
  have HC := hid h
  have HM := hid (And.intro h1 h2)
  have d1 : decide (td.me ≥ 1) = true := by simp; omega
  have d2 : decide (1 ≤ td.me) = true := by simp; omega
  have d3 : (s.am.kind != 0) = true := by simp [h4]
  have hcz := blk_lt h.hc
  obtain ⟨i0, hi, hz0, hz1, hz2⟩ := info_parts infoMs
  have HI := hid hi
  clear h h1 h2 h3 h4 hi
  go_enter Tryz.func18, Tryz.ntmps18
  go_wp2_with fail
  refine (cli_mark _ c t B p n s td L wh HC.out).mono ?_; rintro e w1 ⟨rfl, rfl⟩
  go_wp2_with fail
  refine (epoch_any _ _ HM.out.1 HM.out.2 _).mono ?_; rintro e w1 ⟨rfl, rfl⟩
  go_wp2_with fail
  refine (cli_message _ c t B p n s td L wh 1 opAgain HC.out).mono ?_; rintro e w1 ⟨rfl, hb1⟩
  have HN1 := hid (heap_new w1 (.cells #[.int .i64 1, .int .i64 s.id, .int .i64 s.life, .int .i64 1, .complex .f64 (fl td.me) (fl td.mn), .int .i64 0, .int .i64 0, .int .i64 4, .int .i64 0, .string { data := #[] }, .int .i64 0, .string { data := #[] }, .int .i64 0, .string { data := #[] }, .slice none 0 0, .slice none 0 0] 50))
  have HB1 := hid hb1
  have hz1' : w.heap.size ≤ (w1.alloc (.cells #[.int .i64 1, .int .i64 s.id, .int .i64 s.life, .int .i64 1, .complex .f64 (fl td.me) (fl td.mn), .int .i64 0, .int .i64 0, .int .i64 4, .int .i64 0, .string { data := #[] }, .int .i64 0, .string { data := #[] }, .int .i64 0, .string { data := #[] }, .slice none 0 0, .slice none 0 0] 50)).heap.size := by have := HB1.out.size; simp; omega
  have HC1q := hid (HC.out.below hb1)
  unfold askMs Ms.v Ms.cs opAgain
  clear hb1
  go_wp2_with (at_builtin; refine wpList_append_rd rfl _ _ 38 rfl w.heap.size 50 i0 _ 16 192 Tryz.underlying38 HI.out hz0 hz1 hz2 rfl (by decide) (.slice none 0 0) 0 ([]) rfl (World.ownsRow_nil _ _ _ _) (.slice (some ⟨w1.heap.size, 0, none⟩) 1 1) 1 ([.int .i64 1, .int .i64 s.id, .int .i64 s.life, .int .i64 1, .complex .f64 (fl td.me) (fl td.mn), .int .i64 0, .int .i64 0, .int .i64 4, .int .i64 0, .string { data := #[] }, .int .i64 0, .string { data := #[] }, .int .i64 0, .string { data := #[] }, .slice none 0 0, .slice none 0 0]) rfl (rd_blk HN1.out (by unfold maxLen; omega)) rfl (by intro u hu; simp only [List.mem_cons, List.mem_nil_iff, or_false] at hu; rcases hu with rfl | rfl | rfl | rfl | rfl | rfl | rfl | rfl | rfl | rfl | rfl | rfl | rfl | rfl | rfl | rfl <;> rfl) (by unfold maxLen; omega) (by omega) (hz1') ?_; intro a3 c3 w3 hown3 hgrow3 hat3; (have e17p := cell_of (heap_grown hgrow3 (heap_old HC1q.out.hc _) (by simp [Value.ownBlock])) 17 (.int .i64 s.am.kind) rfl))
  have HO3 := hid (show w3.ownsRow w.heap.size 50 16 (.slice a3 1 c3) 1 [.int .i64 1, .int .i64 s.id, .int .i64 s.life, .int .i64 1, .complex .f64 (fl td.me) (fl td.mn), .int .i64 0, .int .i64 0, .int .i64 4, .int .i64 0, .string { data := #[] }, .int .i64 0, .string { data := #[] }, .int .i64 0, .string { data := #[] }, .slice none 0 0, .slice none 0 0] from hown3)
  have hx3 : Chg (fun j => j = c) w w3 := (Chg.alloc (show Chg (fun j => j = c) w w1 from (Chg.below (HB1.out.mono (Nat.le_refl _))).mono (fun _ _ h => h.elim)) _).grown hgrow3 (fun j hj => by simp [Value.ownBlock] at hj)
  have HX3 := hid hx3
  have HC3 := hid (show CliAt w3 c t B p n s td L wh from ⟨heap_grown hgrow3 (heap_old HC1q.out.hc _) (by simp [Value.ownBlock]), heap_grown hgrow3 (heap_old HC1q.out.ht _) (by simp [Value.ownBlock]), HC.out.hp.chg hx3 (fun k hk e1 => HC.out.ncp (e1 ▸ hk)), HC.out.ncp, HC.out.ntp⟩)
  have hcz3 := blk_lt HC3.out.hc
  clear hown3 hgrow3 hat3 hx3 e17p
  have e17 := cell_of HC3.out.hc 17 (.int .i64 s.am.kind) rfl
  have hn := heap_new (w3.setCell ⟨c, 21, none⟩ (.complex .f64 (fl td.me) (fl td.mn))) (.cells #[.int .i64 s.am.kind, .int .i64 s.am.client, .int .i64 s.am.life, .int .i64 s.am.seq, .complex .f64 (fl td.me) (fl td.mn), .int .i64 s.am.ver, .int .i64 s.am.err, .int .i64 s.am.op.kind, .int .i64 s.am.op.dir, .string s.am.op.name, .int .i64 s.am.op.to_, .string s.am.op.new_, .int .i64 s.am.op.mode, .string s.am.op.target, .slice none 0 0, .slice none 0 0] 50)
  rw [set_size] at hn
  have HN := hid hn
  have HZ := hid (show w.heap.size ≤ ((w3.setCell ⟨c, 21, none⟩ (.complex .f64 (fl td.me) (fl td.mn))).alloc (.cells #[.int .i64 s.am.kind, .int .i64 s.am.client, .int .i64 s.am.life, .int .i64 s.am.seq, .complex .f64 (fl td.me) (fl td.mn), .int .i64 s.am.ver, .int .i64 s.am.err, .int .i64 s.am.op.kind, .int .i64 s.am.op.dir, .string s.am.op.name, .int .i64 s.am.op.to_, .string s.am.op.new_, .int .i64 s.am.op.mode, .string s.am.op.target, .slice none 0 0, .slice none 0 0] 50)).heap.size by have := HX3.out.size; simp <;> omega)
  have h9 := heap_set HC3.out.hc 21 (.complex .f64 (fl td.me) (fl td.mn))
  simp only [cli, List.setIfInBounds_toArray, List.set_cons_zero, List.set_cons_succ] at h9
  have H9 := hid (show (w3.setCell ⟨c, 21, none⟩ (.complex .f64 (fl td.me) (fl td.mn))).heap[c]? = some (.cells (cli t p { s with am := markAm s.am td }) 86 (0, 0)) from h9)
  have HS := hid (show Chg (fun j => j = c) w (w3.setCell ⟨c, 21, none⟩ (.complex .f64 (fl td.me) (fl td.mn))) from Chg.set1 HX3.out _ _ rfl)
  have e17 := cell_of HC3.out.hc 17 (.int .i64 s.am.kind) rfl
  have e18 := cell_of HC3.out.hc 18 (.int .i64 s.am.client) rfl
  have e19 := cell_of HC3.out.hc 19 (.int .i64 s.am.life) rfl
  have e20 := cell_of HC3.out.hc 20 (.int .i64 s.am.seq) rfl
  have e21 := cell_of HC3.out.hc 21 (.complex .f64 (fl s.am.me) (fl s.am.mn)) rfl
  have e22 := cell_of HC3.out.hc 22 (.int .i64 s.am.ver) rfl
  have e23 := cell_of HC3.out.hc 23 (.int .i64 s.am.err) rfl
  have e24 := cell_of HC3.out.hc 24 (.int .i64 s.am.op.kind) rfl
  have e25 := cell_of HC3.out.hc 25 (.int .i64 s.am.op.dir) rfl
  have e26 := cell_of HC3.out.hc 26 (.string s.am.op.name) rfl
  have e27 := cell_of HC3.out.hc 27 (.int .i64 s.am.op.to_) rfl
  have e28 := cell_of HC3.out.hc 28 (.string s.am.op.new_) rfl
  have e29 := cell_of HC3.out.hc 29 (.int .i64 s.am.op.mode) rfl
  have e30 := cell_of HC3.out.hc 30 (.string s.am.op.target) rfl
  have e31 := cell_of HC3.out.hc 31 (.slice none 0 0) rfl
  have e32 := cell_of HC3.out.hc 32 (.slice none 0 0) rfl
  clear hn h9
  go_wp2_with fail
  refine (cli_mark _ c t B p n s td L wh HC3.out).mono ?_; rintro e wz ⟨rfl, rfl⟩
  go_wp2_with (at_builtin; refine wpList_append_rd rfl _ _ 38 rfl w.heap.size 50 i0 _ 16 192 Tryz.underlying38 HI.out hz0 hz1 hz2 rfl (by decide) (.slice a3 1 c3) 1 ([.int .i64 1, .int .i64 s.id, .int .i64 s.life, .int .i64 1, .complex .f64 (fl td.me) (fl td.mn), .int .i64 0, .int .i64 0, .int .i64 4, .int .i64 0, .string { data := #[] }, .int .i64 0, .string { data := #[] }, .int .i64 0, .string { data := #[] }, .slice none 0 0, .slice none 0 0]) rfl (own_alloc (own_set HO3.out (own_ne HO3.out HC3.out.hc (by decide)) 21 _) _) (.slice (some ⟨w3.heap.size, 0, none⟩) 1 1) 1 ([.int .i64 s.am.kind, .int .i64 s.am.client, .int .i64 s.am.life, .int .i64 s.am.seq, .complex .f64 (fl td.me) (fl td.mn), .int .i64 s.am.ver, .int .i64 s.am.err, .int .i64 s.am.op.kind, .int .i64 s.am.op.dir, .string s.am.op.name, .int .i64 s.am.op.to_, .string s.am.op.new_, .int .i64 s.am.op.mode, .string s.am.op.target, .slice none 0 0, .slice none 0 0]) rfl (rd_blk HN.out (by unfold maxLen; omega)) rfl (by intro u hu; simp only [List.mem_cons, List.mem_nil_iff, or_false] at hu; rcases hu with rfl | rfl | rfl | rfl | rfl | rfl | rfl | rfl | rfl | rfl | rfl | rfl | rfl | rfl | rfl | rfl <;> rfl) (by unfold maxLen; omega) (by omega) (HZ.out) ?_; intro a4 c4 w4 hown4 hgrow4 hat4)
  (try simp only [Exit.inBlock, Exit.then])
  have hcz4 : t ≠ c := heap_ty HC.out.ht HC.out.hc (by decide)
  have hX : Chg (fun j => j = c) w w4 := (Chg.alloc HS.out _).grown hgrow4 (fun j hj => .inr (own_lt HO3.out hj).1)
  have hk4 := heap_grown hgrow4 (heap_old H9.out (.cells #[.int .i64 s.am.kind, .int .i64 s.am.client, .int .i64 s.am.life, .int .i64 s.am.seq, .complex .f64 (fl td.me) (fl td.mn), .int .i64 s.am.ver, .int .i64 s.am.err, .int .i64 s.am.op.kind, .int .i64 s.am.op.dir, .string s.am.op.name, .int .i64 s.am.op.to_, .string s.am.op.new_, .int .i64 s.am.op.mode, .string s.am.op.target, .slice none 0 0, .slice none 0 0] 50)) (Ne.symm (own_ne HO3.out HC3.out.hc (by decide)))
  have hC4 : CliAt w4 c t B p n { s with am := markAm s.am td } td L wh := ⟨hk4, HC.out.ht.chg hX (fun e1 => hcz4 e1), HC.out.hp.chg hX (fun k hk e1 => HC.out.ncp (e1 ▸ hk)), HC.out.ncp, HC.out.ntp⟩
  have HF4 := hid (And.intro hC4 hX)
  have HO4 := hid hown4
  clear hC4 hX hk4 hown4 hgrow4 hat4
  go_ret
  exact ⟨a4, c4, rfl, HO4.out, HF4.out.1, HF4.out.2⟩
set_option maxRecDepth 100000 in
set_option maxHeartbeats 4000000 in
theorem tick_again (w : World) (c t B p n : Nat) (s : Cl) (td : Td) (L : List En) (wh : Int → Bool) (h : CliAt w c t B p n s td L wh) (h1 : InM td.me) (h2 : InM td.mn) (h3 : 1 ≤ td.me) (h4 : s.am.kind = 0) :
    Calls Tryz.prog 18 #[.pointer (some ⟨c, 0, none⟩)] w fun e w' => ∃ a cc, e = .returned (.slice a 1 cc) ∧ w'.ownsRow w.heap.size 50 16 (.slice a 1 cc) 1 ([.int .i64 1, .int .i64 s.id, .int .i64 s.life, .int .i64 1, .complex .f64 (fl td.me) (fl td.mn), .int .i64 0, .int .i64 0, .int .i64 4, .int .i64 0, .string { data := #[] }, .int .i64 0, .string { data := #[] }, .int .i64 0, .string { data := #[] }, .slice none 0 0, .slice none 0 0]) ∧ CliAt w' c t B p n s td L wh ∧ Chg (fun j => j = c) w w' := by
  have HC := hid h
  have HM := hid (And.intro h1 h2)
  have d1 : decide (td.me ≥ 1) = true := by simp; omega
  have d2 : decide (1 ≤ td.me) = true := by simp; omega
  have d3 : (s.am.kind != 0) = false := by simp [h4]
  have hcz := blk_lt h.hc
  obtain ⟨i0, hi, hz0, hz1, hz2⟩ := info_parts infoMs
  have HI := hid hi
  clear h h1 h2 h3 h4 hi
  go_enter Tryz.func18, Tryz.ntmps18
  go_wp2_with fail
  refine (cli_mark _ c t B p n s td L wh HC.out).mono ?_; rintro e w1 ⟨rfl, rfl⟩
  go_wp2_with fail
  refine (epoch_any _ _ HM.out.1 HM.out.2 _).mono ?_; rintro e w1 ⟨rfl, rfl⟩
  go_wp2_with fail
  refine (cli_message _ c t B p n s td L wh 1 opAgain HC.out).mono ?_; rintro e w1 ⟨rfl, hb1⟩
  have HN1 := hid (heap_new w1 (.cells #[.int .i64 1, .int .i64 s.id, .int .i64 s.life, .int .i64 1, .complex .f64 (fl td.me) (fl td.mn), .int .i64 0, .int .i64 0, .int .i64 4, .int .i64 0, .string { data := #[] }, .int .i64 0, .string { data := #[] }, .int .i64 0, .string { data := #[] }, .slice none 0 0, .slice none 0 0] 50))
  have HB1 := hid hb1
  have hz1' : w.heap.size ≤ (w1.alloc (.cells #[.int .i64 1, .int .i64 s.id, .int .i64 s.life, .int .i64 1, .complex .f64 (fl td.me) (fl td.mn), .int .i64 0, .int .i64 0, .int .i64 4, .int .i64 0, .string { data := #[] }, .int .i64 0, .string { data := #[] }, .int .i64 0, .string { data := #[] }, .slice none 0 0, .slice none 0 0] 50)).heap.size := by have := HB1.out.size; simp; omega
  have HC1q := hid (HC.out.below hb1)
  unfold askMs Ms.v Ms.cs opAgain
  clear hb1
  go_wp2_with (at_builtin; refine wpList_append_rd rfl _ _ 38 rfl w.heap.size 50 i0 _ 16 192 Tryz.underlying38 HI.out hz0 hz1 hz2 rfl (by decide) (.slice none 0 0) 0 ([]) rfl (World.ownsRow_nil _ _ _ _) (.slice (some ⟨w1.heap.size, 0, none⟩) 1 1) 1 ([.int .i64 1, .int .i64 s.id, .int .i64 s.life, .int .i64 1, .complex .f64 (fl td.me) (fl td.mn), .int .i64 0, .int .i64 0, .int .i64 4, .int .i64 0, .string { data := #[] }, .int .i64 0, .string { data := #[] }, .int .i64 0, .string { data := #[] }, .slice none 0 0, .slice none 0 0]) rfl (rd_blk HN1.out (by unfold maxLen; omega)) rfl (by intro u hu; simp only [List.mem_cons, List.mem_nil_iff, or_false] at hu; rcases hu with rfl | rfl | rfl | rfl | rfl | rfl | rfl | rfl | rfl | rfl | rfl | rfl | rfl | rfl | rfl | rfl <;> rfl) (by unfold maxLen; omega) (by omega) (hz1') ?_; intro a3 c3 w3 hown3 hgrow3 hat3; (have e17p := cell_of (heap_grown hgrow3 (heap_old HC1q.out.hc _) (by simp [Value.ownBlock])) 17 (.int .i64 s.am.kind) rfl))
  have HO3 := hid (show w3.ownsRow w.heap.size 50 16 (.slice a3 1 c3) 1 [.int .i64 1, .int .i64 s.id, .int .i64 s.life, .int .i64 1, .complex .f64 (fl td.me) (fl td.mn), .int .i64 0, .int .i64 0, .int .i64 4, .int .i64 0, .string { data := #[] }, .int .i64 0, .string { data := #[] }, .int .i64 0, .string { data := #[] }, .slice none 0 0, .slice none 0 0] from hown3)
  have hx3 : Chg (fun j => j = c) w w3 := (Chg.alloc (show Chg (fun j => j = c) w w1 from (Chg.below (HB1.out.mono (Nat.le_refl _))).mono (fun _ _ h => h.elim)) _).grown hgrow3 (fun j hj => by simp [Value.ownBlock] at hj)
  have HX3 := hid hx3
  have HC3 := hid (show CliAt w3 c t B p n s td L wh from ⟨heap_grown hgrow3 (heap_old HC1q.out.hc _) (by simp [Value.ownBlock]), heap_grown hgrow3 (heap_old HC1q.out.ht _) (by simp [Value.ownBlock]), HC.out.hp.chg hx3 (fun k hk e1 => HC.out.ncp (e1 ▸ hk)), HC.out.ncp, HC.out.ntp⟩)
  have hcz3 := blk_lt HC3.out.hc
  clear hown3 hgrow3 hat3 hx3 e17p
  (try simp only [Exit.inBlock, Exit.then])
  go_ret
  exact ⟨a3, c3, rfl, HO3.out, HC3.out, HX3.out⟩
end Go.Proofs.YtbjibkjenleloaaGreatDoor

end
