/- Parts of a proof about the given program, in build order: CalR. No condition. -/
import Derived.Test.YtbjibkjenleloaaGreatDoorMg40
section
namespace Go.Proofs.YtbjibkjenleloaaGreatDoor
set_option linter.unusedVariables false
set_option linter.unusedSimpArgs false
open Go.RowKit
attribute [local go_sem ↓] Go.wp_at_zero Go.wp_at_succ
attribute [local go_sem] run_store_complex run_store_float


set_option maxRecDepth 100000 in
set_option maxHeartbeats 2000000 in
theorem cancel_no (w : World) (c t B p n : Nat) (s : Cl) (td : Td) (L : List En) (wh : Int → Bool) (h : CliAt w c t B p n s td L wh) (hb : s.busy = false) :
    Calls Tryz.prog 22 #[.pointer (some ⟨c, 0, none⟩)] w fun e w' => e = .returned (.tuple #[.bool false, .agg #[.int .i64 0, .int .i64 0, .int .i64 0, .int .i64 0, .string { data := #[] }, .slice none 0 0, .int .i64 0]]) ∧ Below w.heap.size w w' := by
  have hR := heap_new w (.cells #[.int .i64 0, .int .i64 0, .int .i64 0, .int .i64 0, .string { data := #[] }, .slice none 0 0, .int .i64 0] 43)
  have HR := hid hR
  have bb := bl1 w (.cells #[.int .i64 0, .int .i64 0, .int .i64 0, .int .i64 0, .string { data := #[] }, .slice none 0 0, .int .i64 0] 43)
  have e12 := cell_of (h.below bb).hc 12 (.bool s.busy) rfl
  rw [hb] at e12
  have HW := hid bb
  have br := blk7 hR
  have hcz := blk_lt h.hc
  clear h hb bb hR
  go_enter Tryz.func22, Tryz.ntmps22
  go_wp2
  (try simp only [Exit.inBlock, Exit.then])
  refine gen_w (P := fun w' => bodyPost _ _ _ _ _ w') (S := fun w4 => Below w.heap.size w w4 ∧ w4.heap[w.heap.size]? = some (.cells #[.int .i64 0, .int .i64 0, .int .i64 0, .int .i64 0, .string { data := #[] }, .slice none 0 0, .int .i64 0] 43 (0, 0))) _ ⟨?_, ?_⟩ ?_
  · first
    | exact HW.out
    | exact HW.out.trans (Chg.toBelow (F := fun j => j = w.heap.size) (by (iterate 7 refine Chg.set1 ?_ _ _ rfl); exact Chg.refl _ _) HW.out.size fun i hi hf => by omega)
  · first
    | exact HR.out
    | (have h9 := (heap_set (heap_set (heap_set (heap_set (heap_set (heap_set (heap_set HR.out 0 (.int .i64 0)) 1 (.int .i64 0)) 2 (.int .i64 0)) 3 (.int .i64 0)) 4 (.string { data := #[] })) 5 (.slice none 0 0)) 6 (.int .i64 0))
       simp only [List.setIfInBounds_toArray, List.set_cons_zero, List.set_cons_succ] at h9
       exact h9)
  rintro w4 ⟨hb4, hr4⟩
  have b4 := blk7 hr4
  have HB4 := hid hb4
  clear br hb4 hr4
  refine bodyPost_ret (v := .tuple #[.bool false, .agg #[.int .i64 0, .int .i64 0, .int .i64 0, .int .i64 0, .string { data := #[] }, .slice none 0 0, .int .i64 0]]) (by simp [results, Tryz.results22, go_sem, b4]) rfl ⟨rfl, HB4.out⟩
set_option maxRecDepth 100000 in
set_option maxHeartbeats 2000000 in
theorem cancel_yes (w : World) (c t B p n : Nat) (s : Cl) (td : Td) (L : List En) (wh : Int → Bool) (h : CliAt w c t B p n s td L wh) (hb : s.busy = true) :
    Calls Tryz.prog 22 #[.pointer (some ⟨c, 0, none⟩)] w fun e w' => e = .returned (.tuple #[.bool true, .agg #[.int .i64 81, .int .i64 0, .int .i64 0, .int .i64 0, .string { data := #[] }, .slice none 0 0, .int .i64 td.ver]]) ∧ CliAt w' c t B p n { s with busy := false, am := ms0 } { td with asked := 0 } L wh ∧ Chg (fun j => j = c ∨ j = t) w w' := by
  have HR := hid (heap_new w (.cells #[.int .i64 0, .int .i64 0, .int .i64 0, .int .i64 0, .string { data := #[] }, .slice none 0 0, .int .i64 0] 43))
  have bb := bl1 w (.cells #[.int .i64 0, .int .i64 0, .int .i64 0, .int .i64 0, .string { data := #[] }, .slice none 0 0, .int .i64 0] 43)
  have HC := hid (h.below bb)
  have e12 := cell_of HC.out.hc 12 (.bool s.busy) rfl
  rw [hb] at e12
  have e9 := cell_of HC.out.hc 9 (.pointer (some ⟨t, 0, none⟩)) rfl
  have HW := hid bb
  have hcz := blk_lt h.hc
  have htz := h.ht.lt
  have hpz := h.hp.lt
  have HNE := hid (heap_ty h.hc h.ht (by decide))
  clear h hb bb
  go_enter Tryz.func22, Tryz.ntmps22
  go_wp2_with fail
  refine (tide_ask _ t td 0 HC.out.ht (by omega)).mono ?_; rintro e w1 ⟨rfl, ht1, hg1⟩
  have HC1 := hid (show CliAt w1 c t B p n s { td with asked := 0 } L wh from ⟨heap_chg hg1 HC.out.hc (fun e => HNE.out e), ht1, HC.out.hp.chg hg1 (fun k hk e => HC.out.ntp (e ▸ hk)), HC.out.ncp, HC.out.ntp⟩)
  have HG1 := hid hg1
  have hr1 := heap_chg hg1 HR.out (by omega)
  have HR1 := hid hr1
  clear ht1 hg1 e12 e9 hr1
  go_wp2_with fail
  refine (cli_end _ c t B p n s { td with asked := 0 } L wh (An.mk 81 nd0 none 0 0 0) HC1.out).mono ?_; rintro e w2 ⟨rfl, hc2, hg2⟩
  have HC2 := hid hc2
  have HX2 := hid (show Chg (fun j => j = c ∨ j = t) w w2 from chg_new (chg_new ((Chg.below (HW.out.mono (Nat.le_refl _))).mono (fun _ _ h => h.elim)) HG1.out (by intro j hj; exact .inl (.inr hj))) hg2 (by intro j hj; exact .inl (.inl hj)))
  have hr2 := heap_chg hg2 HR1.out (by omega)
  have HR2 := hid hr2
  have br := blk7 hr2
  unfold An.v nd0
  clear hc2 hg2 hr2
  go_wp2
  (try simp only [Exit.inBlock, Exit.then])
  refine gen_w (P := fun w' => bodyPost _ _ _ _ _ w') (S := fun w4 => Chg (fun j => j = w.heap.size) w2 w4 ∧ w4.heap[w.heap.size]? = some (.cells #[.int .i64 81, .int .i64 0, .int .i64 0, .int .i64 0, .string { data := #[] }, .slice none 0 0, .int .i64 td.ver] 43 (0, 0))) _ ⟨?_, ?_⟩ ?_
  · iterate 7 refine Chg.set1 ?_ _ _ rfl
    exact Chg.refl _ _
  · have h9 := (heap_set (heap_set (heap_set (heap_set (heap_set (heap_set (heap_set HR2.out 0 (.int .i64 81)) 1 (.int .i64 0)) 2 (.int .i64 0)) 3 (.int .i64 0)) 4 (.string { data := #[] })) 5 (.slice none 0 0)) 6 (.int .i64 td.ver))
    simp only [List.setIfInBounds_toArray, List.set_cons_zero, List.set_cons_succ] at h9
    exact h9
  rintro w4 ⟨hc4, hr4⟩
  have b4 := blk7 hr4
  have HC4 := hid (HC2.out.chg hc4 (by omega) (by omega) (HC2.out.hp.chg hc4 (fun k hk e => by have := hk.2; omega)))
  have HX4 := hid (show Chg (fun j => j = c ∨ j = t) w w4 from chg_new HX2.out hc4 (by intro j hj; right; omega))
  clear br hc4 hr4
  refine bodyPost_ret (v := .tuple #[.bool true, .agg #[.int .i64 81, .int .i64 0, .int .i64 0, .int .i64 0, .string { data := #[] }, .slice none 0 0, .int .i64 td.ver]]) (by simp [results, Tryz.results22, go_sem, b4]) rfl ⟨rfl, HC4.out, HX4.out⟩
end Go.Proofs.YtbjibkjenleloaaGreatDoor

end
