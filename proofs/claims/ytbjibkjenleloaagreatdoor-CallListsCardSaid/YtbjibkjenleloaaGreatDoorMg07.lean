/- Parts of a proof about the given program, in build order: TidD. No condition. -/
import Derived.Test.YtbjibkjenleloaaGreatDoorMg06
section
namespace Go.Proofs.YtbjibkjenleloaaGreatDoor
set_option linter.unusedVariables false
set_option linter.unusedSimpArgs false
open Go.RowKit
attribute [local go_sem ↓] Go.wp_at_zero Go.wp_at_succ
attribute [local go_sem] run_store_complex run_store_float

set_option maxRecDepth 100000 in
set_option maxHeartbeats 400000 in
theorem clone_ents (v : Value) (L : List En) (w : World) (hv : Rd w v L.length (ecs L)) (hl : L.length * 72 ≤ 140737488355328) :
    Calls Tryz.prog 87 #[v] w fun e w' => ∃ a c, e = .returned (.slice a L.length c) ∧ w'.ownsRow w.heap.size 55 7 (.slice a L.length c) L.length (ecs L) ∧ Below w.heap.size w w' := by
  obtain ⟨i0, hi, hz0, hz1, hz2⟩ := info_parts infoEn
  rcases id hv with ⟨rfl, hn, _⟩ | ⟨ad, cap, rfl, h1, h2, h3⟩
  · have hnil := fun (w : World) => Lib.run_eql_slice_nil (P := Tryz.prog) w 47 55 none 0 0 0 0 Tryz.underlying47
    have hL := List.eq_nil_of_length_eq_zero hn
    subst hL
    clear hv hl hn
    go_enter Tryz.func87, Tryz.ntmps87
    go_wp2
    go_ret
    exact ⟨none, 0, rfl, World.ownsRow_nil _ _ _ _, Below.refl _ _⟩
  · obtain ⟨n, hn⟩ : ∃ n, n = L.length := ⟨_, rfl⟩
    rw [← hn] at hv hl h1 ⊢
    have hnil := fun (w : World) => Lib.run_eql_slice_nil (P := Tryz.prog) w 47 55 (some ad) n cap 0 0 Tryz.underlying47
    have HV := hid hv
    have HN := hid (show (ecs L).length = n * 7 by rw [ecs_len, hn])
    have HB := hid (ecs_one L)
    have HI := hid hi
    have hem : (w.alloc (.cells #[] 55)).ownsRow w.heap.size 55 7 (.slice (some ⟨w.heap.size, 0, none⟩) 0 0) 0 [] := ownsRow_of_whole (heap_new w _) rfl (Nat.le_refl _) (by unfold maxLen; omega)
    have HE := hid hem
    clear hv hi h3 hn hem
    go_enter Tryz.func87, Tryz.ntmps87
    go_wp2_with (at_builtin; go_loud (refine wpList_append_rd rfl _ _ 47 rfl w.heap.size 55 i0 _ 7 72 Tryz.underlying47 HI.out hz0 hz1 hz2 rfl (by decide) (.slice (some ⟨w.heap.size, 0, none⟩) 0 0) 0 [] rfl HE.out _ n (ecs L) rfl (HV.out.alloc _) HN.out HB.out (by unfold maxLen; omega) (by omega) (by simp) ?_; intro a' c' w1 hown hgrow hat))
    go_ret
    simp only [Nat.zero_add, List.nil_append] at hown
    exact ⟨_, _, rfl, hown, (bl1 w _).grown hgrow (by simp) (by simp [Value.ownBlock])⟩


theorem wp_scope_none {P : Program} {a : Act} {w : World} {Q : Exit → Act → World → Prop} {c : Code} (h : c.wp P (jumpM (fun _ _ _ => False) Q) a w) : (Code.scope c).wp P Q a w :=
  wp_scope_multi (fun _ _ _ => False) (fun _ _ _ => 0) (fun _ => .skip) (fun _ _ _ h => h.elim) h fun _ _ _ h => h.elim
set_option maxHeartbeats 1000000 in
theorem find_nil (w : World) (t b1 b2 : Nat) (s : Td) (fv : Value) (x : Int) (h : TidAt w t s) (h1 : w.heap[b1]? = some (.cells #[.pointer (some ⟨t, 0, none⟩)] 83 (0, 0))) (h2 : w.heap[b2]? = some (.cells #[.int .i64 x] 3 (0, 0))) :
    Calls Tryz.prog 94 #[fv, .pointer (some ⟨b1, 0, none⟩), .pointer (some ⟨b2, 0, none⟩)] w fun e w' => e = .returned (.bool false) ∧ w' = w.setCell ⟨b2, 0, none⟩ (.int .i64 (-1)) := by
  have b0 := blk8 h
  have c1 := blk1 h1
  have c2 := blk1 h2
  clear h h1 h2
  go_enter Tryz.func94, Tryz.ntmps94
  go_wp2_with fail
  refine (index_msgs_nil _ _).mono ?_; rintro e w1 ⟨rfl, rfl⟩
  go_wp2
  go_ret
  exact ⟨rfl, rfl⟩
set_option maxHeartbeats 2000000 in
theorem settle_nil (w : World) (t : Nat) (s : Td) (h : TidAt w t s) :
    Calls Tryz.prog 65 #[.pointer (some ⟨t, 0, none⟩)] w fun e w' => e = .returned (.slice none 0 0) ∧ TidAt w' t s ∧ Chg (fun j => j = t) w w' := by
  have HT := hid h
  have ht := h.lt
  clear h
  go_enter Tryz.func65, Tryz.ntmps65
  go_wp2_with fail
  refine wp_scope_none ?_
  go_wp2_with fail
  refine gen_w (P := fun w' => Code.wp _ _ _ _ w') (S := fun w1 => TidAt w1 t s ∧ Chg (fun j => j = t) w w1 ∧ w1.heap[w.heap.size]? = some (.cells #[.pointer (some ⟨t, 0, none⟩)] 83 (0, 0)) ∧ w1.heap[w.heap.size + 1]? = some (.cells #[.int .i64 0] 3 (0, 0))) _ ⟨?_, ?_, ?_, ?_⟩ ?_
  · exact heap_old (heap_old (heap_old HT.out _) _) _
  · exact Chg.alloc (Chg.alloc (Chg.alloc (Chg.refl _ w) _) _) _
  · exact heap_old (heap_old (heap_new w _) _) _
  · have h9 := heap_new (w.alloc (.cells #[.pointer (some ⟨t, 0, none⟩)] 83)) (.cells #[.int .i64 0] 3)
    rw [World.size_alloc] at h9
    exact heap_old h9 _
  rintro w1 ⟨ht1, hc1, hb1, hb2⟩
  have HT1 := hid ht1
  have HC1 := hid hc1
  have HB1 := hid hb1
  have HB2 := hid hb2
  have z1 : t ≠ w.heap.size + 1 := by omega
  have z3 : w.heap.size ≠ w.heap.size + 1 := by omega
  clear ht1 hc1 hb1 hb2
  go_step3
  simp only [Exit.then]
  go_wp2_with fail
  refine (find_nil w1 t w.heap.size (w.heap.size + 1) s _ 0 HT1.out HB1.out HB2.out).mono ?_; rintro e w2 ⟨rfl, rfl⟩
  have c2 := blk1 HB2.out
  have HT2 := hid (show TidAt (w1.setCell ⟨w.heap.size + 1, 0, none⟩ (.int .i64 (-1))) t s from heap_set_ne HT1.out 0 (.int .i64 (-1)) (fun e1 => z1 e1))
  have HB3 := hid (heap_set_ne HB1.out 0 (.int .i64 (-1)) (fun e1 => z3 e1))
  have HB4 := hid (heap_set HB2.out 0 (.int .i64 (-1)))
  go_wp2_with fail
  refine (find_nil _ t w.heap.size (w.heap.size + 1) s _ (-1) HT2.out HB3.out HB4.out).mono ?_; rintro e w2 ⟨rfl, rfl⟩
  have b0 := blk8 HT1.out
  have b1 := blk1 HB1.out
  have HF := hid (show TidAt (((w1.setCell ⟨w.heap.size + 1, 0, none⟩ (.int .i64 (-1))).setCell ⟨w.heap.size + 1, 0, none⟩ (.int .i64 (-1))).setCell ⟨t, 6, none⟩ (.slice none 0 0)).drew t s by
    have h9 := heap_set (heap_set_ne HT2.out 0 (.int .i64 (-1)) (fun e1 => z1 e1)) 6 (.slice none 0 0)
    simp only [List.setIfInBounds_toArray, List.set_cons_zero, List.set_cons_succ] at h9
    exact h9)
  have HG := hid (show Chg (fun j => j = t) w (((w1.setCell ⟨w.heap.size + 1, 0, none⟩ (.int .i64 (-1))).setCell ⟨w.heap.size + 1, 0, none⟩ (.int .i64 (-1))).setCell ⟨t, 6, none⟩ (.slice none 0 0)).drew from
    Chg.drew (Chg.set1 ((HC1.out.setCell _ _ (.inr (by simp))).setCell _ _ (.inr (by simp))) _ _ rfl))
  clear HT2 HB3 HB4 HB2 HT1 HC1 HB1
  go_wp2_with fail
  go_region_law (first | (go_simp; go_at_call 73; refine (del_msgs_nil _ _).mono ?_; rintro e w2 ⟨rfl, rfl⟩))
  all_goals
    go_wp2
    (try simp only [Exit.inBlock, Exit.then, jumpM])
    go_ret
    exact ⟨rfl, HF.out, HG.out⟩
end Go.Proofs.YtbjibkjenleloaaGreatDoor

end
