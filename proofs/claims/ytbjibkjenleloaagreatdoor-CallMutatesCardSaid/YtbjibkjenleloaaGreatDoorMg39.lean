/- Parts of a proof about the given program, in build order: CmuL. No condition. -/
import Derived.Test.YtbjibkjenleloaaGreatDoorMg38
section
namespace Go.Proofs.YtbjibkjenleloaaGreatDoor
set_option linter.unusedVariables false
set_option linter.unusedSimpArgs false
open Go.RowKit
attribute [local go_sem ↓] Go.wp_at_zero Go.wp_at_succ
attribute [local go_sem] run_store_complex run_store_float


def opW (k m : Int) (s : ByteArray) : Op7 := ⟨k, 1, s, if k = 10 then 1 else 0, if k = 10 then s else { data := #[] }, if k = 5 ∨ k = 6 ∨ k = 11 then m else 0, if k = 7 then { data := #[116] } else { data := #[] }⟩
def opC (op : Op7) : Array Value := #[.int .i64 op.kind, .int .i64 op.dir, .string op.name, .int .i64 op.to_, .string op.new_, .int .i64 op.mode, .string op.target]
set_option maxRecDepth 100000 in
set_option maxHeartbeats 8000000 in
theorem mu_want (s po oth : ByteArray) (k m er ve : Int) (w2 : World) (a : Act) (X o : Nat) (K : Code) (Q : Exit → Act → World → Prop) (hs : a.tmps.size = 202) (hd : a.defers = []) (f1 : a.tmps.getD 1 undef = .string s) (f3 : a.tmps.getD 3 undef = .int .i64 er) (f4 : a.tmps.getD 4 undef = .int .i64 ve) (f7 : a.tmps.getD 7 undef = .pointer (some ⟨X, 0, none⟩)) (f11 : a.tmps.getD 11 undef = .pointer (some ⟨o, 0, none⟩))
    (h5 : 5 ≤ k) (h11 : k ≤ 11) (hX : w2.heap[X]? = some (.cells #[.int .i64 (k), .string (po), .string (oth), .int .i64 (m)] 25 (0, 0)))
    (hK : ∀ (a : Act) (w3 : World) (O : Nat), a.tmps.size = 202 → a.defers = [] → a.tmps.getD 1 undef = .string s → a.tmps.getD 3 undef = .int .i64 er → a.tmps.getD 4 undef = .int .i64 ve → a.tmps.getD 7 undef = .pointer (some ⟨X, 0, none⟩) → a.tmps.getD 11 undef = .pointer (some ⟨o, 0, none⟩) → a.tmps.getD 13 undef = .pointer (some ⟨O, 0, none⟩) →
      w3.heap[O]? = some (.cells (opC (opW k m s)) 37 (0, 0)) → w2.heap.size ≤ O → Chg (fun _ => False) w2 w3 → K.wp Tryz.prog Q a w3) :
    (cutN 2 (sndN 9 muBody) K).wp Tryz.prog Q a w2 := by
  have HKK := hid hK
  have h9 := frame202 a hs hd
  rw [f1, f3, f4, f7, f11] at h9
  generalize a.tmps = u at h9
  subst h9
  have hXz := blk_lt hX
  have hXn : X ≠ w2.heap.size := by omega
  have hX3 := heap_old hX (.cells #[.int .i64 0, .int .i64 1, .string s, .int .i64 0, .string { data := #[] }, .int .i64 0, .string { data := #[] }] 37)
  have HO0 := hid (heap_new w2 (.cells #[.int .i64 0, .int .i64 1, .string s, .int .i64 0, .string { data := #[] }, .int .i64 0, .string { data := #[] }] 37))
  have HB3 := hid (bl1 w2 (.cells #[.int .i64 0, .int .i64 1, .string s, .int .i64 0, .string { data := #[] }, .int .i64 0, .string { data := #[] }] 37))
  have hck : k = 5 ∨ k = 6 ∨ k = 7 ∨ k = 8 ∨ k = 9 ∨ k = 10 ∨ k = 11 := by omega
  have HCK := hid hck
  clear hs hd f1 f3 f4 f7 f11 hX hK h5 h11 hck
  conv => pattern (sndN 9 muBody); whnf
  simp only [cutN]
  refine wp_seq_k fun K0 hK0 => ?_
  have HK0 := hid hK0
  clear hK0
  go_wp2
  refine HK0.out _ _ ?_
  clear HK0
  refine gen_w (P := fun w' => Code.wp _ _ _ _ w') (S := fun w3 => w3.heap[w2.heap.size]? = some (.cells #[.int .i64 0, .int .i64 1, .string s, .int .i64 0, .string { data := #[] }, .int .i64 0, .string { data := #[] }] 37 (0, 0)) ∧ Below w2.heap.size w2 w3 ∧ w3.heap[X]? = some (.cells #[.int .i64 (k), .string (po), .string (oth), .int .i64 (m)] 25 (0, 0))) _ ⟨HO0.out, HB3.out, hX3⟩ ?_
  rintro w3 ⟨ho3, hb3, hx3⟩
  have HO3 := hid ho3
  have HG3 := hid (show Chg (fun _ => False) w2 w3 from (Chg.below hb3).mono fun _ _ h => h)
  have bo := blk7 ho3
  have b := blk4 hx3
  clear ho3 hb3 hx3 hX3
  rcases HCK.out with hk | hk | hk | hk | hk | hk | hk
  · subst hk
    go_wp2
    go_region
    (try simp only [Exit.inBlock, Exit.then])
    (try go_wp2)
    (try simp only [Exit.inBlock, Exit.then])
    refine gen_w (P := fun w' => Code.wp _ _ _ _ w') (S := fun w' => Chg (fun j => j = w2.heap.size) w3 w' ∧ w'.heap[w2.heap.size]? = some (.cells (opC (opW 5 m s)) 37 (0, 0))) _ ⟨?_, ?_⟩ ?_
    · refine Chg.drew ?_
      iterate 2 refine Chg.set1 ?_ _ _ rfl
      exact Chg.refl _ _
    · refine heap_drew ?_
      have h9 := (heap_set (heap_set HO3.out 0 (.int .i64 5)) 5 (.int .i64 m))
      simp only [List.setIfInBounds_toArray, List.set_cons_zero, List.set_cons_succ] at h9
      exact h9
    rintro w4 ⟨hc4, ho4⟩
    refine HKK.out _ w4 w2.heap.size ?_ ?_ ?_ ?_ ?_ ?_ ?_ ?_ ho4 (Nat.le_refl _) (chg_new HG3.out hc4 (by intro j hj; right; omega))
    iterate 8 rfl
  · subst hk
    go_wp2
    go_region
    (try simp only [Exit.inBlock, Exit.then])
    (try go_wp2)
    (try simp only [Exit.inBlock, Exit.then])
    refine gen_w (P := fun w' => Code.wp _ _ _ _ w') (S := fun w' => Chg (fun j => j = w2.heap.size) w3 w' ∧ w'.heap[w2.heap.size]? = some (.cells (opC (opW 6 m s)) 37 (0, 0))) _ ⟨?_, ?_⟩ ?_
    · refine Chg.drew ?_
      iterate 2 refine Chg.set1 ?_ _ _ rfl
      exact Chg.refl _ _
    · refine heap_drew ?_
      have h9 := (heap_set (heap_set HO3.out 0 (.int .i64 6)) 5 (.int .i64 m))
      simp only [List.setIfInBounds_toArray, List.set_cons_zero, List.set_cons_succ] at h9
      exact h9
    rintro w4 ⟨hc4, ho4⟩
    refine HKK.out _ w4 w2.heap.size ?_ ?_ ?_ ?_ ?_ ?_ ?_ ?_ ho4 (Nat.le_refl _) (chg_new HG3.out hc4 (by intro j hj; right; omega))
    iterate 8 rfl
  · subst hk
    go_wp2
    (try simp only [Exit.inBlock, Exit.then])
    refine gen_w (P := fun w' => Code.wp _ _ _ _ w') (S := fun w' => Chg (fun j => j = w2.heap.size) w3 w' ∧ w'.heap[w2.heap.size]? = some (.cells (opC (opW 7 m s)) 37 (0, 0))) _ ⟨?_, ?_⟩ ?_
    · iterate 2 refine Chg.set1 ?_ _ _ rfl
      exact Chg.refl _ _
    · have h9 := (heap_set (heap_set HO3.out 0 (.int .i64 7)) 6 (.string { data := #[116] }))
      simp only [List.setIfInBounds_toArray, List.set_cons_zero, List.set_cons_succ] at h9
      exact h9
    rintro w4 ⟨hc4, ho4⟩
    refine HKK.out _ w4 w2.heap.size ?_ ?_ ?_ ?_ ?_ ?_ ?_ ?_ ho4 (Nat.le_refl _) (chg_new HG3.out hc4 (by intro j hj; right; omega))
    iterate 8 rfl
  · subst hk
    go_wp2
    (try simp only [Exit.inBlock, Exit.then])
    refine gen_w (P := fun w' => Code.wp _ _ _ _ w') (S := fun w' => Chg (fun j => j = w2.heap.size) w3 w' ∧ w'.heap[w2.heap.size]? = some (.cells (opC (opW 8 m s)) 37 (0, 0))) _ ⟨?_, ?_⟩ ?_
    · iterate 1 refine Chg.set1 ?_ _ _ rfl
      exact Chg.refl _ _
    · have h9 := (heap_set HO3.out 0 (.int .i64 8))
      simp only [List.setIfInBounds_toArray, List.set_cons_zero, List.set_cons_succ] at h9
      exact h9
    rintro w4 ⟨hc4, ho4⟩
    refine HKK.out _ w4 w2.heap.size ?_ ?_ ?_ ?_ ?_ ?_ ?_ ?_ ho4 (Nat.le_refl _) (chg_new HG3.out hc4 (by intro j hj; right; omega))
    iterate 8 rfl
  · subst hk
    go_wp2
    (try simp only [Exit.inBlock, Exit.then])
    refine gen_w (P := fun w' => Code.wp _ _ _ _ w') (S := fun w' => Chg (fun j => j = w2.heap.size) w3 w' ∧ w'.heap[w2.heap.size]? = some (.cells (opC (opW 9 m s)) 37 (0, 0))) _ ⟨?_, ?_⟩ ?_
    · iterate 1 refine Chg.set1 ?_ _ _ rfl
      exact Chg.refl _ _
    · have h9 := (heap_set HO3.out 0 (.int .i64 9))
      simp only [List.setIfInBounds_toArray, List.set_cons_zero, List.set_cons_succ] at h9
      exact h9
    rintro w4 ⟨hc4, ho4⟩
    refine HKK.out _ w4 w2.heap.size ?_ ?_ ?_ ?_ ?_ ?_ ?_ ?_ ho4 (Nat.le_refl _) (chg_new HG3.out hc4 (by intro j hj; right; omega))
    iterate 8 rfl
  · subst hk
    go_wp2
    (try simp only [Exit.inBlock, Exit.then])
    refine gen_w (P := fun w' => Code.wp _ _ _ _ w') (S := fun w' => Chg (fun j => j = w2.heap.size) w3 w' ∧ w'.heap[w2.heap.size]? = some (.cells (opC (opW 10 m s)) 37 (0, 0))) _ ⟨?_, ?_⟩ ?_
    · iterate 3 refine Chg.set1 ?_ _ _ rfl
      exact Chg.refl _ _
    · have h9 := (heap_set (heap_set (heap_set HO3.out 0 (.int .i64 10)) 3 (.int .i64 1)) 4 (.string s))
      simp only [List.setIfInBounds_toArray, List.set_cons_zero, List.set_cons_succ] at h9
      exact h9
    rintro w4 ⟨hc4, ho4⟩
    refine HKK.out _ w4 w2.heap.size ?_ ?_ ?_ ?_ ?_ ?_ ?_ ?_ ho4 (Nat.le_refl _) (chg_new HG3.out hc4 (by intro j hj; right; omega))
    iterate 8 rfl
  · subst hk
    go_wp2
    go_region
    (try simp only [Exit.inBlock, Exit.then])
    (try go_wp2)
    (try simp only [Exit.inBlock, Exit.then])
    refine gen_w (P := fun w' => Code.wp _ _ _ _ w') (S := fun w' => Chg (fun j => j = w2.heap.size) w3 w' ∧ w'.heap[w2.heap.size]? = some (.cells (opC (opW 11 m s)) 37 (0, 0))) _ ⟨?_, ?_⟩ ?_
    · refine Chg.drew ?_
      iterate 2 refine Chg.set1 ?_ _ _ rfl
      exact Chg.refl _ _
    · refine heap_drew ?_
      have h9 := (heap_set (heap_set HO3.out 0 (.int .i64 11)) 5 (.int .i64 m))
      simp only [List.setIfInBounds_toArray, List.set_cons_zero, List.set_cons_succ] at h9
      exact h9
    rintro w4 ⟨hc4, ho4⟩
    refine HKK.out _ w4 w2.heap.size ?_ ?_ ?_ ?_ ?_ ?_ ?_ ?_ ho4 (Nat.le_refl _) (chg_new HG3.out hc4 (by intro j hj; right; omega))
    iterate 8 rfl
end Go.Proofs.YtbjibkjenleloaaGreatDoor

end
