/- Parts of a proof about the given program, in build order: CmuA. No condition. -/
import Derived.Test.YtbjibkjenleloaaGreatDoorMg15
import Derived.Test.YtbjibkjenleloaaGreatDoorMg16
section
namespace Go.Proofs.YtbjibkjenleloaaGreatDoor
set_option linter.unusedVariables false
set_option linter.unusedSimpArgs false
open Go.RowKit
attribute [local go_sem ↓] Go.wp_at_zero Go.wp_at_succ
attribute [local go_sem] run_store_complex run_store_float


/-- the op of a mutation -/
def mutOp (s : Cl) (P : List Ky) : Op7 := ⟨s.ck, (P[0]?.getD ky0).dir, (P[0]?.getD ky0).name, if s.ck = 10 then (P[1]?.getD ky0).dir else 0, if s.ck = 10 then (P[1]?.getD ky0).name else ByteArray.empty, if s.ck = 5 ∨ s.ck = 6 ∨ s.ck = 11 then s.cm else 0, if s.ck = 7 then s.co else ByteArray.empty⟩
set_option maxRecDepth 100000 in
set_option maxHeartbeats 40000000 in
theorem cli_mutation (w : World) (c t B p n Bu : Nat) (s : Cl) (td : Td) (L : List En) (wh : Int → Bool) (P : List Ky) (pa : Option Addr) (pc : Nat) (h : CliAt w c t B p n s td L wh) (hP : w.ownsRow Bu 53 2 (.slice pa P.length pc) P.length (kyc P)) (h0 : 0 < P.length) (h1 : s.ck = 10 → 1 < P.length) (hk5 : 5 ≤ s.ck) (hk11 : s.ck ≤ 11) :
    Calls Tryz.prog 117 #[.pointer (some ⟨c, 0, none⟩), .slice pa P.length pc] w fun e w' => e = .returned (mutOp s P).v ∧ Below w.heap.size w w' := by
  obtain ⟨g, hg, _, hgz, _, _⟩ := own_loc hP (by omega)
  subst hg
  obtain ⟨x1, hx1⟩ : ∃ x1, P[0]? = some x1 := ⟨_, List.getElem?_eq_getElem h0⟩
  have HX1 := hid hx1
  have HP := hid hP
  have HC := hid h
  have HN := hid (And.intro h0 h1)
  have hck : s.ck = 5 ∨ s.ck = 6 ∨ s.ck = 7 ∨ s.ck = 8 ∨ s.ck = 9 ∨ s.ck = 10 ∨ s.ck = 11 := by omega
  have HCK := hid hck
  have e13 := cell_of (HC.out.below (bl1 w (.cells #[.int .i64 0, .int .i64 0, .string { data := #[] }, .int .i64 0, .string { data := #[] }, .int .i64 0, .string { data := #[] }] 37))).hc 13 (.int .i64 s.ck) rfl
  have k1 := keys_at (Rd.below (Rd.own HP.out) (bl1 w (.cells #[.int .i64 0, .int .i64 0, .string { data := #[] }, .int .i64 0, .string { data := #[] }, .int .i64 0, .string { data := #[] }] 37))) hx1
  have hplen : (0 : Int) < (P.length : Int) := by omega
  have hpl : 0 < P.length := h0
  have hwk : IntKind.i64.wrap (IntKind.i64.wrap (s.ck + 5) - 5) = s.ck := by rw [IntWalk.i64_in (s.ck + 5) (by omega)]; rw [IntWalk.i64_in _ (by omega)]; omega
  have HW := hid (show wrap64 (wrap64 (s.ck + 5) - 5) = s.ck by unfold wrap64; omega)
  clear h hP hx1 h0 h1 hk5 hk11 hck hwk
  go_enter Tryz.func117, Tryz.ntmps117
  refine wp_seq_k fun K0 hK0 => ?_
  have HK0 := hid hK0
  clear hK0
  go_wp2_with fail
  refine HK0.out _ _ ?_
  have e13a := cell_of (HC.out.below (bl2 w (.cells #[.int .i64 0, .int .i64 0, .string { data := #[] }, .int .i64 0, .string { data := #[] }, .int .i64 0, .string { data := #[] }] 37) (.cells #[.int .i64 0, .int .i64 0, .string { data := #[] }, .int .i64 0, .string { data := #[] }, .int .i64 0, .string { data := #[] }] 37))).hc 13 (.int .i64 s.ck) rfl
  have k1a := keys_at (Rd.below (Rd.own HP.out) (bl2 w (.cells #[.int .i64 0, .int .i64 0, .string { data := #[] }, .int .i64 0, .string { data := #[] }, .int .i64 0, .string { data := #[] }] 37) (.cells #[.int .i64 0, .int .i64 0, .string { data := #[] }, .int .i64 0, .string { data := #[] }, .int .i64 0, .string { data := #[] }] 37))) HX1.out
  refine wp_seq_k fun K1 hK1 => ?_
  have HK1 := hid hK1
  clear hK1 HK0
  go_region
  all_goals
    simp only [Exit.then]
    refine HK1.out _ _ ?_
    rw [HW.out]
    refine gen_w (P := fun w' => Code.wp _ _ _ _ w') (S := fun w1 => Below w.heap.size w w1 ∧ w1.heap[w.heap.size]? = some (.cells #[.int .i64 0, .int .i64 0, .string { data := #[] }, .int .i64 0, .string { data := #[] }, .int .i64 0, .string { data := #[] }] 37 (0, 0)) ∧ w1.heap[w.heap.size + 1]? = some (.cells #[.int .i64 s.ck, .int .i64 x1.dir, .string x1.name, .int .i64 0, .string { data := #[] }, .int .i64 0, .string { data := #[] }] 37 (0, 0))) _ ⟨(bl2 w (.cells #[.int .i64 0, .int .i64 0, .string { data := #[] }, .int .i64 0, .string { data := #[] }, .int .i64 0, .string { data := #[] }] 37) (.cells #[.int .i64 s.ck, .int .i64 x1.dir, .string x1.name, .int .i64 0, .string { data := #[] }, .int .i64 0, .string { data := #[] }] 37)).drew, heap_drew (heap_old (heap_new w (.cells #[.int .i64 0, .int .i64 0, .string { data := #[] }, .int .i64 0, .string { data := #[] }, .int .i64 0, .string { data := #[] }] 37)) (.cells #[.int .i64 s.ck, .int .i64 x1.dir, .string x1.name, .int .i64 0, .string { data := #[] }, .int .i64 0, .string { data := #[] }] 37)), heap_drew (by have h1 := heap_new (w.alloc (.cells #[.int .i64 0, .int .i64 0, .string { data := #[] }, .int .i64 0, .string { data := #[] }, .int .i64 0, .string { data := #[] }] 37)) (.cells #[.int .i64 s.ck, .int .i64 x1.dir, .string x1.name, .int .i64 0, .string { data := #[] }, .int .i64 0, .string { data := #[] }] 37); rw [World.size_alloc] at h1; exact h1)⟩ ?_
    rintro w1 ⟨hb1, hz1, ho1⟩
    have HB1 := hid hb1
    have HZ1 := hid hz1
    have HO1 := hid ho1
    have e13 := cell_of (HC.out.below hb1).hc 13 (.int .i64 s.ck) rfl
    have e15 := cell_of (HC.out.below hb1).hc 15 (.string s.co) rfl
    have e16 := cell_of (HC.out.below hb1).hc 16 (.int .i64 s.cm) rfl
    have bo := blk7 ho1
    have bz := blk7 hz1
    clear e13a k1a hz1 ho1
    rcases HCK.out with hk | hk | hk | hk | hk | hk | hk
    · have HMU := hid (show mutOp s P = ⟨s.ck, x1.dir, x1.name, 0, { data := #[] }, s.cm, { data := #[] }⟩ by simp [mutOp, HX1.out, hk]; try rfl)
      rw [hk] at e13
      have HCK := hid hk
      clear hk
      go_wp2
      skip
      all_goals (try simp only [Exit.inBlock, Exit.then])
      refine gen_w (P := fun w' => bodyPost _ _ _ _ _ w') (S := fun w4 => Below w.heap.size w w4 ∧ w4.heap[w.heap.size]? = some (.cells #[.int .i64 s.ck, .int .i64 x1.dir, .string x1.name, .int .i64 (0), .string ({ data := #[] }), .int .i64 (s.cm), .string ({ data := #[] })] 37 (0, 0))) _ ⟨?_, ?_⟩ ?_
      · refine HB1.out.trans (Chg.toBelow (F := fun j => j = w.heap.size ∨ j = w.heap.size + 1) ?_ HB1.out.size fun i hi hf => by omega)
        iterate 7 refine Chg.set1 ?_ _ _ (.inl rfl)
        iterate 1 refine Chg.set1 ?_ _ _ (.inr rfl)
        exact Chg.refl _ _
      · have h8 := heap_chg (w' := (w1.setCell ⟨w.heap.size + 1, 5, none⟩ (.int .i64 (s.cm)))) (show Chg (fun j => j = w.heap.size + 1) w1 _ from by ((iterate 1 refine Chg.set1 ?_ _ _ rfl); exact Chg.refl _ _)) HZ1.out (by omega)
        have h9 := (heap_set (heap_set (heap_set (heap_set (heap_set (heap_set (heap_set h8 0 (.int .i64 s.ck)) 1 (.int .i64 x1.dir)) 2 (.string x1.name)) 3 (.int .i64 (0))) 4 (.string ({ data := #[] }))) 5 (.int .i64 (s.cm))) 6 (.string ({ data := #[] })))
        simp only [List.setIfInBounds_toArray, List.set_cons_zero, List.set_cons_succ] at h9
        exact h9
      rintro w4 ⟨hb4, hr4⟩
      have HB4 := hid hb4
      have br := blk7 hr4
      clear bo bz hb4 hr4
      refine bodyPost_ret (v := (.agg #[.int .i64 s.ck, .int .i64 x1.dir, .string x1.name, .int .i64 (0), .string ({ data := #[] }), .int .i64 (s.cm), .string ({ data := #[] })])) (by simp [results, Tryz.results117, go_sem, br]) rfl ⟨by rw [HMU.out]; unfold Op7.v; with_reducible rfl, HB4.out⟩
    · have HMU := hid (show mutOp s P = ⟨s.ck, x1.dir, x1.name, 0, { data := #[] }, s.cm, { data := #[] }⟩ by simp [mutOp, HX1.out, hk]; try rfl)
      rw [hk] at e13
      have HCK := hid hk
      clear hk
      go_wp2
      skip
      all_goals (try simp only [Exit.inBlock, Exit.then])
      refine gen_w (P := fun w' => bodyPost _ _ _ _ _ w') (S := fun w4 => Below w.heap.size w w4 ∧ w4.heap[w.heap.size]? = some (.cells #[.int .i64 s.ck, .int .i64 x1.dir, .string x1.name, .int .i64 (0), .string ({ data := #[] }), .int .i64 (s.cm), .string ({ data := #[] })] 37 (0, 0))) _ ⟨?_, ?_⟩ ?_
      · refine HB1.out.trans (Chg.toBelow (F := fun j => j = w.heap.size ∨ j = w.heap.size + 1) ?_ HB1.out.size fun i hi hf => by omega)
        iterate 7 refine Chg.set1 ?_ _ _ (.inl rfl)
        iterate 1 refine Chg.set1 ?_ _ _ (.inr rfl)
        exact Chg.refl _ _
      · have h8 := heap_chg (w' := (w1.setCell ⟨w.heap.size + 1, 5, none⟩ (.int .i64 (s.cm)))) (show Chg (fun j => j = w.heap.size + 1) w1 _ from by ((iterate 1 refine Chg.set1 ?_ _ _ rfl); exact Chg.refl _ _)) HZ1.out (by omega)
        have h9 := (heap_set (heap_set (heap_set (heap_set (heap_set (heap_set (heap_set h8 0 (.int .i64 s.ck)) 1 (.int .i64 x1.dir)) 2 (.string x1.name)) 3 (.int .i64 (0))) 4 (.string ({ data := #[] }))) 5 (.int .i64 (s.cm))) 6 (.string ({ data := #[] })))
        simp only [List.setIfInBounds_toArray, List.set_cons_zero, List.set_cons_succ] at h9
        exact h9
      rintro w4 ⟨hb4, hr4⟩
      have HB4 := hid hb4
      have br := blk7 hr4
      clear bo bz hb4 hr4
      refine bodyPost_ret (v := (.agg #[.int .i64 s.ck, .int .i64 x1.dir, .string x1.name, .int .i64 (0), .string ({ data := #[] }), .int .i64 (s.cm), .string ({ data := #[] })])) (by simp [results, Tryz.results117, go_sem, br]) rfl ⟨by rw [HMU.out]; unfold Op7.v; with_reducible rfl, HB4.out⟩
    · have HMU := hid (show mutOp s P = ⟨s.ck, x1.dir, x1.name, 0, { data := #[] }, 0, s.co⟩ by simp [mutOp, HX1.out, hk]; try rfl)
      rw [hk] at e13
      have HCK := hid hk
      clear hk
      go_wp2
      skip
      all_goals (try simp only [Exit.inBlock, Exit.then])
      refine gen_w (P := fun w' => bodyPost _ _ _ _ _ w') (S := fun w4 => Below w.heap.size w w4 ∧ w4.heap[w.heap.size]? = some (.cells #[.int .i64 s.ck, .int .i64 x1.dir, .string x1.name, .int .i64 (0), .string ({ data := #[] }), .int .i64 (0), .string (s.co)] 37 (0, 0))) _ ⟨?_, ?_⟩ ?_
      · refine HB1.out.trans (Chg.toBelow (F := fun j => j = w.heap.size ∨ j = w.heap.size + 1) ?_ HB1.out.size fun i hi hf => by omega)
        iterate 7 refine Chg.set1 ?_ _ _ (.inl rfl)
        iterate 1 refine Chg.set1 ?_ _ _ (.inr rfl)
        exact Chg.refl _ _
      · have h8 := heap_chg (w' := (w1.setCell ⟨w.heap.size + 1, 6, none⟩ (.string (s.co)))) (show Chg (fun j => j = w.heap.size + 1) w1 _ from by ((iterate 1 refine Chg.set1 ?_ _ _ rfl); exact Chg.refl _ _)) HZ1.out (by omega)
        have h9 := (heap_set (heap_set (heap_set (heap_set (heap_set (heap_set (heap_set h8 0 (.int .i64 s.ck)) 1 (.int .i64 x1.dir)) 2 (.string x1.name)) 3 (.int .i64 (0))) 4 (.string ({ data := #[] }))) 5 (.int .i64 (0))) 6 (.string (s.co)))
        simp only [List.setIfInBounds_toArray, List.set_cons_zero, List.set_cons_succ] at h9
        exact h9
      rintro w4 ⟨hb4, hr4⟩
      have HB4 := hid hb4
      have br := blk7 hr4
      clear bo bz hb4 hr4
      refine bodyPost_ret (v := (.agg #[.int .i64 s.ck, .int .i64 x1.dir, .string x1.name, .int .i64 (0), .string ({ data := #[] }), .int .i64 (0), .string (s.co)])) (by simp [results, Tryz.results117, go_sem, br]) rfl ⟨by rw [HMU.out]; unfold Op7.v; with_reducible rfl, HB4.out⟩
    · have HMU := hid (show mutOp s P = ⟨s.ck, x1.dir, x1.name, 0, { data := #[] }, 0, { data := #[] }⟩ by simp [mutOp, HX1.out, hk]; try rfl)
      rw [hk] at e13
      have HCK := hid hk
      clear hk
      go_wp2
      skip
      all_goals (try simp only [Exit.inBlock, Exit.then])
      refine gen_w (P := fun w' => bodyPost _ _ _ _ _ w') (S := fun w4 => Below w.heap.size w w4 ∧ w4.heap[w.heap.size]? = some (.cells #[.int .i64 s.ck, .int .i64 x1.dir, .string x1.name, .int .i64 (0), .string ({ data := #[] }), .int .i64 (0), .string ({ data := #[] })] 37 (0, 0))) _ ⟨?_, ?_⟩ ?_
      · refine HB1.out.trans (Chg.toBelow (F := fun j => j = w.heap.size ∨ j = w.heap.size + 1) ?_ HB1.out.size fun i hi hf => by omega)
        iterate 7 refine Chg.set1 ?_ _ _ (.inl rfl)
        skip
        exact Chg.refl _ _
      · have h8 := heap_chg (w' := w1) (show Chg (fun j => j = w.heap.size + 1) w1 _ from by (skip; exact Chg.refl _ _)) HZ1.out (by omega)
        have h9 := (heap_set (heap_set (heap_set (heap_set (heap_set (heap_set (heap_set h8 0 (.int .i64 s.ck)) 1 (.int .i64 x1.dir)) 2 (.string x1.name)) 3 (.int .i64 (0))) 4 (.string ({ data := #[] }))) 5 (.int .i64 (0))) 6 (.string ({ data := #[] })))
        simp only [List.setIfInBounds_toArray, List.set_cons_zero, List.set_cons_succ] at h9
        exact h9
      rintro w4 ⟨hb4, hr4⟩
      have HB4 := hid hb4
      have br := blk7 hr4
      clear bo bz hb4 hr4
      refine bodyPost_ret (v := (.agg #[.int .i64 s.ck, .int .i64 x1.dir, .string x1.name, .int .i64 (0), .string ({ data := #[] }), .int .i64 (0), .string ({ data := #[] })])) (by simp [results, Tryz.results117, go_sem, br]) rfl ⟨by rw [HMU.out]; unfold Op7.v; with_reducible rfl, HB4.out⟩
    · have HMU := hid (show mutOp s P = ⟨s.ck, x1.dir, x1.name, 0, { data := #[] }, 0, { data := #[] }⟩ by simp [mutOp, HX1.out, hk]; try rfl)
      rw [hk] at e13
      have HCK := hid hk
      clear hk
      go_wp2
      skip
      all_goals (try simp only [Exit.inBlock, Exit.then])
      refine gen_w (P := fun w' => bodyPost _ _ _ _ _ w') (S := fun w4 => Below w.heap.size w w4 ∧ w4.heap[w.heap.size]? = some (.cells #[.int .i64 s.ck, .int .i64 x1.dir, .string x1.name, .int .i64 (0), .string ({ data := #[] }), .int .i64 (0), .string ({ data := #[] })] 37 (0, 0))) _ ⟨?_, ?_⟩ ?_
      · refine HB1.out.trans (Chg.toBelow (F := fun j => j = w.heap.size ∨ j = w.heap.size + 1) ?_ HB1.out.size fun i hi hf => by omega)
        iterate 7 refine Chg.set1 ?_ _ _ (.inl rfl)
        skip
        exact Chg.refl _ _
      · have h8 := heap_chg (w' := w1) (show Chg (fun j => j = w.heap.size + 1) w1 _ from by (skip; exact Chg.refl _ _)) HZ1.out (by omega)
        have h9 := (heap_set (heap_set (heap_set (heap_set (heap_set (heap_set (heap_set h8 0 (.int .i64 s.ck)) 1 (.int .i64 x1.dir)) 2 (.string x1.name)) 3 (.int .i64 (0))) 4 (.string ({ data := #[] }))) 5 (.int .i64 (0))) 6 (.string ({ data := #[] })))
        simp only [List.setIfInBounds_toArray, List.set_cons_zero, List.set_cons_succ] at h9
        exact h9
      rintro w4 ⟨hb4, hr4⟩
      have HB4 := hid hb4
      have br := blk7 hr4
      clear bo bz hb4 hr4
      refine bodyPost_ret (v := (.agg #[.int .i64 s.ck, .int .i64 x1.dir, .string x1.name, .int .i64 (0), .string ({ data := #[] }), .int .i64 (0), .string ({ data := #[] })])) (by simp [results, Tryz.results117, go_sem, br]) rfl ⟨by rw [HMU.out]; unfold Op7.v; with_reducible rfl, HB4.out⟩
    · obtain ⟨x2, hx2⟩ : ∃ x2, P[1]? = some x2 := ⟨_, List.getElem?_eq_getElem (HN.out.2 hk)⟩
      have k2 := keys_at (Rd.below (Rd.own HP.out) hb1) hx2
      simp only [Nat.reduceMul, Nat.reduceAdd] at k2
      have hpl1 : (1 : Int) < (P.length : Int) := by have := HN.out.2 hk; omega
      have hpl2 : 1 < P.length := HN.out.2 hk
      have hg1 : g ≠ w.heap.size + 1 := by omega
      have hg2 : w.heap.size + 1 ≠ g := by omega
      have HX2 := hid hx2
      clear hx2
      have HMU := hid (show mutOp s P = ⟨s.ck, x1.dir, x1.name, x2.dir, x2.name, 0, { data := #[] }⟩ by simp [mutOp, HX1.out, hk, HX2.out]; try rfl)
      rw [hk] at e13
      have HCK := hid hk
      clear hk
      go_wp2
      go_region
      simp only [Exit.inBlock, Exit.then]
      go_wp2
      all_goals (try simp only [Exit.inBlock, Exit.then])
      refine gen_w (P := fun w' => bodyPost _ _ _ _ _ w') (S := fun w4 => Below w.heap.size w w4 ∧ w4.heap[w.heap.size]? = some (.cells #[.int .i64 s.ck, .int .i64 x1.dir, .string x1.name, .int .i64 (x2.dir), .string (x2.name), .int .i64 (0), .string ({ data := #[] })] 37 (0, 0))) _ ⟨?_, ?_⟩ ?_
      · refine HB1.out.trans (Chg.toBelow (F := fun j => j = w.heap.size ∨ j = w.heap.size + 1) ?_ HB1.out.size fun i hi hf => by omega)
        refine Chg.drew ?_
        iterate 7 refine Chg.set1 ?_ _ _ (.inl rfl)
        iterate 2 refine Chg.set1 ?_ _ _ (.inr rfl)
        exact Chg.refl _ _
      · refine heap_drew ?_
        have h8 := heap_chg (w' := ((w1.setCell ⟨w.heap.size + 1, 3, none⟩ (.int .i64 (x2.dir))).setCell ⟨w.heap.size + 1, 4, none⟩ (.string (x2.name)))) (show Chg (fun j => j = w.heap.size + 1) w1 _ from by ((iterate 2 refine Chg.set1 ?_ _ _ rfl); exact Chg.refl _ _)) HZ1.out (by omega)
        have h9 := (heap_set (heap_set (heap_set (heap_set (heap_set (heap_set (heap_set h8 0 (.int .i64 s.ck)) 1 (.int .i64 x1.dir)) 2 (.string x1.name)) 3 (.int .i64 (x2.dir))) 4 (.string (x2.name))) 5 (.int .i64 (0))) 6 (.string ({ data := #[] })))
        simp only [List.setIfInBounds_toArray, List.set_cons_zero, List.set_cons_succ] at h9
        exact h9
      rintro w4 ⟨hb4, hr4⟩
      have HB4 := hid hb4
      have br := blk7 hr4
      clear bo bz hb4 hr4
      refine bodyPost_ret (v := (.agg #[.int .i64 s.ck, .int .i64 x1.dir, .string x1.name, .int .i64 (x2.dir), .string (x2.name), .int .i64 (0), .string ({ data := #[] })])) (by simp [results, Tryz.results117, go_sem, br]) rfl ⟨by rw [HMU.out]; unfold Op7.v; with_reducible rfl, HB4.out⟩
    · have HMU := hid (show mutOp s P = ⟨s.ck, x1.dir, x1.name, 0, { data := #[] }, s.cm, { data := #[] }⟩ by simp [mutOp, HX1.out, hk]; try rfl)
      rw [hk] at e13
      have HCK := hid hk
      clear hk
      go_wp2
      skip
      all_goals (try simp only [Exit.inBlock, Exit.then])
      refine gen_w (P := fun w' => bodyPost _ _ _ _ _ w') (S := fun w4 => Below w.heap.size w w4 ∧ w4.heap[w.heap.size]? = some (.cells #[.int .i64 s.ck, .int .i64 x1.dir, .string x1.name, .int .i64 (0), .string ({ data := #[] }), .int .i64 (s.cm), .string ({ data := #[] })] 37 (0, 0))) _ ⟨?_, ?_⟩ ?_
      · refine HB1.out.trans (Chg.toBelow (F := fun j => j = w.heap.size ∨ j = w.heap.size + 1) ?_ HB1.out.size fun i hi hf => by omega)
        iterate 7 refine Chg.set1 ?_ _ _ (.inl rfl)
        iterate 1 refine Chg.set1 ?_ _ _ (.inr rfl)
        exact Chg.refl _ _
      · have h8 := heap_chg (w' := (w1.setCell ⟨w.heap.size + 1, 5, none⟩ (.int .i64 (s.cm)))) (show Chg (fun j => j = w.heap.size + 1) w1 _ from by ((iterate 1 refine Chg.set1 ?_ _ _ rfl); exact Chg.refl _ _)) HZ1.out (by omega)
        have h9 := (heap_set (heap_set (heap_set (heap_set (heap_set (heap_set (heap_set h8 0 (.int .i64 s.ck)) 1 (.int .i64 x1.dir)) 2 (.string x1.name)) 3 (.int .i64 (0))) 4 (.string ({ data := #[] }))) 5 (.int .i64 (s.cm))) 6 (.string ({ data := #[] })))
        simp only [List.setIfInBounds_toArray, List.set_cons_zero, List.set_cons_succ] at h9
        exact h9
      rintro w4 ⟨hb4, hr4⟩
      have HB4 := hid hb4
      have br := blk7 hr4
      clear bo bz hb4 hr4
      refine bodyPost_ret (v := (.agg #[.int .i64 s.ck, .int .i64 x1.dir, .string x1.name, .int .i64 (0), .string ({ data := #[] }), .int .i64 (s.cm), .string ({ data := #[] })])) (by simp [results, Tryz.results117, go_sem, br]) rfl ⟨by rw [HMU.out]; unfold Op7.v; with_reducible rfl, HB4.out⟩
end Go.Proofs.YtbjibkjenleloaaGreatDoor

end
