/- Parts of a proof about the given program, in build order: TidE. No condition. -/
import Derived.Test.YtbjibkjenleloaaGreatDoorMg07
section
namespace Go.Proofs.YtbjibkjenleloaaGreatDoor
set_option linter.unusedVariables false
set_option linter.unusedSimpArgs false
open Go.RowKit
attribute [local go_sem ↓] Go.wp_at_zero Go.wp_at_succ
attribute [local go_sem] run_store_complex run_store_float


theorem set_size (w : World) (a : Addr) (v : Value) : (w.setCell a v).heap.size = w.heap.size := by simp
/-- blocks that are new may turn -/
theorem chg_new {F G : Nat → Prop} {w w1 w2 : World} (h : Chg F w w1) (hc : Chg G w1 w2) (hG : ∀ j, G j → F j ∨ w.heap.size ≤ j := by intro j hj; subst hj; right; omega) : Chg F w w2 :=
  ⟨by rw [hc.os, h.os], by rw [hc.tape, h.tape], by rw [hc.output, h.output], Nat.le_trans h.size hc.size, fun k hk hF => by
    rw [hc.block k (by have := h.size; omega) (fun hg => by rcases hG k hg with h1 | h1; exact hF h1; omega), h.block k hk hF]⟩
/-- what a message makes a client do, as a value -/
def actV (all again reply whole : Bool) (ka : Option Addr) (kl kc : Nat) (err : Int) (ea : Option Addr) (el ec : Nat) : Value := .agg #[.bool all, .bool again, .bool reply, .bool whole, .slice ka kl kc, .int .i64 err, .slice ea el ec]
set_option maxRecDepth 100000 in
set_option maxHeartbeats 2000000 in
theorem tide_use_again (w : World) (t : Nat) (s : Td) (m : Ms) (h : TidAt w t s) (he : m.err = 70) :
    Calls Tryz.prog 63 #[.pointer (some ⟨t, 0, none⟩), m.v] w fun e w' => e = .returned (actV false true false false none 0 0 0 none 0 0) ∧ TidAt w' t { s with ver := max s.ver m.ver } ∧ Chg (fun j => j = t) w w' := by
  have HT := hid h
  have ht := h.lt
  have b0 := blk8 h
  obtain ⟨v1, hv1⟩ : ∃ v1, v1 = max s.ver m.ver := ⟨_, rfl⟩
  have hmx : max s.ver m.ver = v1 := hv1.symm
  have HV := hid hv1
  have HM := hid (heap_old (heap_new w (.cells m.cs 50)) (.cells #[.bool false, .bool false, .bool false, .bool false, .slice none 0 0, .int .i64 0, .slice none 0 0] 94))
  have hR := heap_new (w.alloc (.cells m.cs 50)) (.cells #[.bool false, .bool false, .bool false, .bool false, .slice none 0 0, .int .i64 0, .slice none 0 0] 94)
  rw [World.size_alloc] at hR
  have HR := hid hR
  clear h hR hv1
  have HE := hid he
  clear he
  unfold Ms.v
  unfold Ms.cs at HM HR ⊢
  rw [HE.out] at HM HR ⊢
  have bm := (blk16 HM.out).1
  go_enter Tryz.func63, Tryz.ntmps63
  go_wp2
  go_region
  refine gen_w (P := fun w' => Exit.then _ _ _ _ w') (S := fun w1 => TidAt w1 t { s with ver := v1 } ∧ Chg (fun j => j = t) w w1 ∧ w1.heap[w.heap.size]? = some (.cells #[.int .i64 m.kind, .int .i64 m.client, .int .i64 m.life, .int .i64 m.seq, .complex .f64 (fl m.me) (fl m.mn), .int .i64 m.ver, .int .i64 70, .int .i64 m.op.kind, .int .i64 m.op.dir, .string m.op.name, .int .i64 m.op.to_, .string m.op.new_, .int .i64 m.op.mode, .string m.op.target, .slice m.ea m.el m.ec, .slice m.ka m.kl m.kc] 50 (0, 0)) ∧ w1.heap[w.heap.size + 1]? = some (.cells #[.bool false, .bool false, .bool false, .bool false, .slice none 0 0, .int .i64 0, .slice none 0 0] 94 (0, 0))) _ ⟨?_, ?_, ?_, ?_⟩ ?_
  · have h9 := heap_set HT.out 4 (.int .i64 v1)
    simp only [List.setIfInBounds_toArray, List.set_cons_zero, List.set_cons_succ] at h9
    exact heap_old (heap_old h9 _) _
  · exact Chg.drew (Chg.alloc (Chg.alloc (Chg.set1 (Chg.refl (fun j => j = t) w) ⟨t, 4, none⟩ _ rfl) _) _)
  · have h9 := heap_new (w.setCell ⟨t, 4, none⟩ (.int .i64 v1)) (.cells #[.int .i64 m.kind, .int .i64 m.client, .int .i64 m.life, .int .i64 m.seq, .complex .f64 (fl m.me) (fl m.mn), .int .i64 m.ver, .int .i64 70, .int .i64 m.op.kind, .int .i64 m.op.dir, .string m.op.name, .int .i64 m.op.to_, .string m.op.new_, .int .i64 m.op.mode, .string m.op.target, .slice m.ea m.el m.ec, .slice m.ka m.kl m.kc] 50)
    rw [set_size] at h9
    exact heap_old h9 _
  · have h9 := heap_new ((w.setCell ⟨t, 4, none⟩ (.int .i64 v1)).alloc (.cells #[.int .i64 m.kind, .int .i64 m.client, .int .i64 m.life, .int .i64 m.seq, .complex .f64 (fl m.me) (fl m.mn), .int .i64 m.ver, .int .i64 70, .int .i64 m.op.kind, .int .i64 m.op.dir, .string m.op.name, .int .i64 m.op.to_, .string m.op.new_, .int .i64 m.op.mode, .string m.op.target, .slice m.ea m.el m.ec, .slice m.ka m.kl m.kc] 50)) (.cells #[.bool false, .bool false, .bool false, .bool false, .slice none 0 0, .int .i64 0, .slice none 0 0] 94)
    rw [World.size_alloc, set_size] at h9
    exact h9
  rintro w1 ⟨ht1, hc1, hm1, hr1⟩
  have HT1 := hid ht1
  have HC1 := hid hc1
  have HR1 := hid hr1
  have HM1 := hid hm1
  have b1 := blk8 ht1
  have bm1 := (blk16 hm1).1
  have br1 := blk7 hr1
  clear b0 bm ht1 hc1 hm1 hr1 HM HR HT
  go_wp2
  (try simp only [Exit.inBlock, Exit.then])
  refine gen_w (P := fun w' => bodyPost _ _ _ _ _ w') (S := fun w2 => Chg (fun j => j = w.heap.size + 1) w1 w2 ∧ w2.heap[w.heap.size + 1]? = some (.cells #[.bool false, .bool true, .bool false, .bool false, .slice none 0 0, .int .i64 0, .slice none 0 0] 94 (0, 0))) _ ⟨?_, ?_⟩ ?_
  · iterate 7 refine Chg.set1 ?_ _ _ rfl
    exact Chg.refl _ _
  · have h9 := heap_set (heap_set (heap_set (heap_set (heap_set (heap_set (heap_set HR1.out 0 (.bool false)) 1 (.bool true)) 2 (.bool false)) 3 (.bool false)) 4 (.slice none 0 0)) 5 (.int .i64 0)) 6 (.slice none 0 0)
    simp only [List.setIfInBounds_toArray, List.set_cons_zero, List.set_cons_succ] at h9
    exact h9
  rintro w2 ⟨hc2, hr2⟩
  have HC2 := hid hc2
  have br := blk7 hr2
  clear hc2 hr2 bm1 b1
  refine bodyPost_ret (v := actV false true false false none 0 0 0 none 0 0) (by simp [results, Tryz.results63, go_sem, br, actV]) rfl ⟨rfl, ?_, ?_⟩
  · exact HT1.out.chg HC2.out (by omega)
  · exact chg_new HC1.out HC2.out
set_option maxRecDepth 100000 in
set_option maxHeartbeats 2000000 in
theorem tide_use (w : World) (t : Nat) (s : Td) (m : Ms) (L : List En) (h : TidAt w t s) (he : m.err ≠ 70) (hL : m.el = L.length) (hE : Rd w (.slice m.ea m.el m.ec) L.length (ecs L)) (hl : L.length * 72 ≤ 140737488355328) (hne : m.ea.map (·.block) ≠ some t) :
    Calls Tryz.prog 63 #[.pointer (some ⟨t, 0, none⟩), m.v] w fun e w' => ∃ a c, e = .returned (actV false false true true none 0 0 m.err a L.length c) ∧ w'.ownsRow w.heap.size 55 7 (.slice a L.length c) L.length (ecs L) ∧ TidAt w' t { s with ver := max s.ver m.ver, asked := 0 } ∧ Chg (fun j => j = t) w w' := by
  have HT := hid h
  have ht := h.lt
  have b0 := blk8 h
  obtain ⟨v1, hv1⟩ : ∃ v1, v1 = max s.ver m.ver := ⟨_, rfl⟩
  have hmx : max s.ver m.ver = v1 := hv1.symm
  have HV := hid hv1
  have HM := hid (heap_old (heap_new w (.cells m.cs 50)) (.cells #[.bool false, .bool false, .bool false, .bool false, .slice none 0 0, .int .i64 0, .slice none 0 0] 94))
  have hR := heap_new (w.alloc (.cells m.cs 50)) (.cells #[.bool false, .bool false, .bool false, .bool false, .slice none 0 0, .int .i64 0, .slice none 0 0] 94)
  rw [World.size_alloc] at hR
  have HR := hid hR
  clear h hR hv1
  have HE := hid he
  have HL := hid (And.intro hL (And.intro hE (And.intro hl hne)))
  have e1 : (m.err == 70) = false := by simp [he]
  clear he hL hE hl hne
  unfold Ms.v
  unfold Ms.cs at HM HR ⊢
  have bm := (blk16 HM.out).1
  go_enter Tryz.func63, Tryz.ntmps63
  go_wp2
  go_region
  refine gen_w (P := fun w' => Exit.then _ _ _ _ w') (S := fun w1 => TidAt w1 t { s with ver := v1 } ∧ Chg (fun j => j = t) w w1 ∧ w1.heap[w.heap.size]? = some (.cells #[.int .i64 m.kind, .int .i64 m.client, .int .i64 m.life, .int .i64 m.seq, .complex .f64 (fl m.me) (fl m.mn), .int .i64 m.ver, .int .i64 m.err, .int .i64 m.op.kind, .int .i64 m.op.dir, .string m.op.name, .int .i64 m.op.to_, .string m.op.new_, .int .i64 m.op.mode, .string m.op.target, .slice m.ea m.el m.ec, .slice m.ka m.kl m.kc] 50 (0, 0)) ∧ w1.heap[w.heap.size + 1]? = some (.cells #[.bool false, .bool false, .bool false, .bool false, .slice none 0 0, .int .i64 0, .slice none 0 0] 94 (0, 0))) _ ⟨?_, ?_, ?_, ?_⟩ ?_
  · have h9 := heap_set HT.out 4 (.int .i64 v1)
    simp only [List.setIfInBounds_toArray, List.set_cons_zero, List.set_cons_succ] at h9
    exact heap_old (heap_old h9 _) _
  · exact Chg.drew (Chg.alloc (Chg.alloc (Chg.set1 (Chg.refl (fun j => j = t) w) ⟨t, 4, none⟩ _ rfl) _) _)
  · have h9 := heap_new (w.setCell ⟨t, 4, none⟩ (.int .i64 v1)) (.cells #[.int .i64 m.kind, .int .i64 m.client, .int .i64 m.life, .int .i64 m.seq, .complex .f64 (fl m.me) (fl m.mn), .int .i64 m.ver, .int .i64 m.err, .int .i64 m.op.kind, .int .i64 m.op.dir, .string m.op.name, .int .i64 m.op.to_, .string m.op.new_, .int .i64 m.op.mode, .string m.op.target, .slice m.ea m.el m.ec, .slice m.ka m.kl m.kc] 50)
    rw [set_size] at h9
    exact heap_old h9 _
  · have h9 := heap_new ((w.setCell ⟨t, 4, none⟩ (.int .i64 v1)).alloc (.cells #[.int .i64 m.kind, .int .i64 m.client, .int .i64 m.life, .int .i64 m.seq, .complex .f64 (fl m.me) (fl m.mn), .int .i64 m.ver, .int .i64 m.err, .int .i64 m.op.kind, .int .i64 m.op.dir, .string m.op.name, .int .i64 m.op.to_, .string m.op.new_, .int .i64 m.op.mode, .string m.op.target, .slice m.ea m.el m.ec, .slice m.ka m.kl m.kc] 50)) (.cells #[.bool false, .bool false, .bool false, .bool false, .slice none 0 0, .int .i64 0, .slice none 0 0] 94)
    rw [World.size_alloc, set_size] at h9
    exact h9
  rintro w1 ⟨ht1, hc1, hm1, hr1⟩
  have HT1 := hid ht1
  have HC1 := hid hc1
  have HR1 := hid hr1
  have HM1 := hid hm1
  have b1 := blk8 ht1
  have bm1 := (blk16 hm1).1
  have br1 := blk7 hr1
  clear b0 bm ht1 hc1 hm1 hr1 HM HR HT
  go_wp2
  have HRD := hid (show Rd w1 (.slice m.ea m.el m.ec) L.length (ecs L) from HL.out.2.1.chg fun k hk hlt => HC1.out.block k hlt (fun e2 => HL.out.2.2.2 (by rw [← ownBlock_slice (n := m.el) (c := m.ec), hk, e2])))
  have hq1 : w.heap.size < w1.heap.size := blk_lt HM1.out
  go_region_law (first
    | (go_simp; go_at_call 87; refine (clone_ents _ L _ HRD.out.drew HL.out.2.2.1).mono ?_; rintro e2 w2 ⟨a2, c2, rfl, ho2, hb2⟩; (have HO2 := hid ho2); (have HB2 := hid hb2); (have hm2 := heap_below hb2 HM1.out (blk_lt HM1.out)); (have HM2 := hid hm2); (have bm2 := (blk16 hm2).1); (have hq2 : w.heap.size < w2.heap.size := blk_lt hm2); clear ho2 hb2 hm2)
    | (go_simp; go_at_call 87; refine (clone_ents _ L _ (HRD.out.alloc _).drew HL.out.2.2.1).mono ?_; rintro e2 w2 ⟨a2, c2, rfl, ho2, hb2⟩; (have HO2 := hid ho2); (have HB2 := hid hb2); (have hm2 := heap_below hb2 (heap_old HM1.out (.cells #[.bool false, .bool false, .bool false, .bool false, .slice none 0 0, .int .i64 0, .slice none 0 0] 94)) (blk_lt (heap_old HM1.out (.cells #[.bool false, .bool false, .bool false, .bool false, .slice none 0 0, .int .i64 0, .slice none 0 0] 94)))); (have HM2 := hid hm2); (have bm2 := (blk16 hm2).1); (have hq2 : w.heap.size < w2.heap.size := blk_lt hm2); (have hn2 := heap_below hb2 (show (w1.alloc (.cells #[.bool false, .bool false, .bool false, .bool false, .slice none 0 0, .int .i64 0, .slice none 0 0] 94)).drew.heap[w1.heap.size]? = _ from heap_new w1 (.cells #[.bool false, .bool false, .bool false, .bool false, .slice none 0 0, .int .i64 0, .slice none 0 0] 94)) (by show w1.heap.size < (w1.alloc (.cells #[.bool false, .bool false, .bool false, .bool false, .slice none 0 0, .int .i64 0, .slice none 0 0] 94)).heap.size; simp)); (have HN2 := hid hn2); (have ha2 := blk7 hn2); clear ho2 hb2 hm2 hn2))
  all_goals
    first
    | (fail_if_success (have hxx := ha2)
       refine gen_w (P := fun w' => Exit.then _ _ _ _ w') (S := fun w3 => (TidAt w3 t { s with ver := v1 } ∧ Chg (fun j => j = t) w w3 ∧ w3.heap[w2.heap.size]? = some (.cells #[.bool false, .bool false, .bool true, .bool true, .slice none 0 0, .int .i64 m.err, .slice a2 L.length c2] 94 (0, 0)) ∧ w3.heap[w.heap.size + 1]? = some (.cells #[.bool false, .bool false, .bool false, .bool false, .slice none 0 0, .int .i64 0, .slice none 0 0] 94 (0, 0))) ∧ w3.ownsRow w.heap.size 55 7 (.slice a2 L.length c2) L.length (ecs L)) _ ?_ ?_
       · have hx : Chg (fun j => j = t) w w2 := chg_new HC1.out.drew (Chg.below HB2.out) (by intro j hj; exact hj.elim)
         have hy := heap_below HB2.out HR1.out (blk_lt HR1.out)
         exact ⟨⟨heap_old (heap_below HB2.out HT1.out (blk_lt HT1.out)) _, Chg.alloc hx _, heap_new w2 _, heap_old hy _⟩, own_alloc (ownsRow_mono HO2.out (by show w.heap.size ≤ w1.heap.size; omega)) _⟩
       · rintro w3 ⟨⟨ht3, hc3, hq3, hr3⟩, ho3⟩
         have HT3 := hid ht3
         have HC3 := hid hc3
         have HR3 := hid hr3
         have HO3 := hid ho3
         have b3 := blk8 ht3
         have bq := blk7 hq3
         have br := blk7 hr3
         clear b1 bm1 br1 bm2 ht3 hc3 hq3 hr3 ho3
         go_wp2_with fail
         go_loopw [33] (fun v wr => v = .int .i64 0 ∧ wr = w3) (fun _ _ => 0)
         case atStart => exact ⟨rfl, rfl⟩
         case round =>
           obtain ⟨rfl, rfl⟩ := hrel
           go_wp2
           (try simp only [Exit.inBlock, Exit.then])
           refine gen_w (P := fun w' => bodyPost _ _ _ _ _ w') (S := fun w4 => (TidAt w4 t { s with ver := v1, asked := 0 } ∧ Chg (fun j => j = t) w w4 ∧ w4.heap[w.heap.size + 1]? = some (.cells #[.bool false, .bool false, .bool true, .bool true, .slice none 0 0, .int .i64 m.err, .slice a2 L.length c2] 94 (0, 0))) ∧ w4.ownsRow w.heap.size 55 7 (.slice a2 L.length c2) L.length (ecs L)) _ ?_ ?_
           · have h7 := heap_set (heap_set HT3.out 5 (.int .i64 0)) 7 (.slice none 0 0)
             simp only [List.setIfInBounds_toArray, List.set_cons_zero, List.set_cons_succ] at h7
             have h8 : ((wr.setCell ⟨t, 5, none⟩ (.int .i64 0)).setCell ⟨t, 7, none⟩ (.slice none 0 0)).heap[w.heap.size + 1]? = _ := heap_set_ne (heap_set_ne HR3.out 5 _ (by omega)) 7 _ (by omega)
             have hcc : Chg (fun j => j = t) w ((wr.setCell ⟨t, 5, none⟩ (.int .i64 0)).setCell ⟨t, 7, none⟩ (.slice none 0 0)) := Chg.set1 (Chg.set1 HC3.out _ _ rfl) _ _ rfl
             have ho : ((wr.setCell ⟨t, 5, none⟩ (.int .i64 0)).setCell ⟨t, 7, none⟩ (.slice none 0 0)).ownsRow w.heap.size 55 7 (.slice a2 L.length c2) L.length (ecs L) := own_set (own_set HO3.out (own_ne HO3.out HT3.out (by decide)) 5 _) (own_ne HO3.out HT3.out (by decide)) 7 _
             generalize (wr.setCell ⟨t, 5, none⟩ (.int .i64 0)).setCell ⟨t, 7, none⟩ (.slice none 0 0) = w5 at h7 h8 hcc ho ⊢
             have h9 := heap_set (heap_set (heap_set (heap_set (heap_set (heap_set (heap_set h8 0 (.bool false)) 1 (.bool false)) 2 (.bool true)) 3 (.bool true)) 4 (.slice none 0 0)) 5 (.int .i64 m.err)) 6 (.slice a2 L.length c2)
             simp only [List.setIfInBounds_toArray, List.set_cons_zero, List.set_cons_succ] at h9
             have hc5 : Chg (fun j => j = w.heap.size + 1) w5 (((((((w5.setCell ⟨w.heap.size + 1, 0, none⟩ (.bool false)).setCell ⟨w.heap.size + 1, 1, none⟩ (.bool false)).setCell ⟨w.heap.size + 1, 2, none⟩ (.bool true)).setCell ⟨w.heap.size + 1, 3, none⟩ (.bool true)).setCell ⟨w.heap.size + 1, 4, none⟩ (.slice none 0 0)).setCell ⟨w.heap.size + 1, 5, none⟩ (.int .i64 m.err)).setCell ⟨w.heap.size + 1, 6, none⟩ (.slice a2 L.length c2)) := by
               iterate 7 refine Chg.set1 ?_ _ _ rfl
               exact Chg.refl _ _
             refine ⟨⟨heap_chg hc5 h7 (by omega), chg_new hcc hc5, h9⟩, ownsRow_chg ho fun j hj hl => hc5.block j hl fun e1 => ?_⟩
             subst e1
             exact own_ne ho h8 (by decide) hj
           · rintro w4 ⟨⟨ht4, hc4, hr4⟩, ho4⟩
             have b4 := blk7 hr4
             refine bodyPost_ret (v := actV false false true true none 0 0 m.err a2 L.length c2) (by clear ht4 hc4 hr4 ho4; simp [results, Tryz.results63, go_sem, b4, actV]) rfl ?_
             first | exact ⟨a2, c2, rfl, ho4, ht4, hc4⟩ | exact ⟨a2, c2, rfl, ho4, by rw [← HV.out]; exact ht4, hc4⟩)
    | (
       refine gen_w (P := fun w' => Exit.then _ _ _ _ w') (S := fun w3 => (TidAt w3 t { s with ver := v1 } ∧ Chg (fun j => j = t) w w3 ∧ w3.heap[w1.heap.size]? = some (.cells #[.bool false, .bool false, .bool true, .bool true, .slice none 0 0, .int .i64 m.err, .slice a2 L.length c2] 94 (0, 0)) ∧ w3.heap[w.heap.size + 1]? = some (.cells #[.bool false, .bool false, .bool false, .bool false, .slice none 0 0, .int .i64 0, .slice none 0 0] 94 (0, 0))) ∧ w3.ownsRow w.heap.size 55 7 (.slice a2 L.length c2) L.length (ecs L)) _ ?_ ?_
       · have hx : Chg (fun j => j = t) w w2 := chg_new (Chg.drew (Chg.alloc HC1.out (.cells #[.bool false, .bool false, .bool false, .bool false, .slice none 0 0, .int .i64 0, .slice none 0 0] 94))) (Chg.below HB2.out) (by intro j hj; exact hj.elim)
         have ht2 := heap_below HB2.out (heap_old HT1.out (.cells #[.bool false, .bool false, .bool false, .bool false, .slice none 0 0, .int .i64 0, .slice none 0 0] 94)) (blk_lt (heap_old HT1.out (.cells #[.bool false, .bool false, .bool false, .bool false, .slice none 0 0, .int .i64 0, .slice none 0 0] 94)))
         have hr2 := heap_below HB2.out (heap_old HR1.out (.cells #[.bool false, .bool false, .bool false, .bool false, .slice none 0 0, .int .i64 0, .slice none 0 0] 94)) (blk_lt (heap_old HR1.out (.cells #[.bool false, .bool false, .bool false, .bool false, .slice none 0 0, .int .i64 0, .slice none 0 0] 94)))
         have h9 := heap_set (heap_set (heap_set (heap_set (heap_set (heap_set (heap_set HN2.out 0 (.bool false)) 1 (.bool false)) 2 (.bool true)) 3 (.bool true)) 4 (.slice none 0 0)) 5 (.int .i64 m.err)) 6 (.slice a2 L.length c2)
         simp only [List.setIfInBounds_toArray, List.set_cons_zero, List.set_cons_succ] at h9
         have hc5 : Chg (fun j => j = w1.heap.size) w2 (((((((w2.setCell ⟨w1.heap.size, 0, none⟩ (.bool false)).setCell ⟨w1.heap.size, 1, none⟩ (.bool false)).setCell ⟨w1.heap.size, 2, none⟩ (.bool true)).setCell ⟨w1.heap.size, 3, none⟩ (.bool true)).setCell ⟨w1.heap.size, 4, none⟩ (.slice none 0 0)).setCell ⟨w1.heap.size, 5, none⟩ (.int .i64 m.err)).setCell ⟨w1.heap.size, 6, none⟩ (.slice a2 L.length c2)) := by
           iterate 7 refine Chg.set1 ?_ _ _ rfl
           exact Chg.refl _ _
         refine ⟨⟨heap_chg hc5 ht2 (by omega), chg_new hx hc5, h9, heap_chg hc5 hr2 (by have := blk_lt HR1.out; omega)⟩, ownsRow_mono (ownsRow_chg HO2.out fun j hj hl => hc5.block j hl fun e1 => ?_) (by show w.heap.size ≤ (w1.alloc (.cells #[.bool false, .bool false, .bool false, .bool false, .slice none 0 0, .int .i64 0, .slice none 0 0] 94)).heap.size; simp; omega)⟩
         subst e1
         exact own_ne HO2.out HN2.out (by decide) hj
       · rintro w3 ⟨⟨ht3, hc3, hq3, hr3⟩, ho3⟩
         have HT3 := hid ht3
         have HC3 := hid hc3
         have HR3 := hid hr3
         have HO3 := hid ho3
         have b3 := blk8 ht3
         have bq := blk7 hq3
         have br := blk7 hr3
         clear b1 bm1 br1 bm2 ht3 hc3 hq3 hr3 ho3
         go_wp2_with fail
         go_loopw [33] (fun v wr => v = .int .i64 0 ∧ wr = w3) (fun _ _ => 0)
         case atStart => exact ⟨rfl, rfl⟩
         case round =>
           obtain ⟨rfl, rfl⟩ := hrel
           go_wp2
           (try simp only [Exit.inBlock, Exit.then])
           refine gen_w (P := fun w' => bodyPost _ _ _ _ _ w') (S := fun w4 => (TidAt w4 t { s with ver := v1, asked := 0 } ∧ Chg (fun j => j = t) w w4 ∧ w4.heap[w.heap.size + 1]? = some (.cells #[.bool false, .bool false, .bool true, .bool true, .slice none 0 0, .int .i64 m.err, .slice a2 L.length c2] 94 (0, 0))) ∧ w4.ownsRow w.heap.size 55 7 (.slice a2 L.length c2) L.length (ecs L)) _ ?_ ?_
           · have h7 := heap_set (heap_set HT3.out 5 (.int .i64 0)) 7 (.slice none 0 0)
             simp only [List.setIfInBounds_toArray, List.set_cons_zero, List.set_cons_succ] at h7
             have h8 : ((wr.setCell ⟨t, 5, none⟩ (.int .i64 0)).setCell ⟨t, 7, none⟩ (.slice none 0 0)).heap[w.heap.size + 1]? = _ := heap_set_ne (heap_set_ne HR3.out 5 _ (by omega)) 7 _ (by omega)
             have hcc : Chg (fun j => j = t) w ((wr.setCell ⟨t, 5, none⟩ (.int .i64 0)).setCell ⟨t, 7, none⟩ (.slice none 0 0)) := Chg.set1 (Chg.set1 HC3.out _ _ rfl) _ _ rfl
             have ho : ((wr.setCell ⟨t, 5, none⟩ (.int .i64 0)).setCell ⟨t, 7, none⟩ (.slice none 0 0)).ownsRow w.heap.size 55 7 (.slice a2 L.length c2) L.length (ecs L) := own_set (own_set HO3.out (own_ne HO3.out HT3.out (by decide)) 5 _) (own_ne HO3.out HT3.out (by decide)) 7 _
             generalize (wr.setCell ⟨t, 5, none⟩ (.int .i64 0)).setCell ⟨t, 7, none⟩ (.slice none 0 0) = w5 at h7 h8 hcc ho ⊢
             have h9 := heap_set (heap_set (heap_set (heap_set (heap_set (heap_set (heap_set h8 0 (.bool false)) 1 (.bool false)) 2 (.bool true)) 3 (.bool true)) 4 (.slice none 0 0)) 5 (.int .i64 m.err)) 6 (.slice a2 L.length c2)
             simp only [List.setIfInBounds_toArray, List.set_cons_zero, List.set_cons_succ] at h9
             have hc5 : Chg (fun j => j = w.heap.size + 1) w5 (((((((w5.setCell ⟨w.heap.size + 1, 0, none⟩ (.bool false)).setCell ⟨w.heap.size + 1, 1, none⟩ (.bool false)).setCell ⟨w.heap.size + 1, 2, none⟩ (.bool true)).setCell ⟨w.heap.size + 1, 3, none⟩ (.bool true)).setCell ⟨w.heap.size + 1, 4, none⟩ (.slice none 0 0)).setCell ⟨w.heap.size + 1, 5, none⟩ (.int .i64 m.err)).setCell ⟨w.heap.size + 1, 6, none⟩ (.slice a2 L.length c2)) := by
               iterate 7 refine Chg.set1 ?_ _ _ rfl
               exact Chg.refl _ _
             refine ⟨⟨heap_chg hc5 h7 (by omega), chg_new hcc hc5, h9⟩, ownsRow_chg ho fun j hj hl => hc5.block j hl fun e1 => ?_⟩
             subst e1
             exact own_ne ho h8 (by decide) hj
           · rintro w4 ⟨⟨ht4, hc4, hr4⟩, ho4⟩
             have b4 := blk7 hr4
             refine bodyPost_ret (v := actV false false true true none 0 0 m.err a2 L.length c2) (by clear ht4 hc4 hr4 ho4; simp [results, Tryz.results63, go_sem, b4, actV]) rfl ?_
             first | exact ⟨a2, c2, rfl, ho4, ht4, hc4⟩ | exact ⟨a2, c2, rfl, ho4, by rw [← HV.out]; exact ht4, hc4⟩)
end Go.Proofs.YtbjibkjenleloaaGreatDoor

end
