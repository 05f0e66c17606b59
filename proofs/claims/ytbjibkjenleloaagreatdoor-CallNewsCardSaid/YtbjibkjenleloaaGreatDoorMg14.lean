/- Parts of a proof about the given program, in build order: TidD, TidE, TidF. No condition. -/
import Derived.Test.YtbjibkjenleloaaGreatDoorMg13
section
namespace Go.Proofs.YtbjibkjenleloaaGreatDoor
set_option linter.unusedVariables false
set_option linter.unusedSimpArgs false
open Go.RowKit
attribute [local go_sem ↓] Go.wp_at_zero Go.wp_at_succ
attribute [local go_sem] run_store_complex run_store_float

set_option maxRecDepth 100000 in
set_option maxHeartbeats 400000 in
theorem clone_ents (v : Value) (L : List En) (w : World) (hv : Rd w v L.length (ecs L)) (hl : L.length * 72 ≤ 140737488355328) :
    Calls Tryz.prog 87 #[v] w fun e w' => ∃ a c, e = .returned (.slice a L.length c) ∧ w'.ownsRow w.heap.size 55 7 (.slice a L.length c) L.length (ecs L) ∧ Below w.heap.size w w' := by
  obtain ⟨i0, hi, hz0, hz1, hz2⟩ := info_parts infoEn
  rcases id hv with ⟨rfl, hn, _⟩ | ⟨ad, cap, rfl, h1, h2, h3⟩
  · have hnil := fun (w : World) => Lib.run_eql_slice_nil (P := Tryz.prog) w 47 55 none 0 0 0 0 Tryz.underlying47
    have hL := List.eq_nil_of_length_eq_zero hn
    subst hL
    clear hv hl hn
    go_enter Tryz.func87, Tryz.ntmps87
    go_wp2
    go_ret
    exact ⟨none, 0, rfl, World.ownsRow_nil _ _ _ _, Below.refl _ _⟩
  · obtain ⟨n, hn⟩ : ∃ n, n = L.length := ⟨_, rfl⟩
    rw [← hn] at hv hl h1 ⊢
    have hnil := fun (w : World) => Lib.run_eql_slice_nil (P := Tryz.prog) w 47 55 (some ad) n cap 0 0 Tryz.underlying47
    have HV := hid hv
    have HN := hid (show (ecs L).length = n * 7 by rw [ecs_len, hn])
    have HB := hid (ecs_one L)
    have HI := hid hi
    have hem : (w.alloc (.cells #[] 55)).ownsRow w.heap.size 55 7 (.slice (some ⟨w.heap.size, 0, none⟩) 0 0) 0 [] := ownsRow_of_whole (heap_new w _) rfl (Nat.le_refl _) (by unfold maxLen; omega)
    have HE := hid hem
    clear hv hi h3 hn hem
    go_enter Tryz.func87, Tryz.ntmps87
    go_wp2_with (at_builtin; go_loud (refine wpList_append_rd rfl _ _ 47 rfl w.heap.size 55 i0 _ 7 72 Tryz.underlying47 HI.out hz0 hz1 hz2 rfl (by decide) (.slice (some ⟨w.heap.size, 0, none⟩) 0 0) 0 [] rfl HE.out _ n (ecs L) rfl (HV.out.alloc _) HN.out HB.out (by unfold maxLen; omega) (by omega) (by simp) ?_; intro a' c' w1 hown hgrow hat))
    go_ret
    simp only [Nat.zero_add, List.nil_append] at hown
    exact ⟨_, _, rfl, hown, (bl1 w _).grown hgrow (by simp) (by simp [Value.ownBlock])⟩


theorem wp_scope_none {P : Program} {a : Act} {w : World} {Q : Exit → Act → World → Prop} {c : Code} (h : c.wp P (jumpM (fun _ _ _ => False) Q) a w) : (Code.scope c).wp P Q a w :=
  wp_scope_multi (fun _ _ _ => False) (fun _ _ _ => 0) (fun _ => .skip) (fun _ _ _ h => h.elim) h fun _ _ _ h => h.elim
set_option maxHeartbeats 1000000 in
theorem find_nil (w : World) (t b1 b2 : Nat) (s : Td) (fv : Value) (x : Int) (h : TidAt w t s) (h1 : w.heap[b1]? = some (.cells #[.pointer (some ⟨t, 0, none⟩)] 83 (0, 0))) (h2 : w.heap[b2]? = some (.cells #[.int .i64 x] 3 (0, 0))) :
    Calls Tryz.prog 94 #[fv, .pointer (some ⟨b1, 0, none⟩), .pointer (some ⟨b2, 0, none⟩)] w fun e w' => e = .returned (.bool false) ∧ w' = w.setCell ⟨b2, 0, none⟩ (.int .i64 (-1)) := by
  have b0 := blk8 h
  have c1 := blk1 h1
  have c2 := blk1 h2
  clear h h1 h2
  go_enter Tryz.func94, Tryz.ntmps94
  go_wp2_with fail
  refine (index_msgs_nil _ _).mono ?_; rintro e w1 ⟨rfl, rfl⟩
  go_wp2
  go_ret
  exact ⟨rfl, rfl⟩
set_option maxHeartbeats 2000000 in
theorem settle_nil (w : World) (t : Nat) (s : Td) (h : TidAt w t s) :
    Calls Tryz.prog 65 #[.pointer (some ⟨t, 0, none⟩)] w fun e w' => e = .returned (.slice none 0 0) ∧ TidAt w' t s ∧ Chg (fun j => j = t) w w' := by
  have HT := hid h
  have ht := h.lt
  clear h
  go_enter Tryz.func65, Tryz.ntmps65
  go_wp2_with fail
  refine wp_scope_none ?_
  go_wp2_with fail
  refine gen_w (P := fun w' => Code.wp _ _ _ _ w') (S := fun w1 => TidAt w1 t s ∧ Chg (fun j => j = t) w w1 ∧ w1.heap[w.heap.size]? = some (.cells #[.pointer (some ⟨t, 0, none⟩)] 83 (0, 0)) ∧ w1.heap[w.heap.size + 1]? = some (.cells #[.int .i64 0] 3 (0, 0))) _ ⟨?_, ?_, ?_, ?_⟩ ?_
  · exact heap_old (heap_old (heap_old HT.out _) _) _
  · exact Chg.alloc (Chg.alloc (Chg.alloc (Chg.refl _ w) _) _) _
  · exact heap_old (heap_old (heap_new w _) _) _
  · have h9 := heap_new (w.alloc (.cells #[.pointer (some ⟨t, 0, none⟩)] 83)) (.cells #[.int .i64 0] 3)
    rw [World.size_alloc] at h9
    exact heap_old h9 _
  rintro w1 ⟨ht1, hc1, hb1, hb2⟩
  have HT1 := hid ht1
  have HC1 := hid hc1
  have HB1 := hid hb1
  have HB2 := hid hb2
  have z1 : t ≠ w.heap.size + 1 := by omega
  have z3 : w.heap.size ≠ w.heap.size + 1 := by omega
  clear ht1 hc1 hb1 hb2
  go_step3
  simp only [Exit.then]
  go_wp2_with fail
  refine (find_nil w1 t w.heap.size (w.heap.size + 1) s _ 0 HT1.out HB1.out HB2.out).mono ?_; rintro e w2 ⟨rfl, rfl⟩
  have c2 := blk1 HB2.out
  have HT2 := hid (show TidAt (w1.setCell ⟨w.heap.size + 1, 0, none⟩ (.int .i64 (-1))) t s from heap_set_ne HT1.out 0 (.int .i64 (-1)) (fun e1 => z1 e1))
  have HB3 := hid (heap_set_ne HB1.out 0 (.int .i64 (-1)) (fun e1 => z3 e1))
  have HB4 := hid (heap_set HB2.out 0 (.int .i64 (-1)))
  go_wp2_with fail
  refine (find_nil _ t w.heap.size (w.heap.size + 1) s _ (-1) HT2.out HB3.out HB4.out).mono ?_; rintro e w2 ⟨rfl, rfl⟩
  have b0 := blk8 HT1.out
  have b1 := blk1 HB1.out
  have HF := hid (show TidAt (((w1.setCell ⟨w.heap.size + 1, 0, none⟩ (.int .i64 (-1))).setCell ⟨w.heap.size + 1, 0, none⟩ (.int .i64 (-1))).setCell ⟨t, 6, none⟩ (.slice none 0 0)).drew t s by
    have h9 := heap_set (heap_set_ne HT2.out 0 (.int .i64 (-1)) (fun e1 => z1 e1)) 6 (.slice none 0 0)
    simp only [List.setIfInBounds_toArray, List.set_cons_zero, List.set_cons_succ] at h9
    exact h9)
  have HG := hid (show Chg (fun j => j = t) w (((w1.setCell ⟨w.heap.size + 1, 0, none⟩ (.int .i64 (-1))).setCell ⟨w.heap.size + 1, 0, none⟩ (.int .i64 (-1))).setCell ⟨t, 6, none⟩ (.slice none 0 0)).drew from
    Chg.drew (Chg.set1 ((HC1.out.setCell _ _ (.inr (by simp))).setCell _ _ (.inr (by simp))) _ _ rfl))
  clear HT2 HB3 HB4 HB2 HT1 HC1 HB1
  go_wp2_with fail
  go_region_law (first | (go_simp; go_at_call 73; refine (del_msgs_nil _ _).mono ?_; rintro e w2 ⟨rfl, rfl⟩))
  all_goals
    go_wp2
    (try simp only [Exit.inBlock, Exit.then, jumpM])
    go_ret
    exact ⟨rfl, HF.out, HG.out⟩
end Go.Proofs.YtbjibkjenleloaaGreatDoor

end

section
namespace Go.Proofs.YtbjibkjenleloaaGreatDoor
set_option linter.unusedVariables false
set_option linter.unusedSimpArgs false
open Go.RowKit
attribute [local go_sem ↓] Go.wp_at_zero Go.wp_at_succ
attribute [local go_sem] run_store_complex run_store_float


theorem set_size (w : World) (a : Addr) (v : Value) : (w.setCell a v).heap.size = w.heap.size := by simp
/-- blocks that are new may turn -/
theorem chg_new {F G : Nat → Prop} {w w1 w2 : World} (h : Chg F w w1) (hc : Chg G w1 w2) (hG : ∀ j, G j → F j ∨ w.heap.size ≤ j := by intro j hj; subst hj; right; omega) : Chg F w w2 :=
  ⟨by rw [hc.os, h.os], by rw [hc.tape, h.tape], by rw [hc.output, h.output], Nat.le_trans h.size hc.size, fun k hk hF => by
    rw [hc.block k (by have := h.size; omega) (fun hg => by rcases hG k hg with h1 | h1; exact hF h1; omega), h.block k hk hF]⟩
/-- what a message makes a client do, as a value -/
def actV (all again reply whole : Bool) (ka : Option Addr) (kl kc : Nat) (err : Int) (ea : Option Addr) (el ec : Nat) : Value := .agg #[.bool all, .bool again, .bool reply, .bool whole, .slice ka kl kc, .int .i64 err, .slice ea el ec]
set_option maxRecDepth 100000 in
set_option maxHeartbeats 2000000 in
theorem tide_use_again (w : World) (t : Nat) (s : Td) (m : Ms) (h : TidAt w t s) (he : m.err = 70) :
    Calls Tryz.prog 63 #[.pointer (some ⟨t, 0, none⟩), m.v] w fun e w' => e = .returned (actV false true false false none 0 0 0 none 0 0) ∧ TidAt w' t { s with ver := max s.ver m.ver } ∧ Chg (fun j => j = t) w w' := by
  have HT := hid h
  have ht := h.lt
  have b0 := blk8 h
  obtain ⟨v1, hv1⟩ : ∃ v1, v1 = max s.ver m.ver := ⟨_, rfl⟩
  have hmx : max s.ver m.ver = v1 := hv1.symm
  have HV := hid hv1
  have HM := hid (heap_old (heap_new w (.cells m.cs 50)) (.cells #[.bool false, .bool false, .bool false, .bool false, .slice none 0 0, .int .i64 0, .slice none 0 0] 94))
  have hR := heap_new (w.alloc (.cells m.cs 50)) (.cells #[.bool false, .bool false, .bool false, .bool false, .slice none 0 0, .int .i64 0, .slice none 0 0] 94)
  rw [World.size_alloc] at hR
  have HR := hid hR
  clear h hR hv1
  have HE := hid he
  clear he
  unfold Ms.v
  unfold Ms.cs at HM HR ⊢
  rw [HE.out] at HM HR ⊢
  have bm := (blk16 HM.out).1
  go_enter Tryz.func63, Tryz.ntmps63
  go_wp2
  go_region
  refine gen_w (P := fun w' => Exit.then _ _ _ _ w') (S := fun w1 => TidAt w1 t { s with ver := v1 } ∧ Chg (fun j => j = t) w w1 ∧ w1.heap[w.heap.size]? = some (.cells #[.int .i64 m.kind, .int .i64 m.client, .int .i64 m.life, .int .i64 m.seq, .complex .f64 (fl m.me) (fl m.mn), .int .i64 m.ver, .int .i64 70, .int .i64 m.op.kind, .int .i64 m.op.dir, .string m.op.name, .int .i64 m.op.to_, .string m.op.new_, .int .i64 m.op.mode, .string m.op.target, .slice m.ea m.el m.ec, .slice m.ka m.kl m.kc] 50 (0, 0)) ∧ w1.heap[w.heap.size + 1]? = some (.cells #[.bool false, .bool false, .bool false, .bool false, .slice none 0 0, .int .i64 0, .slice none 0 0] 94 (0, 0))) _ ⟨?_, ?_, ?_, ?_⟩ ?_
  · have h9 := heap_set HT.out 4 (.int .i64 v1)
    simp only [List.setIfInBounds_toArray, List.set_cons_zero, List.set_cons_succ] at h9
    exact heap_old (heap_old h9 _) _
  · exact Chg.drew (Chg.alloc (Chg.alloc (Chg.set1 (Chg.refl (fun j => j = t) w) ⟨t, 4, none⟩ _ rfl) _) _)
  · have h9 := heap_new (w.setCell ⟨t, 4, none⟩ (.int .i64 v1)) (.cells #[.int .i64 m.kind, .int .i64 m.client, .int .i64 m.life, .int .i64 m.seq, .complex .f64 (fl m.me) (fl m.mn), .int .i64 m.ver, .int .i64 70, .int .i64 m.op.kind, .int .i64 m.op.dir, .string m.op.name, .int .i64 m.op.to_, .string m.op.new_, .int .i64 m.op.mode, .string m.op.target, .slice m.ea m.el m.ec, .slice m.ka m.kl m.kc] 50)
    rw [set_size] at h9
    exact heap_old h9 _
  · have h9 := heap_new ((w.setCell ⟨t, 4, none⟩ (.int .i64 v1)).alloc (.cells #[.int .i64 m.kind, .int .i64 m.client, .int .i64 m.life, .int .i64 m.seq, .complex .f64 (fl m.me) (fl m.mn), .int .i64 m.ver, .int .i64 70, .int .i64 m.op.kind, .int .i64 m.op.dir, .string m.op.name, .int .i64 m.op.to_, .string m.op.new_, .int .i64 m.op.mode, .string m.op.target, .slice m.ea m.el m.ec, .slice m.ka m.kl m.kc] 50)) (.cells #[.bool false, .bool false, .bool false, .bool false, .slice none 0 0, .int .i64 0, .slice none 0 0] 94)
    rw [World.size_alloc, set_size] at h9
    exact h9
  rintro w1 ⟨ht1, hc1, hm1, hr1⟩
  have HT1 := hid ht1
  have HC1 := hid hc1
  have HR1 := hid hr1
  have HM1 := hid hm1
  have b1 := blk8 ht1
  have bm1 := (blk16 hm1).1
  have br1 := blk7 hr1
  clear b0 bm ht1 hc1 hm1 hr1 HM HR HT
  go_wp2
  (try simp only [Exit.inBlock, Exit.then])
  refine gen_w (P := fun w' => bodyPost _ _ _ _ _ w') (S := fun w2 => Chg (fun j => j = w.heap.size + 1) w1 w2 ∧ w2.heap[w.heap.size + 1]? = some (.cells #[.bool false, .bool true, .bool false, .bool false, .slice none 0 0, .int .i64 0, .slice none 0 0] 94 (0, 0))) _ ⟨?_, ?_⟩ ?_
  · iterate 7 refine Chg.set1 ?_ _ _ rfl
    exact Chg.refl _ _
  · have h9 := heap_set (heap_set (heap_set (heap_set (heap_set (heap_set (heap_set HR1.out 0 (.bool false)) 1 (.bool true)) 2 (.bool false)) 3 (.bool false)) 4 (.slice none 0 0)) 5 (.int .i64 0)) 6 (.slice none 0 0)
    simp only [List.setIfInBounds_toArray, List.set_cons_zero, List.set_cons_succ] at h9
    exact h9
  rintro w2 ⟨hc2, hr2⟩
  have HC2 := hid hc2
  have br := blk7 hr2
  clear hc2 hr2 bm1 b1
  refine bodyPost_ret (v := actV false true false false none 0 0 0 none 0 0) (by simp [results, Tryz.results63, go_sem, br, actV]) rfl ⟨rfl, ?_, ?_⟩
  · exact HT1.out.chg HC2.out (by omega)
  · exact chg_new HC1.out HC2.out
set_option maxRecDepth 100000 in
set_option maxHeartbeats 2000000 in
theorem tide_use (w : World) (t : Nat) (s : Td) (m : Ms) (L : List En) (h : TidAt w t s) (he : m.err ≠ 70) (hL : m.el = L.length) (hE : Rd w (.slice m.ea m.el m.ec) L.length (ecs L)) (hl : L.length * 72 ≤ 140737488355328) (hne : m.ea.map (·.block) ≠ some t) :
    Calls Tryz.prog 63 #[.pointer (some ⟨t, 0, none⟩), m.v] w fun e w' => ∃ a c, e = .returned (actV false false true true none 0 0 m.err a L.length c) ∧ w'.ownsRow w.heap.size 55 7 (.slice a L.length c) L.length (ecs L) ∧ TidAt w' t { s with ver := max s.ver m.ver, asked := 0 } ∧ Chg (fun j => j = t) w w' := by
  have HT := hid h
  have ht := h.lt
  have b0 := blk8 h
  obtain ⟨v1, hv1⟩ : ∃ v1, v1 = max s.ver m.ver := ⟨_, rfl⟩
  have hmx : max s.ver m.ver = v1 := hv1.symm
  have HV := hid hv1
  have HM := hid (heap_old (heap_new w (.cells m.cs 50)) (.cells #[.bool false, .bool false, .bool false, .bool false, .slice none 0 0, .int .i64 0, .slice none 0 0] 94))
  have hR := heap_new (w.alloc (.cells m.cs 50)) (.cells #[.bool false, .bool false, .bool false, .bool false, .slice none 0 0, .int .i64 0, .slice none 0 0] 94)
  rw [World.size_alloc] at hR
  have HR := hid hR
  clear h hR hv1
  have HE := hid he
  have HL := hid (And.intro hL (And.intro hE (And.intro hl hne)))
  have e1 : (m.err == 70) = false := by simp [he]
  clear he hL hE hl hne
  unfold Ms.v
  unfold Ms.cs at HM HR ⊢
  have bm := (blk16 HM.out).1
  go_enter Tryz.func63, Tryz.ntmps63
  go_wp2
  go_region
  refine gen_w (P := fun w' => Exit.then _ _ _ _ w') (S := fun w1 => TidAt w1 t { s with ver := v1 } ∧ Chg (fun j => j = t) w w1 ∧ w1.heap[w.heap.size]? = some (.cells #[.int .i64 m.kind, .int .i64 m.client, .int .i64 m.life, .int .i64 m.seq, .complex .f64 (fl m.me) (fl m.mn), .int .i64 m.ver, .int .i64 m.err, .int .i64 m.op.kind, .int .i64 m.op.dir, .string m.op.name, .int .i64 m.op.to_, .string m.op.new_, .int .i64 m.op.mode, .string m.op.target, .slice m.ea m.el m.ec, .slice m.ka m.kl m.kc] 50 (0, 0)) ∧ w1.heap[w.heap.size + 1]? = some (.cells #[.bool false, .bool false, .bool false, .bool false, .slice none 0 0, .int .i64 0, .slice none 0 0] 94 (0, 0))) _ ⟨?_, ?_, ?_, ?_⟩ ?_
  · have h9 := heap_set HT.out 4 (.int .i64 v1)
    simp only [List.setIfInBounds_toArray, List.set_cons_zero, List.set_cons_succ] at h9
    exact heap_old (heap_old h9 _) _
  · exact Chg.drew (Chg.alloc (Chg.alloc (Chg.set1 (Chg.refl (fun j => j = t) w) ⟨t, 4, none⟩ _ rfl) _) _)
  · have h9 := heap_new (w.setCell ⟨t, 4, none⟩ (.int .i64 v1)) (.cells #[.int .i64 m.kind, .int .i64 m.client, .int .i64 m.life, .int .i64 m.seq, .complex .f64 (fl m.me) (fl m.mn), .int .i64 m.ver, .int .i64 m.err, .int .i64 m.op.kind, .int .i64 m.op.dir, .string m.op.name, .int .i64 m.op.to_, .string m.op.new_, .int .i64 m.op.mode, .string m.op.target, .slice m.ea m.el m.ec, .slice m.ka m.kl m.kc] 50)
    rw [set_size] at h9
    exact heap_old h9 _
  · have h9 := heap_new ((w.setCell ⟨t, 4, none⟩ (.int .i64 v1)).alloc (.cells #[.int .i64 m.kind, .int .i64 m.client, .int .i64 m.life, .int .i64 m.seq, .complex .f64 (fl m.me) (fl m.mn), .int .i64 m.ver, .int .i64 m.err, .int .i64 m.op.kind, .int .i64 m.op.dir, .string m.op.name, .int .i64 m.op.to_, .string m.op.new_, .int .i64 m.op.mode, .string m.op.target, .slice m.ea m.el m.ec, .slice m.ka m.kl m.kc] 50)) (.cells #[.bool false, .bool false, .bool false, .bool false, .slice none 0 0, .int .i64 0, .slice none 0 0] 94)
    rw [World.size_alloc, set_size] at h9
    exact h9
  rintro w1 ⟨ht1, hc1, hm1, hr1⟩
  have HT1 := hid ht1
  have HC1 := hid hc1
  have HR1 := hid hr1
  have HM1 := hid hm1
  have b1 := blk8 ht1
  have bm1 := (blk16 hm1).1
  have br1 := blk7 hr1
  clear b0 bm ht1 hc1 hm1 hr1 HM HR HT
  go_wp2
  have HRD := hid (show Rd w1 (.slice m.ea m.el m.ec) L.length (ecs L) from HL.out.2.1.chg fun k hk hlt => HC1.out.block k hlt (fun e2 => HL.out.2.2.2 (by rw [← ownBlock_slice (n := m.el) (c := m.ec), hk, e2])))
  have hq1 : w.heap.size < w1.heap.size := blk_lt HM1.out
  go_region_law (first
    | (go_simp; go_at_call 87; refine (clone_ents _ L _ HRD.out.drew HL.out.2.2.1).mono ?_; rintro e2 w2 ⟨a2, c2, rfl, ho2, hb2⟩; (have HO2 := hid ho2); (have HB2 := hid hb2); (have hm2 := heap_below hb2 HM1.out (blk_lt HM1.out)); (have HM2 := hid hm2); (have bm2 := (blk16 hm2).1); (have hq2 : w.heap.size < w2.heap.size := blk_lt hm2); clear ho2 hb2 hm2)
    | (go_simp; go_at_call 87; refine (clone_ents _ L _ (HRD.out.alloc _).drew HL.out.2.2.1).mono ?_; rintro e2 w2 ⟨a2, c2, rfl, ho2, hb2⟩; (have HO2 := hid ho2); (have HB2 := hid hb2); (have hm2 := heap_below hb2 (heap_old HM1.out (.cells #[.bool false, .bool false, .bool false, .bool false, .slice none 0 0, .int .i64 0, .slice none 0 0] 94)) (blk_lt (heap_old HM1.out (.cells #[.bool false, .bool false, .bool false, .bool false, .slice none 0 0, .int .i64 0, .slice none 0 0] 94)))); (have HM2 := hid hm2); (have bm2 := (blk16 hm2).1); (have hq2 : w.heap.size < w2.heap.size := blk_lt hm2); (have hn2 := heap_below hb2 (show (w1.alloc (.cells #[.bool false, .bool false, .bool false, .bool false, .slice none 0 0, .int .i64 0, .slice none 0 0] 94)).drew.heap[w1.heap.size]? = _ from heap_new w1 (.cells #[.bool false, .bool false, .bool false, .bool false, .slice none 0 0, .int .i64 0, .slice none 0 0] 94)) (by show w1.heap.size < (w1.alloc (.cells #[.bool false, .bool false, .bool false, .bool false, .slice none 0 0, .int .i64 0, .slice none 0 0] 94)).heap.size; simp)); (have HN2 := hid hn2); (have ha2 := blk7 hn2); clear ho2 hb2 hm2 hn2))
  all_goals
    first
    | (fail_if_success (have hxx := ha2)
       refine gen_w (P := fun w' => Exit.then _ _ _ _ w') (S := fun w3 => (TidAt w3 t { s with ver := v1 } ∧ Chg (fun j => j = t) w w3 ∧ w3.heap[w2.heap.size]? = some (.cells #[.bool false, .bool false, .bool true, .bool true, .slice none 0 0, .int .i64 m.err, .slice a2 L.length c2] 94 (0, 0)) ∧ w3.heap[w.heap.size + 1]? = some (.cells #[.bool false, .bool false, .bool false, .bool false, .slice none 0 0, .int .i64 0, .slice none 0 0] 94 (0, 0))) ∧ w3.ownsRow w.heap.size 55 7 (.slice a2 L.length c2) L.length (ecs L)) _ ?_ ?_
       · have hx : Chg (fun j => j = t) w w2 := chg_new HC1.out.drew (Chg.below HB2.out) (by intro j hj; exact hj.elim)
         have hy := heap_below HB2.out HR1.out (blk_lt HR1.out)
         exact ⟨⟨heap_old (heap_below HB2.out HT1.out (blk_lt HT1.out)) _, Chg.alloc hx _, heap_new w2 _, heap_old hy _⟩, own_alloc (ownsRow_mono HO2.out (by show w.heap.size ≤ w1.heap.size; omega)) _⟩
       · rintro w3 ⟨⟨ht3, hc3, hq3, hr3⟩, ho3⟩
         have HT3 := hid ht3
         have HC3 := hid hc3
         have HR3 := hid hr3
         have HO3 := hid ho3
         have b3 := blk8 ht3
         have bq := blk7 hq3
         have br := blk7 hr3
         clear b1 bm1 br1 bm2 ht3 hc3 hq3 hr3 ho3
         go_wp2_with fail
         go_loopw [33] (fun v wr => v = .int .i64 0 ∧ wr = w3) (fun _ _ => 0)
         case atStart => exact ⟨rfl, rfl⟩
         case round =>
           obtain ⟨rfl, rfl⟩ := hrel
           go_wp2
           (try simp only [Exit.inBlock, Exit.then])
           refine gen_w (P := fun w' => bodyPost _ _ _ _ _ w') (S := fun w4 => (TidAt w4 t { s with ver := v1, asked := 0 } ∧ Chg (fun j => j = t) w w4 ∧ w4.heap[w.heap.size + 1]? = some (.cells #[.bool false, .bool false, .bool true, .bool true, .slice none 0 0, .int .i64 m.err, .slice a2 L.length c2] 94 (0, 0))) ∧ w4.ownsRow w.heap.size 55 7 (.slice a2 L.length c2) L.length (ecs L)) _ ?_ ?_
           · have h7 := heap_set (heap_set HT3.out 5 (.int .i64 0)) 7 (.slice none 0 0)
             simp only [List.setIfInBounds_toArray, List.set_cons_zero, List.set_cons_succ] at h7
             have h8 : ((wr.setCell ⟨t, 5, none⟩ (.int .i64 0)).setCell ⟨t, 7, none⟩ (.slice none 0 0)).heap[w.heap.size + 1]? = _ := heap_set_ne (heap_set_ne HR3.out 5 _ (by omega)) 7 _ (by omega)
             have hcc : Chg (fun j => j = t) w ((wr.setCell ⟨t, 5, none⟩ (.int .i64 0)).setCell ⟨t, 7, none⟩ (.slice none 0 0)) := Chg.set1 (Chg.set1 HC3.out _ _ rfl) _ _ rfl
             have ho : ((wr.setCell ⟨t, 5, none⟩ (.int .i64 0)).setCell ⟨t, 7, none⟩ (.slice none 0 0)).ownsRow w.heap.size 55 7 (.slice a2 L.length c2) L.length (ecs L) := own_set (own_set HO3.out (own_ne HO3.out HT3.out (by decide)) 5 _) (own_ne HO3.out HT3.out (by decide)) 7 _
             generalize (wr.setCell ⟨t, 5, none⟩ (.int .i64 0)).setCell ⟨t, 7, none⟩ (.slice none 0 0) = w5 at h7 h8 hcc ho ⊢
             have h9 := heap_set (heap_set (heap_set (heap_set (heap_set (heap_set (heap_set h8 0 (.bool false)) 1 (.bool false)) 2 (.bool true)) 3 (.bool true)) 4 (.slice none 0 0)) 5 (.int .i64 m.err)) 6 (.slice a2 L.length c2)
             simp only [List.setIfInBounds_toArray, List.set_cons_zero, List.set_cons_succ] at h9
             have hc5 : Chg (fun j => j = w.heap.size + 1) w5 (((((((w5.setCell ⟨w.heap.size + 1, 0, none⟩ (.bool false)).setCell ⟨w.heap.size + 1, 1, none⟩ (.bool false)).setCell ⟨w.heap.size + 1, 2, none⟩ (.bool true)).setCell ⟨w.heap.size + 1, 3, none⟩ (.bool true)).setCell ⟨w.heap.size + 1, 4, none⟩ (.slice none 0 0)).setCell ⟨w.heap.size + 1, 5, none⟩ (.int .i64 m.err)).setCell ⟨w.heap.size + 1, 6, none⟩ (.slice a2 L.length c2)) := by
               iterate 7 refine Chg.set1 ?_ _ _ rfl
               exact Chg.refl _ _
             refine ⟨⟨heap_chg hc5 h7 (by omega), chg_new hcc hc5, h9⟩, ownsRow_chg ho fun j hj hl => hc5.block j hl fun e1 => ?_⟩
             subst e1
             exact own_ne ho h8 (by decide) hj
           · rintro w4 ⟨⟨ht4, hc4, hr4⟩, ho4⟩
             have b4 := blk7 hr4
             refine bodyPost_ret (v := actV false false true true none 0 0 m.err a2 L.length c2) (by clear ht4 hc4 hr4 ho4; simp [results, Tryz.results63, go_sem, b4, actV]) rfl ?_
             first | exact ⟨a2, c2, rfl, ho4, ht4, hc4⟩ | exact ⟨a2, c2, rfl, ho4, by rw [← HV.out]; exact ht4, hc4⟩)
    | (
       refine gen_w (P := fun w' => Exit.then _ _ _ _ w') (S := fun w3 => (TidAt w3 t { s with ver := v1 } ∧ Chg (fun j => j = t) w w3 ∧ w3.heap[w1.heap.size]? = some (.cells #[.bool false, .bool false, .bool true, .bool true, .slice none 0 0, .int .i64 m.err, .slice a2 L.length c2] 94 (0, 0)) ∧ w3.heap[w.heap.size + 1]? = some (.cells #[.bool false, .bool false, .bool false, .bool false, .slice none 0 0, .int .i64 0, .slice none 0 0] 94 (0, 0))) ∧ w3.ownsRow w.heap.size 55 7 (.slice a2 L.length c2) L.length (ecs L)) _ ?_ ?_
       · have hx : Chg (fun j => j = t) w w2 := chg_new (Chg.drew (Chg.alloc HC1.out (.cells #[.bool false, .bool false, .bool false, .bool false, .slice none 0 0, .int .i64 0, .slice none 0 0] 94))) (Chg.below HB2.out) (by intro j hj; exact hj.elim)
         have ht2 := heap_below HB2.out (heap_old HT1.out (.cells #[.bool false, .bool false, .bool false, .bool false, .slice none 0 0, .int .i64 0, .slice none 0 0] 94)) (blk_lt (heap_old HT1.out (.cells #[.bool false, .bool false, .bool false, .bool false, .slice none 0 0, .int .i64 0, .slice none 0 0] 94)))
         have hr2 := heap_below HB2.out (heap_old HR1.out (.cells #[.bool false, .bool false, .bool false, .bool false, .slice none 0 0, .int .i64 0, .slice none 0 0] 94)) (blk_lt (heap_old HR1.out (.cells #[.bool false, .bool false, .bool false, .bool false, .slice none 0 0, .int .i64 0, .slice none 0 0] 94)))
         have h9 := heap_set (heap_set (heap_set (heap_set (heap_set (heap_set (heap_set HN2.out 0 (.bool false)) 1 (.bool false)) 2 (.bool true)) 3 (.bool true)) 4 (.slice none 0 0)) 5 (.int .i64 m.err)) 6 (.slice a2 L.length c2)
         simp only [List.setIfInBounds_toArray, List.set_cons_zero, List.set_cons_succ] at h9
         have hc5 : Chg (fun j => j = w1.heap.size) w2 (((((((w2.setCell ⟨w1.heap.size, 0, none⟩ (.bool false)).setCell ⟨w1.heap.size, 1, none⟩ (.bool false)).setCell ⟨w1.heap.size, 2, none⟩ (.bool true)).setCell ⟨w1.heap.size, 3, none⟩ (.bool true)).setCell ⟨w1.heap.size, 4, none⟩ (.slice none 0 0)).setCell ⟨w1.heap.size, 5, none⟩ (.int .i64 m.err)).setCell ⟨w1.heap.size, 6, none⟩ (.slice a2 L.length c2)) := by
           iterate 7 refine Chg.set1 ?_ _ _ rfl
           exact Chg.refl _ _
         refine ⟨⟨heap_chg hc5 ht2 (by omega), chg_new hx hc5, h9, heap_chg hc5 hr2 (by have := blk_lt HR1.out; omega)⟩, ownsRow_mono (ownsRow_chg HO2.out fun j hj hl => hc5.block j hl fun e1 => ?_) (by show w.heap.size ≤ (w1.alloc (.cells #[.bool false, .bool false, .bool false, .bool false, .slice none 0 0, .int .i64 0, .slice none 0 0] 94)).heap.size; simp; omega)⟩
         subst e1
         exact own_ne HO2.out HN2.out (by decide) hj
       · rintro w3 ⟨⟨ht3, hc3, hq3, hr3⟩, ho3⟩
         have HT3 := hid ht3
         have HC3 := hid hc3
         have HR3 := hid hr3
         have HO3 := hid ho3
         have b3 := blk8 ht3
         have bq := blk7 hq3
         have br := blk7 hr3
         clear b1 bm1 br1 bm2 ht3 hc3 hq3 hr3 ho3
         go_wp2_with fail
         go_loopw [33] (fun v wr => v = .int .i64 0 ∧ wr = w3) (fun _ _ => 0)
         case atStart => exact ⟨rfl, rfl⟩
         case round =>
           obtain ⟨rfl, rfl⟩ := hrel
           go_wp2
           (try simp only [Exit.inBlock, Exit.then])
           refine gen_w (P := fun w' => bodyPost _ _ _ _ _ w') (S := fun w4 => (TidAt w4 t { s with ver := v1, asked := 0 } ∧ Chg (fun j => j = t) w w4 ∧ w4.heap[w.heap.size + 1]? = some (.cells #[.bool false, .bool false, .bool true, .bool true, .slice none 0 0, .int .i64 m.err, .slice a2 L.length c2] 94 (0, 0))) ∧ w4.ownsRow w.heap.size 55 7 (.slice a2 L.length c2) L.length (ecs L)) _ ?_ ?_
           · have h7 := heap_set (heap_set HT3.out 5 (.int .i64 0)) 7 (.slice none 0 0)
             simp only [List.setIfInBounds_toArray, List.set_cons_zero, List.set_cons_succ] at h7
             have h8 : ((wr.setCell ⟨t, 5, none⟩ (.int .i64 0)).setCell ⟨t, 7, none⟩ (.slice none 0 0)).heap[w.heap.size + 1]? = _ := heap_set_ne (heap_set_ne HR3.out 5 _ (by omega)) 7 _ (by omega)
             have hcc : Chg (fun j => j = t) w ((wr.setCell ⟨t, 5, none⟩ (.int .i64 0)).setCell ⟨t, 7, none⟩ (.slice none 0 0)) := Chg.set1 (Chg.set1 HC3.out _ _ rfl) _ _ rfl
             have ho : ((wr.setCell ⟨t, 5, none⟩ (.int .i64 0)).setCell ⟨t, 7, none⟩ (.slice none 0 0)).ownsRow w.heap.size 55 7 (.slice a2 L.length c2) L.length (ecs L) := own_set (own_set HO3.out (own_ne HO3.out HT3.out (by decide)) 5 _) (own_ne HO3.out HT3.out (by decide)) 7 _
             generalize (wr.setCell ⟨t, 5, none⟩ (.int .i64 0)).setCell ⟨t, 7, none⟩ (.slice none 0 0) = w5 at h7 h8 hcc ho ⊢
             have h9 := heap_set (heap_set (heap_set (heap_set (heap_set (heap_set (heap_set h8 0 (.bool false)) 1 (.bool false)) 2 (.bool true)) 3 (.bool true)) 4 (.slice none 0 0)) 5 (.int .i64 m.err)) 6 (.slice a2 L.length c2)
             simp only [List.setIfInBounds_toArray, List.set_cons_zero, List.set_cons_succ] at h9
             have hc5 : Chg (fun j => j = w.heap.size + 1) w5 (((((((w5.setCell ⟨w.heap.size + 1, 0, none⟩ (.bool false)).setCell ⟨w.heap.size + 1, 1, none⟩ (.bool false)).setCell ⟨w.heap.size + 1, 2, none⟩ (.bool true)).setCell ⟨w.heap.size + 1, 3, none⟩ (.bool true)).setCell ⟨w.heap.size + 1, 4, none⟩ (.slice none 0 0)).setCell ⟨w.heap.size + 1, 5, none⟩ (.int .i64 m.err)).setCell ⟨w.heap.size + 1, 6, none⟩ (.slice a2 L.length c2)) := by
               iterate 7 refine Chg.set1 ?_ _ _ rfl
               exact Chg.refl _ _
             refine ⟨⟨heap_chg hc5 h7 (by omega), chg_new hcc hc5, h9⟩, ownsRow_chg ho fun j hj hl => hc5.block j hl fun e1 => ?_⟩
             subst e1
             exact own_ne ho h8 (by decide) hj
           · rintro w4 ⟨⟨ht4, hc4, hr4⟩, ho4⟩
             have b4 := blk7 hr4
             refine bodyPost_ret (v := actV false false true true none 0 0 m.err a2 L.length c2) (by clear ht4 hc4 hr4 ho4; simp [results, Tryz.results63, go_sem, b4, actV]) rfl ?_
             first | exact ⟨a2, c2, rfl, ho4, ht4, hc4⟩ | exact ⟨a2, c2, rfl, ho4, by rw [← HV.out]; exact ht4, hc4⟩)
end Go.Proofs.YtbjibkjenleloaaGreatDoor

end

section
namespace Go.Proofs.YtbjibkjenleloaaGreatDoor
set_option linter.unusedVariables false
set_option linter.unusedSimpArgs false
open Go.RowKit
attribute [local go_sem ↓] Go.wp_at_zero Go.wp_at_succ
attribute [local go_sem] run_store_complex run_store_float


theorem infoAct : (Tryz.prog.info? 94).map (fun i => (i.zero, i.size, i.bytes)) = some (some (.agg #[.bool false, .bool false, .bool false, .bool false, .slice none 0 0, .int .i64 0, .slice none 0 0]), 7, 64) := by kernel_rfl
theorem rd_none (w : World) : Rd w (.slice none 0 0) 0 [] := .inl ⟨rfl, rfl, rfl⟩
set_option maxRecDepth 100000 in
set_option maxHeartbeats 4000000 in
theorem tide_take (w : World) (t : Nat) (s s2 : Td) (m : Ms) (L : List En) (ag re wh : Bool) (er : Int) (h : TidAt w t s) (hk : m.kind = 2) (hc : m.client = s.cl) (hl : m.life = s.life) (h1 : InM m.me) (h3 : InM s.me) (h4 : InM s.mn) (hle : s.me < m.me) (hmn : m.mn = 0) (hsq : m.seq = s.asked) (h0 : 0 < s.asked)
    (hu : ∀ w1, TidAt w1 t { s with me := m.me, mn := 0 } → Chg (fun j => j = t) w w1 → Calls Tryz.prog 63 #[.pointer (some ⟨t, 0, none⟩), m.v] w1 fun e w' => ∃ a c, e = .returned (actV false ag re wh none 0 0 er a L.length c) ∧ w'.ownsRow w1.heap.size 55 7 (.slice a L.length c) L.length (ecs L) ∧ TidAt w' t s2 ∧ Chg (fun j => j = t) w1 w') :
    Calls Tryz.prog 32 #[.pointer (some ⟨t, 0, none⟩), m.v] w fun e w' => ∃ aa ca a c, e = .returned (.slice aa 2 ca) ∧ w'.ownsRow w.heap.size 94 7 (.slice aa 2 ca) 2 ([.bool true, .bool false, .bool false, .bool false, .slice none 0 0, .int .i64 0, .slice none 0 0] ++ [.bool false, .bool ag, .bool re, .bool wh, .slice none 0 0, .int .i64 er, .slice a L.length c]) ∧ w'.ownsRow w.heap.size 55 7 (.slice a L.length c) L.length (ecs L) ∧ TidAt w' t s2 ∧ Chg (fun j => j = t) w w' := by
  have hmx : InM 0 := by unfold InM; omega
  have HCT := hid (fun w1 (ht : TidAt w1 t s) => tide_counts w1 t s m ht (by omega) (by omega) hc hl h1 (by rw [hmn]; exact hmx) h3 h4 (by omega))
  have HAH := hid (fun w1 (ht : TidAt w1 t { s with me := m.me, mn := 0 }) => (tide_ahead w1 t _ m ht rfl (by rw [hmn]; exact hmx) h1 hmx (by rw [hmn]; exact Int.le_refl _)).mono (R' := fun e w' => e = .returned (.int .i64 0) ∧ Below w1.heap.size w1 w') (fun e w' h => ⟨by rw [h.1, hmn]; rfl, h.2⟩))
  have HWT := hid (fun w1 (ht : TidAt w1 t { s with me := m.me, mn := 0 }) => tide_wanted w1 t _ m ht hsq h0)
  have HU := hid hu
  have HI1 := hid h1; have HI3 := hid h3; have HI4 := hid h4; have HI0 := hid hmx
  have HM := hid (heap_new w (.cells m.cs 50))
  have HT0 := hid (h.below (bl1 w (.cells m.cs 50)))
  have ht := h.lt
  have HK := hid (And.intro hk hmn)
  have g1 : decide (m.me > s.me) = true := by simp; omega
  have g2 : decide (s.me < m.me) = true := by simp; omega
  obtain ⟨i0, hi, hz0, hz1, hz2⟩ := info_parts infoAct
  have HI := hid hi
  clear h hk hc hl h1 h3 h4 hle hmn hsq h0 hu hmx hi
  unfold Ms.v at HCT HAH HWT HU ⊢
  unfold Ms.cs at HM HT0 HCT HAH HWT HU ⊢
  rw [HK.out.1, HK.out.2] at HM HT0 HCT HAH HWT HU ⊢
  go_enter Tryz.func32, Tryz.ntmps32
  have bm0 := (blk16 HM.out).1
  go_wp2_with fail
  refine (HCT.out _ HT0.out).mono ?_; rintro e w1 ⟨rfl, hb1⟩
  have HT1 := hid (HT0.out.below hb1)
  have HM1 := hid (heap_below hb1 HM.out (blk_lt HM.out))
  have HC1 := hid (show Chg (fun j => j = t) w w1 from chg_new (Chg.alloc (Chg.refl _ w) _) (Chg.below hb1) (by intro j hj; exact hj.elim))
  have b1 := blk8 HT1.out
  have bm1 := (blk16 HM1.out).1
  clear hb1 HM HT0 HCT bm0
  go_wp2_with fail
  refine (epoch_any _ _ HI1.out HI0.out _).mono ?_; rintro e w2 ⟨rfl, rfl⟩
  go_wp2_with fail
  refine (epoch_any _ _ HI3.out HI4.out _).mono ?_; rintro e w2 ⟨rfl, rfl⟩
  go_wp2_with fail
  refine (mark_at_yes _ _ HI1.out HI0.out _).mono ?_; rintro e w2 ⟨rfl, rfl⟩
  have hW := heap_set (heap_set (heap_set HT1.out 3 (.complex .f64 (fl m.me) (fl 0))) 6 (.slice none 0 0)) 7 (.slice none 0 0)
  simp only [List.setIfInBounds_toArray, List.set_cons_zero, List.set_cons_succ] at hW
  have HTW := hid (show TidAt (((w1.setCell ⟨t, 3, none⟩ (.complex .f64 (fl m.me) (fl 0))).setCell ⟨t, 6, none⟩ (.slice none 0 0)).setCell ⟨t, 7, none⟩ (.slice none 0 0)) t { s with me := m.me, mn := 0 } from hW)
  have hlt : t < w1.heap.size := HT1.out.lt
  have HMW := hid (heap_set_ne (heap_set_ne (heap_set_ne HM1.out 3 (.complex .f64 (fl m.me) (fl 0)) (j := t) (by omega)) 6 (.slice none 0 0) (j := t) (by omega)) 7 (.slice none 0 0) (j := t) (by omega))
  have HCW := hid (show Chg (fun j => j = t) w (((w1.setCell ⟨t, 3, none⟩ (.complex .f64 (fl m.me) (fl 0))).setCell ⟨t, 6, none⟩ (.slice none 0 0)).setCell ⟨t, 7, none⟩ (.slice none 0 0)) from Chg.set1 (Chg.set1 (Chg.set1 HC1.out _ _ rfl) _ _ rfl) _ _ rfl)
  have hnew := heap_new (((w1.setCell ⟨t, 3, none⟩ (.complex .f64 (fl m.me) (fl 0))).setCell ⟨t, 6, none⟩ (.slice none 0 0)).setCell ⟨t, 7, none⟩ (.slice none 0 0)) (.cells #[.bool true, .bool false, .bool false, .bool false, .slice none 0 0, .int .i64 0, .slice none 0 0] 94)
  rw [set_size, set_size, set_size] at hnew
  have HN := hid hnew
  have HZ := hid (show w.heap.size ≤ ((((w1.setCell ⟨t, 3, none⟩ (.complex .f64 (fl m.me) (fl 0))).setCell ⟨t, 6, none⟩ (.slice none 0 0)).setCell ⟨t, 7, none⟩ (.slice none 0 0)).alloc (.cells #[.bool true, .bool false, .bool false, .bool false, .slice none 0 0, .int .i64 0, .slice none 0 0] 94)).heap.size by have := HC1.out.size; simp; omega)
  clear hnew hW
  go_wp2_with (at_builtin; refine wpList_append_rd rfl _ _ 91 rfl w.heap.size 94 i0 _ 7 64 Tryz.underlying91 HI.out hz0 hz1 hz2 rfl (by decide) (.slice none 0 0) 0 [] rfl (World.ownsRow_nil _ _ _ _) (.slice (some ⟨w1.heap.size, 0, none⟩) 1 1) 1 [.bool true, .bool false, .bool false, .bool false, .slice none 0 0, .int .i64 0, .slice none 0 0] rfl (rd_blk HN.out (by unfold maxLen; omega)) rfl (by intro u hu; simp at hu; rcases hu with rfl | rfl | rfl | rfl | rfl | rfl | rfl <;> rfl) (by unfold maxLen; omega) (by omega) HZ.out ?_; intro a2 c2 w2 hown2 hgrow2 hat2; (have ht2 := heap_grown hgrow2 (heap_old HTW.out _) (by simp [Value.ownBlock])); (have hm2 := heap_grown hgrow2 (heap_old HMW.out _) (by simp [Value.ownBlock])); (have HT2 := hid (show TidAt w2 t { s with me := m.me, mn := 0 } from ht2)); (have HM2 := hid hm2); (have b2 := blk8 ht2); (have bm2 := (blk16 hm2).1); (have HO2 := hid (show w2.ownsRow w.heap.size 94 7 (.slice a2 1 c2) 1 [.bool true, .bool false, .bool false, .bool false, .slice none 0 0, .int .i64 0, .slice none 0 0] from hown2)); (have HC2 := hid (show Chg (fun j => j = t) w w2 from (Chg.alloc HCW.out _).grown hgrow2 (fun j hj => by simp [Value.ownBlock] at hj))); clear hown2 hgrow2 hat2 ht2 hm2 b1 bm1)
  refine (HAH.out _ HT2.out).mono ?_; rintro e w3 ⟨rfl, hb3⟩
  have HT3 := hid (HT2.out.below hb3)
  have HM3 := hid (heap_below hb3 HM2.out (blk_lt HM2.out))
  have HO3 := hid (own_below HO2.out hb3)
  have HC3 := hid (chg_new HC2.out (Chg.below hb3) (by intro j hj; exact hj.elim))
  have b3 := blk8 HT3.out
  have bm3 := (blk16 HM3.out).1
  clear hb3 b2 bm2 HT2 HM2 HO2 HC2 HAH HTW HMW HCW HN HT1 HM1 HC1
  go_wp2_with fail
  refine (HWT.out _ HT3.out).mono ?_; rintro e w4 ⟨rfl, hb4⟩
  have HT4 := hid (HT3.out.below hb4)
  have HM4 := hid (heap_below hb4 HM3.out (blk_lt HM3.out))
  have HO4 := hid (own_below HO3.out hb4)
  have HC4 := hid (chg_new HC3.out (Chg.below hb4) (by intro j hj; exact hj.elim))
  have b4 := blk8 HT4.out
  have bm4 := (blk16 HM4.out).1
  clear hb4 b3 bm3 HT3 HM3 HO3 HC3 HWT
  go_wp2_with fail
  refine (HU.out _ HT4.out HC4.out).mono ?_; rintro e w5 ⟨a, c, rfl, hE5, ht5, hc5⟩
  have HE5 := hid (ownsRow_mono hE5 HC4.out.size)
  have HT5 := hid ht5
  have HO5 := hid (ownsRow_chg HO4.out fun j hj hl => hc5.block j hl fun e1 => by subst e1; exact own_ne HO4.out HT4.out (by decide) hj)
  have HC5 := hid (chg_new HC4.out hc5 (by intro j hj; exact .inl hj))
  have HN5 := hid (heap_new w5 (.cells #[.bool false, .bool ag, .bool re, .bool wh, .slice none 0 0, .int .i64 er, .slice a L.length c] 94))
  have HZ5 := hid (show w.heap.size ≤ (w5.alloc (.cells #[.bool false, .bool ag, .bool re, .bool wh, .slice none 0 0, .int .i64 er, .slice a L.length c] 94)).heap.size by have := HC5.out.size; simp; omega)
  unfold actV
  clear hE5 ht5 hc5 HO4 HC4 HM4 HU b4 bm4
  go_wp2_with (at_builtin; refine wpList_append_rd rfl _ _ 91 rfl w.heap.size 94 i0 _ 7 64 Tryz.underlying91 HI.out hz0 hz1 hz2 rfl (by decide) (.slice a2 1 c2) 1 [.bool true, .bool false, .bool false, .bool false, .slice none 0 0, .int .i64 0, .slice none 0 0] rfl (own_alloc HO5.out _) (.slice (some ⟨w5.heap.size, 0, none⟩) 1 1) 1 [.bool false, .bool ag, .bool re, .bool wh, .slice none 0 0, .int .i64 er, .slice a L.length c] rfl (rd_blk HN5.out (by unfold maxLen; omega)) rfl (by intro u hu; simp at hu; rcases hu with rfl | rfl | rfl | rfl | rfl | rfl | rfl <;> rfl) (by unfold maxLen; omega) (by omega) HZ5.out ?_; intro a6 c6 w6 hown6 hgrow6 hat6; (have ht6 := heap_grown hgrow6 (heap_old HT5.out _) (Ne.symm (own_ne HO5.out HT5.out (by decide)))); (have HT6 := hid (show TidAt w6 t s2 from ht6)); (have HO6 := hid (show w6.ownsRow w.heap.size 94 7 (.slice a6 2 c6) 2 ([.bool true, .bool false, .bool false, .bool false, .slice none 0 0, .int .i64 0, .slice none 0 0] ++ [.bool false, .bool ag, .bool re, .bool wh, .slice none 0 0, .int .i64 er, .slice a L.length c]) from hown6)); (have hcg := (Chg.refl (fun j => (Value.slice a2 1 c2).ownBlock = some j) (w5.alloc (.cells #[.bool false, .bool ag, .bool re, .bool wh, .slice none 0 0, .int .i64 er, .slice a L.length c] 94))).grown hgrow6 (fun j hj => .inl hj)); (have HE6 := hid (ownsRow_chg (own_alloc HE5.out (.cells #[.bool false, .bool ag, .bool re, .bool wh, .slice none 0 0, .int .i64 er, .slice a L.length c] 94)) fun j hj hl => hcg.block j hl (fun hf => own_ne2 HE5.out HO5.out (by decide) j hj hf))); (have HC6 := hid (chg_new (Chg.alloc HC5.out _) hcg (fun j hf => .inr (own_lt HO5.out hf).1))); clear hown6 hgrow6 hat6 hcg ht6)
  refine (settle_nil _ t s2 HT6.out).mono ?_; rintro e w7 ⟨rfl, ht7, hc7⟩
  have HT7 := hid ht7
  have HO7 := hid (ownsRow_chg HO6.out fun j hj hl => hc7.block j hl fun e1 => by subst e1; exact own_ne HO6.out HT6.out (by decide) hj)
  have HE7 := hid (ownsRow_chg HE6.out fun j hj hl => hc7.block j hl fun e1 => by subst e1; exact own_ne HE6.out HT6.out (by decide) hj)
  have HC7 := hid (chg_new HC6.out hc7 (by intro j hj; exact .inl hj))
  have HZ7 := hid HC7.out.size
  clear ht7 hc7 HO6 HE6 HC6 HT6 HN5 HZ5 HO5 HE5 HC5 HT5
  go_wp2_with (at_builtin; refine wpList_append_rd rfl _ _ 91 rfl w.heap.size 94 i0 _ 7 64 Tryz.underlying91 HI.out hz0 hz1 hz2 rfl (by decide) (.slice a6 2 c6) 2 ([.bool true, .bool false, .bool false, .bool false, .slice none 0 0, .int .i64 0, .slice none 0 0] ++ [.bool false, .bool ag, .bool re, .bool wh, .slice none 0 0, .int .i64 er, .slice a L.length c]) rfl HO7.out (.slice none 0 0) 0 [] rfl (rd_none _) rfl (by simp) (by unfold maxLen; omega) (by omega) HZ7.out ?_; intro a8 c8 w8 hown8 hgrow8 hat8)
  have ht8 := heap_grown hgrow8 HT7.out (Ne.symm (own_ne HO7.out HT7.out (by decide)))
  have hcg := (Chg.refl (fun j => (Value.slice a6 2 c6).ownBlock = some j) w7).grown hgrow8 (fun j hj => .inl hj)
  have hE8 := ownsRow_chg HE7.out fun j hj hl => hcg.block j hl (fun hf => own_ne2 HE7.out HO7.out (by decide) j hj hf)
  have hC8 := chg_new HC7.out hcg (fun j hf => .inr (own_lt HO7.out hf).1)
  rw [List.append_nil] at hown8
  go_ret
  exact ⟨a8, c8, a, c, rfl, hown8, hE8, ht8, hC8⟩
end Go.Proofs.YtbjibkjenleloaaGreatDoor

end
