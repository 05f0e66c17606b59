/- Parts of a proof about the given program, in build order: CalH. No condition. -/
import Derived.Test.YtbjibkjenleloaaGreatDoorMg20
section
namespace Go.Proofs.YtbjibkjenleloaaGreatDoor
set_option linter.unusedVariables false
set_option linter.unusedSimpArgs false
open Go.RowKit
attribute [local go_sem ↓] Go.wp_at_zero Go.wp_at_succ
attribute [local go_sem] run_store_complex run_store_float


noncomputable def dTail : Code := sndN 2 (match Tryz.f31.body with | some c => c | none => Code.skip)
theorem frame69 (a : Act) (h : a.tmps.size = 69) (hd : a.defers = []) : a = { tmps := #[a.tmps.getD 0 undef, a.tmps.getD 1 undef, a.tmps.getD 2 undef, a.tmps.getD 3 undef, a.tmps.getD 4 undef, a.tmps.getD 5 undef, a.tmps.getD 6 undef, a.tmps.getD 7 undef, a.tmps.getD 8 undef, a.tmps.getD 9 undef, a.tmps.getD 10 undef, a.tmps.getD 11 undef, a.tmps.getD 12 undef, a.tmps.getD 13 undef, a.tmps.getD 14 undef, a.tmps.getD 15 undef, a.tmps.getD 16 undef, a.tmps.getD 17 undef, a.tmps.getD 18 undef, a.tmps.getD 19 undef, a.tmps.getD 20 undef, a.tmps.getD 21 undef, a.tmps.getD 22 undef, a.tmps.getD 23 undef, a.tmps.getD 24 undef, a.tmps.getD 25 undef, a.tmps.getD 26 undef, a.tmps.getD 27 undef, a.tmps.getD 28 undef, a.tmps.getD 29 undef, a.tmps.getD 30 undef, a.tmps.getD 31 undef, a.tmps.getD 32 undef, a.tmps.getD 33 undef, a.tmps.getD 34 undef, a.tmps.getD 35 undef, a.tmps.getD 36 undef, a.tmps.getD 37 undef, a.tmps.getD 38 undef, a.tmps.getD 39 undef, a.tmps.getD 40 undef, a.tmps.getD 41 undef, a.tmps.getD 42 undef, a.tmps.getD 43 undef, a.tmps.getD 44 undef, a.tmps.getD 45 undef, a.tmps.getD 46 undef, a.tmps.getD 47 undef, a.tmps.getD 48 undef, a.tmps.getD 49 undef, a.tmps.getD 50 undef, a.tmps.getD 51 undef, a.tmps.getD 52 undef, a.tmps.getD 53 undef, a.tmps.getD 54 undef, a.tmps.getD 55 undef, a.tmps.getD 56 undef, a.tmps.getD 57 undef, a.tmps.getD 58 undef, a.tmps.getD 59 undef, a.tmps.getD 60 undef, a.tmps.getD 61 undef, a.tmps.getD 62 undef, a.tmps.getD 63 undef, a.tmps.getD 64 undef, a.tmps.getD 65 undef, a.tmps.getD 66 undef, a.tmps.getD 67 undef, a.tmps.getD 68 undef], defers := [] } := by
  obtain ⟨t, d⟩ := a
  simp only at h hd
  subst hd
  have h1 := arr_range t 69 h
  show Act.mk t [] = _
  have h2 : ((List.range 69).map fun i => t.getD i undef).toArray = #[t.getD 0 undef, t.getD 1 undef, t.getD 2 undef, t.getD 3 undef, t.getD 4 undef, t.getD 5 undef, t.getD 6 undef, t.getD 7 undef, t.getD 8 undef, t.getD 9 undef, t.getD 10 undef, t.getD 11 undef, t.getD 12 undef, t.getD 13 undef, t.getD 14 undef, t.getD 15 undef, t.getD 16 undef, t.getD 17 undef, t.getD 18 undef, t.getD 19 undef, t.getD 20 undef, t.getD 21 undef, t.getD 22 undef, t.getD 23 undef, t.getD 24 undef, t.getD 25 undef, t.getD 26 undef, t.getD 27 undef, t.getD 28 undef, t.getD 29 undef, t.getD 30 undef, t.getD 31 undef, t.getD 32 undef, t.getD 33 undef, t.getD 34 undef, t.getD 35 undef, t.getD 36 undef, t.getD 37 undef, t.getD 38 undef, t.getD 39 undef, t.getD 40 undef, t.getD 41 undef, t.getD 42 undef, t.getD 43 undef, t.getD 44 undef, t.getD 45 undef, t.getD 46 undef, t.getD 47 undef, t.getD 48 undef, t.getD 49 undef, t.getD 50 undef, t.getD 51 undef, t.getD 52 undef, t.getD 53 undef, t.getD 54 undef, t.getD 55 undef, t.getD 56 undef, t.getD 57 undef, t.getD 58 undef, t.getD 59 undef, t.getD 60 undef, t.getD 61 undef, t.getD 62 undef, t.getD 63 undef, t.getD 64 undef, t.getD 65 undef, t.getD 66 undef, t.getD 67 undef, t.getD 68 undef] := by kernel_rfl
  rw [← h2, ← h1]
theorem open69 (a : Act) (c q r : Nat) (hs : a.tmps.size = 69) (hd : a.defers = []) (f0 : a.tmps.getD 0 undef = .pointer (some ⟨c, 0, none⟩)) (f1 : a.tmps.getD 1 undef = .pointer (some ⟨q, 0, none⟩)) (f4 : a.tmps.getD 4 undef = .slice none 0 0) (f5 : a.tmps.getD 5 undef = .bool false) (f6 : a.tmps.getD 6 undef = .pointer (some ⟨r, 0, none⟩)) : ∃ u : Nat → Value, a = { tmps := #[.pointer (some ⟨c, 0, none⟩), .pointer (some ⟨q, 0, none⟩), u 2, u 3, .slice none 0 0, .bool false, .pointer (some ⟨r, 0, none⟩), u 7, u 8, u 9, u 10, u 11, u 12, u 13, u 14, u 15, u 16, u 17, u 18, u 19, u 20, u 21, u 22, u 23, u 24, u 25, u 26, u 27, u 28, u 29, u 30, u 31, u 32, u 33, u 34, u 35, u 36, u 37, u 38, u 39, u 40, u 41, u 42, u 43, u 44, u 45, u 46, u 47, u 48, u 49, u 50, u 51, u 52, u 53, u 54, u 55, u 56, u 57, u 58, u 59, u 60, u 61, u 62, u 63, u 64, u 65, u 66, u 67, u 68], defers := [] } := by
  refine ⟨fun i => a.tmps.getD i undef, ?_⟩
  have h1 := frame69 a hs hd
  rw [f0, f1, f4, f5, f6] at h1
  exact h1
/-- what drive asks -/
def askedS (s : Cl) (td : Td) (op : Op7) : Cl := { s with seq := s.seq + 1, am := askMs s td (s.seq + 1) op }
def drvAsk (w : World) (c t B p n : Nat) (s : Cl) (td : Td) (L : List En) (wh : Int → Bool) (op : Op7) (e : Ending) (w' : World) : Prop :=
  ∃ g, e = .returned (.tuple #[.slice (some ⟨g, 0, none⟩) 1 1, .bool false, .agg #[.int .i64 0, .int .i64 0, .int .i64 0, .int .i64 0, .string { data := #[] }, .slice none 0 0, .int .i64 0]]) ∧
    w'.ownsRow w.heap.size 50 16 (.slice (some ⟨g, 0, none⟩) 1 1) 1 (askMs s td (s.seq + 1) op).cs.toList ∧ CliAt w' c t B p n (askedS s td op) { td with asked := s.seq + 1 } L wh ∧ Chg (fun j => j = c ∨ j = t) w w'
set_option maxRecDepth 100000 in
set_option maxHeartbeats 4000000 in
theorem drive_ask (a : Act) (w : World) (W0 c t B p n q r : Nat) (s : Cl) (td : Td) (L : List En) (wh : Int → Bool) (tn : Tn) (hs : a.tmps.size = 69) (hd : a.defers = []) (f0 : a.tmps.getD 0 undef = .pointer (some ⟨c, 0, none⟩)) (f1 : a.tmps.getD 1 undef = .pointer (some ⟨q, 0, none⟩)) (f4 : a.tmps.getD 4 undef = .slice none 0 0) (f5 : a.tmps.getD 5 undef = .bool false) (f6 : a.tmps.getD 6 undef = .pointer (some ⟨r, 0, none⟩)) (h : CliAt w c t B p n s td L wh) (hq : w.heap[q]? = some (.cells (tnC tn) 90 (0, 0))) (hr : w.heap[r]? = some (.cells #[.int .i64 0, .int .i64 0, .int .i64 0, .int .i64 0, .string { data := #[] }, .slice none 0 0, .int .i64 0] 43 (0, 0))) (hk : tn.op.kind ≠ 0) (hs0 : 0 ≤ s.seq) (hs1 : s.seq < 1000000000000) (hrp : ¬ CF B p r)
    (Q : Exit → Act → World → Prop) (hQ : ∀ a' w' b, a'.defers = [] → a'.tmps.getD 4 undef = .slice (some ⟨b, 0, none⟩) 1 1 → a'.tmps.getD 5 undef = .bool false → a'.tmps.getD 6 undef = .pointer (some ⟨r, 0, none⟩) → w'.heap[r]? = some (.cells #[.int .i64 0, .int .i64 0, .int .i64 0, .int .i64 0, .string { data := #[] }, .slice none 0 0, .int .i64 0] 43 (0, 0)) →
      w'.ownsRow w.heap.size 50 16 (.slice (some ⟨b, 0, none⟩) 1 1) 1 (askMs s td (s.seq + 1) tn.op).cs.toList → CliAt w' c t B p n (askedS s td tn.op) { td with asked := s.seq + 1 } L wh → Chg (fun j => j = c ∨ j = t ∨ j = r) w w' → Q .ret a' w') : dTail.wp Tryz.prog Q a w := by
  conv => pattern dTail; whnf
  obtain ⟨u, rfl⟩ := open69 a c q r hs hd f0 f1 f4 f5 f6
  clear hs hd f0 f1 f4 f5 f6
  have hno : (tn.op.kind == 0) = false := by simp [hk]
  have hw1 : IntKind.i64.wrap (s.seq + 1) = s.seq + 1 := IntWalk.i64_in _ (by omega)
  have HS := hid (And.intro hs0 hs1)
  have HC := hid h
  have HQ := hid hq
  have HR := hid hr
  have HQQ := hid hQ
  have HRP := hid hrp
  have e11 := cell_of h.hc 11 (.int .i64 s.seq) rfl
  have q3 := cell_of hq 3 (.int .i64 tn.op.kind) rfl
  have hne1 := heap_ty h.hc hq (by decide)
  have hne2 := heap_ty h.hc hr (by decide)
  have hne3 := heap_ty h.ht hq (by decide)
  have hne4 := heap_ty h.ht hr (by decide)
  have hne5 := heap_ty hq hr (by decide)
  have hne6 := heap_ty h.hc h.ht (by decide)
  have HNE := hid (And.intro hne1 (And.intro hne2 (And.intro hne3 (And.intro hne4 (And.intro hne5 hne6)))))
  clear h hq hr hk hs0 hs1 hQ hrp hne1 hne2 hne3 hne4 hne5 hne6
  go_wp2_with fail
  refine gen_w (P := fun w' => Code.wp _ _ _ _ w') (S := fun w1 => Chg (fun j => j = c) w w1 ∧ w1.heap[c]? = some (.cells (cli t p { s with seq := s.seq + 1 }) 86 (0, 0))) _ ⟨?_, ?_⟩ ?_
  · exact Chg.set1 (Chg.refl (fun j => j = c) _) _ _ rfl
  · have h9 := heap_set HC.out.hc 11 (.int .i64 (s.seq + 1))
    simp only [cli, List.setIfInBounds_toArray, List.set_cons_zero, List.set_cons_succ] at h9
    exact h9
  rintro w1 ⟨hc1, hh1⟩
  have HC1 := hid (show CliAt w1 c t B p n { s with seq := s.seq + 1 } td L wh from ⟨hh1, HC.out.ht.chg hc1 (fun e => HNE.out.2.2.2.2.2 e.symm), HC.out.hp.chg hc1 (fun k hk e => HC.out.ncp (e ▸ hk)), HC.out.ncp, HC.out.ntp⟩)
  have HG1 := hid hc1
  have HQ1 := hid (heap_chg hc1 HQ.out (fun e => HNE.out.1 e.symm))
  have HR1 := hid (heap_chg hc1 HR.out (fun e => HNE.out.2.1 e.symm))
  have e9 := cell_of hh1 9 (.pointer (some ⟨t, 0, none⟩)) rfl
  have e11' := cell_of hh1 11 (.int .i64 (s.seq + 1)) rfl
  have KR : w1.cell? ⟨c, 9, none⟩ = some (.pointer (some ⟨t, 0, none⟩)) ∧ w1.cell? ⟨c, 11, none⟩ = some (.int .i64 (s.seq + 1)) := ⟨e9.1, e11'.1⟩
  have KRd : w1.drew.cell? ⟨c, 9, none⟩ = some (.pointer (some ⟨t, 0, none⟩)) ∧ w1.drew.cell? ⟨c, 11, none⟩ = some (.int .i64 (s.seq + 1)) := KR
  clear e11 hc1 hh1 q3 e9 e11'
  go_region_held3 (fun w' => w'.cell? ⟨c, 9, none⟩ = some (.pointer (some ⟨t, 0, none⟩)) ∧ w'.cell? ⟨c, 11, none⟩ = some (.int .i64 (s.seq + 1)))
    (first | with_reducible exact KR | with_reducible exact KRd | with_reducible exact K2)
    (first | (go_at_call 43; refine (tide_ask _ t td (s.seq + 1) HC1.out.drew.ht (by have := HS.out; omega)).mono ?_; rintro e w2 ⟨rfl, ht2, hc2⟩; (have HT2 := hid ht2); (have HG2 := hid hc2); (have hh2 := heap_chg hc2 (show w1.drew.heap[c]? = _ from HC1.out.hc) HNE.out.2.2.2.2.2); (have HH2 := hid hh2); (have K2 := And.intro (cell_of hh2 9 (.pointer (some ⟨t, 0, none⟩)) rfl).1 (cell_of hh2 11 (.int .i64 (s.seq + 1)) rfl).1); clear ht2 hc2 hh2))
  have HC2 := hid (show CliAt w2 c t B p n { s with seq := s.seq + 1 } { td with asked := s.seq + 1 } L wh from ⟨HH2.out, HT2.out, HC1.out.drew.hp.chg HG2.out (fun k hk e => HC1.out.ntp (e ▸ hk)), HC1.out.ncp, HC1.out.ntp⟩)
  have HQ2 := hid (heap_chg HG2.out (show w1.drew.heap[q]? = _ from HQ1.out) (fun e => HNE.out.2.2.1 e.symm))
  have HR2 := hid (heap_chg HG2.out (show w1.drew.heap[r]? = _ from HR1.out) (fun e => HNE.out.2.2.2.1 e.symm))
  have HX2 := hid (show Chg (fun j => j = c ∨ j = t) w w2 from chg_new (HG1.out.mono (fun _ _ h => .inl h)).drew HG2.out (by intro j hj; exact .inl (.inr hj)))
  clear KR KRd K2
  have KR : w2.cell? ⟨c, 11, none⟩ = some (.int .i64 (s.seq + 1)) ∧ w2.cell? ⟨q, 3, none⟩ = some (.int .i64 tn.op.kind) ∧ w2.cell? ⟨q, 4, none⟩ = some (.int .i64 tn.op.dir) ∧ w2.cell? ⟨q, 5, none⟩ = some (.string tn.op.name) ∧ w2.cell? ⟨q, 6, none⟩ = some (.int .i64 tn.op.to_) ∧ w2.cell? ⟨q, 7, none⟩ = some (.string tn.op.new_) ∧ w2.cell? ⟨q, 8, none⟩ = some (.int .i64 tn.op.mode) ∧ w2.cell? ⟨q, 9, none⟩ = some (.string tn.op.target) := ⟨(cell_of HC2.out.hc 11 (.int .i64 (s.seq + 1)) rfl).1, (cell_of HQ2.out 3 (.int .i64 tn.op.kind) rfl).1, (cell_of HQ2.out 4 (.int .i64 tn.op.dir) rfl).1, (cell_of HQ2.out 5 (.string tn.op.name) rfl).1, (cell_of HQ2.out 6 (.int .i64 tn.op.to_) rfl).1, (cell_of HQ2.out 7 (.string tn.op.new_) rfl).1, (cell_of HQ2.out 8 (.int .i64 tn.op.mode) rfl).1, (cell_of HQ2.out 9 (.string tn.op.target) rfl).1⟩
  have KRd : w2.drew.cell? ⟨c, 11, none⟩ = some (.int .i64 (s.seq + 1)) ∧ w2.drew.cell? ⟨q, 3, none⟩ = some (.int .i64 tn.op.kind) ∧ w2.drew.cell? ⟨q, 4, none⟩ = some (.int .i64 tn.op.dir) ∧ w2.drew.cell? ⟨q, 5, none⟩ = some (.string tn.op.name) ∧ w2.drew.cell? ⟨q, 6, none⟩ = some (.int .i64 tn.op.to_) ∧ w2.drew.cell? ⟨q, 7, none⟩ = some (.string tn.op.new_) ∧ w2.drew.cell? ⟨q, 8, none⟩ = some (.int .i64 tn.op.mode) ∧ w2.drew.cell? ⟨q, 9, none⟩ = some (.string tn.op.target) := KR
  have hzc : c < w2.heap.size := blk_lt HC2.out.hc
  have hzq : q < w2.heap.size := blk_lt HQ2.out
  go_wp2_with fail
  go_region_held3 (fun w' => w'.cell? ⟨c, 11, none⟩ = some (.int .i64 (s.seq + 1)) ∧ w'.cell? ⟨q, 3, none⟩ = some (.int .i64 tn.op.kind) ∧ w'.cell? ⟨q, 4, none⟩ = some (.int .i64 tn.op.dir) ∧ w'.cell? ⟨q, 5, none⟩ = some (.string tn.op.name) ∧ w'.cell? ⟨q, 6, none⟩ = some (.int .i64 tn.op.to_) ∧ w'.cell? ⟨q, 7, none⟩ = some (.string tn.op.new_) ∧ w'.cell? ⟨q, 8, none⟩ = some (.int .i64 tn.op.mode) ∧ w'.cell? ⟨q, 9, none⟩ = some (.string tn.op.target))
    (first | with_reducible exact KR | with_reducible exact KRd | with_reducible exact K3 | with_reducible exact K4)
    (first | (go_at_call 39; refine (cli_message _ c t B p n _ _ L wh (s.seq + 1) tn.op HC2.out.drew).mono ?_; rintro e w3 ⟨rfl, hb3⟩; (have HC3 := hid (CliAt.below HC2.out.drew hb3)); (have HQ3 := hid (heap_below (w := w2.drew) hb3 HQ2.out (blk_lt HQ2.out))); (have HR3 := hid (heap_below (w := w2.drew) hb3 HR2.out (blk_lt HR2.out))); (have HB3 := hid hb3); (have e17 := cell_of HC3.out.hc 17 (.int .i64 s.am.kind) rfl); (have e18 := cell_of HC3.out.hc 18 (.int .i64 s.am.client) rfl); (have e19 := cell_of HC3.out.hc 19 (.int .i64 s.am.life) rfl); (have e20 := cell_of HC3.out.hc 20 (.int .i64 s.am.seq) rfl); (have e21 := cell_of HC3.out.hc 21 (.complex .f64 (fl s.am.me) (fl s.am.mn)) rfl); (have e22 := cell_of HC3.out.hc 22 (.int .i64 s.am.ver) rfl); (have e23 := cell_of HC3.out.hc 23 (.int .i64 s.am.err) rfl); (have e24 := cell_of HC3.out.hc 24 (.int .i64 s.am.op.kind) rfl); (have e25 := cell_of HC3.out.hc 25 (.int .i64 s.am.op.dir) rfl); (have e26 := cell_of HC3.out.hc 26 (.string s.am.op.name) rfl); (have e27 := cell_of HC3.out.hc 27 (.int .i64 s.am.op.to_) rfl); (have e28 := cell_of HC3.out.hc 28 (.string s.am.op.new_) rfl); (have e29 := cell_of HC3.out.hc 29 (.int .i64 s.am.op.mode) rfl); (have e30 := cell_of HC3.out.hc 30 (.string s.am.op.target) rfl); (have e31 := cell_of HC3.out.hc 31 (.slice none 0 0) rfl); (have e32 := cell_of HC3.out.hc 32 (.slice none 0 0) rfl); (have h9 := (heap_set (heap_set (heap_set (heap_set (heap_set (heap_set (heap_set (heap_set (heap_set (heap_set (heap_set (heap_set (heap_set (heap_set (heap_set (heap_set HC3.out.hc 17 (.int .i64 1)) 18 (.int .i64 s.id)) 19 (.int .i64 s.life)) 20 (.int .i64 (s.seq + 1))) 21 (.complex .f64 (fl td.me) (fl td.mn))) 22 (.int .i64 0)) 23 (.int .i64 0)) 24 (.int .i64 tn.op.kind)) 25 (.int .i64 tn.op.dir)) 26 (.string tn.op.name)) 27 (.int .i64 tn.op.to_)) 28 (.string tn.op.new_)) 29 (.int .i64 tn.op.mode)) 30 (.string tn.op.target)) 31 (.slice none 0 0)) 32 (.slice none 0 0))); (simp only [cli, List.setIfInBounds_toArray, List.set_cons_zero, List.set_cons_succ] at h9); (have H9 := hid h9); (have HCS := hid (show Chg (fun j => j = c) w3 ((((((((((((((((w3.setCell ⟨c, 17, none⟩ (.int .i64 1)).setCell ⟨c, 18, none⟩ (.int .i64 s.id)).setCell ⟨c, 19, none⟩ (.int .i64 s.life)).setCell ⟨c, 20, none⟩ (.int .i64 (s.seq + 1))).setCell ⟨c, 21, none⟩ (.complex .f64 (fl td.me) (fl td.mn))).setCell ⟨c, 22, none⟩ (.int .i64 0)).setCell ⟨c, 23, none⟩ (.int .i64 0)).setCell ⟨c, 24, none⟩ (.int .i64 tn.op.kind)).setCell ⟨c, 25, none⟩ (.int .i64 tn.op.dir)).setCell ⟨c, 26, none⟩ (.string tn.op.name)).setCell ⟨c, 27, none⟩ (.int .i64 tn.op.to_)).setCell ⟨c, 28, none⟩ (.string tn.op.new_)).setCell ⟨c, 29, none⟩ (.int .i64 tn.op.mode)).setCell ⟨c, 30, none⟩ (.string tn.op.target)).setCell ⟨c, 31, none⟩ (.slice none 0 0)).setCell ⟨c, 32, none⟩ (.slice none 0 0)) from (by (iterate 16 refine Chg.set1 ?_ _ _ rfl); exact Chg.refl _ _))); (have K3 : w3.cell? ⟨c, 11, none⟩ = some (.int .i64 (s.seq + 1)) ∧ w3.cell? ⟨q, 3, none⟩ = some (.int .i64 tn.op.kind) ∧ w3.cell? ⟨q, 4, none⟩ = some (.int .i64 tn.op.dir) ∧ w3.cell? ⟨q, 5, none⟩ = some (.string tn.op.name) ∧ w3.cell? ⟨q, 6, none⟩ = some (.int .i64 tn.op.to_) ∧ w3.cell? ⟨q, 7, none⟩ = some (.string tn.op.new_) ∧ w3.cell? ⟨q, 8, none⟩ = some (.int .i64 tn.op.mode) ∧ w3.cell? ⟨q, 9, none⟩ = some (.string tn.op.target) := ⟨(cell_of HC3.out.hc 11 (.int .i64 (s.seq + 1)) rfl).1, (cell_of HQ3.out 3 (.int .i64 tn.op.kind) rfl).1, (cell_of HQ3.out 4 (.int .i64 tn.op.dir) rfl).1, (cell_of HQ3.out 5 (.string tn.op.name) rfl).1, (cell_of HQ3.out 6 (.int .i64 tn.op.to_) rfl).1, (cell_of HQ3.out 7 (.string tn.op.new_) rfl).1, (cell_of HQ3.out 8 (.int .i64 tn.op.mode) rfl).1, (cell_of HQ3.out 9 (.string tn.op.target) rfl).1⟩); (have K4 : ((((((((((((((((w3.setCell ⟨c, 17, none⟩ (.int .i64 1)).setCell ⟨c, 18, none⟩ (.int .i64 s.id)).setCell ⟨c, 19, none⟩ (.int .i64 s.life)).setCell ⟨c, 20, none⟩ (.int .i64 (s.seq + 1))).setCell ⟨c, 21, none⟩ (.complex .f64 (fl td.me) (fl td.mn))).setCell ⟨c, 22, none⟩ (.int .i64 0)).setCell ⟨c, 23, none⟩ (.int .i64 0)).setCell ⟨c, 24, none⟩ (.int .i64 tn.op.kind)).setCell ⟨c, 25, none⟩ (.int .i64 tn.op.dir)).setCell ⟨c, 26, none⟩ (.string tn.op.name)).setCell ⟨c, 27, none⟩ (.int .i64 tn.op.to_)).setCell ⟨c, 28, none⟩ (.string tn.op.new_)).setCell ⟨c, 29, none⟩ (.int .i64 tn.op.mode)).setCell ⟨c, 30, none⟩ (.string tn.op.target)).setCell ⟨c, 31, none⟩ (.slice none 0 0)).setCell ⟨c, 32, none⟩ (.slice none 0 0)).cell? ⟨c, 11, none⟩ = some (.int .i64 (s.seq + 1)) ∧ ((((((((((((((((w3.setCell ⟨c, 17, none⟩ (.int .i64 1)).setCell ⟨c, 18, none⟩ (.int .i64 s.id)).setCell ⟨c, 19, none⟩ (.int .i64 s.life)).setCell ⟨c, 20, none⟩ (.int .i64 (s.seq + 1))).setCell ⟨c, 21, none⟩ (.complex .f64 (fl td.me) (fl td.mn))).setCell ⟨c, 22, none⟩ (.int .i64 0)).setCell ⟨c, 23, none⟩ (.int .i64 0)).setCell ⟨c, 24, none⟩ (.int .i64 tn.op.kind)).setCell ⟨c, 25, none⟩ (.int .i64 tn.op.dir)).setCell ⟨c, 26, none⟩ (.string tn.op.name)).setCell ⟨c, 27, none⟩ (.int .i64 tn.op.to_)).setCell ⟨c, 28, none⟩ (.string tn.op.new_)).setCell ⟨c, 29, none⟩ (.int .i64 tn.op.mode)).setCell ⟨c, 30, none⟩ (.string tn.op.target)).setCell ⟨c, 31, none⟩ (.slice none 0 0)).setCell ⟨c, 32, none⟩ (.slice none 0 0)).cell? ⟨q, 3, none⟩ = some (.int .i64 tn.op.kind) ∧ ((((((((((((((((w3.setCell ⟨c, 17, none⟩ (.int .i64 1)).setCell ⟨c, 18, none⟩ (.int .i64 s.id)).setCell ⟨c, 19, none⟩ (.int .i64 s.life)).setCell ⟨c, 20, none⟩ (.int .i64 (s.seq + 1))).setCell ⟨c, 21, none⟩ (.complex .f64 (fl td.me) (fl td.mn))).setCell ⟨c, 22, none⟩ (.int .i64 0)).setCell ⟨c, 23, none⟩ (.int .i64 0)).setCell ⟨c, 24, none⟩ (.int .i64 tn.op.kind)).setCell ⟨c, 25, none⟩ (.int .i64 tn.op.dir)).setCell ⟨c, 26, none⟩ (.string tn.op.name)).setCell ⟨c, 27, none⟩ (.int .i64 tn.op.to_)).setCell ⟨c, 28, none⟩ (.string tn.op.new_)).setCell ⟨c, 29, none⟩ (.int .i64 tn.op.mode)).setCell ⟨c, 30, none⟩ (.string tn.op.target)).setCell ⟨c, 31, none⟩ (.slice none 0 0)).setCell ⟨c, 32, none⟩ (.slice none 0 0)).cell? ⟨q, 4, none⟩ = some (.int .i64 tn.op.dir) ∧ ((((((((((((((((w3.setCell ⟨c, 17, none⟩ (.int .i64 1)).setCell ⟨c, 18, none⟩ (.int .i64 s.id)).setCell ⟨c, 19, none⟩ (.int .i64 s.life)).setCell ⟨c, 20, none⟩ (.int .i64 (s.seq + 1))).setCell ⟨c, 21, none⟩ (.complex .f64 (fl td.me) (fl td.mn))).setCell ⟨c, 22, none⟩ (.int .i64 0)).setCell ⟨c, 23, none⟩ (.int .i64 0)).setCell ⟨c, 24, none⟩ (.int .i64 tn.op.kind)).setCell ⟨c, 25, none⟩ (.int .i64 tn.op.dir)).setCell ⟨c, 26, none⟩ (.string tn.op.name)).setCell ⟨c, 27, none⟩ (.int .i64 tn.op.to_)).setCell ⟨c, 28, none⟩ (.string tn.op.new_)).setCell ⟨c, 29, none⟩ (.int .i64 tn.op.mode)).setCell ⟨c, 30, none⟩ (.string tn.op.target)).setCell ⟨c, 31, none⟩ (.slice none 0 0)).setCell ⟨c, 32, none⟩ (.slice none 0 0)).cell? ⟨q, 5, none⟩ = some (.string tn.op.name) ∧ ((((((((((((((((w3.setCell ⟨c, 17, none⟩ (.int .i64 1)).setCell ⟨c, 18, none⟩ (.int .i64 s.id)).setCell ⟨c, 19, none⟩ (.int .i64 s.life)).setCell ⟨c, 20, none⟩ (.int .i64 (s.seq + 1))).setCell ⟨c, 21, none⟩ (.complex .f64 (fl td.me) (fl td.mn))).setCell ⟨c, 22, none⟩ (.int .i64 0)).setCell ⟨c, 23, none⟩ (.int .i64 0)).setCell ⟨c, 24, none⟩ (.int .i64 tn.op.kind)).setCell ⟨c, 25, none⟩ (.int .i64 tn.op.dir)).setCell ⟨c, 26, none⟩ (.string tn.op.name)).setCell ⟨c, 27, none⟩ (.int .i64 tn.op.to_)).setCell ⟨c, 28, none⟩ (.string tn.op.new_)).setCell ⟨c, 29, none⟩ (.int .i64 tn.op.mode)).setCell ⟨c, 30, none⟩ (.string tn.op.target)).setCell ⟨c, 31, none⟩ (.slice none 0 0)).setCell ⟨c, 32, none⟩ (.slice none 0 0)).cell? ⟨q, 6, none⟩ = some (.int .i64 tn.op.to_) ∧ ((((((((((((((((w3.setCell ⟨c, 17, none⟩ (.int .i64 1)).setCell ⟨c, 18, none⟩ (.int .i64 s.id)).setCell ⟨c, 19, none⟩ (.int .i64 s.life)).setCell ⟨c, 20, none⟩ (.int .i64 (s.seq + 1))).setCell ⟨c, 21, none⟩ (.complex .f64 (fl td.me) (fl td.mn))).setCell ⟨c, 22, none⟩ (.int .i64 0)).setCell ⟨c, 23, none⟩ (.int .i64 0)).setCell ⟨c, 24, none⟩ (.int .i64 tn.op.kind)).setCell ⟨c, 25, none⟩ (.int .i64 tn.op.dir)).setCell ⟨c, 26, none⟩ (.string tn.op.name)).setCell ⟨c, 27, none⟩ (.int .i64 tn.op.to_)).setCell ⟨c, 28, none⟩ (.string tn.op.new_)).setCell ⟨c, 29, none⟩ (.int .i64 tn.op.mode)).setCell ⟨c, 30, none⟩ (.string tn.op.target)).setCell ⟨c, 31, none⟩ (.slice none 0 0)).setCell ⟨c, 32, none⟩ (.slice none 0 0)).cell? ⟨q, 7, none⟩ = some (.string tn.op.new_) ∧ ((((((((((((((((w3.setCell ⟨c, 17, none⟩ (.int .i64 1)).setCell ⟨c, 18, none⟩ (.int .i64 s.id)).setCell ⟨c, 19, none⟩ (.int .i64 s.life)).setCell ⟨c, 20, none⟩ (.int .i64 (s.seq + 1))).setCell ⟨c, 21, none⟩ (.complex .f64 (fl td.me) (fl td.mn))).setCell ⟨c, 22, none⟩ (.int .i64 0)).setCell ⟨c, 23, none⟩ (.int .i64 0)).setCell ⟨c, 24, none⟩ (.int .i64 tn.op.kind)).setCell ⟨c, 25, none⟩ (.int .i64 tn.op.dir)).setCell ⟨c, 26, none⟩ (.string tn.op.name)).setCell ⟨c, 27, none⟩ (.int .i64 tn.op.to_)).setCell ⟨c, 28, none⟩ (.string tn.op.new_)).setCell ⟨c, 29, none⟩ (.int .i64 tn.op.mode)).setCell ⟨c, 30, none⟩ (.string tn.op.target)).setCell ⟨c, 31, none⟩ (.slice none 0 0)).setCell ⟨c, 32, none⟩ (.slice none 0 0)).cell? ⟨q, 8, none⟩ = some (.int .i64 tn.op.mode) ∧ ((((((((((((((((w3.setCell ⟨c, 17, none⟩ (.int .i64 1)).setCell ⟨c, 18, none⟩ (.int .i64 s.id)).setCell ⟨c, 19, none⟩ (.int .i64 s.life)).setCell ⟨c, 20, none⟩ (.int .i64 (s.seq + 1))).setCell ⟨c, 21, none⟩ (.complex .f64 (fl td.me) (fl td.mn))).setCell ⟨c, 22, none⟩ (.int .i64 0)).setCell ⟨c, 23, none⟩ (.int .i64 0)).setCell ⟨c, 24, none⟩ (.int .i64 tn.op.kind)).setCell ⟨c, 25, none⟩ (.int .i64 tn.op.dir)).setCell ⟨c, 26, none⟩ (.string tn.op.name)).setCell ⟨c, 27, none⟩ (.int .i64 tn.op.to_)).setCell ⟨c, 28, none⟩ (.string tn.op.new_)).setCell ⟨c, 29, none⟩ (.int .i64 tn.op.mode)).setCell ⟨c, 30, none⟩ (.string tn.op.target)).setCell ⟨c, 31, none⟩ (.slice none 0 0)).setCell ⟨c, 32, none⟩ (.slice none 0 0)).cell? ⟨q, 9, none⟩ = some (.string tn.op.target) := ⟨(cell_of H9.out 11 (.int .i64 (s.seq + 1)) rfl).1, (cell_of (heap_chg HCS.out HQ3.out (fun e => HNE.out.1 e.symm)) 3 (.int .i64 tn.op.kind) rfl).1, (cell_of (heap_chg HCS.out HQ3.out (fun e => HNE.out.1 e.symm)) 4 (.int .i64 tn.op.dir) rfl).1, (cell_of (heap_chg HCS.out HQ3.out (fun e => HNE.out.1 e.symm)) 5 (.string tn.op.name) rfl).1, (cell_of (heap_chg HCS.out HQ3.out (fun e => HNE.out.1 e.symm)) 6 (.int .i64 tn.op.to_) rfl).1, (cell_of (heap_chg HCS.out HQ3.out (fun e => HNE.out.1 e.symm)) 7 (.string tn.op.new_) rfl).1, (cell_of (heap_chg HCS.out HQ3.out (fun e => HNE.out.1 e.symm)) 8 (.int .i64 tn.op.mode) rfl).1, (cell_of (heap_chg HCS.out HQ3.out (fun e => HNE.out.1 e.symm)) 9 (.string tn.op.target) rfl).1⟩); unfold askMs Ms.v Ms.cs; clear hb3 h9))
  refine gen_w (P := fun w' => Exit.then _ _ _ _ w') (S := fun w4 => Chg (fun j => j = c) w3 w4 ∧ w4.heap[c]? = some (.cells (cli t p (askedS s td tn.op)) 86 (0, 0))) _ ⟨?_, ?_⟩ ?_
  · first | exact HCS.out | exact Chg.drew HCS.out
  · first | exact H9.out | (refine heap_drew ?_; exact H9.out)
  rintro w4 ⟨hc4, hh4⟩
  have HC4 := hid (show CliAt w4 c t B p n (askedS s td tn.op) { td with asked := s.seq + 1 } L wh from ⟨hh4, HC3.out.ht.chg hc4 (fun e => HNE.out.2.2.2.2.2 e.symm), HC3.out.hp.chg hc4 (fun k hk e => HC3.out.ncp (e ▸ hk)), HC3.out.ncp, HC3.out.ntp⟩)
  have hr4 := heap_chg hc4 HR3.out (fun e => HNE.out.2.1 e.symm)
  have HR4 := hid hr4
  have hrz : r < w4.heap.size := blk_lt hr4
  have hcz4 : c < w4.heap.size := blk_lt hh4
  have br := blk7 hr4
  have HX4 := hid (show Chg (fun j => j = c ∨ j = t) w w4 from chg_new (chg_new HX2.out.drew (Chg.below HB3.out) (by intro j hj; exact hj.elim)) hc4 (by intro j hj; exact .inl (.inl hj)))
  clear e17 e18 e19 e20 e21 e22 e23 e24 e25 e26 e27 e28 e29 e30 e31 e32
  have e17 := cell_of hh4 17 (.int .i64 1) rfl
  have e18 := cell_of hh4 18 (.int .i64 s.id) rfl
  have e19 := cell_of hh4 19 (.int .i64 s.life) rfl
  have e20 := cell_of hh4 20 (.int .i64 (s.seq + 1)) rfl
  have e21 := cell_of hh4 21 (.complex .f64 (fl td.me) (fl td.mn)) rfl
  have e22 := cell_of hh4 22 (.int .i64 0) rfl
  have e23 := cell_of hh4 23 (.int .i64 0) rfl
  have e24 := cell_of hh4 24 (.int .i64 tn.op.kind) rfl
  have e25 := cell_of hh4 25 (.int .i64 tn.op.dir) rfl
  have e26 := cell_of hh4 26 (.string tn.op.name) rfl
  have e27 := cell_of hh4 27 (.int .i64 tn.op.to_) rfl
  have e28 := cell_of hh4 28 (.string tn.op.new_) rfl
  have e29 := cell_of hh4 29 (.int .i64 tn.op.mode) rfl
  have e30 := cell_of hh4 30 (.string tn.op.target) rfl
  have e31 := cell_of hh4 31 (.slice none 0 0) rfl
  have e32 := cell_of hh4 32 (.slice none 0 0) rfl
  clear KR KRd K3 K4 H9 HCS hc4 hh4 hr4
  go_wp2_with fail
  (try simp only [Exit.inBlock, Exit.then])
  refine gen_w (P := fun w' => Q Exit.ret _ (w'.alloc _)) (S := fun w7 => w7.heap.size = w4.heap.size ∧ Chg (fun j => j = r) w4 w7 ∧ w7.heap[r]? = some (.cells #[.int .i64 0, .int .i64 0, .int .i64 0, .int .i64 0, .string { data := #[] }, .slice none 0 0, .int .i64 0] 43 (0, 0))) _ ⟨?_, ?_, ?_⟩ ?_
  · simp only [set_size]
  · iterate 7 refine Chg.set1 ?_ _ _ rfl
    exact Chg.refl _ _
  · have h9 := (heap_set (heap_set (heap_set (heap_set (heap_set (heap_set (heap_set HR4.out 0 (.int .i64 0)) 1 (.int .i64 0)) 2 (.int .i64 0)) 3 (.int .i64 0)) 4 (.string { data := #[] })) 5 (.slice none 0 0)) 6 (.int .i64 0))
    simp only [List.setIfInBounds_toArray, List.set_cons_zero, List.set_cons_succ] at h9
    exact h9
  rintro w7 ⟨hz7, hc7, hr7⟩
  have hn7 := heap_new w7 (.cells #[.int .i64 1, .int .i64 s.id, .int .i64 s.life, .int .i64 (s.seq + 1), .complex .f64 (fl td.me) (fl td.mn), .int .i64 0, .int .i64 0, .int .i64 tn.op.kind, .int .i64 tn.op.dir, .string tn.op.name, .int .i64 tn.op.to_, .string tn.op.new_, .int .i64 tn.op.mode, .string tn.op.target, .slice none 0 0, .slice none 0 0] 50)
  rw [hz7] at hn7
  refine HQQ.out _ _ w4.heap.size rfl rfl rfl rfl (heap_old hr7 _) ?_ ?_ ?_
  · exact ownsRow_of_whole hn7 rfl HX4.out.size (by simp [maxLen])
  · exact (HC4.out.chg hc7 (fun e => HNE.out.2.1 e) (fun e => HNE.out.2.2.2.1 e) (HC4.out.hp.chg hc7 (fun k hk e => HRP.out (e ▸ hk)))).below (bl1 w7 _)
  · exact Chg.alloc (chg_new (HX4.out.mono (fun _ _ h => by rcases h with h | h; exact .inl h; exact .inr (.inl h))) hc7 (by intro j hj; exact .inl (.inr (.inr hj)))) _
end Go.Proofs.YtbjibkjenleloaaGreatDoor

end
