/- Parts of a proof about the given program, in build order: CmuD. No condition. -/
import Derived.Test.YtbjibkjenleloaaGreatDoorMg19
import Derived.Test.YtbjibkjenleloaaGreatDoorMg24
section
namespace Go.Proofs.YtbjibkjenleloaaGreatDoor
set_option linter.unusedVariables false
set_option linter.unusedSimpArgs false
open Go.RowKit
attribute [local go_sem ↓] Go.wp_at_zero Go.wp_at_succ
attribute [local go_sem] run_store_complex run_store_float


set_option maxRecDepth 100000 in
set_option maxHeartbeats 4000000 in
theorem refused_mut (w : World) (c t B p n : Nat) (s : Cl) (td : Td) (L : List En) (wh : Int → Bool) (k mode : Int) (path oth : ByteArray) (h : CliAt w c t B p n s td L wh) (hb : s.busy = false) (h5 : 5 ≤ k) (h11 : k ≤ 11) (hp : parErr path = 0) (ho : k = 10 → parErr oth = 0) (hg : k = 7 → tgtErr oth = 0) (hm : k = 5 ∨ k = 6 ∨ k = 11 → 0 ≤ mode ∧ mode ≤ 511) :
    Calls Tryz.prog 30 #[.pointer (some ⟨c, 0, none⟩), .agg #[.int .i64 k, .string path, .string oth, .int .i64 mode]] w fun e w' => e = .returned (.int .i64 0) ∧ Below w.heap.size w w' := by
  have HB := hid (bl1 w (.cells #[.int .i64 k, .string path, .string oth, .int .i64 mode] 25))
  have b4 := blk4 (heap_new w (.cells #[.int .i64 k, .string path, .string oth, .int .i64 mode] 25))
  have e12 := cell_of (h.below HB.out).hc 12 (.bool s.busy) rfl
  rw [hb] at e12
  have HN := hid (And.intro hb (And.intro hp (And.intro ho (And.intro hg hm))))
  have hck : k = 5 ∨ k = 6 ∨ k = 7 ∨ k = 8 ∨ k = 9 ∨ k = 10 ∨ k = 11 := by omega
  clear h hb h5 h11 hp ho hg hm
  rcases hck with hk | hk | hk | hk | hk | hk | hk
  · subst hk
    go_enter Tryz.func30, Tryz.ntmps30
    go_wp2_with fail
    refine (within_yes _ _ _ (by omega) (by omega) _).mono ?_; rintro e w1 ⟨rfl, rfl⟩
    go_wp2_with fail
    refine (parent_any path _).mono ?_; rintro e w1 hx
    rcases hx.out with ⟨h1, _⟩ | ⟨h1, ⟨g1, L1, y1, _, rfl, _, _⟩, hb1⟩
    · exact absurd HN.out.2.1 h1
    have HB1 := hid (HB.out.trans (hb1.mono HB.out.size))
    have b5 := blk4 (heap_below hb1 (heap_new w (.cells #[.int .i64 5, .string path, .string oth, .int .i64 mode] 25)) (by simp))
    clear hx h1 hb1 b4 e12
    go_wp2_with fail
    refine (within_yes _ _ _ (HN.out.2.2.2.2 (by simp)).1 (HN.out.2.2.2.2 (by simp)).2 _).mono ?_; rintro e w2 ⟨rfl, rfl⟩
    have HB2 := HB1
    go_wp2
    go_ret
    exact ⟨rfl, HB2.out⟩
  · subst hk
    go_enter Tryz.func30, Tryz.ntmps30
    go_wp2_with fail
    refine (within_yes _ _ _ (by omega) (by omega) _).mono ?_; rintro e w1 ⟨rfl, rfl⟩
    go_wp2_with fail
    refine (parent_any path _).mono ?_; rintro e w1 hx
    rcases hx.out with ⟨h1, _⟩ | ⟨h1, ⟨g1, L1, y1, _, rfl, _, _⟩, hb1⟩
    · exact absurd HN.out.2.1 h1
    have HB1 := hid (HB.out.trans (hb1.mono HB.out.size))
    have b5 := blk4 (heap_below hb1 (heap_new w (.cells #[.int .i64 6, .string path, .string oth, .int .i64 mode] 25)) (by simp))
    clear hx h1 hb1 b4 e12
    go_wp2_with fail
    refine (within_yes _ _ _ (HN.out.2.2.2.2 (by simp)).1 (HN.out.2.2.2.2 (by simp)).2 _).mono ?_; rintro e w2 ⟨rfl, rfl⟩
    have HB2 := HB1
    go_wp2
    go_ret
    exact ⟨rfl, HB2.out⟩
  · subst hk
    go_enter Tryz.func30, Tryz.ntmps30
    go_wp2_with fail
    refine (within_yes _ _ _ (by omega) (by omega) _).mono ?_; rintro e w1 ⟨rfl, rfl⟩
    go_wp2_with fail
    refine (parent_any path _).mono ?_; rintro e w1 hx
    rcases hx.out with ⟨h1, _⟩ | ⟨h1, ⟨g1, L1, y1, _, rfl, _, _⟩, hb1⟩
    · exact absurd HN.out.2.1 h1
    have HB1 := hid (HB.out.trans (hb1.mono HB.out.size))
    have b5 := blk4 (heap_below hb1 (heap_new w (.cells #[.int .i64 7, .string path, .string oth, .int .i64 mode] 25)) (by simp))
    clear hx h1 hb1 b4 e12
    go_wp2_with fail
    refine (target_any oth _).mono ?_; rintro e w2 hx
    rcases hx.out with ⟨h1, _⟩ | ⟨h1, ⟨a2, c2, rfl, _⟩, hb2⟩
    · exact absurd (HN.out.2.2.2.1 (by first | rfl | trivial)) h1
    have HB2 := hid (HB1.out.trans (hb2.mono HB1.out.size))
    clear hx h1 hb2 b5
    go_wp2
    go_ret
    exact ⟨rfl, HB2.out⟩
  · subst hk
    go_enter Tryz.func30, Tryz.ntmps30
    go_wp2_with fail
    refine (within_yes _ _ _ (by omega) (by omega) _).mono ?_; rintro e w1 ⟨rfl, rfl⟩
    go_wp2_with fail
    refine (parent_any path _).mono ?_; rintro e w1 hx
    rcases hx.out with ⟨h1, _⟩ | ⟨h1, ⟨g1, L1, y1, _, rfl, _, _⟩, hb1⟩
    · exact absurd HN.out.2.1 h1
    have HB1 := hid (HB.out.trans (hb1.mono HB.out.size))
    have b5 := blk4 (heap_below hb1 (heap_new w (.cells #[.int .i64 8, .string path, .string oth, .int .i64 mode] 25)) (by simp))
    clear hx h1 hb1 b4 e12
    have HB2 := HB1
    go_wp2
    go_ret
    exact ⟨rfl, HB2.out⟩
  · subst hk
    go_enter Tryz.func30, Tryz.ntmps30
    go_wp2_with fail
    refine (within_yes _ _ _ (by omega) (by omega) _).mono ?_; rintro e w1 ⟨rfl, rfl⟩
    go_wp2_with fail
    refine (parent_any path _).mono ?_; rintro e w1 hx
    rcases hx.out with ⟨h1, _⟩ | ⟨h1, ⟨g1, L1, y1, _, rfl, _, _⟩, hb1⟩
    · exact absurd HN.out.2.1 h1
    have HB1 := hid (HB.out.trans (hb1.mono HB.out.size))
    have b5 := blk4 (heap_below hb1 (heap_new w (.cells #[.int .i64 9, .string path, .string oth, .int .i64 mode] 25)) (by simp))
    clear hx h1 hb1 b4 e12
    have HB2 := HB1
    go_wp2
    go_ret
    exact ⟨rfl, HB2.out⟩
  · subst hk
    go_enter Tryz.func30, Tryz.ntmps30
    go_wp2_with fail
    refine (within_yes _ _ _ (by omega) (by omega) _).mono ?_; rintro e w1 ⟨rfl, rfl⟩
    go_wp2_with fail
    refine (parent_any path _).mono ?_; rintro e w1 hx
    rcases hx.out with ⟨h1, _⟩ | ⟨h1, ⟨g1, L1, y1, _, rfl, _, _⟩, hb1⟩
    · exact absurd HN.out.2.1 h1
    have HB1 := hid (HB.out.trans (hb1.mono HB.out.size))
    have b5 := blk4 (heap_below hb1 (heap_new w (.cells #[.int .i64 10, .string path, .string oth, .int .i64 mode] 25)) (by simp))
    clear hx h1 hb1 b4 e12
    go_wp2_with fail
    refine (parent_any oth _).mono ?_; rintro e w2 hx
    rcases hx.out with ⟨h1, _⟩ | ⟨h1, ⟨g2, L2, y2, _, rfl, _, _⟩, hb2⟩
    · exact absurd (HN.out.2.2.1 (by first | rfl | trivial)) h1
    have HB2 := hid (HB1.out.trans (hb2.mono HB1.out.size))
    clear hx h1 hb2 b5
    go_wp2
    go_ret
    exact ⟨rfl, HB2.out⟩
  · subst hk
    go_enter Tryz.func30, Tryz.ntmps30
    go_wp2_with fail
    refine (within_yes _ _ _ (by omega) (by omega) _).mono ?_; rintro e w1 ⟨rfl, rfl⟩
    go_wp2_with fail
    refine (parent_any path _).mono ?_; rintro e w1 hx
    rcases hx.out with ⟨h1, _⟩ | ⟨h1, ⟨g1, L1, y1, _, rfl, _, _⟩, hb1⟩
    · exact absurd HN.out.2.1 h1
    have HB1 := hid (HB.out.trans (hb1.mono HB.out.size))
    have b5 := blk4 (heap_below hb1 (heap_new w (.cells #[.int .i64 11, .string path, .string oth, .int .i64 mode] 25)) (by simp))
    clear hx h1 hb1 b4 e12
    go_wp2_with fail
    refine (within_yes _ _ _ (HN.out.2.2.2.2 (by simp)).1 (HN.out.2.2.2.2 (by simp)).2 _).mono ?_; rintro e w2 ⟨rfl, rfl⟩
    have HB2 := HB1
    go_wp2
    go_ret
    exact ⟨rfl, HB2.out⟩
set_option maxRecDepth 100000 in
set_option maxHeartbeats 4000000 in
theorem start_gen (w : World) (c t B p n : Nat) (s : Cl) (td : Td) (L : List En) (wh : Int → Bool) (k mode : Int) (path oth : ByteArray) (h : CliAt w c t B p n s td L wh) (D : World → Option Addr → Nat → Nat → Bool → An → World → Prop)
    (hrf : ∀ W, CliAt W c t B p n s td L wh → Calls Tryz.prog 30 #[.pointer (some ⟨c, 0, none⟩), .agg #[.int .i64 k, .string path, .string oth, .int .i64 mode]] W fun e w' => e = .returned (.int .i64 0) ∧ Below W.heap.size W w')
    (hdr : ∀ W q, CliAt W c t B p n { s with busy := true, ck := k, cp := path, co := oth, cm := mode } td L wh → W.heap[q]? = some (.cells (tnC tn0) 90 (0, 0)) → ¬ CF B p q → w.heap.size ≤ W.heap.size → w.heap.size ≤ q → Calls Tryz.prog 31 #[.pointer (some ⟨c, 0, none⟩), .pointer (some ⟨q, 0, none⟩)] W fun e w' => ∃ a l cc d an, e = .returned (.tuple #[.slice a l cc, .bool d, an.v]) ∧ D W a l cc d an w' ∧ Chg (fun j => j = c ∨ j = t ∨ j = q ∨ CF B p j) W w') :
    Calls Tryz.prog 11 #[.pointer (some ⟨c, 0, none⟩), .agg #[.int .i64 k, .string path, .string oth, .int .i64 mode]] w fun e w' => ∃ W a l cc d an w3, e = .returned (.tuple #[.slice a l cc, .bool d, an.v]) ∧ D W a l cc d an w3 ∧ w.heap.size ≤ W.heap.size ∧ w3.heap[w.heap.size + 1]? = some (.cells #[.int .i64 0, .int .i64 0, .int .i64 0, .int .i64 0, .string { data := #[] }, .slice none 0 0, .int .i64 0] 43 (0, 0)) ∧ Chg (fun j => j = w.heap.size + 1) w3 w' ∧ Chg (fun j => j = c ∨ j = t ∨ CF B p j) w w' := by
  have HCB := hid (heap_old (heap_new w (.cells #[.int .i64 k, .string path, .string oth, .int .i64 mode] 25)) (.cells #[.int .i64 0, .int .i64 0, .int .i64 0, .int .i64 0, .string { data := #[] }, .slice none 0 0, .int .i64 0] 43))
  have hR := heap_new (w.alloc (.cells #[.int .i64 k, .string path, .string oth, .int .i64 mode] 25)) (.cells #[.int .i64 0, .int .i64 0, .int .i64 0, .int .i64 0, .string { data := #[] }, .slice none 0 0, .int .i64 0] 43)
  rw [World.size_alloc] at hR
  have HR := hid hR
  have bb := bl2 w (.cells #[.int .i64 k, .string path, .string oth, .int .i64 mode] 25) (.cells #[.int .i64 0, .int .i64 0, .int .i64 0, .int .i64 0, .string { data := #[] }, .slice none 0 0, .int .i64 0] 43)
  have HW := hid bb
  have HC := hid (h.below bb)
  have hpz := h.hp.lt
  have hcz := blk_lt h.hc
  have htz := h.ht.lt
  have HRF := hid hrf
  have HDR := hid hdr
  have b4 := blk4 HCB.out
  clear h hrf hdr hR bb
  go_enter Tryz.func11, Tryz.ntmps11
  go_wp2_with fail
  refine (HRF.out _ HC.out).mono ?_; rintro e w1 ⟨rfl, hb1⟩
  have HC1 := hid (HC.out.below hb1)
  have HW1 := hid (HW.out.trans (hb1.mono HW.out.size))
  have HR1 := hid (heap_below hb1 HR.out (blk_lt HR.out))
  have hcb1 := heap_below hb1 HCB.out (blk_lt HCB.out)
  have b4' := blk4 hcb1
  have e12 := cell_of HC1.out.hc 12 (.bool s.busy) rfl
  have e13 := cell_of HC1.out.hc 13 (.int .i64 s.ck) rfl
  have e14 := cell_of HC1.out.hc 14 (.string s.cp) rfl
  have e15 := cell_of HC1.out.hc 15 (.string s.co) rfl
  have e16 := cell_of HC1.out.hc 16 (.int .i64 s.cm) rfl
  have hcc : c ≠ w.heap.size := by omega
  have hcc' : w.heap.size ≠ c := by omega
  clear hb1 b4 hcb1
  go_wp2_with fail
  go_region
  refine gen_w (P := fun w' => Exit.then _ _ _ _ w') (S := fun w2 => Chg (fun j => j = c) w1 w2 ∧ w2.heap[c]? = some (.cells (cli t p { s with busy := true, ck := k, cp := path, co := oth, cm := mode }) 86 (0, 0))) _ ⟨?_, ?_⟩ ?_
  · refine Chg.drew ?_
    iterate 5 refine Chg.set1 ?_ _ _ rfl
    exact Chg.refl _ _
  · refine heap_drew ?_
    have h9 := heap_set (heap_set (heap_set (heap_set (heap_set HC1.out.hc 12 (.bool true)) 13 (.int .i64 k)) 14 (.string path)) 15 (.string oth)) 16 (.int .i64 mode)
    simp only [cli, List.setIfInBounds_toArray, List.set_cons_zero, List.set_cons_succ] at h9
    exact h9
  rintro w2 ⟨hc2, hh2⟩
  have HC2 := hid (show CliAt w2 c t B p n { s with busy := true, ck := k, cp := path, co := oth, cm := mode } td L wh from ⟨hh2, HC1.out.ht.chg hc2 (heap_ty HC1.out.ht HC1.out.hc (by decide)), HC1.out.hp.chg hc2 (fun k hk e => HC1.out.ncp (e ▸ hk)), HC1.out.ncp, HC1.out.ntp⟩)
  have hr2 := heap_chg hc2 HR1.out (by omega)
  have HR2 := hid (heap_old hr2 (.cells #[.slice none 0 0, .bool false, .int .i64 0, .int .i64 0, .int .i64 0, .string { data := #[] }, .int .i64 0, .string { data := #[] }, .int .i64 0, .string { data := #[] }, .int .i64 0, .int .i64 0, .int .i64 0, .int .i64 0, .string { data := #[] }, .slice none 0 0, .int .i64 0] 90))
  have HX2 := hid (Chg.alloc (chg_new (Chg.below (HW1.out.mono (Nat.le_refl _)) |>.mono (fun _ _ h => h.elim)) hc2 (by intro j hj; exact .inl hj)) (.cells #[.slice none 0 0, .bool false, .int .i64 0, .int .i64 0, .int .i64 0, .string { data := #[] }, .int .i64 0, .string { data := #[] }, .int .i64 0, .string { data := #[] }, .int .i64 0, .int .i64 0, .int .i64 0, .int .i64 0, .string { data := #[] }, .slice none 0 0, .int .i64 0] 90))
  have HQ := hid (show (w2.alloc (.cells #[.slice none 0 0, .bool false, .int .i64 0, .int .i64 0, .int .i64 0, .string { data := #[] }, .int .i64 0, .string { data := #[] }, .int .i64 0, .string { data := #[] }, .int .i64 0, .int .i64 0, .int .i64 0, .int .i64 0, .string { data := #[] }, .slice none 0 0, .int .i64 0] 90)).heap[w2.heap.size]? = some (.cells (tnC tn0) 90 (0, 0)) from heap_new w2 _)
  have HCQ := hid (HC2.out.below (bl1 w2 (.cells #[.slice none 0 0, .bool false, .int .i64 0, .int .i64 0, .int .i64 0, .string { data := #[] }, .int .i64 0, .string { data := #[] }, .int .i64 0, .string { data := #[] }, .int .i64 0, .int .i64 0, .int .i64 0, .int .i64 0, .string { data := #[] }, .slice none 0 0, .int .i64 0] 90)))
  have hz2 : w.heap.size + 2 ≤ w2.heap.size := by have := HW1.out.size; have := hc2.size; have := blk_lt hr2; have := HX2.out.size; omega
  have HZ2 := hid (show w.heap.size ≤ (w2.alloc (.cells #[.slice none 0 0, .bool false, .int .i64 0, .int .i64 0, .int .i64 0, .string { data := #[] }, .int .i64 0, .string { data := #[] }, .int .i64 0, .string { data := #[] }, .int .i64 0, .int .i64 0, .int .i64 0, .int .i64 0, .string { data := #[] }, .slice none 0 0, .int .i64 0] 90)).heap.size by simp; omega)
  clear e12 e13 e14 e15 e16 b4' hc2 hh2 hr2
  go_wp2_with fail
  refine (HDR.out _ w2.heap.size HCQ.out HQ.out (fun hf => by have := hf.2; omega) HZ2.out (by omega)).mono ?_
  rintro e w3 ⟨a, l, cc, d, an, rfl, hD, hx⟩
  have hr3 := heap_chg hx HR2.out (fun hf => by rcases hf with hf | hf | hf | hf; omega; omega; omega; (have := hf.2; omega))
  have HR3 := hid hr3
  have br := blk7 hr3
  have HX3 := hid (show Chg (fun j => j = c ∨ j = t ∨ CF B p j) w w3 from chg_new (HX2.out.mono (fun _ _ h => .inl h)) hx (by intro j hj; rcases hj with hj | hj | hj | hj; exact .inl (.inl hj); exact .inl (.inr (.inl hj)); (right; omega); exact .inl (.inr (.inr hj))))
  have HD := hid hD
  unfold An.v
  clear hx hr3 hD
  go_wp2
  (try simp only [Exit.inBlock, Exit.then])
  refine gen_w (P := fun w' => bodyPost _ _ _ _ _ w') (S := fun w4 => Chg (fun j => j = w.heap.size + 1) w3 w4 ∧ w4.heap[w.heap.size + 1]? = some (.cells #[.int .i64 an.err, .int .i64 an.nd.id, .int .i64 an.nd.kind, .int .i64 an.nd.mode, .string an.nd.target, .slice an.na an.nl an.nc, .int .i64 an.ver] 43 (0, 0))) _ ⟨?_, ?_⟩ ?_
  · iterate 7 refine Chg.set1 ?_ _ _ rfl
    exact Chg.refl _ _
  · have h9 := (heap_set (heap_set (heap_set (heap_set (heap_set (heap_set (heap_set HR3.out 0 (.int .i64 an.err)) 1 (.int .i64 an.nd.id)) 2 (.int .i64 an.nd.kind)) 3 (.int .i64 an.nd.mode)) 4 (.string an.nd.target)) 5 (.slice an.na an.nl an.nc)) 6 (.int .i64 an.ver))
    simp only [List.setIfInBounds_toArray, List.set_cons_zero, List.set_cons_succ] at h9
    exact h9
  rintro w4 ⟨hc4, hr4⟩
  have b4 := blk7 hr4
  have HX4 := hid (show Chg (fun j => j = c ∨ j = t ∨ CF B p j) w w4 from chg_new HX3.out hc4 (by intro j hj; right; omega))
  have HG4 := hid hc4
  clear br hc4 hr4
  refine bodyPost_ret (v := .tuple #[.slice a l cc, .bool d, .agg #[.int .i64 an.err, .int .i64 an.nd.id, .int .i64 an.nd.kind, .int .i64 an.nd.mode, .string an.nd.target, .slice an.na an.nl an.nc, .int .i64 an.ver]]) (by simp [results, Tryz.results11, go_sem, b4]) rfl ⟨_, a, l, cc, d, an, w3, rfl, HD.out, HZ2.out, HR3.out, HG4.out, HX4.out⟩
end Go.Proofs.YtbjibkjenleloaaGreatDoor

end
