/- Parts of a proof about the given program, in build order: CalK. No condition. -/
import Derived.Test.YtbjibkjenleloaaGreatDoorMg22
section
namespace Go.Proofs.YtbjibkjenleloaaGreatDoor
set_option linter.unusedVariables false
set_option linter.unusedSimpArgs false
open Go.RowKit
attribute [local go_sem ↓] Go.wp_at_zero Go.wp_at_succ
attribute [local go_sem] run_store_complex run_store_float


def tn0 : Tn := ⟨none, 0, 0, false, 0, op0, 0, nd0, none, 0, 0, 0⟩
set_option maxHeartbeats 2000000 in
theorem refused_read (w : World) (c t B p n : Nat) (s : Cl) (td : Td) (L : List En) (wh : Int → Bool) (k mode : Int) (path oth : ByteArray) (h : CliAt w c t B p n s td L wh) (hb : s.busy = false) (h1 : 1 ≤ k) (h2 : k ≤ 4) :
    Calls Tryz.prog 30 #[.pointer (some ⟨c, 0, none⟩), .agg #[.int .i64 k, .string path, .string oth, .int .i64 mode]] w fun e w' => e = .returned (.int .i64 (pathErr path)) ∧ Below w.heap.size w w' := by
  have HB := hid (bl1 w (.cells #[.int .i64 k, .string path, .string oth, .int .i64 mode] 25))
  have b4 := blk4 (heap_new w (.cells #[.int .i64 k, .string path, .string oth, .int .i64 mode] 25))
  have e12 := cell_of (h.below HB.out).hc 12 (.bool s.busy) rfl
  rw [hb] at e12
  have d1 : decide (k ≤ 4) = true := by simp; omega
  have H12 := hid (And.intro h1 h2)
  clear h hb h1 h2
  go_enter Tryz.func30, Tryz.ntmps30
  go_wp2_with fail
  refine (within_yes _ _ _ H12.out.1 (by have := H12.out.2; omega) _).mono ?_; rintro e w1 ⟨rfl, rfl⟩
  go_wp2_with fail
  refine (split_any path _).mono ?_; rintro e w1 hx
  rcases hx.out with ⟨h1, rfl, hb1⟩ | ⟨h1, ⟨a, cc, rfl, ho1⟩, hb1⟩
  · have HB1 := hid (HB.out.trans (hb1.mono HB.out.size))
    clear hx h1 hb1
    go_wp2
    go_ret
    exact ⟨rfl, HB1.out⟩
  · have HB1 := hid (HB.out.trans (hb1.mono HB.out.size))
    have HE := hid h1
    clear hx h1 hb1 ho1
    go_wp2
    go_ret
    exact ⟨by rw [HE.out]; rfl, HB1.out⟩
set_option maxRecDepth 100000 in
set_option maxHeartbeats 4000000 in
theorem start_look_bad (w : World) (c t B p n : Nat) (s : Cl) (td : Td) (L : List En) (wh : Int → Bool) (mode : Int) (path oth : ByteArray) (h : CliAt w c t B p n s td L wh) (hb : s.busy = false) (hp : pathErr path ≠ 0) :
    Calls Tryz.prog 11 #[.pointer (some ⟨c, 0, none⟩), .agg #[.int .i64 1, .string path, .string oth, .int .i64 mode]] w fun e w' => e = .returned (.tuple #[.slice none 0 0, .bool true, .agg #[.int .i64 (pathErr path), .int .i64 0, .int .i64 0, .int .i64 0, .string { data := #[] }, .slice none 0 0, .int .i64 td.ver]]) ∧ Below w.heap.size w w' := by
  have HCB := hid (heap_old (heap_new w (.cells #[.int .i64 1, .string path, .string oth, .int .i64 mode] 25)) (.cells #[.int .i64 0, .int .i64 0, .int .i64 0, .int .i64 0, .string { data := #[] }, .slice none 0 0, .int .i64 0] 43))
  have hR := heap_new (w.alloc (.cells #[.int .i64 1, .string path, .string oth, .int .i64 mode] 25)) (.cells #[.int .i64 0, .int .i64 0, .int .i64 0, .int .i64 0, .string { data := #[] }, .slice none 0 0, .int .i64 0] 43)
  rw [World.size_alloc] at hR
  have HR := hid hR
  have bb := bl2 w (.cells #[.int .i64 1, .string path, .string oth, .int .i64 mode] 25) (.cells #[.int .i64 0, .int .i64 0, .int .i64 0, .int .i64 0, .string { data := #[] }, .slice none 0 0, .int .i64 0] 43)
  have HW := hid bb
  have HC := hid (h.below bb)
  have HBU := hid hb
  have b4 := blk4 HCB.out
  have t1 : (pathErr path != 0) = true := by simp [hp]
  clear h hb hp hR bb
  go_enter Tryz.func11, Tryz.ntmps11
  go_wp2_with fail
  refine (refused_read _ c t B p n s td L wh 1 mode path oth HC.out HBU.out (by omega) (by omega)).mono ?_; rintro e w1 ⟨rfl, hb1⟩
  have HC1 := hid (HC.out.below hb1)
  have HW1 := hid (HW.out.trans (hb1.mono HW.out.size))
  have hr1 := heap_below hb1 HR.out (blk_lt HR.out)
  have HR1 := hid hr1
  have br := blk7 hr1
  clear hb1 hr1 b4
  go_wp2_with fail
  refine (cli_version _ c t B p n s td L wh HC1.out).mono ?_; rintro e w2 ⟨rfl, rfl⟩
  go_wp2
  (try simp only [Exit.inBlock, Exit.then])
  refine gen_w (P := fun w' => bodyPost _ _ _ _ _ w') (S := fun w4 => Chg (fun j => j = w.heap.size + 1) w1 w4 ∧ w4.heap[w.heap.size + 1]? = some (.cells #[.int .i64 (pathErr path), .int .i64 0, .int .i64 0, .int .i64 0, .string { data := #[] }, .slice none 0 0, .int .i64 td.ver] 43 (0, 0))) _ ⟨?_, ?_⟩ ?_
  · iterate 7 refine Chg.set1 ?_ _ _ rfl
    exact Chg.refl _ _
  · have h9 := (heap_set (heap_set (heap_set (heap_set (heap_set (heap_set (heap_set HR1.out 0 (.int .i64 (pathErr path))) 1 (.int .i64 0)) 2 (.int .i64 0)) 3 (.int .i64 0)) 4 (.string { data := #[] })) 5 (.slice none 0 0)) 6 (.int .i64 td.ver))
    simp only [List.setIfInBounds_toArray, List.set_cons_zero, List.set_cons_succ] at h9
    exact h9
  rintro w4 ⟨hc4, hr4⟩
  have b4 := blk7 hr4
  have hfin := HW1.out.trans (hc4.toBelow HW1.out.size fun i hi hf => by omega)
  have HFI := hid hfin
  clear br hc4 hr4 hfin
  refine bodyPost_ret (v := .tuple #[.slice none 0 0, .bool true, .agg #[.int .i64 (pathErr path), .int .i64 0, .int .i64 0, .int .i64 0, .string { data := #[] }, .slice none 0 0, .int .i64 td.ver]]) (by simp [results, Tryz.results11, go_sem, b4]) rfl ⟨rfl, HFI.out⟩
/-- what a start of a look-up comes to -/
def startLook (w : World) (c t B p n : Nat) (s : Cl) (td : Td) (L : List En) (wh : Int → Bool) (e : Ending) (w' : World) : Prop :=
  ∃ z n', n' ≤ n + 1000 ∧ Wk [] L wh true [] rootNd (stepsL s.cp) (dirB s.cp) s.cf.li [] z ∧
    (z.need = true ∧ (∃ g, e = .returned (.tuple #[.slice (some ⟨g, 0, none⟩) 1 1, .bool false, .agg #[.int .i64 0, .int .i64 0, .int .i64 0, .int .i64 0, .string { data := #[] }, .slice none 0 0, .int .i64 0]]) ∧ w'.ownsRow w.heap.size 50 16 (.slice (some ⟨g, 0, none⟩) 1 1) 1 (askMs s td (s.seq + 1) (lookOp z.key)).cs.toList) ∧ CliAt w' c t B p n' (askedS s td (lookOp z.key)) { td with asked := s.seq + 1 } (useAll z.used L) wh ∨
     z.need = false ∧ e = .returned (.tuple #[.slice none 0 0, .bool true, (An.mk z.err z.node none 0 0 td.ver).v]) ∧ CliAt w' c t B p n' { s with busy := false, am := ms0 } td (useAll z.used L) wh) ∧
    Chg (fun j => j = c ∨ j = t ∨ CF B p j) w w'
set_option maxRecDepth 100000 in
set_option maxHeartbeats 4000000 in
theorem start_look (w : World) (c t B p n : Nat) (s : Cl) (td : Td) (L : List En) (wh : Int → Bool) (mode : Int) (path oth : ByteArray) (h : CliAt w c t B p n s td L wh) (hb : s.busy = false) (hp : pathErr path = 0) (hl0 : 0 ≤ s.cf.li) (hl8 : s.cf.li ≤ 8) (hn : n < 1000000000000) (hs0 : 0 ≤ s.seq) (hs1 : s.seq < 1000000000000) :
    Calls Tryz.prog 11 #[.pointer (some ⟨c, 0, none⟩), .agg #[.int .i64 1, .string path, .string oth, .int .i64 mode]] w (startLook w c t B p n { s with busy := true, ck := 1, cp := path, co := oth, cm := mode } td L wh) := by
  have HCB := hid (heap_old (heap_new w (.cells #[.int .i64 1, .string path, .string oth, .int .i64 mode] 25)) (.cells #[.int .i64 0, .int .i64 0, .int .i64 0, .int .i64 0, .string { data := #[] }, .slice none 0 0, .int .i64 0] 43))
  have hR := heap_new (w.alloc (.cells #[.int .i64 1, .string path, .string oth, .int .i64 mode] 25)) (.cells #[.int .i64 0, .int .i64 0, .int .i64 0, .int .i64 0, .string { data := #[] }, .slice none 0 0, .int .i64 0] 43)
  rw [World.size_alloc] at hR
  have HR := hid hR
  have bb := bl2 w (.cells #[.int .i64 1, .string path, .string oth, .int .i64 mode] 25) (.cells #[.int .i64 0, .int .i64 0, .int .i64 0, .int .i64 0, .string { data := #[] }, .slice none 0 0, .int .i64 0] 43)
  have HW := hid bb
  have HC := hid (h.below bb)
  have hpz := h.hp.lt
  have hcz := blk_lt h.hc
  have htz := h.ht.lt
  have HN := hid (And.intro hb (And.intro hp (And.intro hl0 (And.intro hl8 (And.intro hn (And.intro hs0 hs1))))))
  have b4 := blk4 HCB.out
  clear h hb hp hl0 hl8 hn hs0 hs1 hR bb
  go_enter Tryz.func11, Tryz.ntmps11
  go_wp2_with fail
  refine (refused_read _ c t B p n s td L wh 1 mode path oth HC.out HN.out.1 (by omega) (by omega)).mono ?_; rintro e w1 ⟨rfl, hb1⟩
  have HC1 := hid (HC.out.below hb1)
  have HW1 := hid (HW.out.trans (hb1.mono HW.out.size))
  have HR1 := hid (heap_below hb1 HR.out (blk_lt HR.out))
  have hcb1 := heap_below hb1 HCB.out (blk_lt HCB.out)
  have b4' := blk4 hcb1
  have e12 := cell_of HC1.out.hc 12 (.bool s.busy) rfl
  have e13 := cell_of HC1.out.hc 13 (.int .i64 s.ck) rfl
  have e14 := cell_of HC1.out.hc 14 (.string s.cp) rfl
  have e15 := cell_of HC1.out.hc 15 (.string s.co) rfl
  have e16 := cell_of HC1.out.hc 16 (.int .i64 s.cm) rfl
  have hcc : c ≠ w.heap.size := by omega
  have hcc' : w.heap.size ≠ c := by omega
  rw [HN.out.2.1]
  clear hb1 b4 hcb1
  go_wp2_with fail
  go_region
  refine gen_w (P := fun w' => Exit.then _ _ _ _ w') (S := fun w2 => Chg (fun j => j = c) w1 w2 ∧ w2.heap[c]? = some (.cells (cli t p { s with busy := true, ck := 1, cp := path, co := oth, cm := mode }) 86 (0, 0))) _ ⟨?_, ?_⟩ ?_
  · refine Chg.drew ?_
    iterate 5 refine Chg.set1 ?_ _ _ rfl
    exact Chg.refl _ _
  · refine heap_drew ?_
    have h9 := heap_set (heap_set (heap_set (heap_set (heap_set HC1.out.hc 12 (.bool true)) 13 (.int .i64 1)) 14 (.string path)) 15 (.string oth)) 16 (.int .i64 mode)
    simp only [cli, List.setIfInBounds_toArray, List.set_cons_zero, List.set_cons_succ] at h9
    exact h9
  rintro w2 ⟨hc2, hh2⟩
  have HC2 := hid (show CliAt w2 c t B p n { s with busy := true, ck := 1, cp := path, co := oth, cm := mode } td L wh from ⟨hh2, HC1.out.ht.chg hc2 (heap_ty HC1.out.ht HC1.out.hc (by decide)), HC1.out.hp.chg hc2 (fun k hk e => HC1.out.ncp (e ▸ hk)), HC1.out.ncp, HC1.out.ntp⟩)
  have hr2 := heap_chg hc2 HR1.out (by omega)
  have HR2 := hid (heap_old hr2 (.cells #[.slice none 0 0, .bool false, .int .i64 0, .int .i64 0, .int .i64 0, .string { data := #[] }, .int .i64 0, .string { data := #[] }, .int .i64 0, .string { data := #[] }, .int .i64 0, .int .i64 0, .int .i64 0, .int .i64 0, .string { data := #[] }, .slice none 0 0, .int .i64 0] 90))
  have HX2 := hid (Chg.alloc (chg_new (Chg.below (HW1.out.mono (Nat.le_refl _)) |>.mono (fun _ _ h => h.elim)) hc2 (by intro j hj; exact .inl hj)) (.cells #[.slice none 0 0, .bool false, .int .i64 0, .int .i64 0, .int .i64 0, .string { data := #[] }, .int .i64 0, .string { data := #[] }, .int .i64 0, .string { data := #[] }, .int .i64 0, .int .i64 0, .int .i64 0, .int .i64 0, .string { data := #[] }, .slice none 0 0, .int .i64 0] 90))
  have HQ := hid (show (w2.alloc (.cells #[.slice none 0 0, .bool false, .int .i64 0, .int .i64 0, .int .i64 0, .string { data := #[] }, .int .i64 0, .string { data := #[] }, .int .i64 0, .string { data := #[] }, .int .i64 0, .int .i64 0, .int .i64 0, .int .i64 0, .string { data := #[] }, .slice none 0 0, .int .i64 0] 90)).heap[w2.heap.size]? = some (.cells (tnC tn0) 90 (0, 0)) from heap_new w2 _)
  have HCQ := hid (HC2.out.below (bl1 w2 (.cells #[.slice none 0 0, .bool false, .int .i64 0, .int .i64 0, .int .i64 0, .string { data := #[] }, .int .i64 0, .string { data := #[] }, .int .i64 0, .string { data := #[] }, .int .i64 0, .int .i64 0, .int .i64 0, .int .i64 0, .string { data := #[] }, .slice none 0 0, .int .i64 0] 90)))
  have hz2 : w.heap.size + 2 ≤ w2.heap.size := by have := HW1.out.size; have := hc2.size; have := blk_lt hr2; have := HX2.out.size; omega
  clear e12 e13 e14 e15 e16 b4' hc2 hh2 hr2
  go_wp2_with fail
  refine (drive_look _ c t B p n w2.heap.size { s with busy := true, ck := 1, cp := path, co := oth, cm := mode } td L [] wh tn0 HCQ.out HQ.out (fun hf => by have := hf.2; omega) (rd_none _) HN.out.2.1 HN.out.2.2.1 HN.out.2.2.2.1 HN.out.2.2.2.2.1 rfl rfl HN.out.2.2.2.2.2.1 HN.out.2.2.2.2.2.2).mono ?_
  rintro e w3 ⟨z, n', hn', hwk, hcase, hx⟩
  have hr3 := heap_chg hx HR2.out (fun hf => by rcases hf with hf | hf | hf | hf; omega; omega; omega; (have := hf.2; omega))
  have HR3 := hid hr3
  have br := blk7 hr3
  have HX3 := hid (show Chg (fun j => j = c ∨ j = t ∨ CF B p j) w w3 from chg_new (HX2.out.mono (fun _ _ h => .inl h)) hx (by intro j hj; rcases hj with hj | hj | hj | hj; exact .inl (.inl hj); exact .inl (.inr (.inl hj)); (right; omega); exact .inl (.inr (.inr hj))))
  have HWK := hid hwk
  have HN' := hid hn'
  have HZ2 := hid (show w.heap.size ≤ (w2.alloc (.cells #[.slice none 0 0, .bool false, .int .i64 0, .int .i64 0, .int .i64 0, .string { data := #[] }, .int .i64 0, .string { data := #[] }, .int .i64 0, .string { data := #[] }, .int .i64 0, .int .i64 0, .int .i64 0, .int .i64 0, .string { data := #[] }, .slice none 0 0, .int .i64 0] 90)).heap.size by simp; omega)
  clear hx hr3 hwk hn'
  rcases hcase with ⟨hnd, ⟨g, rfl, ho⟩, hc3⟩ | ⟨hnd, rfl, hc3⟩
  · have HO := hid ho; have HC3 := hid hc3; have HND := hid hnd
    clear ho hc3 hnd
    go_wp2
    (try simp only [Exit.inBlock, Exit.then])
    refine gen_w (P := fun w' => bodyPost _ _ _ _ _ w') (S := fun w4 => Chg (fun j => j = w.heap.size + 1) w3 w4 ∧ w4.heap[w.heap.size + 1]? = some (.cells #[.int .i64 0, .int .i64 0, .int .i64 0, .int .i64 0, .string { data := #[] }, .slice none 0 0, .int .i64 0] 43 (0, 0))) _ ⟨?_, ?_⟩ ?_
    · iterate 7 refine Chg.set1 ?_ _ _ rfl
      exact Chg.refl _ _
    · have h9 := (heap_set (heap_set (heap_set (heap_set (heap_set (heap_set (heap_set HR3.out 0 (.int .i64 0)) 1 (.int .i64 0)) 2 (.int .i64 0)) 3 (.int .i64 0)) 4 (.string { data := #[] })) 5 (.slice none 0 0)) 6 (.int .i64 0))
      simp only [List.setIfInBounds_toArray, List.set_cons_zero, List.set_cons_succ] at h9
      exact h9
    rintro w4 ⟨hc4, hr4⟩
    have b4 := blk7 hr4
    have HC4 := hid (HC3.out.chg hc4 (by omega) (by omega) (HC3.out.hp.chg hc4 (fun k hk e => by have := hk.2; omega)))
    have HX4 := hid (show Chg (fun j => j = c ∨ j = t ∨ CF B p j) w w4 from chg_new HX3.out hc4 (by intro j hj; right; omega))
    have HG4 := hid hc4
    clear br hc4 hr4
    refine bodyPost_ret (v := .tuple #[.slice (some ⟨g, 0, none⟩) 1 1, .bool false, .agg #[.int .i64 0, .int .i64 0, .int .i64 0, .int .i64 0, .string { data := #[] }, .slice none 0 0, .int .i64 0]]) (by simp [results, Tryz.results11, go_sem, b4, An.v]) rfl ⟨z, n', HN'.out, HWK.out, .inl ⟨HND.out, ⟨g, rfl, ownsRow_mono (ownsRow_chg HO.out fun j hj hl => HG4.out.block j hl fun e1 => by subst e1; exact own_ne HO.out HR3.out (by decide) hj) HZ2.out⟩, HC4.out⟩, HX4.out⟩
  · have HC3 := hid hc3; have HND := hid hnd
    clear hc3 hnd
    unfold An.v
    go_wp2
    (try simp only [Exit.inBlock, Exit.then])
    refine gen_w (P := fun w' => bodyPost _ _ _ _ _ w') (S := fun w4 => Chg (fun j => j = w.heap.size + 1) w3 w4 ∧ w4.heap[w.heap.size + 1]? = some (.cells #[.int .i64 z.err, .int .i64 z.node.id, .int .i64 z.node.kind, .int .i64 z.node.mode, .string z.node.target, .slice none 0 0, .int .i64 td.ver] 43 (0, 0))) _ ⟨?_, ?_⟩ ?_
    · iterate 7 refine Chg.set1 ?_ _ _ rfl
      exact Chg.refl _ _
    · have h9 := (heap_set (heap_set (heap_set (heap_set (heap_set (heap_set (heap_set HR3.out 0 (.int .i64 z.err)) 1 (.int .i64 z.node.id)) 2 (.int .i64 z.node.kind)) 3 (.int .i64 z.node.mode)) 4 (.string z.node.target)) 5 (.slice none 0 0)) 6 (.int .i64 td.ver))
      simp only [List.setIfInBounds_toArray, List.set_cons_zero, List.set_cons_succ] at h9
      exact h9
    rintro w4 ⟨hc4, hr4⟩
    have b4 := blk7 hr4
    have HC4 := hid (HC3.out.chg hc4 (by omega) (by omega) (HC3.out.hp.chg hc4 (fun k hk e => by have := hk.2; omega)))
    have HX4 := hid (show Chg (fun j => j = c ∨ j = t ∨ CF B p j) w w4 from chg_new HX3.out hc4 (by intro j hj; right; omega))
    have HG4 := hid hc4
    clear br hc4 hr4
    refine bodyPost_ret (v := .tuple #[.slice none 0 0, .bool true, (An.mk z.err z.node none 0 0 td.ver).v]) (by simp [results, Tryz.results11, go_sem, b4, An.v]) rfl ⟨z, n', HN'.out, HWK.out, .inr ⟨HND.out, rfl, HC4.out⟩, HX4.out⟩
end Go.Proofs.YtbjibkjenleloaaGreatDoor

end
