/- Parts of a proof about the given program, in build order: CalU, CmuJ. No condition. -/
import Derived.Test.YtbjibkjenleloaaGreatDoorMg36
import Derived.Test.YtbjibkjenleloaaGreatDoorMg32
section
namespace Go.Proofs.YtbjibkjenleloaaGreatDoor
set_option linter.unusedVariables false
set_option linter.unusedSimpArgs false
open Go.RowKit
attribute [local go_sem ↓] Go.wp_at_zero Go.wp_at_succ
attribute [local go_sem] run_store_complex run_store_float


theorem cell_new1 (w : World) (o : Obj) (cs : Array Value) (T i : Nat) : ((w.alloc o).alloc (.cells cs T)).cell? ⟨w.heap.size + 1, i, none⟩ = cs[i]? := by
  have h := heap_new (w.alloc o) (.cells cs T)
  rw [World.size_alloc] at h
  simp only [World.cell?, h]
  cases cs[i]? <;> rfl
set_option maxHeartbeats 400000 in
theorem r_in_yes (x lo hi : Int) (h1 : lo ≤ x) (h2 : x ≤ hi) (w : World) : Calls Tryz.prog 76 #[.int .i64 x, .int .i64 lo, .int .i64 hi] w fun e w' => e = .returned (.bool true) ∧ w = w' := by
  have d1 : decide (x ≥ lo) = true := by simp; omega
  have d2 : decide (x ≤ hi) = true := by simp; omega
  have d3 : decide (lo ≤ x) = true := by simp; omega
  clear h1 h2
  go_enter Tryz.func76, Tryz.ntmps76
  go_wp2
  go_ret
  exact ⟨rfl, rfl⟩
set_option maxHeartbeats 4000000 in
theorem r_right (s : Cf) (h : rightP s) (w : World) : Calls Tryz.prog 50 #[s.v] w fun e w' => e = .returned (.bool true) ∧ Below w.heap.size w w' := by
  obtain ⟨c0, c1, c2, c3, c4, c5, c6⟩ := h
  have b := blk7 (heap_new w (.cells #[.int .i64 s.cl, .int .i64 s.de, .int .i64 s.ne, .int .i64 s.li, .int .i64 s.pr, .int .i64 s.qu, .int .i64 s.ho] 23))
  have HB := hid (bl1 w (.cells #[.int .i64 s.cl, .int .i64 s.de, .int .i64 s.ne, .int .i64 s.li, .int .i64 s.pr, .int .i64 s.qu, .int .i64 s.ho] 23))
  unfold Cf.v
  go_enter Tryz.func50, Tryz.ntmps50
  go_wp2_with fail
  refine (r_in_yes _ _ _ (by omega) (by omega) _).mono ?_; rintro e w1 ⟨rfl, rfl⟩
  go_wp2_with fail
  refine (r_in_yes _ _ _ (by omega) (by omega) _).mono ?_; rintro e w1 ⟨rfl, rfl⟩
  go_wp2_with fail
  refine (r_in_yes _ _ _ (by omega) (by omega) _).mono ?_; rintro e w1 ⟨rfl, rfl⟩
  go_wp2_with fail
  refine (r_in_yes _ _ _ (by omega) (by omega) _).mono ?_; rintro e w1 ⟨rfl, rfl⟩
  go_wp2_with fail
  refine (r_in_yes _ _ _ (by omega) (by omega) _).mono ?_; rintro e w1 ⟨rfl, rfl⟩
  go_wp2_with fail
  refine (r_in_yes _ _ _ (by omega) (by omega) _).mono ?_; rintro e w1 ⟨rfl, rfl⟩
  go_wp2_with fail
  refine (r_in_yes _ _ _ (by omega) (by omega) _).mono ?_; rintro e w1 ⟨rfl, rfl⟩
  go_wp2_with fail
  go_ret
  exact ⟨rfl, HB.out⟩
set_option maxHeartbeats 1000000 in
theorem r_tide_new (cl life hold : Int) (h : newOK cl life hold) (w : World) : Calls Tryz.prog 51 #[.int .i64 cl, .int .i64 life, .int .i64 hold] w fun e w' => e = .returned (.tuple #[.pointer (some ⟨w.heap.size, 0, none⟩), .int .i64 0]) ∧ Below w.heap.size w w' := by
  obtain ⟨c0, c1, c2, c3, c4, c5⟩ := h
  have d0 : decide (cl < 1) = false := by simp; omega
  have g0 : decide (cl < 1) = false := by simp; omega
  have d1 : decide (cl > 4) = false := by simp; omega
  have g1 : decide (4 < cl) = false := by simp; omega
  have d2 : decide (life < 1) = false := by simp; omega
  have g2 : decide (life < 1) = false := by simp; omega
  have d3 : decide (life > 1099511627776) = false := by simp; omega
  have g3 : decide (1099511627776 < life) = false := by simp; omega
  have d4 : decide (hold < 0) = false := by simp; omega
  have g4 : decide (hold < 0) = false := by simp; omega
  have d5 : decide (hold > 8) = false := by simp; omega
  have g5 : decide (8 < hold) = false := by simp; omega
  clear c0 c1 c2 c3 c4 c5
  go_enter Tryz.func51, Tryz.ntmps51
  go_wp2
  go_ret2
  exact ⟨rfl, bl1 w _⟩
set_option maxRecDepth 100000 in
set_option maxHeartbeats 4000000 in
theorem r_call_new (id life : Int) (cf : Cf) (c1 : newOK id life cf.ho) (c2 : rightP cf) (c3 : id ≤ cf.cl) (w : World) : Calls Tryz.prog 27 #[.int .i64 id, .int .i64 life, cf.v] w fun e w' => ∃ q, e = .returned (.tuple #[.pointer (some ⟨q, 0, none⟩), .int .i64 0]) ∧ w.heap.size ≤ q ∧ w'.cell? ⟨q, 3, none⟩ = some (.int .i64 cf.de) ∧ q < w'.heap.size ∧ Below w.heap.size w w' := by
  have b := blk7 (heap_new w (.cells #[.int .i64 cf.cl, .int .i64 cf.de, .int .i64 cf.ne, .int .i64 cf.li, .int .i64 cf.pr, .int .i64 cf.qu, .int .i64 cf.ho] 23))
  have HN := hid (heap_new w (.cells #[.int .i64 cf.cl, .int .i64 cf.de, .int .i64 cf.ne, .int .i64 cf.li, .int .i64 cf.pr, .int .i64 cf.qu, .int .i64 cf.ho] 23))
  have HB := hid (bl1 w (.cells #[.int .i64 cf.cl, .int .i64 cf.de, .int .i64 cf.ne, .int .i64 cf.li, .int .i64 cf.pr, .int .i64 cf.qu, .int .i64 cf.ho] 23))
  have HO := hid c1
  have HR := hid (r_right cf c2)
  unfold newOK at c1
  have d1 : decide (id > cf.cl) = false := by simp; omega
  have d2 : decide (cf.cl < id) = false := by simp; omega
  have d3 : decide (id < 1) = false := by simp; omega
  have d4 : decide (life < 1) = false := by simp; omega
  have d5 : decide (life > 1099511627776) = false := by simp; omega
  have d6 : decide (1099511627776 < life) = false := by simp; omega
  clear c1 c2 c3
  unfold Cf.v at HR ⊢
  go_enter Tryz.func27, Tryz.ntmps27
  go_wp2_with fail
  refine (HR.out _).mono ?_; rintro e w1 ⟨rfl, hb1⟩
  have HB1 := hid (HB.out.trans (hb1.mono HB.out.size))
  have hn1 := heap_below hb1 HN.out (blk_lt HN.out)
  have HN1 := hid hn1
  have b1 := blk7 hn1
  clear b hn1 hb1 HN
  go_wp2_with fail
  refine (r_tide_new _ _ _ HO.out _).mono ?_; rintro e w2 ⟨rfl, hb2⟩
  have HB2 := hid (HB1.out.trans (hb2.mono HB1.out.size))
  have hn2 := heap_below hb2 HN1.out (blk_lt HN1.out)
  have HN2 := hid hn2
  have b2 := blk7 hn2
  have hz2 := HB2.out.size
  have hnz := blk_lt hn2
  clear b1 hn2 hb2 HN1
  go_wp2
  go_ret2
  refine ⟨w2.heap.size + 1, rfl, by omega, (cell_new1 w2 _ _ _ 3).trans rfl, by simp, HB2.out.trans ((bl2 w2 _ _).mono HB2.out.size)⟩
theorem frame47 (a : Act) (h : a.tmps.size = 47) (hd : a.defers = []) : a = { tmps := #[a.tmps.getD 0 undef, a.tmps.getD 1 undef, a.tmps.getD 2 undef, a.tmps.getD 3 undef, a.tmps.getD 4 undef, a.tmps.getD 5 undef, a.tmps.getD 6 undef, a.tmps.getD 7 undef, a.tmps.getD 8 undef, a.tmps.getD 9 undef, a.tmps.getD 10 undef, a.tmps.getD 11 undef, a.tmps.getD 12 undef, a.tmps.getD 13 undef, a.tmps.getD 14 undef, a.tmps.getD 15 undef, a.tmps.getD 16 undef, a.tmps.getD 17 undef, a.tmps.getD 18 undef, a.tmps.getD 19 undef, a.tmps.getD 20 undef, a.tmps.getD 21 undef, a.tmps.getD 22 undef, a.tmps.getD 23 undef, a.tmps.getD 24 undef, a.tmps.getD 25 undef, a.tmps.getD 26 undef, a.tmps.getD 27 undef, a.tmps.getD 28 undef, a.tmps.getD 29 undef, a.tmps.getD 30 undef, a.tmps.getD 31 undef, a.tmps.getD 32 undef, a.tmps.getD 33 undef, a.tmps.getD 34 undef, a.tmps.getD 35 undef, a.tmps.getD 36 undef, a.tmps.getD 37 undef, a.tmps.getD 38 undef, a.tmps.getD 39 undef, a.tmps.getD 40 undef, a.tmps.getD 41 undef, a.tmps.getD 42 undef, a.tmps.getD 43 undef, a.tmps.getD 44 undef, a.tmps.getD 45 undef, a.tmps.getD 46 undef], defers := [] } := by
  obtain ⟨t, d⟩ := a
  simp only at h hd
  subst hd
  have h1 := arr_range t 47 h
  show Act.mk t [] = _
  have h2 : ((List.range 47).map fun i => t.getD i undef).toArray = #[t.getD 0 undef, t.getD 1 undef, t.getD 2 undef, t.getD 3 undef, t.getD 4 undef, t.getD 5 undef, t.getD 6 undef, t.getD 7 undef, t.getD 8 undef, t.getD 9 undef, t.getD 10 undef, t.getD 11 undef, t.getD 12 undef, t.getD 13 undef, t.getD 14 undef, t.getD 15 undef, t.getD 16 undef, t.getD 17 undef, t.getD 18 undef, t.getD 19 undef, t.getD 20 undef, t.getD 21 undef, t.getD 22 undef, t.getD 23 undef, t.getD 24 undef, t.getD 25 undef, t.getD 26 undef, t.getD 27 undef, t.getD 28 undef, t.getD 29 undef, t.getD 30 undef, t.getD 31 undef, t.getD 32 undef, t.getD 33 undef, t.getD 34 undef, t.getD 35 undef, t.getD 36 undef, t.getD 37 undef, t.getD 38 undef, t.getD 39 undef, t.getD 40 undef, t.getD 41 undef, t.getD 42 undef, t.getD 43 undef, t.getD 44 undef, t.getD 45 undef, t.getD 46 undef] := by kernel_rfl
  rw [← h2, ← h1]
noncomputable def cTail : Code := sndN 2 (match Tryz.f7.body with | some c => c | none => Code.skip)
def clientPost (w : World) (e : Ending) (w' : World) : Prop := ∃ c t B p q c2, e = .returned (.tuple #[.agg #[.pointer (some ⟨c, 0, none⟩), .pointer (some ⟨q, 0, none⟩)], .bool true]) ∧ rightP c2 ∧ CliAt w' c t B p 0 (cl0 1 1 c2) (td0 1 1 c2.ho) [] (fun _ => false) ∧ w.heap.size ≤ c ∧ w.heap.size ≤ t ∧ w.heap.size ≤ B ∧ w'.cell? ⟨q, 3, none⟩ = some (.int .i64 c2.de) ∧ c < q ∧ t < q ∧ p < q ∧ q < w'.heap.size ∧ Below w.heap.size w w'
set_option maxRecDepth 100000 in
set_option maxHeartbeats 4000000 in
theorem client_tail (w w1 : World) (a : Act) (r b : Nat) (c2 : Cf) (hs : a.tmps.size = 47) (hd : a.defers = []) (f2 : a.tmps.getD 2 undef = .pointer (some ⟨r, 0, none⟩)) (f3 : a.tmps.getD 3 undef = .bool false) (f4 : a.tmps.getD 4 undef = .pointer (some ⟨b, 0, none⟩))
    (hr : w1.heap[r]? = some (.cells #[.pointer none, .pointer none] 29 (0, 0))) (hb : w1.heap[b]? = some (.cells #[.int .i64 c2.cl, .int .i64 c2.de, .int .i64 c2.ne, .int .i64 c2.li, .int .i64 c2.pr, .int .i64 c2.qu, .int .i64 c2.ho] 23 (0, 0))) (hlo : w.heap.size ≤ r) (hW : Below w.heap.size w w1) (h1 : newOK 1 1 c2.ho) (h2 : rightP c2) (h3 : 1 ≤ c2.cl) :
    cTail.wp Tryz.prog (bodyPost Tryz.prog Tryz.f7 (clientPost w)) a w1 := by
  conv => pattern cTail; whnf
  have h9 := frame47 a hs hd
  rw [f2, f3, f4] at h9
  generalize a.tmps = u at h9
  subst h9
  have HNEW := hid (call_new 1 1 c2 h1 h2 h3)
  have HRN := hid (r_call_new 1 1 c2 h1 h2 h3)
  have HR := hid hr
  have HB := hid hb
  have HW := hid hW
  have HR2 := hid h2
  have b1 := blk7 hb
  unfold Cf.v at HNEW HRN
  clear hs hd f2 f3 f4 hr hb hW h1 h2 h3
  go_wp2_with fail
  refine (HNEW.out _).mono ?_; rintro e w2 ⟨c, t, B, p, rfl, hC, hcz, htz, hBz, hb2⟩
  have HC := hid hC
  have HZ := hid (And.intro hcz (And.intro htz hBz))
  have hb3 := heap_below hb2 HB.out (blk_lt HB.out)
  have b3 := blk7 hb3
  have HR3 := hid (heap_below hb2 HR.out (blk_lt HR.out))
  have HW2 := hid (HW.out.trans (hb2.mono HW.out.size))
  clear b1 hC hcz htz hBz hb2 hb3
  go_wp2_with fail
  refine (HRN.out _).mono ?_; rintro e w3 ⟨q, rfl, hq0, hq3, hqz, hb4⟩
  have HC4 := hid (HC.out.below hb4)
  have HQ := hid (And.intro hq0 (And.intro hq3 hqz))
  have hr4 := heap_below hb4 HR3.out (blk_lt HR3.out)
  have HR4 := hid hr4
  have br := blk2 hr4
  have HW3 := hid (HW2.out.trans (hb4.mono HW2.out.size))
  have hcl := blk_lt HC.out.hc
  have htl := HC.out.ht.lt
  have hpl := HC.out.hp.lt
  have hrl := blk_lt HR.out
  have hrl3 := blk_lt HR3.out
  clear b3 hb4 hr4 hq0 hq3 hqz
  go_wp2
  (try simp only [Exit.inBlock, Exit.then])
  refine gen_w (P := fun w' => bodyPost Tryz.prog Tryz.f7 (clientPost w) Exit.ret _ w') (S := fun w4 => Chg (fun j => j = r) w3 w4 ∧ w4.heap[r]? = some (.cells #[.pointer (some ⟨c, 0, none⟩), .pointer (some ⟨q, 0, none⟩)] 29 (0, 0))) _ ⟨?_, ?_⟩ ?_
  · iterate 2 refine Chg.set1 ?_ _ _ rfl
    exact Chg.refl _ _
  · have h9 := heap_set (heap_set HR4.out 0 (.pointer (some ⟨c, 0, none⟩))) 1 (.pointer (some ⟨q, 0, none⟩))
    simp only [List.setIfInBounds_toArray, List.set_cons_zero, List.set_cons_succ] at h9
    exact h9
  rintro w4 ⟨hc4, hr4⟩
  have b4 := blk2 hr4
  have hzz := HZ.out
  have hww := HW.out.size
  have hC4 := HC4.out.chg hc4 (by omega) (by omega) (HC4.out.hp.chg hc4 (fun k hk e => by have := hk.1; omega))
  have hqc : w4.cell? ⟨q, 3, none⟩ = some (.int .i64 c2.de) := by
    have h8 := hc4.block q HQ.out.2.2 (by have := HQ.out.1; omega)
    have h7 := HQ.out.2.1
    simp only [World.cell?, h8] at h7 ⊢
    exact h7
  have hW4 := HW3.out.trans (hc4.toBelow HW3.out.size fun i hi hf => by omega)
  have HF := hid (And.intro hC4 (And.intro hqc hW4))
  have hq4 : q < w4.heap.size := Nat.lt_of_lt_of_le HQ.out.2.2 hc4.size
  have hq0 := HQ.out.1
  clear br hc4 hr4 hC4 hqc hW4
  refine bodyPost_ret (v := .tuple #[.agg #[.pointer (some ⟨c, 0, none⟩), .pointer (some ⟨q, 0, none⟩)], .bool true]) (by simp [results, Tryz.results7, go_sem, b4]) rfl ⟨c, t, B, p, q, c2, rfl, HR2.out, HF.out.1, by omega, by omega, by omega, HF.out.2.1, by omega, by omega, by omega, hq4, HF.out.2.2⟩
set_option maxRecDepth 100000 in
set_option maxHeartbeats 8000000 in
theorem law_client (cf : Cf) (w : World) : Calls Tryz.prog 7 #[cf.v] w (clientPost w) := by
  have HN := hid (heap_old (heap_new w (.cells #[.int .i64 cf.cl, .int .i64 cf.de, .int .i64 cf.ne, .int .i64 cf.li, .int .i64 cf.pr, .int .i64 cf.qu, .int .i64 cf.ho] 23)) (.cells #[.pointer none, .pointer none] 29))
  have hR := heap_new (w.alloc (.cells #[.int .i64 cf.cl, .int .i64 cf.de, .int .i64 cf.ne, .int .i64 cf.li, .int .i64 cf.pr, .int .i64 cf.qu, .int .i64 cf.ho] 23)) (.cells #[.pointer none, .pointer none] 29)
  rw [World.size_alloc] at hR
  have HR := hid hR
  have HB := hid (bl2 w (.cells #[.int .i64 cf.cl, .int .i64 cf.de, .int .i64 cf.ne, .int .i64 cf.li, .int .i64 cf.pr, .int .i64 cf.qu, .int .i64 cf.ho] 23) (.cells #[.pointer none, .pointer none] 29))
  have b := blk7 HN.out
  obtain ⟨w0, hw0⟩ : ∃ w0, w0 = (w.alloc (.cells #[.int .i64 cf.cl, .int .i64 cf.de, .int .i64 cf.ne, .int .i64 cf.li, .int .i64 cf.pr, .int .i64 cf.qu, .int .i64 cf.ho] 23)).alloc (.cells #[.pointer none, .pointer none] 29) := ⟨_, rfl⟩
  have HW0 := hid hw0
  have hwz : w.heap.size + 2 = w0.heap.size := by rw [hw0]; simp
  rw [← hw0] at HN HR HB b
  have KR : w0.cell? ⟨w.heap.size, 1, none⟩ = some (.int .i64 cf.de) ∧ w0.cell? ⟨w.heap.size, 2, none⟩ = some (.int .i64 cf.ne) ∧ w0.cell? ⟨w.heap.size, 3, none⟩ = some (.int .i64 cf.li) ∧ w0.cell? ⟨w.heap.size, 6, none⟩ = some (.int .i64 cf.ho) := ⟨b.2.1, b.2.2.1, b.2.2.2.1, b.2.2.2.2.2.2.1⟩
  have KRd : w0.drew.cell? ⟨w.heap.size, 1, none⟩ = some (.int .i64 cf.de) ∧ w0.drew.cell? ⟨w.heap.size, 2, none⟩ = some (.int .i64 cf.ne) ∧ w0.drew.cell? ⟨w.heap.size, 3, none⟩ = some (.int .i64 cf.li) ∧ w0.drew.cell? ⟨w.heap.size, 6, none⟩ = some (.int .i64 cf.ho) := KR
  have n1 := Int.emod_nonneg cf.de (show (64 : Int) ≠ 0 by decide); have m1 := Int.emod_lt_of_pos cf.de (show (0 : Int) < 64 by decide)
  have n2 := Int.emod_nonneg cf.ne (show (16 : Int) ≠ 0 by decide); have m2 := Int.emod_lt_of_pos cf.ne (show (0 : Int) < 16 by decide)
  have n3 := Int.emod_nonneg cf.li (show (9 : Int) ≠ 0 by decide); have m3 := Int.emod_lt_of_pos cf.li (show (0 : Int) < 9 by decide)
  have n4 := Int.emod_nonneg cf.ho (show (9 : Int) ≠ 0 by decide); have m4 := Int.emod_lt_of_pos cf.ho (show (0 : Int) < 9 by decide)
  have hw1 : IntKind.i64.wrap (1 + cf.de % 64) = 1 + cf.de % 64 := IntWalk.i64_in _ (by omega)
  have hw2 : IntKind.i64.wrap (1 + cf.ne % 16) = 1 + cf.ne % 16 := IntWalk.i64_in _ (by omega)
  have HOK := hid (show newOK 1 1 (cf.ho % 9) ∧ rightP ⟨2, 1 + cf.de % 64, 1 + cf.ne % 16, cf.li % 9, 4, 4, cf.ho % 9⟩ from ⟨by unfold newOK; omega, by unfold rightP; simp only []; omega⟩)
  clear hR hw0 n1 m1 n2 m2 n3 m3 n4 m4
  unfold Cf.v
  go_enter Tryz.func7, Tryz.ntmps7
  refine wp_seq_k fun K0 hK0 => ?_
  have HK0 := hid hK0
  clear hK0
  go_wp2
  refine HK0.out _ _ ?_
  rw [← HW0.out]
  clear HK0 HW0
  refine wp_seq_k fun K1 hK1 => ?_
  have HK1 := hid hK1
  clear hK1
  go_region_held3 (fun w' => w'.cell? ⟨w.heap.size, 1, none⟩ = some (.int .i64 cf.de) ∧ w'.cell? ⟨w.heap.size, 2, none⟩ = some (.int .i64 cf.ne) ∧ w'.cell? ⟨w.heap.size, 3, none⟩ = some (.int .i64 cf.li) ∧ w'.cell? ⟨w.heap.size, 6, none⟩ = some (.int .i64 cf.ho))
    (first | with_reducible exact KR | with_reducible exact KRd | go_keep)
    (first | (go_at_call 10; refine (place_pos _ _ _ (by omega) (by omega)).mono ?_; rintro e w2 ⟨rfl, rfl⟩))
  all_goals
    simp only [Exit.then]
    refine HK1.out _ _ ?_
    refine client_tail w _ _ (w.heap.size + 1) w0.heap.size ⟨2, 1 + cf.de % 64, 1 + cf.ne % 16, cf.li % 9, 4, 4, cf.ho % 9⟩ rfl rfl rfl rfl rfl ?_ ?_ (by omega) ?_ HOK.out.1 HOK.out.2 (show (1 : Int) ≤ 2 by decide)
    · exact heap_old HR.out _
    · exact heap_new w0 _
    · exact HB.out.trans ((bl1 w0 _).mono HB.out.size).drew
end Go.Proofs.YtbjibkjenleloaaGreatDoor

end

section
namespace Go.Proofs.YtbjibkjenleloaaGreatDoor
set_option linter.unusedVariables false
set_option linter.unusedSimpArgs false
open Go.RowKit
attribute [local go_sem ↓] Go.wp_at_zero Go.wp_at_succ
attribute [local go_sem] run_store_complex run_store_float

theorem frame202 (a : Act) (h : a.tmps.size = 202) (hd : a.defers = []) : a = { tmps := #[a.tmps.getD 0 undef, a.tmps.getD 1 undef, a.tmps.getD 2 undef, a.tmps.getD 3 undef, a.tmps.getD 4 undef, a.tmps.getD 5 undef, a.tmps.getD 6 undef, a.tmps.getD 7 undef, a.tmps.getD 8 undef, a.tmps.getD 9 undef, a.tmps.getD 10 undef, a.tmps.getD 11 undef, a.tmps.getD 12 undef, a.tmps.getD 13 undef, a.tmps.getD 14 undef, a.tmps.getD 15 undef, a.tmps.getD 16 undef, a.tmps.getD 17 undef, a.tmps.getD 18 undef, a.tmps.getD 19 undef, a.tmps.getD 20 undef, a.tmps.getD 21 undef, a.tmps.getD 22 undef, a.tmps.getD 23 undef, a.tmps.getD 24 undef, a.tmps.getD 25 undef, a.tmps.getD 26 undef, a.tmps.getD 27 undef, a.tmps.getD 28 undef, a.tmps.getD 29 undef, a.tmps.getD 30 undef, a.tmps.getD 31 undef, a.tmps.getD 32 undef, a.tmps.getD 33 undef, a.tmps.getD 34 undef, a.tmps.getD 35 undef, a.tmps.getD 36 undef, a.tmps.getD 37 undef, a.tmps.getD 38 undef, a.tmps.getD 39 undef, a.tmps.getD 40 undef, a.tmps.getD 41 undef, a.tmps.getD 42 undef, a.tmps.getD 43 undef, a.tmps.getD 44 undef, a.tmps.getD 45 undef, a.tmps.getD 46 undef, a.tmps.getD 47 undef, a.tmps.getD 48 undef, a.tmps.getD 49 undef, a.tmps.getD 50 undef, a.tmps.getD 51 undef, a.tmps.getD 52 undef, a.tmps.getD 53 undef, a.tmps.getD 54 undef, a.tmps.getD 55 undef, a.tmps.getD 56 undef, a.tmps.getD 57 undef, a.tmps.getD 58 undef, a.tmps.getD 59 undef, a.tmps.getD 60 undef, a.tmps.getD 61 undef, a.tmps.getD 62 undef, a.tmps.getD 63 undef, a.tmps.getD 64 undef, a.tmps.getD 65 undef, a.tmps.getD 66 undef, a.tmps.getD 67 undef, a.tmps.getD 68 undef, a.tmps.getD 69 undef, a.tmps.getD 70 undef, a.tmps.getD 71 undef, a.tmps.getD 72 undef, a.tmps.getD 73 undef, a.tmps.getD 74 undef, a.tmps.getD 75 undef, a.tmps.getD 76 undef, a.tmps.getD 77 undef, a.tmps.getD 78 undef, a.tmps.getD 79 undef, a.tmps.getD 80 undef, a.tmps.getD 81 undef, a.tmps.getD 82 undef, a.tmps.getD 83 undef, a.tmps.getD 84 undef, a.tmps.getD 85 undef, a.tmps.getD 86 undef, a.tmps.getD 87 undef, a.tmps.getD 88 undef, a.tmps.getD 89 undef, a.tmps.getD 90 undef, a.tmps.getD 91 undef, a.tmps.getD 92 undef, a.tmps.getD 93 undef, a.tmps.getD 94 undef, a.tmps.getD 95 undef, a.tmps.getD 96 undef, a.tmps.getD 97 undef, a.tmps.getD 98 undef, a.tmps.getD 99 undef, a.tmps.getD 100 undef, a.tmps.getD 101 undef, a.tmps.getD 102 undef, a.tmps.getD 103 undef, a.tmps.getD 104 undef, a.tmps.getD 105 undef, a.tmps.getD 106 undef, a.tmps.getD 107 undef, a.tmps.getD 108 undef, a.tmps.getD 109 undef, a.tmps.getD 110 undef, a.tmps.getD 111 undef, a.tmps.getD 112 undef, a.tmps.getD 113 undef, a.tmps.getD 114 undef, a.tmps.getD 115 undef, a.tmps.getD 116 undef, a.tmps.getD 117 undef, a.tmps.getD 118 undef, a.tmps.getD 119 undef, a.tmps.getD 120 undef, a.tmps.getD 121 undef, a.tmps.getD 122 undef, a.tmps.getD 123 undef, a.tmps.getD 124 undef, a.tmps.getD 125 undef, a.tmps.getD 126 undef, a.tmps.getD 127 undef, a.tmps.getD 128 undef, a.tmps.getD 129 undef, a.tmps.getD 130 undef, a.tmps.getD 131 undef, a.tmps.getD 132 undef, a.tmps.getD 133 undef, a.tmps.getD 134 undef, a.tmps.getD 135 undef, a.tmps.getD 136 undef, a.tmps.getD 137 undef, a.tmps.getD 138 undef, a.tmps.getD 139 undef, a.tmps.getD 140 undef, a.tmps.getD 141 undef, a.tmps.getD 142 undef, a.tmps.getD 143 undef, a.tmps.getD 144 undef, a.tmps.getD 145 undef, a.tmps.getD 146 undef, a.tmps.getD 147 undef, a.tmps.getD 148 undef, a.tmps.getD 149 undef, a.tmps.getD 150 undef, a.tmps.getD 151 undef, a.tmps.getD 152 undef, a.tmps.getD 153 undef, a.tmps.getD 154 undef, a.tmps.getD 155 undef, a.tmps.getD 156 undef, a.tmps.getD 157 undef, a.tmps.getD 158 undef, a.tmps.getD 159 undef, a.tmps.getD 160 undef, a.tmps.getD 161 undef, a.tmps.getD 162 undef, a.tmps.getD 163 undef, a.tmps.getD 164 undef, a.tmps.getD 165 undef, a.tmps.getD 166 undef, a.tmps.getD 167 undef, a.tmps.getD 168 undef, a.tmps.getD 169 undef, a.tmps.getD 170 undef, a.tmps.getD 171 undef, a.tmps.getD 172 undef, a.tmps.getD 173 undef, a.tmps.getD 174 undef, a.tmps.getD 175 undef, a.tmps.getD 176 undef, a.tmps.getD 177 undef, a.tmps.getD 178 undef, a.tmps.getD 179 undef, a.tmps.getD 180 undef, a.tmps.getD 181 undef, a.tmps.getD 182 undef, a.tmps.getD 183 undef, a.tmps.getD 184 undef, a.tmps.getD 185 undef, a.tmps.getD 186 undef, a.tmps.getD 187 undef, a.tmps.getD 188 undef, a.tmps.getD 189 undef, a.tmps.getD 190 undef, a.tmps.getD 191 undef, a.tmps.getD 192 undef, a.tmps.getD 193 undef, a.tmps.getD 194 undef, a.tmps.getD 195 undef, a.tmps.getD 196 undef, a.tmps.getD 197 undef, a.tmps.getD 198 undef, a.tmps.getD 199 undef, a.tmps.getD 200 undef, a.tmps.getD 201 undef], defers := [] } := by
  obtain ⟨t, d⟩ := a
  simp only at h hd
  subst hd
  have h1 := arr_range t 202 h
  show Act.mk t [] = _
  have h2 : ((List.range 202).map fun i => t.getD i undef).toArray = #[t.getD 0 undef, t.getD 1 undef, t.getD 2 undef, t.getD 3 undef, t.getD 4 undef, t.getD 5 undef, t.getD 6 undef, t.getD 7 undef, t.getD 8 undef, t.getD 9 undef, t.getD 10 undef, t.getD 11 undef, t.getD 12 undef, t.getD 13 undef, t.getD 14 undef, t.getD 15 undef, t.getD 16 undef, t.getD 17 undef, t.getD 18 undef, t.getD 19 undef, t.getD 20 undef, t.getD 21 undef, t.getD 22 undef, t.getD 23 undef, t.getD 24 undef, t.getD 25 undef, t.getD 26 undef, t.getD 27 undef, t.getD 28 undef, t.getD 29 undef, t.getD 30 undef, t.getD 31 undef, t.getD 32 undef, t.getD 33 undef, t.getD 34 undef, t.getD 35 undef, t.getD 36 undef, t.getD 37 undef, t.getD 38 undef, t.getD 39 undef, t.getD 40 undef, t.getD 41 undef, t.getD 42 undef, t.getD 43 undef, t.getD 44 undef, t.getD 45 undef, t.getD 46 undef, t.getD 47 undef, t.getD 48 undef, t.getD 49 undef, t.getD 50 undef, t.getD 51 undef, t.getD 52 undef, t.getD 53 undef, t.getD 54 undef, t.getD 55 undef, t.getD 56 undef, t.getD 57 undef, t.getD 58 undef, t.getD 59 undef, t.getD 60 undef, t.getD 61 undef, t.getD 62 undef, t.getD 63 undef, t.getD 64 undef, t.getD 65 undef, t.getD 66 undef, t.getD 67 undef, t.getD 68 undef, t.getD 69 undef, t.getD 70 undef, t.getD 71 undef, t.getD 72 undef, t.getD 73 undef, t.getD 74 undef, t.getD 75 undef, t.getD 76 undef, t.getD 77 undef, t.getD 78 undef, t.getD 79 undef, t.getD 80 undef, t.getD 81 undef, t.getD 82 undef, t.getD 83 undef, t.getD 84 undef, t.getD 85 undef, t.getD 86 undef, t.getD 87 undef, t.getD 88 undef, t.getD 89 undef, t.getD 90 undef, t.getD 91 undef, t.getD 92 undef, t.getD 93 undef, t.getD 94 undef, t.getD 95 undef, t.getD 96 undef, t.getD 97 undef, t.getD 98 undef, t.getD 99 undef, t.getD 100 undef, t.getD 101 undef, t.getD 102 undef, t.getD 103 undef, t.getD 104 undef, t.getD 105 undef, t.getD 106 undef, t.getD 107 undef, t.getD 108 undef, t.getD 109 undef, t.getD 110 undef, t.getD 111 undef, t.getD 112 undef, t.getD 113 undef, t.getD 114 undef, t.getD 115 undef, t.getD 116 undef, t.getD 117 undef, t.getD 118 undef, t.getD 119 undef, t.getD 120 undef, t.getD 121 undef, t.getD 122 undef, t.getD 123 undef, t.getD 124 undef, t.getD 125 undef, t.getD 126 undef, t.getD 127 undef, t.getD 128 undef, t.getD 129 undef, t.getD 130 undef, t.getD 131 undef, t.getD 132 undef, t.getD 133 undef, t.getD 134 undef, t.getD 135 undef, t.getD 136 undef, t.getD 137 undef, t.getD 138 undef, t.getD 139 undef, t.getD 140 undef, t.getD 141 undef, t.getD 142 undef, t.getD 143 undef, t.getD 144 undef, t.getD 145 undef, t.getD 146 undef, t.getD 147 undef, t.getD 148 undef, t.getD 149 undef, t.getD 150 undef, t.getD 151 undef, t.getD 152 undef, t.getD 153 undef, t.getD 154 undef, t.getD 155 undef, t.getD 156 undef, t.getD 157 undef, t.getD 158 undef, t.getD 159 undef, t.getD 160 undef, t.getD 161 undef, t.getD 162 undef, t.getD 163 undef, t.getD 164 undef, t.getD 165 undef, t.getD 166 undef, t.getD 167 undef, t.getD 168 undef, t.getD 169 undef, t.getD 170 undef, t.getD 171 undef, t.getD 172 undef, t.getD 173 undef, t.getD 174 undef, t.getD 175 undef, t.getD 176 undef, t.getD 177 undef, t.getD 178 undef, t.getD 179 undef, t.getD 180 undef, t.getD 181 undef, t.getD 182 undef, t.getD 183 undef, t.getD 184 undef, t.getD 185 undef, t.getD 186 undef, t.getD 187 undef, t.getD 188 undef, t.getD 189 undef, t.getD 190 undef, t.getD 191 undef, t.getD 192 undef, t.getD 193 undef, t.getD 194 undef, t.getD 195 undef, t.getD 196 undef, t.getD 197 undef, t.getD 198 undef, t.getD 199 undef, t.getD 200 undef, t.getD 201 undef] := by kernel_rfl
  rw [← h2, ← h1]

noncomputable def muBody : Code := match Tryz.f3.body with | some c => c | none => Code.skip
/-- the memory of CallMutates behind its front -/
structure MuI (w w2 : World) (c t B p n o q X : Nat) (s : Cl) (td : Td) (L : List En) : Prop where
  at_ : CliAt w2 c t B p n s td L (fun _ => false)
  o_ : w2.heap[o]? = some (.cells #[.pointer (some ⟨c, 0, none⟩), .pointer (some ⟨q, 0, none⟩)] 29 (0, 0))
  low : w.heap.size ≤ c ∧ w.heap.size ≤ t ∧ w.heap.size ≤ B ∧ w.heap.size ≤ o ∧ w.heap.size ≤ X
  ab : c < o ∧ t < o ∧ p < o ∧ X < c ∧ X < t ∧ X < B
  bel : Below w.heap.size w w2
set_option maxRecDepth 100000 in
set_option maxHeartbeats 4000000 in
theorem mu_front (cf : Cf) (s : ByteArray) (xk xm er ve : Int) (xp xo : ByteArray) (w : World) (K : Code)
    (hK : ∀ (a : Act) (w2 : World) (c t B p o q X : Nat) (c2 : Cf), a.tmps.size = 202 → a.defers = [] → a.tmps.getD 1 undef = .string s → a.tmps.getD 3 undef = .int .i64 er → a.tmps.getD 4 undef = .int .i64 ve → a.tmps.getD 7 undef = .pointer (some ⟨X, 0, none⟩) → a.tmps.getD 11 undef = .pointer (some ⟨o, 0, none⟩) →
      chkErr s = 0 → rightP c2 → MuI w w2 c t B p 0 o q X (cl0 1 1 c2) (td0 1 1 c2.ho) [] → w2.heap[X]? = some (.cells #[.int .i64 xk, .string xp, .string xo, .int .i64 xm] 25 (0, 0)) → K.wp Tryz.prog (bodyPost Tryz.prog Tryz.f3 fun e w' => e = .returned (.bool true) ∧ Below w.heap.size w w') a w2) :
    (cutN 4 muBody K).wp Tryz.prog (bodyPost Tryz.prog Tryz.f3 fun e w' => e = .returned (.bool true) ∧ Below w.heap.size w w') { tmps := #[cf.v, .string s, .agg #[.int .i64 xk, .string xp, .string xo, .int .i64 xm], .int .i64 er, .int .i64 ve, undef, undef, undef, undef, undef, undef, undef, undef, undef, undef, undef, undef, undef, undef, undef, undef, undef, undef, undef, undef, undef, undef, undef, undef, undef, undef, undef, undef, undef, undef, undef, undef, undef, undef, undef, undef, undef, undef, undef, undef, undef, undef, undef, undef, undef, undef, undef, undef, undef, undef, undef, undef, undef, undef, undef, undef, undef, undef, undef, undef, undef, undef, undef, undef, undef, undef, undef, undef, undef, undef, undef, undef, undef, undef, undef, undef, undef, undef, undef, undef, undef, undef, undef, undef, undef, undef, undef, undef, undef, undef, undef, undef, undef, undef, undef, undef, undef, undef, undef, undef, undef, undef, undef, undef, undef, undef, undef, undef, undef, undef, undef, undef, undef, undef, undef, undef, undef, undef, undef, undef, undef, undef, undef, undef, undef, undef, undef, undef, undef, undef, undef, undef, undef, undef, undef, undef, undef, undef, undef, undef, undef, undef, undef, undef, undef, undef, undef, undef, undef, undef, undef, undef, undef, undef, undef, undef, undef, undef, undef, undef, undef, undef, undef, undef, undef, undef, undef, undef, undef, undef, undef, undef, undef, undef, undef, undef, undef, undef, undef, undef, undef, undef, undef, undef, undef, undef, undef, undef, undef, undef, undef, undef, undef, undef, undef, undef, undef], defers := [] } w := by
  have HKK := hid hK
  clear hK
  conv => pattern (cutN 4 muBody K); whnf
  simp only [cutN]
  have HX := hid (heap_new (w.alloc (.cells #[.int .i64 cf.cl, .int .i64 cf.de, .int .i64 cf.ne, .int .i64 cf.li, .int .i64 cf.pr, .int .i64 cf.qu, .int .i64 cf.ho] 23)) (.cells #[.int .i64 xk, .string xp, .string xo, .int .i64 xm] 25))
  have HCB := hid (heap_old (heap_new w (.cells #[.int .i64 cf.cl, .int .i64 cf.de, .int .i64 cf.ne, .int .i64 cf.li, .int .i64 cf.pr, .int .i64 cf.qu, .int .i64 cf.ho] 23)) (.cells #[.int .i64 xk, .string xp, .string xo, .int .i64 xm] 25))
  have HB := hid (bl2 w (.cells #[.int .i64 cf.cl, .int .i64 cf.de, .int .i64 cf.ne, .int .i64 cf.li, .int .i64 cf.pr, .int .i64 cf.qu, .int .i64 cf.ho] 23) (.cells #[.int .i64 xk, .string xp, .string xo, .int .i64 xm] 25))
  have b := blk7 HCB.out
  have hxs : (w.alloc (.cells #[.int .i64 cf.cl, .int .i64 cf.de, .int .i64 cf.ne, .int .i64 cf.li, .int .i64 cf.pr, .int .i64 cf.qu, .int .i64 cf.ho] 23)).heap.size = w.heap.size + 1 := by simp
  have HXS := hid hxs
  clear hxs
  unfold Cf.v
  go_wp2_with fail
  refine (law_client cf _).mono ?_; rintro e w1 ⟨c, t, B, p, q, c2, rfl, hR2, hC1, hcz, htz, hBz, _, _, _, _, _, hb1⟩
  have HR2 := hid hR2
  have HB1 := hid (HB.out.trans (hb1.mono HB.out.size))
  simp only [World.size_alloc] at hcz htz hBz
  have HLO := hid (show w.heap.size + 2 ≤ c ∧ w.heap.size + 2 ≤ t ∧ w.heap.size + 2 ≤ B by omega)
  have HLZ := hid (And.intro (blk_lt hC1.hc) (And.intro hC1.ht.lt hC1.hp.lt))
  have hx1 : w1.heap[w.heap.size + 1]? = some (.cells #[.int .i64 xk, .string xp, .string xo, .int .i64 xm] 25 (0, 0)) := by
    have h1 := heap_below hb1 HX.out (by simp)
    rw [HXS.out] at h1
    exact h1
  have HX1 := hid (heap_old hx1 (.cells #[.pointer (some ⟨c, 0, none⟩), .pointer (some ⟨q, 0, none⟩)] 29))
  have HC1 := hid (hC1.below (bl1 w1 (.cells #[.pointer (some ⟨c, 0, none⟩), .pointer (some ⟨q, 0, none⟩)] 29)))
  have HO1 := hid (heap_new w1 (.cells #[.pointer (some ⟨c, 0, none⟩), .pointer (some ⟨q, 0, none⟩)] 29))
  have HB2 := hid (HB1.out.trans ((bl1 w1 (.cells #[.pointer (some ⟨c, 0, none⟩), .pointer (some ⟨q, 0, none⟩)] 29)).mono HB1.out.size))
  have bo := blk2 HO1.out
  clear b hR2 hC1 hcz htz hBz hb1 hx1
  go_wp2_with fail
  refine (check_any s _).mono ?_; rintro e w2 ⟨rfl, hb2⟩
  have HC2 := hid (HC1.out.below hb2)
  have HO2 := hid (heap_below hb2 HO1.out (blk_lt HO1.out))
  have HX2 := hid (heap_below hb2 HX1.out (blk_lt HX1.out))
  have HB3 := hid (HB2.out.trans (hb2.mono HB2.out.size))
  clear bo hb2
  by_cases hs : chkErr s = 0
  · rw [hs]
    have HS := hid hs
    clear hs
    go_wp2
    refine HKK.out _ w2 c t B p w1.heap.size q (w.heap.size + 1) c2 ?_ ?_ ?_ ?_ ?_ ?_ ?_ HS.out HR2.out ⟨HC2.out, HO2.out, ?_, ?_, HB3.out⟩ HX2.out
    iterate 7 rfl
    · have := HLO.out; have := HB1.out.size; omega
    · have h1 := HLO.out; have h2 := HLZ.out; omega
  · have t1 : (chkErr s != 0) = true := by simp [hs]
    have t2 : (chkErr s == 0) = false := by simp [hs]
    clear hs
    go_wp2_with fail
    refine (call_awake _).mono ?_; rintro e w4 ⟨rfl, hb4⟩
    have HB4 := hid (HB3.out.trans (hb4.mono HB3.out.size))
    clear hb4
    go_wp2
    go_ret
    exact ⟨rfl, HB4.out⟩
end Go.Proofs.YtbjibkjenleloaaGreatDoor

end
