/- Parts of a proof about the given program, in build order: CalU. No condition. -/
import Derived.Test.YtbjibkjenleloaaGreatDoorMg26
section
namespace Go.Proofs.YtbjibkjenleloaaGreatDoor
set_option linter.unusedVariables false
set_option linter.unusedSimpArgs false
open Go.RowKit
attribute [local go_sem ↓] Go.wp_at_zero Go.wp_at_succ
attribute [local go_sem] run_store_complex run_store_float


theorem cell_new1 (w : World) (o : Obj) (cs : Array Value) (T i : Nat) : ((w.alloc o).alloc (.cells cs T)).cell? ⟨w.heap.size + 1, i, none⟩ = cs[i]? := by
  have h := heap_new (w.alloc o) (.cells cs T)
  rw [World.size_alloc] at h
  simp only [World.cell?, h]
  cases cs[i]? <;> rfl
set_option maxHeartbeats 400000 in
theorem r_in_yes (x lo hi : Int) (h1 : lo ≤ x) (h2 : x ≤ hi) (w : World) : Calls Tryz.prog 76 #[.int .i64 x, .int .i64 lo, .int .i64 hi] w fun e w' => e = .returned (.bool true) ∧ w = w' := by
  have d1 : decide (x ≥ lo) = true := by simp; omega
  have d2 : decide (x ≤ hi) = true := by simp; omega
  have d3 : decide (lo ≤ x) = true := by simp; omega
  clear h1 h2
  go_enter Tryz.func76, Tryz.ntmps76
  go_wp2
  go_ret
  exact ⟨rfl, rfl⟩
set_option maxHeartbeats 4000000 in
theorem r_right (s : Cf) (h : rightP s) (w : World) : Calls Tryz.prog 50 #[s.v] w fun e w' => e = .returned (.bool true) ∧ Below w.heap.size w w' := by
  obtain ⟨c0, c1, c2, c3, c4, c5, c6⟩ := h
  have b := blk7 (heap_new w (.cells #[.int .i64 s.cl, .int .i64 s.de, .int .i64 s.ne, .int .i64 s.li, .int .i64 s.pr, .int .i64 s.qu, .int .i64 s.ho] 23))
  have HB := hid (bl1 w (.cells #[.int .i64 s.cl, .int .i64 s.de, .int .i64 s.ne, .int .i64 s.li, .int .i64 s.pr, .int .i64 s.qu, .int .i64 s.ho] 23))
  unfold Cf.v
  go_enter Tryz.func50, Tryz.ntmps50
  go_wp2_with fail
  refine (r_in_yes _ _ _ (by omega) (by omega) _).mono ?_; rintro e w1 ⟨rfl, rfl⟩
  go_wp2_with fail
  refine (r_in_yes _ _ _ (by omega) (by omega) _).mono ?_; rintro e w1 ⟨rfl, rfl⟩
  go_wp2_with fail
  refine (r_in_yes _ _ _ (by omega) (by omega) _).mono ?_; rintro e w1 ⟨rfl, rfl⟩
  go_wp2_with fail
  refine (r_in_yes _ _ _ (by omega) (by omega) _).mono ?_; rintro e w1 ⟨rfl, rfl⟩
  go_wp2_with fail
  refine (r_in_yes _ _ _ (by omega) (by omega) _).mono ?_; rintro e w1 ⟨rfl, rfl⟩
  go_wp2_with fail
  refine (r_in_yes _ _ _ (by omega) (by omega) _).mono ?_; rintro e w1 ⟨rfl, rfl⟩
  go_wp2_with fail
  refine (r_in_yes _ _ _ (by omega) (by omega) _).mono ?_; rintro e w1 ⟨rfl, rfl⟩
  go_wp2_with fail
  go_ret
  exact ⟨rfl, HB.out⟩
set_option maxHeartbeats 1000000 in
theorem r_tide_new (cl life hold : Int) (h : newOK cl life hold) (w : World) : Calls Tryz.prog 51 #[.int .i64 cl, .int .i64 life, .int .i64 hold] w fun e w' => e = .returned (.tuple #[.pointer (some ⟨w.heap.size, 0, none⟩), .int .i64 0]) ∧ Below w.heap.size w w' := by
  obtain ⟨c0, c1, c2, c3, c4, c5⟩ := h
  have d0 : decide (cl < 1) = false := by simp; omega
  have g0 : decide (cl < 1) = false := by simp; omega
  have d1 : decide (cl > 4) = false := by simp; omega
  have g1 : decide (4 < cl) = false := by simp; omega
  have d2 : decide (life < 1) = false := by simp; omega
  have g2 : decide (life < 1) = false := by simp; omega
  have d3 : decide (life > 1099511627776) = false := by simp; omega
  have g3 : decide (1099511627776 < life) = false := by simp; omega
  have d4 : decide (hold < 0) = false := by simp; omega
  have g4 : decide (hold < 0) = false := by simp; omega
  have d5 : decide (hold > 8) = false := by simp; omega
  have g5 : decide (8 < hold) = false := by simp; omega
  clear c0 c1 c2 c3 c4 c5
  go_enter Tryz.func51, Tryz.ntmps51
  go_wp2
  go_ret2
  exact ⟨rfl, bl1 w _⟩
set_option maxRecDepth 100000 in
set_option maxHeartbeats 4000000 in
theorem r_call_new (id life : Int) (cf : Cf) (c1 : newOK id life cf.ho) (c2 : rightP cf) (c3 : id ≤ cf.cl) (w : World) : Calls Tryz.prog 27 #[.int .i64 id, .int .i64 life, cf.v] w fun e w' => ∃ q, e = .returned (.tuple #[.pointer (some ⟨q, 0, none⟩), .int .i64 0]) ∧ w.heap.size ≤ q ∧ w'.cell? ⟨q, 3, none⟩ = some (.int .i64 cf.de) ∧ q < w'.heap.size ∧ Below w.heap.size w w' := by
  have b := blk7 (heap_new w (.cells #[.int .i64 cf.cl, .int .i64 cf.de, .int .i64 cf.ne, .int .i64 cf.li, .int .i64 cf.pr, .int .i64 cf.qu, .int .i64 cf.ho] 23))
  have HN := hid (heap_new w (.cells #[.int .i64 cf.cl, .int .i64 cf.de, .int .i64 cf.ne, .int .i64 cf.li, .int .i64 cf.pr, .int .i64 cf.qu, .int .i64 cf.ho] 23))
  have HB := hid (bl1 w (.cells #[.int .i64 cf.cl, .int .i64 cf.de, .int .i64 cf.ne, .int .i64 cf.li, .int .i64 cf.pr, .int .i64 cf.qu, .int .i64 cf.ho] 23))
  have HO := hid c1
  have HR := hid (r_right cf c2)
  unfold newOK at c1
  have d1 : decide (id > cf.cl) = false := by simp; omega
  have d2 : decide (cf.cl < id) = false := by simp; omega
  have d3 : decide (id < 1) = false := by simp; omega
  have d4 : decide (life < 1) = false := by simp; omega
  have d5 : decide (life > 1099511627776) = false := by simp; omega
  have d6 : decide (1099511627776 < life) = false := by simp; omega
  clear c1 c2 c3
  unfold Cf.v at HR ⊢
  go_enter Tryz.func27, Tryz.ntmps27
  go_wp2_with fail
  refine (HR.out _).mono ?_; rintro e w1 ⟨rfl, hb1⟩
  have HB1 := hid (HB.out.trans (hb1.mono HB.out.size))
  have hn1 := heap_below hb1 HN.out (blk_lt HN.out)
  have HN1 := hid hn1
  have b1 := blk7 hn1
  clear b hn1 hb1 HN
  go_wp2_with fail
  refine (r_tide_new _ _ _ HO.out _).mono ?_; rintro e w2 ⟨rfl, hb2⟩
  have HB2 := hid (HB1.out.trans (hb2.mono HB1.out.size))
  have hn2 := heap_below hb2 HN1.out (blk_lt HN1.out)
  have HN2 := hid hn2
  have b2 := blk7 hn2
  have hz2 := HB2.out.size
  have hnz := blk_lt hn2
  clear b1 hn2 hb2 HN1
  go_wp2
  go_ret2
  refine ⟨w2.heap.size + 1, rfl, by omega, (cell_new1 w2 _ _ _ 3).trans rfl, by simp, HB2.out.trans ((bl2 w2 _ _).mono HB2.out.size)⟩
theorem frame47 (a : Act) (h : a.tmps.size = 47) (hd : a.defers = []) : a = { tmps := #[a.tmps.getD 0 undef, a.tmps.getD 1 undef, a.tmps.getD 2 undef, a.tmps.getD 3 undef, a.tmps.getD 4 undef, a.tmps.getD 5 undef, a.tmps.getD 6 undef, a.tmps.getD 7 undef, a.tmps.getD 8 undef, a.tmps.getD 9 undef, a.tmps.getD 10 undef, a.tmps.getD 11 undef, a.tmps.getD 12 undef, a.tmps.getD 13 undef, a.tmps.getD 14 undef, a.tmps.getD 15 undef, a.tmps.getD 16 undef, a.tmps.getD 17 undef, a.tmps.getD 18 undef, a.tmps.getD 19 undef, a.tmps.getD 20 undef, a.tmps.getD 21 undef, a.tmps.getD 22 undef, a.tmps.getD 23 undef, a.tmps.getD 24 undef, a.tmps.getD 25 undef, a.tmps.getD 26 undef, a.tmps.getD 27 undef, a.tmps.getD 28 undef, a.tmps.getD 29 undef, a.tmps.getD 30 undef, a.tmps.getD 31 undef, a.tmps.getD 32 undef, a.tmps.getD 33 undef, a.tmps.getD 34 undef, a.tmps.getD 35 undef, a.tmps.getD 36 undef, a.tmps.getD 37 undef, a.tmps.getD 38 undef, a.tmps.getD 39 undef, a.tmps.getD 40 undef, a.tmps.getD 41 undef, a.tmps.getD 42 undef, a.tmps.getD 43 undef, a.tmps.getD 44 undef, a.tmps.getD 45 undef, a.tmps.getD 46 undef], defers := [] } := by
  obtain ⟨t, d⟩ := a
  simp only at h hd
  subst hd
  have h1 := arr_range t 47 h
  show Act.mk t [] = _
  have h2 : ((List.range 47).map fun i => t.getD i undef).toArray = #[t.getD 0 undef, t.getD 1 undef, t.getD 2 undef, t.getD 3 undef, t.getD 4 undef, t.getD 5 undef, t.getD 6 undef, t.getD 7 undef, t.getD 8 undef, t.getD 9 undef, t.getD 10 undef, t.getD 11 undef, t.getD 12 undef, t.getD 13 undef, t.getD 14 undef, t.getD 15 undef, t.getD 16 undef, t.getD 17 undef, t.getD 18 undef, t.getD 19 undef, t.getD 20 undef, t.getD 21 undef, t.getD 22 undef, t.getD 23 undef, t.getD 24 undef, t.getD 25 undef, t.getD 26 undef, t.getD 27 undef, t.getD 28 undef, t.getD 29 undef, t.getD 30 undef, t.getD 31 undef, t.getD 32 undef, t.getD 33 undef, t.getD 34 undef, t.getD 35 undef, t.getD 36 undef, t.getD 37 undef, t.getD 38 undef, t.getD 39 undef, t.getD 40 undef, t.getD 41 undef, t.getD 42 undef, t.getD 43 undef, t.getD 44 undef, t.getD 45 undef, t.getD 46 undef] := by kernel_rfl
  rw [← h2, ← h1]
noncomputable def cTail : Code := sndN 2 (match Tryz.f7.body with | some c => c | none => Code.skip)
def clientPost (w : World) (e : Ending) (w' : World) : Prop := ∃ c t B p q c2, e = .returned (.tuple #[.agg #[.pointer (some ⟨c, 0, none⟩), .pointer (some ⟨q, 0, none⟩)], .bool true]) ∧ rightP c2 ∧ CliAt w' c t B p 0 (cl0 1 1 c2) (td0 1 1 c2.ho) [] (fun _ => false) ∧ w.heap.size ≤ c ∧ w.heap.size ≤ t ∧ w.heap.size ≤ B ∧ w'.cell? ⟨q, 3, none⟩ = some (.int .i64 c2.de) ∧ c < q ∧ t < q ∧ p < q ∧ q < w'.heap.size ∧ Below w.heap.size w w'
set_option maxRecDepth 100000 in
set_option maxHeartbeats 4000000 in
theorem client_tail (w w1 : World) (a : Act) (r b : Nat) (c2 : Cf) (hs : a.tmps.size = 47) (hd : a.defers = []) (f2 : a.tmps.getD 2 undef = .pointer (some ⟨r, 0, none⟩)) (f3 : a.tmps.getD 3 undef = .bool false) (f4 : a.tmps.getD 4 undef = .pointer (some ⟨b, 0, none⟩))
    (hr : w1.heap[r]? = some (.cells #[.pointer none, .pointer none] 29 (0, 0))) (hb : w1.heap[b]? = some (.cells #[.int .i64 c2.cl, .int .i64 c2.de, .int .i64 c2.ne, .int .i64 c2.li, .int .i64 c2.pr, .int .i64 c2.qu, .int .i64 c2.ho] 23 (0, 0))) (hlo : w.heap.size ≤ r) (hW : Below w.heap.size w w1) (h1 : newOK 1 1 c2.ho) (h2 : rightP c2) (h3 : 1 ≤ c2.cl) :
    cTail.wp Tryz.prog (bodyPost Tryz.prog Tryz.f7 (clientPost w)) a w1 := by
  conv => pattern cTail; whnf
  have h9 := frame47 a hs hd
  rw [f2, f3, f4] at h9
  generalize a.tmps = u at h9
  subst h9
  have HNEW := hid (call_new 1 1 c2 h1 h2 h3)
  have HRN := hid (r_call_new 1 1 c2 h1 h2 h3)
  have HR := hid hr
  have HB := hid hb
  have HW := hid hW
  have HR2 := hid h2
  have b1 := blk7 hb
  unfold Cf.v at HNEW HRN
  clear hs hd f2 f3 f4 hr hb hW h1 h2 h3
  go_wp2_with fail
  refine (HNEW.out _).mono ?_; rintro e w2 ⟨c, t, B, p, rfl, hC, hcz, htz, hBz, hb2⟩
  have HC := hid hC
  have HZ := hid (And.intro hcz (And.intro htz hBz))
  have hb3 := heap_below hb2 HB.out (blk_lt HB.out)
  have b3 := blk7 hb3
  have HR3 := hid (heap_below hb2 HR.out (blk_lt HR.out))
  have HW2 := hid (HW.out.trans (hb2.mono HW.out.size))
  clear b1 hC hcz htz hBz hb2 hb3
  go_wp2_with fail
  refine (HRN.out _).mono ?_; rintro e w3 ⟨q, rfl, hq0, hq3, hqz, hb4⟩
  have HC4 := hid (HC.out.below hb4)
  have HQ := hid (And.intro hq0 (And.intro hq3 hqz))
  have hr4 := heap_below hb4 HR3.out (blk_lt HR3.out)
  have HR4 := hid hr4
  have br := blk2 hr4
  have HW3 := hid (HW2.out.trans (hb4.mono HW2.out.size))
  have hcl := blk_lt HC.out.hc
  have htl := HC.out.ht.lt
  have hpl := HC.out.hp.lt
  have hrl := blk_lt HR.out
  have hrl3 := blk_lt HR3.out
  clear b3 hb4 hr4 hq0 hq3 hqz
  go_wp2
  (try simp only [Exit.inBlock, Exit.then])
  refine gen_w (P := fun w' => bodyPost Tryz.prog Tryz.f7 (clientPost w) Exit.ret _ w') (S := fun w4 => Chg (fun j => j = r) w3 w4 ∧ w4.heap[r]? = some (.cells #[.pointer (some ⟨c, 0, none⟩), .pointer (some ⟨q, 0, none⟩)] 29 (0, 0))) _ ⟨?_, ?_⟩ ?_
  · iterate 2 refine Chg.set1 ?_ _ _ rfl
    exact Chg.refl _ _
  · have h9 := heap_set (heap_set HR4.out 0 (.pointer (some ⟨c, 0, none⟩))) 1 (.pointer (some ⟨q, 0, none⟩))
    simp only [List.setIfInBounds_toArray, List.set_cons_zero, List.set_cons_succ] at h9
    exact h9
  rintro w4 ⟨hc4, hr4⟩
  have b4 := blk2 hr4
  have hzz := HZ.out
  have hww := HW.out.size
  have hC4 := HC4.out.chg hc4 (by omega) (by omega) (HC4.out.hp.chg hc4 (fun k hk e => by have := hk.1; omega))
  have hqc : w4.cell? ⟨q, 3, none⟩ = some (.int .i64 c2.de) := by
    have h8 := hc4.block q HQ.out.2.2 (by have := HQ.out.1; omega)
    have h7 := HQ.out.2.1
    simp only [World.cell?, h8] at h7 ⊢
    exact h7
  have hW4 := HW3.out.trans (hc4.toBelow HW3.out.size fun i hi hf => by omega)
  have HF := hid (And.intro hC4 (And.intro hqc hW4))
  have hq4 : q < w4.heap.size := Nat.lt_of_lt_of_le HQ.out.2.2 hc4.size
  have hq0 := HQ.out.1
  clear br hc4 hr4 hC4 hqc hW4
  refine bodyPost_ret (v := .tuple #[.agg #[.pointer (some ⟨c, 0, none⟩), .pointer (some ⟨q, 0, none⟩)], .bool true]) (by simp [results, Tryz.results7, go_sem, b4]) rfl ⟨c, t, B, p, q, c2, rfl, HR2.out, HF.out.1, by omega, by omega, by omega, HF.out.2.1, by omega, by omega, by omega, hq4, HF.out.2.2⟩
set_option maxRecDepth 100000 in
set_option maxHeartbeats 8000000 in
theorem law_client (cf : Cf) (w : World) : Calls Tryz.prog 7 #[cf.v] w (clientPost w) := by
  have HN := hid (heap_old (heap_new w (.cells #[.int .i64 cf.cl, .int .i64 cf.de, .int .i64 cf.ne, .int .i64 cf.li, .int .i64 cf.pr, .int .i64 cf.qu, .int .i64 cf.ho] 23)) (.cells #[.pointer none, .pointer none] 29))
  have hR := heap_new (w.alloc (.cells #[.int .i64 cf.cl, .int .i64 cf.de, .int .i64 cf.ne, .int .i64 cf.li, .int .i64 cf.pr, .int .i64 cf.qu, .int .i64 cf.ho] 23)) (.cells #[.pointer none, .pointer none] 29)
  rw [World.size_alloc] at hR
  have HR := hid hR
  have HB := hid (bl2 w (.cells #[.int .i64 cf.cl, .int .i64 cf.de, .int .i64 cf.ne, .int .i64 cf.li, .int .i64 cf.pr, .int .i64 cf.qu, .int .i64 cf.ho] 23) (.cells #[.pointer none, .pointer none] 29))
  have b := blk7 HN.out
  obtain ⟨w0, hw0⟩ : ∃ w0, w0 = (w.alloc (.cells #[.int .i64 cf.cl, .int .i64 cf.de, .int .i64 cf.ne, .int .i64 cf.li, .int .i64 cf.pr, .int .i64 cf.qu, .int .i64 cf.ho] 23)).alloc (.cells #[.pointer none, .pointer none] 29) := ⟨_, rfl⟩
  have HW0 := hid hw0
  have hwz : w.heap.size + 2 = w0.heap.size := by rw [hw0]; simp
  rw [← hw0] at HN HR HB b
  have KR : w0.cell? ⟨w.heap.size, 1, none⟩ = some (.int .i64 cf.de) ∧ w0.cell? ⟨w.heap.size, 2, none⟩ = some (.int .i64 cf.ne) ∧ w0.cell? ⟨w.heap.size, 3, none⟩ = some (.int .i64 cf.li) ∧ w0.cell? ⟨w.heap.size, 6, none⟩ = some (.int .i64 cf.ho) := ⟨b.2.1, b.2.2.1, b.2.2.2.1, b.2.2.2.2.2.2.1⟩
  have KRd : w0.drew.cell? ⟨w.heap.size, 1, none⟩ = some (.int .i64 cf.de) ∧ w0.drew.cell? ⟨w.heap.size, 2, none⟩ = some (.int .i64 cf.ne) ∧ w0.drew.cell? ⟨w.heap.size, 3, none⟩ = some (.int .i64 cf.li) ∧ w0.drew.cell? ⟨w.heap.size, 6, none⟩ = some (.int .i64 cf.ho) := KR
  have n1 := Int.emod_nonneg cf.de (show (64 : Int) ≠ 0 by decide); have m1 := Int.emod_lt_of_pos cf.de (show (0 : Int) < 64 by decide)
  have n2 := Int.emod_nonneg cf.ne (show (16 : Int) ≠ 0 by decide); have m2 := Int.emod_lt_of_pos cf.ne (show (0 : Int) < 16 by decide)
  have n3 := Int.emod_nonneg cf.li (show (9 : Int) ≠ 0 by decide); have m3 := Int.emod_lt_of_pos cf.li (show (0 : Int) < 9 by decide)
  have n4 := Int.emod_nonneg cf.ho (show (9 : Int) ≠ 0 by decide); have m4 := Int.emod_lt_of_pos cf.ho (show (0 : Int) < 9 by decide)
  have hw1 : IntKind.i64.wrap (1 + cf.de % 64) = 1 + cf.de % 64 := IntWalk.i64_in _ (by omega)
  have hw2 : IntKind.i64.wrap (1 + cf.ne % 16) = 1 + cf.ne % 16 := IntWalk.i64_in _ (by omega)
  have HOK := hid (show newOK 1 1 (cf.ho % 9) ∧ rightP ⟨2, 1 + cf.de % 64, 1 + cf.ne % 16, cf.li % 9, 4, 4, cf.ho % 9⟩ from ⟨by unfold newOK; omega, by unfold rightP; simp only []; omega⟩)
  clear hR hw0 n1 m1 n2 m2 n3 m3 n4 m4
  unfold Cf.v
  go_enter Tryz.func7, Tryz.ntmps7
  refine wp_seq_k fun K0 hK0 => ?_
  have HK0 := hid hK0
  clear hK0
  go_wp2
  refine HK0.out _ _ ?_
  rw [← HW0.out]
  clear HK0 HW0
  refine wp_seq_k fun K1 hK1 => ?_
  have HK1 := hid hK1
  clear hK1
  go_region_held3 (fun w' => w'.cell? ⟨w.heap.size, 1, none⟩ = some (.int .i64 cf.de) ∧ w'.cell? ⟨w.heap.size, 2, none⟩ = some (.int .i64 cf.ne) ∧ w'.cell? ⟨w.heap.size, 3, none⟩ = some (.int .i64 cf.li) ∧ w'.cell? ⟨w.heap.size, 6, none⟩ = some (.int .i64 cf.ho))
    (first | with_reducible exact KR | with_reducible exact KRd | go_keep)
    (first | (go_at_call 10; refine (place_pos _ _ _ (by omega) (by omega)).mono ?_; rintro e w2 ⟨rfl, rfl⟩))
  all_goals
    simp only [Exit.then]
    refine HK1.out _ _ ?_
    refine client_tail w _ _ (w.heap.size + 1) w0.heap.size ⟨2, 1 + cf.de % 64, 1 + cf.ne % 16, cf.li % 9, 4, 4, cf.ho % 9⟩ rfl rfl rfl rfl rfl ?_ ?_ (by omega) ?_ HOK.out.1 HOK.out.2 (show (1 : Int) ≤ 2 by decide)
    · exact heap_old HR.out _
    · exact heap_new w0 _
    · exact HB.out.trans ((bl1 w0 _).mono HB.out.size).drew
end Go.Proofs.YtbjibkjenleloaaGreatDoor

end
