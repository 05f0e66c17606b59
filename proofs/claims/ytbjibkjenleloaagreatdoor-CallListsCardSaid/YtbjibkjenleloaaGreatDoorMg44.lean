/- Parts of a proof about the given program, in build order: CalU, CmuJ, LstU, LstV, LstW. No condition. -/
import Derived.Test.YtbjibkjenleloaaGreatDoorMg43
import Derived.Test.YtbjibkjenleloaaGreatDoorMg34
import Derived.Test.YtbjibkjenleloaaGreatDoorMg39
section
namespace Go.Proofs.YtbjibkjenleloaaGreatDoor
set_option linter.unusedVariables false
set_option linter.unusedSimpArgs false
open Go.RowKit
attribute [local go_sem ↓] Go.wp_at_zero Go.wp_at_succ
attribute [local go_sem] run_store_complex run_store_float


theorem cell_new1 (w : World) (o : Obj) (cs : Array Value) (T i : Nat) : ((w.alloc o).alloc (.cells cs T)).cell? ⟨w.heap.size + 1, i, none⟩ = cs[i]? := by
  have h := heap_new (w.alloc o) (.cells cs T)
  rw [World.size_alloc] at h
  simp only [World.cell?, h]
  cases cs[i]? <;> rfl
set_option maxHeartbeats 400000 in
theorem r_in_yes (x lo hi : Int) (h1 : lo ≤ x) (h2 : x ≤ hi) (w : World) : Calls Tryz.prog 76 #[.int .i64 x, .int .i64 lo, .int .i64 hi] w fun e w' => e = .returned (.bool true) ∧ w = w' := by
  have d1 : decide (x ≥ lo) = true := by simp; omega
  have d2 : decide (x ≤ hi) = true := by simp; omega
  have d3 : decide (lo ≤ x) = true := by simp; omega
  clear h1 h2
  go_enter Tryz.func76, Tryz.ntmps76
  go_wp2
  go_ret
  exact ⟨rfl, rfl⟩
set_option maxHeartbeats 4000000 in
theorem r_right (s : Cf) (h : rightP s) (w : World) : Calls Tryz.prog 50 #[s.v] w fun e w' => e = .returned (.bool true) ∧ Below w.heap.size w w' := by
  obtain ⟨c0, c1, c2, c3, c4, c5, c6⟩ := h
  have b := blk7 (heap_new w (.cells #[.int .i64 s.cl, .int .i64 s.de, .int .i64 s.ne, .int .i64 s.li, .int .i64 s.pr, .int .i64 s.qu, .int .i64 s.ho] 23))
  have HB := hid (bl1 w (.cells #[.int .i64 s.cl, .int .i64 s.de, .int .i64 s.ne, .int .i64 s.li, .int .i64 s.pr, .int .i64 s.qu, .int .i64 s.ho] 23))
  unfold Cf.v
  go_enter Tryz.func50, Tryz.ntmps50
  go_wp2_with fail
  refine (r_in_yes _ _ _ (by omega) (by omega) _).mono ?_; rintro e w1 ⟨rfl, rfl⟩
  go_wp2_with fail
  refine (r_in_yes _ _ _ (by omega) (by omega) _).mono ?_; rintro e w1 ⟨rfl, rfl⟩
  go_wp2_with fail
  refine (r_in_yes _ _ _ (by omega) (by omega) _).mono ?_; rintro e w1 ⟨rfl, rfl⟩
  go_wp2_with fail
  refine (r_in_yes _ _ _ (by omega) (by omega) _).mono ?_; rintro e w1 ⟨rfl, rfl⟩
  go_wp2_with fail
  refine (r_in_yes _ _ _ (by omega) (by omega) _).mono ?_; rintro e w1 ⟨rfl, rfl⟩
  go_wp2_with fail
  refine (r_in_yes _ _ _ (by omega) (by omega) _).mono ?_; rintro e w1 ⟨rfl, rfl⟩
  go_wp2_with fail
  refine (r_in_yes _ _ _ (by omega) (by omega) _).mono ?_; rintro e w1 ⟨rfl, rfl⟩
  go_wp2_with fail
  go_ret
  exact ⟨rfl, HB.out⟩
set_option maxHeartbeats 1000000 in
theorem r_tide_new (cl life hold : Int) (h : newOK cl life hold) (w : World) : Calls Tryz.prog 51 #[.int .i64 cl, .int .i64 life, .int .i64 hold] w fun e w' => e = .returned (.tuple #[.pointer (some ⟨w.heap.size, 0, none⟩), .int .i64 0]) ∧ Below w.heap.size w w' := by
  obtain ⟨c0, c1, c2, c3, c4, c5⟩ := h
  have d0 : decide (cl < 1) = false := by simp; omega
  have g0 : decide (cl < 1) = false := by simp; omega
  have d1 : decide (cl > 4) = false := by simp; omega
  have g1 : decide (4 < cl) = false := by simp; omega
  have d2 : decide (life < 1) = false := by simp; omega
  have g2 : decide (life < 1) = false := by simp; omega
  have d3 : decide (life > 1099511627776) = false := by simp; omega
  have g3 : decide (1099511627776 < life) = false := by simp; omega
  have d4 : decide (hold < 0) = false := by simp; omega
  have g4 : decide (hold < 0) = false := by simp; omega
  have d5 : decide (hold > 8) = false := by simp; omega
  have g5 : decide (8 < hold) = false := by simp; omega
  clear c0 c1 c2 c3 c4 c5
  go_enter Tryz.func51, Tryz.ntmps51
  go_wp2
  go_ret2
  exact ⟨rfl, bl1 w _⟩
set_option maxRecDepth 100000 in
set_option maxHeartbeats 4000000 in
theorem r_call_new (id life : Int) (cf : Cf) (c1 : newOK id life cf.ho) (c2 : rightP cf) (c3 : id ≤ cf.cl) (w : World) : Calls Tryz.prog 27 #[.int .i64 id, .int .i64 life, cf.v] w fun e w' => ∃ q, e = .returned (.tuple #[.pointer (some ⟨q, 0, none⟩), .int .i64 0]) ∧ w.heap.size ≤ q ∧ w'.cell? ⟨q, 3, none⟩ = some (.int .i64 cf.de) ∧ q < w'.heap.size ∧ Below w.heap.size w w' := by
  have b := blk7 (heap_new w (.cells #[.int .i64 cf.cl, .int .i64 cf.de, .int .i64 cf.ne, .int .i64 cf.li, .int .i64 cf.pr, .int .i64 cf.qu, .int .i64 cf.ho] 23))
  have HN := hid (heap_new w (.cells #[.int .i64 cf.cl, .int .i64 cf.de, .int .i64 cf.ne, .int .i64 cf.li, .int .i64 cf.pr, .int .i64 cf.qu, .int .i64 cf.ho] 23))
  have HB := hid (bl1 w (.cells #[.int .i64 cf.cl, .int .i64 cf.de, .int .i64 cf.ne, .int .i64 cf.li, .int .i64 cf.pr, .int .i64 cf.qu, .int .i64 cf.ho] 23))
  have HO := hid c1
  have HR := hid (r_right cf c2)
  unfold newOK at c1
  have d1 : decide (id > cf.cl) = false := by simp; omega
  have d2 : decide (cf.cl < id) = false := by simp; omega
  have d3 : decide (id < 1) = false := by simp; omega
  have d4 : decide (life < 1) = false := by simp; omega
  have d5 : decide (life > 1099511627776) = false := by simp; omega
  have d6 : decide (1099511627776 < life) = false := by simp; omega
  clear c1 c2 c3
  unfold Cf.v at HR ⊢
  go_enter Tryz.func27, Tryz.ntmps27
  go_wp2_with fail
  refine (HR.out _).mono ?_; rintro e w1 ⟨rfl, hb1⟩
  have HB1 := hid (HB.out.trans (hb1.mono HB.out.size))
  have hn1 := heap_below hb1 HN.out (blk_lt HN.out)
  have HN1 := hid hn1
  have b1 := blk7 hn1
  clear b hn1 hb1 HN
  go_wp2_with fail
  refine (r_tide_new _ _ _ HO.out _).mono ?_; rintro e w2 ⟨rfl, hb2⟩
  have HB2 := hid (HB1.out.trans (hb2.mono HB1.out.size))
  have hn2 := heap_below hb2 HN1.out (blk_lt HN1.out)
  have HN2 := hid hn2
  have b2 := blk7 hn2
  have hz2 := HB2.out.size
  have hnz := blk_lt hn2
  clear b1 hn2 hb2 HN1
  go_wp2
  go_ret2
  refine ⟨w2.heap.size + 1, rfl, by omega, (cell_new1 w2 _ _ _ 3).trans rfl, by simp, HB2.out.trans ((bl2 w2 _ _).mono HB2.out.size)⟩
theorem frame47 (a : Act) (h : a.tmps.size = 47) (hd : a.defers = []) : a = { tmps := #[a.tmps.getD 0 undef, a.tmps.getD 1 undef, a.tmps.getD 2 undef, a.tmps.getD 3 undef, a.tmps.getD 4 undef, a.tmps.getD 5 undef, a.tmps.getD 6 undef, a.tmps.getD 7 undef, a.tmps.getD 8 undef, a.tmps.getD 9 undef, a.tmps.getD 10 undef, a.tmps.getD 11 undef, a.tmps.getD 12 undef, a.tmps.getD 13 undef, a.tmps.getD 14 undef, a.tmps.getD 15 undef, a.tmps.getD 16 undef, a.tmps.getD 17 undef, a.tmps.getD 18 undef, a.tmps.getD 19 undef, a.tmps.getD 20 undef, a.tmps.getD 21 undef, a.tmps.getD 22 undef, a.tmps.getD 23 undef, a.tmps.getD 24 undef, a.tmps.getD 25 undef, a.tmps.getD 26 undef, a.tmps.getD 27 undef, a.tmps.getD 28 undef, a.tmps.getD 29 undef, a.tmps.getD 30 undef, a.tmps.getD 31 undef, a.tmps.getD 32 undef, a.tmps.getD 33 undef, a.tmps.getD 34 undef, a.tmps.getD 35 undef, a.tmps.getD 36 undef, a.tmps.getD 37 undef, a.tmps.getD 38 undef, a.tmps.getD 39 undef, a.tmps.getD 40 undef, a.tmps.getD 41 undef, a.tmps.getD 42 undef, a.tmps.getD 43 undef, a.tmps.getD 44 undef, a.tmps.getD 45 undef, a.tmps.getD 46 undef], defers := [] } := by
  obtain ⟨t, d⟩ := a
  simp only at h hd
  subst hd
  have h1 := arr_range t 47 h
  show Act.mk t [] = _
  have h2 : ((List.range 47).map fun i => t.getD i undef).toArray = #[t.getD 0 undef, t.getD 1 undef, t.getD 2 undef, t.getD 3 undef, t.getD 4 undef, t.getD 5 undef, t.getD 6 undef, t.getD 7 undef, t.getD 8 undef, t.getD 9 undef, t.getD 10 undef, t.getD 11 undef, t.getD 12 undef, t.getD 13 undef, t.getD 14 undef, t.getD 15 undef, t.getD 16 undef, t.getD 17 undef, t.getD 18 undef, t.getD 19 undef, t.getD 20 undef, t.getD 21 undef, t.getD 22 undef, t.getD 23 undef, t.getD 24 undef, t.getD 25 undef, t.getD 26 undef, t.getD 27 undef, t.getD 28 undef, t.getD 29 undef, t.getD 30 undef, t.getD 31 undef, t.getD 32 undef, t.getD 33 undef, t.getD 34 undef, t.getD 35 undef, t.getD 36 undef, t.getD 37 undef, t.getD 38 undef, t.getD 39 undef, t.getD 40 undef, t.getD 41 undef, t.getD 42 undef, t.getD 43 undef, t.getD 44 undef, t.getD 45 undef, t.getD 46 undef] := by kernel_rfl
  rw [← h2, ← h1]
noncomputable def cTail : Code := sndN 2 (match Tryz.f7.body with | some c => c | none => Code.skip)
def clientPost (w : World) (e : Ending) (w' : World) : Prop := ∃ c t B p q c2, e = .returned (.tuple #[.agg #[.pointer (some ⟨c, 0, none⟩), .pointer (some ⟨q, 0, none⟩)], .bool true]) ∧ rightP c2 ∧ CliAt w' c t B p 0 (cl0 1 1 c2) (td0 1 1 c2.ho) [] (fun _ => false) ∧ w.heap.size ≤ c ∧ w.heap.size ≤ t ∧ w.heap.size ≤ B ∧ w'.cell? ⟨q, 3, none⟩ = some (.int .i64 c2.de) ∧ c < q ∧ t < q ∧ p < q ∧ q < w'.heap.size ∧ Below w.heap.size w w'
set_option maxRecDepth 100000 in
set_option maxHeartbeats 4000000 in
theorem client_tail (w w1 : World) (a : Act) (r b : Nat) (c2 : Cf) (hs : a.tmps.size = 47) (hd : a.defers = []) (f2 : a.tmps.getD 2 undef = .pointer (some ⟨r, 0, none⟩)) (f3 : a.tmps.getD 3 undef = .bool false) (f4 : a.tmps.getD 4 undef = .pointer (some ⟨b, 0, none⟩))
    (hr : w1.heap[r]? = some (.cells #[.pointer none, .pointer none] 29 (0, 0))) (hb : w1.heap[b]? = some (.cells #[.int .i64 c2.cl, .int .i64 c2.de, .int .i64 c2.ne, .int .i64 c2.li, .int .i64 c2.pr, .int .i64 c2.qu, .int .i64 c2.ho] 23 (0, 0))) (hlo : w.heap.size ≤ r) (hW : Below w.heap.size w w1) (h1 : newOK 1 1 c2.ho) (h2 : rightP c2) (h3 : 1 ≤ c2.cl) :
    cTail.wp Tryz.prog (bodyPost Tryz.prog Tryz.f7 (clientPost w)) a w1 := by
  conv => pattern cTail; whnf
  have h9 := frame47 a hs hd
  rw [f2, f3, f4] at h9
  generalize a.tmps = u at h9
  subst h9
  have HNEW := hid (call_new 1 1 c2 h1 h2 h3)
  have HRN := hid (r_call_new 1 1 c2 h1 h2 h3)
  have HR := hid hr
  have HB := hid hb
  have HW := hid hW
  have HR2 := hid h2
  have b1 := blk7 hb
  unfold Cf.v at HNEW HRN
  clear hs hd f2 f3 f4 hr hb hW h1 h2 h3
  go_wp2_with fail
  refine (HNEW.out _).mono ?_; rintro e w2 ⟨c, t, B, p, rfl, hC, hcz, htz, hBz, hb2⟩
  have HC := hid hC
  have HZ := hid (And.intro hcz (And.intro htz hBz))
  have hb3 := heap_below hb2 HB.out (blk_lt HB.out)
  have b3 := blk7 hb3
  have HR3 := hid (heap_below hb2 HR.out (blk_lt HR.out))
  have HW2 := hid (HW.out.trans (hb2.mono HW.out.size))
  clear b1 hC hcz htz hBz hb2 hb3
  go_wp2_with fail
  refine (HRN.out _).mono ?_; rintro e w3 ⟨q, rfl, hq0, hq3, hqz, hb4⟩
  have HC4 := hid (HC.out.below hb4)
  have HQ := hid (And.intro hq0 (And.intro hq3 hqz))
  have hr4 := heap_below hb4 HR3.out (blk_lt HR3.out)
  have HR4 := hid hr4
  have br := blk2 hr4
  have HW3 := hid (HW2.out.trans (hb4.mono HW2.out.size))
  have hcl := blk_lt HC.out.hc
  have htl := HC.out.ht.lt
  have hpl := HC.out.hp.lt
  have hrl := blk_lt HR.out
  have hrl3 := blk_lt HR3.out
  clear b3 hb4 hr4 hq0 hq3 hqz
  go_wp2
  (try simp only [Exit.inBlock, Exit.then])
  refine gen_w (P := fun w' => bodyPost Tryz.prog Tryz.f7 (clientPost w) Exit.ret _ w') (S := fun w4 => Chg (fun j => j = r) w3 w4 ∧ w4.heap[r]? = some (.cells #[.pointer (some ⟨c, 0, none⟩), .pointer (some ⟨q, 0, none⟩)] 29 (0, 0))) _ ⟨?_, ?_⟩ ?_
  · iterate 2 refine Chg.set1 ?_ _ _ rfl
    exact Chg.refl _ _
  · have h9 := heap_set (heap_set HR4.out 0 (.pointer (some ⟨c, 0, none⟩))) 1 (.pointer (some ⟨q, 0, none⟩))
    simp only [List.setIfInBounds_toArray, List.set_cons_zero, List.set_cons_succ] at h9
    exact h9
  rintro w4 ⟨hc4, hr4⟩
  have b4 := blk2 hr4
  have hzz := HZ.out
  have hww := HW.out.size
  have hC4 := HC4.out.chg hc4 (by omega) (by omega) (HC4.out.hp.chg hc4 (fun k hk e => by have := hk.1; omega))
  have hqc : w4.cell? ⟨q, 3, none⟩ = some (.int .i64 c2.de) := by
    have h8 := hc4.block q HQ.out.2.2 (by have := HQ.out.1; omega)
    have h7 := HQ.out.2.1
    simp only [World.cell?, h8] at h7 ⊢
    exact h7
  have hW4 := HW3.out.trans (hc4.toBelow HW3.out.size fun i hi hf => by omega)
  have HF := hid (And.intro hC4 (And.intro hqc hW4))
  have hq4 : q < w4.heap.size := Nat.lt_of_lt_of_le HQ.out.2.2 hc4.size
  have hq0 := HQ.out.1
  clear br hc4 hr4 hC4 hqc hW4
  refine bodyPost_ret (v := .tuple #[.agg #[.pointer (some ⟨c, 0, none⟩), .pointer (some ⟨q, 0, none⟩)], .bool true]) (by simp [results, Tryz.results7, go_sem, b4]) rfl ⟨c, t, B, p, q, c2, rfl, HR2.out, HF.out.1, by omega, by omega, by omega, HF.out.2.1, by omega, by omega, by omega, hq4, HF.out.2.2⟩
set_option maxRecDepth 100000 in
set_option maxHeartbeats 8000000 in
theorem law_client (cf : Cf) (w : World) : Calls Tryz.prog 7 #[cf.v] w (clientPost w) := by
  have HN := hid (heap_old (heap_new w (.cells #[.int .i64 cf.cl, .int .i64 cf.de, .int .i64 cf.ne, .int .i64 cf.li, .int .i64 cf.pr, .int .i64 cf.qu, .int .i64 cf.ho] 23)) (.cells #[.pointer none, .pointer none] 29))
  have hR := heap_new (w.alloc (.cells #[.int .i64 cf.cl, .int .i64 cf.de, .int .i64 cf.ne, .int .i64 cf.li, .int .i64 cf.pr, .int .i64 cf.qu, .int .i64 cf.ho] 23)) (.cells #[.pointer none, .pointer none] 29)
  rw [World.size_alloc] at hR
  have HR := hid hR
  have HB := hid (bl2 w (.cells #[.int .i64 cf.cl, .int .i64 cf.de, .int .i64 cf.ne, .int .i64 cf.li, .int .i64 cf.pr, .int .i64 cf.qu, .int .i64 cf.ho] 23) (.cells #[.pointer none, .pointer none] 29))
  have b := blk7 HN.out
  obtain ⟨w0, hw0⟩ : ∃ w0, w0 = (w.alloc (.cells #[.int .i64 cf.cl, .int .i64 cf.de, .int .i64 cf.ne, .int .i64 cf.li, .int .i64 cf.pr, .int .i64 cf.qu, .int .i64 cf.ho] 23)).alloc (.cells #[.pointer none, .pointer none] 29) := ⟨_, rfl⟩
  have HW0 := hid hw0
  have hwz : w.heap.size + 2 = w0.heap.size := by rw [hw0]; simp
  rw [← hw0] at HN HR HB b
  have KR : w0.cell? ⟨w.heap.size, 1, none⟩ = some (.int .i64 cf.de) ∧ w0.cell? ⟨w.heap.size, 2, none⟩ = some (.int .i64 cf.ne) ∧ w0.cell? ⟨w.heap.size, 3, none⟩ = some (.int .i64 cf.li) ∧ w0.cell? ⟨w.heap.size, 6, none⟩ = some (.int .i64 cf.ho) := ⟨b.2.1, b.2.2.1, b.2.2.2.1, b.2.2.2.2.2.2.1⟩
  have KRd : w0.drew.cell? ⟨w.heap.size, 1, none⟩ = some (.int .i64 cf.de) ∧ w0.drew.cell? ⟨w.heap.size, 2, none⟩ = some (.int .i64 cf.ne) ∧ w0.drew.cell? ⟨w.heap.size, 3, none⟩ = some (.int .i64 cf.li) ∧ w0.drew.cell? ⟨w.heap.size, 6, none⟩ = some (.int .i64 cf.ho) := KR
  have n1 := Int.emod_nonneg cf.de (show (64 : Int) ≠ 0 by decide); have m1 := Int.emod_lt_of_pos cf.de (show (0 : Int) < 64 by decide)
  have n2 := Int.emod_nonneg cf.ne (show (16 : Int) ≠ 0 by decide); have m2 := Int.emod_lt_of_pos cf.ne (show (0 : Int) < 16 by decide)
  have n3 := Int.emod_nonneg cf.li (show (9 : Int) ≠ 0 by decide); have m3 := Int.emod_lt_of_pos cf.li (show (0 : Int) < 9 by decide)
  have n4 := Int.emod_nonneg cf.ho (show (9 : Int) ≠ 0 by decide); have m4 := Int.emod_lt_of_pos cf.ho (show (0 : Int) < 9 by decide)
  have hw1 : IntKind.i64.wrap (1 + cf.de % 64) = 1 + cf.de % 64 := IntWalk.i64_in _ (by omega)
  have hw2 : IntKind.i64.wrap (1 + cf.ne % 16) = 1 + cf.ne % 16 := IntWalk.i64_in _ (by omega)
  have HOK := hid (show newOK 1 1 (cf.ho % 9) ∧ rightP ⟨2, 1 + cf.de % 64, 1 + cf.ne % 16, cf.li % 9, 4, 4, cf.ho % 9⟩ from ⟨by unfold newOK; omega, by unfold rightP; simp only []; omega⟩)
  clear hR hw0 n1 m1 n2 m2 n3 m3 n4 m4
  unfold Cf.v
  go_enter Tryz.func7, Tryz.ntmps7
  refine wp_seq_k fun K0 hK0 => ?_
  have HK0 := hid hK0
  clear hK0
  go_wp2
  refine HK0.out _ _ ?_
  rw [← HW0.out]
  clear HK0 HW0
  refine wp_seq_k fun K1 hK1 => ?_
  have HK1 := hid hK1
  clear hK1
  go_region_held3 (fun w' => w'.cell? ⟨w.heap.size, 1, none⟩ = some (.int .i64 cf.de) ∧ w'.cell? ⟨w.heap.size, 2, none⟩ = some (.int .i64 cf.ne) ∧ w'.cell? ⟨w.heap.size, 3, none⟩ = some (.int .i64 cf.li) ∧ w'.cell? ⟨w.heap.size, 6, none⟩ = some (.int .i64 cf.ho))
    (first | with_reducible exact KR | with_reducible exact KRd | go_keep)
    (first | (go_at_call 10; refine (place_pos _ _ _ (by omega) (by omega)).mono ?_; rintro e w2 ⟨rfl, rfl⟩))
  all_goals
    simp only [Exit.then]
    refine HK1.out _ _ ?_
    refine client_tail w _ _ (w.heap.size + 1) w0.heap.size ⟨2, 1 + cf.de % 64, 1 + cf.ne % 16, cf.li % 9, 4, 4, cf.ho % 9⟩ rfl rfl rfl rfl rfl ?_ ?_ (by omega) ?_ HOK.out.1 HOK.out.2 (show (1 : Int) ≤ 2 by decide)
    · exact heap_old HR.out _
    · exact heap_new w0 _
    · exact HB.out.trans ((bl1 w0 _).mono HB.out.size).drew
end Go.Proofs.YtbjibkjenleloaaGreatDoor

end

section
namespace Go.Proofs.YtbjibkjenleloaaGreatDoor
set_option linter.unusedVariables false
set_option linter.unusedSimpArgs false
open Go.RowKit
attribute [local go_sem ↓] Go.wp_at_zero Go.wp_at_succ
attribute [local go_sem] run_store_complex run_store_float

theorem frame202 (a : Act) (h : a.tmps.size = 202) (hd : a.defers = []) : a = { tmps := #[a.tmps.getD 0 undef, a.tmps.getD 1 undef, a.tmps.getD 2 undef, a.tmps.getD 3 undef, a.tmps.getD 4 undef, a.tmps.getD 5 undef, a.tmps.getD 6 undef, a.tmps.getD 7 undef, a.tmps.getD 8 undef, a.tmps.getD 9 undef, a.tmps.getD 10 undef, a.tmps.getD 11 undef, a.tmps.getD 12 undef, a.tmps.getD 13 undef, a.tmps.getD 14 undef, a.tmps.getD 15 undef, a.tmps.getD 16 undef, a.tmps.getD 17 undef, a.tmps.getD 18 undef, a.tmps.getD 19 undef, a.tmps.getD 20 undef, a.tmps.getD 21 undef, a.tmps.getD 22 undef, a.tmps.getD 23 undef, a.tmps.getD 24 undef, a.tmps.getD 25 undef, a.tmps.getD 26 undef, a.tmps.getD 27 undef, a.tmps.getD 28 undef, a.tmps.getD 29 undef, a.tmps.getD 30 undef, a.tmps.getD 31 undef, a.tmps.getD 32 undef, a.tmps.getD 33 undef, a.tmps.getD 34 undef, a.tmps.getD 35 undef, a.tmps.getD 36 undef, a.tmps.getD 37 undef, a.tmps.getD 38 undef, a.tmps.getD 39 undef, a.tmps.getD 40 undef, a.tmps.getD 41 undef, a.tmps.getD 42 undef, a.tmps.getD 43 undef, a.tmps.getD 44 undef, a.tmps.getD 45 undef, a.tmps.getD 46 undef, a.tmps.getD 47 undef, a.tmps.getD 48 undef, a.tmps.getD 49 undef, a.tmps.getD 50 undef, a.tmps.getD 51 undef, a.tmps.getD 52 undef, a.tmps.getD 53 undef, a.tmps.getD 54 undef, a.tmps.getD 55 undef, a.tmps.getD 56 undef, a.tmps.getD 57 undef, a.tmps.getD 58 undef, a.tmps.getD 59 undef, a.tmps.getD 60 undef, a.tmps.getD 61 undef, a.tmps.getD 62 undef, a.tmps.getD 63 undef, a.tmps.getD 64 undef, a.tmps.getD 65 undef, a.tmps.getD 66 undef, a.tmps.getD 67 undef, a.tmps.getD 68 undef, a.tmps.getD 69 undef, a.tmps.getD 70 undef, a.tmps.getD 71 undef, a.tmps.getD 72 undef, a.tmps.getD 73 undef, a.tmps.getD 74 undef, a.tmps.getD 75 undef, a.tmps.getD 76 undef, a.tmps.getD 77 undef, a.tmps.getD 78 undef, a.tmps.getD 79 undef, a.tmps.getD 80 undef, a.tmps.getD 81 undef, a.tmps.getD 82 undef, a.tmps.getD 83 undef, a.tmps.getD 84 undef, a.tmps.getD 85 undef, a.tmps.getD 86 undef, a.tmps.getD 87 undef, a.tmps.getD 88 undef, a.tmps.getD 89 undef, a.tmps.getD 90 undef, a.tmps.getD 91 undef, a.tmps.getD 92 undef, a.tmps.getD 93 undef, a.tmps.getD 94 undef, a.tmps.getD 95 undef, a.tmps.getD 96 undef, a.tmps.getD 97 undef, a.tmps.getD 98 undef, a.tmps.getD 99 undef, a.tmps.getD 100 undef, a.tmps.getD 101 undef, a.tmps.getD 102 undef, a.tmps.getD 103 undef, a.tmps.getD 104 undef, a.tmps.getD 105 undef, a.tmps.getD 106 undef, a.tmps.getD 107 undef, a.tmps.getD 108 undef, a.tmps.getD 109 undef, a.tmps.getD 110 undef, a.tmps.getD 111 undef, a.tmps.getD 112 undef, a.tmps.getD 113 undef, a.tmps.getD 114 undef, a.tmps.getD 115 undef, a.tmps.getD 116 undef, a.tmps.getD 117 undef, a.tmps.getD 118 undef, a.tmps.getD 119 undef, a.tmps.getD 120 undef, a.tmps.getD 121 undef, a.tmps.getD 122 undef, a.tmps.getD 123 undef, a.tmps.getD 124 undef, a.tmps.getD 125 undef, a.tmps.getD 126 undef, a.tmps.getD 127 undef, a.tmps.getD 128 undef, a.tmps.getD 129 undef, a.tmps.getD 130 undef, a.tmps.getD 131 undef, a.tmps.getD 132 undef, a.tmps.getD 133 undef, a.tmps.getD 134 undef, a.tmps.getD 135 undef, a.tmps.getD 136 undef, a.tmps.getD 137 undef, a.tmps.getD 138 undef, a.tmps.getD 139 undef, a.tmps.getD 140 undef, a.tmps.getD 141 undef, a.tmps.getD 142 undef, a.tmps.getD 143 undef, a.tmps.getD 144 undef, a.tmps.getD 145 undef, a.tmps.getD 146 undef, a.tmps.getD 147 undef, a.tmps.getD 148 undef, a.tmps.getD 149 undef, a.tmps.getD 150 undef, a.tmps.getD 151 undef, a.tmps.getD 152 undef, a.tmps.getD 153 undef, a.tmps.getD 154 undef, a.tmps.getD 155 undef, a.tmps.getD 156 undef, a.tmps.getD 157 undef, a.tmps.getD 158 undef, a.tmps.getD 159 undef, a.tmps.getD 160 undef, a.tmps.getD 161 undef, a.tmps.getD 162 undef, a.tmps.getD 163 undef, a.tmps.getD 164 undef, a.tmps.getD 165 undef, a.tmps.getD 166 undef, a.tmps.getD 167 undef, a.tmps.getD 168 undef, a.tmps.getD 169 undef, a.tmps.getD 170 undef, a.tmps.getD 171 undef, a.tmps.getD 172 undef, a.tmps.getD 173 undef, a.tmps.getD 174 undef, a.tmps.getD 175 undef, a.tmps.getD 176 undef, a.tmps.getD 177 undef, a.tmps.getD 178 undef, a.tmps.getD 179 undef, a.tmps.getD 180 undef, a.tmps.getD 181 undef, a.tmps.getD 182 undef, a.tmps.getD 183 undef, a.tmps.getD 184 undef, a.tmps.getD 185 undef, a.tmps.getD 186 undef, a.tmps.getD 187 undef, a.tmps.getD 188 undef, a.tmps.getD 189 undef, a.tmps.getD 190 undef, a.tmps.getD 191 undef, a.tmps.getD 192 undef, a.tmps.getD 193 undef, a.tmps.getD 194 undef, a.tmps.getD 195 undef, a.tmps.getD 196 undef, a.tmps.getD 197 undef, a.tmps.getD 198 undef, a.tmps.getD 199 undef, a.tmps.getD 200 undef, a.tmps.getD 201 undef], defers := [] } := by
  obtain ⟨t, d⟩ := a
  simp only at h hd
  subst hd
  have h1 := arr_range t 202 h
  show Act.mk t [] = _
  have h2 : ((List.range 202).map fun i => t.getD i undef).toArray = #[t.getD 0 undef, t.getD 1 undef, t.getD 2 undef, t.getD 3 undef, t.getD 4 undef, t.getD 5 undef, t.getD 6 undef, t.getD 7 undef, t.getD 8 undef, t.getD 9 undef, t.getD 10 undef, t.getD 11 undef, t.getD 12 undef, t.getD 13 undef, t.getD 14 undef, t.getD 15 undef, t.getD 16 undef, t.getD 17 undef, t.getD 18 undef, t.getD 19 undef, t.getD 20 undef, t.getD 21 undef, t.getD 22 undef, t.getD 23 undef, t.getD 24 undef, t.getD 25 undef, t.getD 26 undef, t.getD 27 undef, t.getD 28 undef, t.getD 29 undef, t.getD 30 undef, t.getD 31 undef, t.getD 32 undef, t.getD 33 undef, t.getD 34 undef, t.getD 35 undef, t.getD 36 undef, t.getD 37 undef, t.getD 38 undef, t.getD 39 undef, t.getD 40 undef, t.getD 41 undef, t.getD 42 undef, t.getD 43 undef, t.getD 44 undef, t.getD 45 undef, t.getD 46 undef, t.getD 47 undef, t.getD 48 undef, t.getD 49 undef, t.getD 50 undef, t.getD 51 undef, t.getD 52 undef, t.getD 53 undef, t.getD 54 undef, t.getD 55 undef, t.getD 56 undef, t.getD 57 undef, t.getD 58 undef, t.getD 59 undef, t.getD 60 undef, t.getD 61 undef, t.getD 62 undef, t.getD 63 undef, t.getD 64 undef, t.getD 65 undef, t.getD 66 undef, t.getD 67 undef, t.getD 68 undef, t.getD 69 undef, t.getD 70 undef, t.getD 71 undef, t.getD 72 undef, t.getD 73 undef, t.getD 74 undef, t.getD 75 undef, t.getD 76 undef, t.getD 77 undef, t.getD 78 undef, t.getD 79 undef, t.getD 80 undef, t.getD 81 undef, t.getD 82 undef, t.getD 83 undef, t.getD 84 undef, t.getD 85 undef, t.getD 86 undef, t.getD 87 undef, t.getD 88 undef, t.getD 89 undef, t.getD 90 undef, t.getD 91 undef, t.getD 92 undef, t.getD 93 undef, t.getD 94 undef, t.getD 95 undef, t.getD 96 undef, t.getD 97 undef, t.getD 98 undef, t.getD 99 undef, t.getD 100 undef, t.getD 101 undef, t.getD 102 undef, t.getD 103 undef, t.getD 104 undef, t.getD 105 undef, t.getD 106 undef, t.getD 107 undef, t.getD 108 undef, t.getD 109 undef, t.getD 110 undef, t.getD 111 undef, t.getD 112 undef, t.getD 113 undef, t.getD 114 undef, t.getD 115 undef, t.getD 116 undef, t.getD 117 undef, t.getD 118 undef, t.getD 119 undef, t.getD 120 undef, t.getD 121 undef, t.getD 122 undef, t.getD 123 undef, t.getD 124 undef, t.getD 125 undef, t.getD 126 undef, t.getD 127 undef, t.getD 128 undef, t.getD 129 undef, t.getD 130 undef, t.getD 131 undef, t.getD 132 undef, t.getD 133 undef, t.getD 134 undef, t.getD 135 undef, t.getD 136 undef, t.getD 137 undef, t.getD 138 undef, t.getD 139 undef, t.getD 140 undef, t.getD 141 undef, t.getD 142 undef, t.getD 143 undef, t.getD 144 undef, t.getD 145 undef, t.getD 146 undef, t.getD 147 undef, t.getD 148 undef, t.getD 149 undef, t.getD 150 undef, t.getD 151 undef, t.getD 152 undef, t.getD 153 undef, t.getD 154 undef, t.getD 155 undef, t.getD 156 undef, t.getD 157 undef, t.getD 158 undef, t.getD 159 undef, t.getD 160 undef, t.getD 161 undef, t.getD 162 undef, t.getD 163 undef, t.getD 164 undef, t.getD 165 undef, t.getD 166 undef, t.getD 167 undef, t.getD 168 undef, t.getD 169 undef, t.getD 170 undef, t.getD 171 undef, t.getD 172 undef, t.getD 173 undef, t.getD 174 undef, t.getD 175 undef, t.getD 176 undef, t.getD 177 undef, t.getD 178 undef, t.getD 179 undef, t.getD 180 undef, t.getD 181 undef, t.getD 182 undef, t.getD 183 undef, t.getD 184 undef, t.getD 185 undef, t.getD 186 undef, t.getD 187 undef, t.getD 188 undef, t.getD 189 undef, t.getD 190 undef, t.getD 191 undef, t.getD 192 undef, t.getD 193 undef, t.getD 194 undef, t.getD 195 undef, t.getD 196 undef, t.getD 197 undef, t.getD 198 undef, t.getD 199 undef, t.getD 200 undef, t.getD 201 undef] := by kernel_rfl
  rw [← h2, ← h1]

noncomputable def muBody : Code := match Tryz.f3.body with | some c => c | none => Code.skip
/-- the memory of CallMutates behind its front -/
structure MuI (w w2 : World) (c t B p n o q X : Nat) (s : Cl) (td : Td) (L : List En) : Prop where
  at_ : CliAt w2 c t B p n s td L (fun _ => false)
  o_ : w2.heap[o]? = some (.cells #[.pointer (some ⟨c, 0, none⟩), .pointer (some ⟨q, 0, none⟩)] 29 (0, 0))
  low : w.heap.size ≤ c ∧ w.heap.size ≤ t ∧ w.heap.size ≤ B ∧ w.heap.size ≤ o ∧ w.heap.size ≤ X
  ab : c < o ∧ t < o ∧ p < o ∧ X < c ∧ X < t ∧ X < B
  bel : Below w.heap.size w w2
set_option maxRecDepth 100000 in
set_option maxHeartbeats 4000000 in
theorem mu_front (cf : Cf) (s : ByteArray) (xk xm er ve : Int) (xp xo : ByteArray) (w : World) (K : Code)
    (hK : ∀ (a : Act) (w2 : World) (c t B p o q X : Nat) (c2 : Cf), a.tmps.size = 202 → a.defers = [] → a.tmps.getD 1 undef = .string s → a.tmps.getD 3 undef = .int .i64 er → a.tmps.getD 4 undef = .int .i64 ve → a.tmps.getD 7 undef = .pointer (some ⟨X, 0, none⟩) → a.tmps.getD 11 undef = .pointer (some ⟨o, 0, none⟩) →
      chkErr s = 0 → rightP c2 → MuI w w2 c t B p 0 o q X (cl0 1 1 c2) (td0 1 1 c2.ho) [] → w2.heap[X]? = some (.cells #[.int .i64 xk, .string xp, .string xo, .int .i64 xm] 25 (0, 0)) → K.wp Tryz.prog (bodyPost Tryz.prog Tryz.f3 fun e w' => e = .returned (.bool true) ∧ Below w.heap.size w w') a w2) :
    (cutN 4 muBody K).wp Tryz.prog (bodyPost Tryz.prog Tryz.f3 fun e w' => e = .returned (.bool true) ∧ Below w.heap.size w w') { tmps := #[cf.v, .string s, .agg #[.int .i64 xk, .string xp, .string xo, .int .i64 xm], .int .i64 er, .int .i64 ve, undef, undef, undef, undef, undef, undef, undef, undef, undef, undef, undef, undef, undef, undef, undef, undef, undef, undef, undef, undef, undef, undef, undef, undef, undef, undef, undef, undef, undef, undef, undef, undef, undef, undef, undef, undef, undef, undef, undef, undef, undef, undef, undef, undef, undef, undef, undef, undef, undef, undef, undef, undef, undef, undef, undef, undef, undef, undef, undef, undef, undef, undef, undef, undef, undef, undef, undef, undef, undef, undef, undef, undef, undef, undef, undef, undef, undef, undef, undef, undef, undef, undef, undef, undef, undef, undef, undef, undef, undef, undef, undef, undef, undef, undef, undef, undef, undef, undef, undef, undef, undef, undef, undef, undef, undef, undef, undef, undef, undef, undef, undef, undef, undef, undef, undef, undef, undef, undef, undef, undef, undef, undef, undef, undef, undef, undef, undef, undef, undef, undef, undef, undef, undef, undef, undef, undef, undef, undef, undef, undef, undef, undef, undef, undef, undef, undef, undef, undef, undef, undef, undef, undef, undef, undef, undef, undef, undef, undef, undef, undef, undef, undef, undef, undef, undef, undef, undef, undef, undef, undef, undef, undef, undef, undef, undef, undef, undef, undef, undef, undef, undef, undef, undef, undef, undef, undef, undef, undef, undef, undef, undef, undef, undef, undef, undef, undef, undef], defers := [] } w := by
  have HKK := hid hK
  clear hK
  conv => pattern (cutN 4 muBody K); whnf
  simp only [cutN]
  have HX := hid (heap_new (w.alloc (.cells #[.int .i64 cf.cl, .int .i64 cf.de, .int .i64 cf.ne, .int .i64 cf.li, .int .i64 cf.pr, .int .i64 cf.qu, .int .i64 cf.ho] 23)) (.cells #[.int .i64 xk, .string xp, .string xo, .int .i64 xm] 25))
  have HCB := hid (heap_old (heap_new w (.cells #[.int .i64 cf.cl, .int .i64 cf.de, .int .i64 cf.ne, .int .i64 cf.li, .int .i64 cf.pr, .int .i64 cf.qu, .int .i64 cf.ho] 23)) (.cells #[.int .i64 xk, .string xp, .string xo, .int .i64 xm] 25))
  have HB := hid (bl2 w (.cells #[.int .i64 cf.cl, .int .i64 cf.de, .int .i64 cf.ne, .int .i64 cf.li, .int .i64 cf.pr, .int .i64 cf.qu, .int .i64 cf.ho] 23) (.cells #[.int .i64 xk, .string xp, .string xo, .int .i64 xm] 25))
  have b := blk7 HCB.out
  have hxs : (w.alloc (.cells #[.int .i64 cf.cl, .int .i64 cf.de, .int .i64 cf.ne, .int .i64 cf.li, .int .i64 cf.pr, .int .i64 cf.qu, .int .i64 cf.ho] 23)).heap.size = w.heap.size + 1 := by simp
  have HXS := hid hxs
  clear hxs
  unfold Cf.v
  go_wp2_with fail
  refine (law_client cf _).mono ?_; rintro e w1 ⟨c, t, B, p, q, c2, rfl, hR2, hC1, hcz, htz, hBz, _, _, _, _, _, hb1⟩
  have HR2 := hid hR2
  have HB1 := hid (HB.out.trans (hb1.mono HB.out.size))
  simp only [World.size_alloc] at hcz htz hBz
  have HLO := hid (show w.heap.size + 2 ≤ c ∧ w.heap.size + 2 ≤ t ∧ w.heap.size + 2 ≤ B by omega)
  have HLZ := hid (And.intro (blk_lt hC1.hc) (And.intro hC1.ht.lt hC1.hp.lt))
  have hx1 : w1.heap[w.heap.size + 1]? = some (.cells #[.int .i64 xk, .string xp, .string xo, .int .i64 xm] 25 (0, 0)) := by
    have h1 := heap_below hb1 HX.out (by simp)
    rw [HXS.out] at h1
    exact h1
  have HX1 := hid (heap_old hx1 (.cells #[.pointer (some ⟨c, 0, none⟩), .pointer (some ⟨q, 0, none⟩)] 29))
  have HC1 := hid (hC1.below (bl1 w1 (.cells #[.pointer (some ⟨c, 0, none⟩), .pointer (some ⟨q, 0, none⟩)] 29)))
  have HO1 := hid (heap_new w1 (.cells #[.pointer (some ⟨c, 0, none⟩), .pointer (some ⟨q, 0, none⟩)] 29))
  have HB2 := hid (HB1.out.trans ((bl1 w1 (.cells #[.pointer (some ⟨c, 0, none⟩), .pointer (some ⟨q, 0, none⟩)] 29)).mono HB1.out.size))
  have bo := blk2 HO1.out
  clear b hR2 hC1 hcz htz hBz hb1 hx1
  go_wp2_with fail
  refine (check_any s _).mono ?_; rintro e w2 ⟨rfl, hb2⟩
  have HC2 := hid (HC1.out.below hb2)
  have HO2 := hid (heap_below hb2 HO1.out (blk_lt HO1.out))
  have HX2 := hid (heap_below hb2 HX1.out (blk_lt HX1.out))
  have HB3 := hid (HB2.out.trans (hb2.mono HB2.out.size))
  clear bo hb2
  by_cases hs : chkErr s = 0
  · rw [hs]
    have HS := hid hs
    clear hs
    go_wp2
    refine HKK.out _ w2 c t B p w1.heap.size q (w.heap.size + 1) c2 ?_ ?_ ?_ ?_ ?_ ?_ ?_ HS.out HR2.out ⟨HC2.out, HO2.out, ?_, ?_, HB3.out⟩ HX2.out
    iterate 7 rfl
    · have := HLO.out; have := HB1.out.size; omega
    · have h1 := HLO.out; have h2 := HLZ.out; omega
  · have t1 : (chkErr s != 0) = true := by simp [hs]
    have t2 : (chkErr s == 0) = false := by simp [hs]
    clear hs
    go_wp2_with fail
    refine (call_awake _).mono ?_; rintro e w4 ⟨rfl, hb4⟩
    have HB4 := hid (HB3.out.trans (hb4.mono HB3.out.size))
    clear hb4
    go_wp2
    go_ret
    exact ⟨rfl, HB4.out⟩
end Go.Proofs.YtbjibkjenleloaaGreatDoor

end

section
namespace Go.Proofs.YtbjibkjenleloaaGreatDoor
set_option linter.unusedVariables false
set_option linter.unusedSimpArgs false
open Go.RowKit
attribute [local go_sem ↓] Go.wp_at_zero Go.wp_at_succ
attribute [local go_sem] run_store_complex run_store_float

theorem frame310 (a : Act) (h : a.tmps.size = 310) (hd : a.defers = []) : a = { tmps := #[a.tmps.getD 0 undef, a.tmps.getD 1 undef, a.tmps.getD 2 undef, a.tmps.getD 3 undef, a.tmps.getD 4 undef, a.tmps.getD 5 undef, a.tmps.getD 6 undef, a.tmps.getD 7 undef, a.tmps.getD 8 undef, a.tmps.getD 9 undef, a.tmps.getD 10 undef, a.tmps.getD 11 undef, a.tmps.getD 12 undef, a.tmps.getD 13 undef, a.tmps.getD 14 undef, a.tmps.getD 15 undef, a.tmps.getD 16 undef, a.tmps.getD 17 undef, a.tmps.getD 18 undef, a.tmps.getD 19 undef, a.tmps.getD 20 undef, a.tmps.getD 21 undef, a.tmps.getD 22 undef, a.tmps.getD 23 undef, a.tmps.getD 24 undef, a.tmps.getD 25 undef, a.tmps.getD 26 undef, a.tmps.getD 27 undef, a.tmps.getD 28 undef, a.tmps.getD 29 undef, a.tmps.getD 30 undef, a.tmps.getD 31 undef, a.tmps.getD 32 undef, a.tmps.getD 33 undef, a.tmps.getD 34 undef, a.tmps.getD 35 undef, a.tmps.getD 36 undef, a.tmps.getD 37 undef, a.tmps.getD 38 undef, a.tmps.getD 39 undef, a.tmps.getD 40 undef, a.tmps.getD 41 undef, a.tmps.getD 42 undef, a.tmps.getD 43 undef, a.tmps.getD 44 undef, a.tmps.getD 45 undef, a.tmps.getD 46 undef, a.tmps.getD 47 undef, a.tmps.getD 48 undef, a.tmps.getD 49 undef, a.tmps.getD 50 undef, a.tmps.getD 51 undef, a.tmps.getD 52 undef, a.tmps.getD 53 undef, a.tmps.getD 54 undef, a.tmps.getD 55 undef, a.tmps.getD 56 undef, a.tmps.getD 57 undef, a.tmps.getD 58 undef, a.tmps.getD 59 undef, a.tmps.getD 60 undef, a.tmps.getD 61 undef, a.tmps.getD 62 undef, a.tmps.getD 63 undef, a.tmps.getD 64 undef, a.tmps.getD 65 undef, a.tmps.getD 66 undef, a.tmps.getD 67 undef, a.tmps.getD 68 undef, a.tmps.getD 69 undef, a.tmps.getD 70 undef, a.tmps.getD 71 undef, a.tmps.getD 72 undef, a.tmps.getD 73 undef, a.tmps.getD 74 undef, a.tmps.getD 75 undef, a.tmps.getD 76 undef, a.tmps.getD 77 undef, a.tmps.getD 78 undef, a.tmps.getD 79 undef, a.tmps.getD 80 undef, a.tmps.getD 81 undef, a.tmps.getD 82 undef, a.tmps.getD 83 undef, a.tmps.getD 84 undef, a.tmps.getD 85 undef, a.tmps.getD 86 undef, a.tmps.getD 87 undef, a.tmps.getD 88 undef, a.tmps.getD 89 undef, a.tmps.getD 90 undef, a.tmps.getD 91 undef, a.tmps.getD 92 undef, a.tmps.getD 93 undef, a.tmps.getD 94 undef, a.tmps.getD 95 undef, a.tmps.getD 96 undef, a.tmps.getD 97 undef, a.tmps.getD 98 undef, a.tmps.getD 99 undef, a.tmps.getD 100 undef, a.tmps.getD 101 undef, a.tmps.getD 102 undef, a.tmps.getD 103 undef, a.tmps.getD 104 undef, a.tmps.getD 105 undef, a.tmps.getD 106 undef, a.tmps.getD 107 undef, a.tmps.getD 108 undef, a.tmps.getD 109 undef, a.tmps.getD 110 undef, a.tmps.getD 111 undef, a.tmps.getD 112 undef, a.tmps.getD 113 undef, a.tmps.getD 114 undef, a.tmps.getD 115 undef, a.tmps.getD 116 undef, a.tmps.getD 117 undef, a.tmps.getD 118 undef, a.tmps.getD 119 undef, a.tmps.getD 120 undef, a.tmps.getD 121 undef, a.tmps.getD 122 undef, a.tmps.getD 123 undef, a.tmps.getD 124 undef, a.tmps.getD 125 undef, a.tmps.getD 126 undef, a.tmps.getD 127 undef, a.tmps.getD 128 undef, a.tmps.getD 129 undef, a.tmps.getD 130 undef, a.tmps.getD 131 undef, a.tmps.getD 132 undef, a.tmps.getD 133 undef, a.tmps.getD 134 undef, a.tmps.getD 135 undef, a.tmps.getD 136 undef, a.tmps.getD 137 undef, a.tmps.getD 138 undef, a.tmps.getD 139 undef, a.tmps.getD 140 undef, a.tmps.getD 141 undef, a.tmps.getD 142 undef, a.tmps.getD 143 undef, a.tmps.getD 144 undef, a.tmps.getD 145 undef, a.tmps.getD 146 undef, a.tmps.getD 147 undef, a.tmps.getD 148 undef, a.tmps.getD 149 undef, a.tmps.getD 150 undef, a.tmps.getD 151 undef, a.tmps.getD 152 undef, a.tmps.getD 153 undef, a.tmps.getD 154 undef, a.tmps.getD 155 undef, a.tmps.getD 156 undef, a.tmps.getD 157 undef, a.tmps.getD 158 undef, a.tmps.getD 159 undef, a.tmps.getD 160 undef, a.tmps.getD 161 undef, a.tmps.getD 162 undef, a.tmps.getD 163 undef, a.tmps.getD 164 undef, a.tmps.getD 165 undef, a.tmps.getD 166 undef, a.tmps.getD 167 undef, a.tmps.getD 168 undef, a.tmps.getD 169 undef, a.tmps.getD 170 undef, a.tmps.getD 171 undef, a.tmps.getD 172 undef, a.tmps.getD 173 undef, a.tmps.getD 174 undef, a.tmps.getD 175 undef, a.tmps.getD 176 undef, a.tmps.getD 177 undef, a.tmps.getD 178 undef, a.tmps.getD 179 undef, a.tmps.getD 180 undef, a.tmps.getD 181 undef, a.tmps.getD 182 undef, a.tmps.getD 183 undef, a.tmps.getD 184 undef, a.tmps.getD 185 undef, a.tmps.getD 186 undef, a.tmps.getD 187 undef, a.tmps.getD 188 undef, a.tmps.getD 189 undef, a.tmps.getD 190 undef, a.tmps.getD 191 undef, a.tmps.getD 192 undef, a.tmps.getD 193 undef, a.tmps.getD 194 undef, a.tmps.getD 195 undef, a.tmps.getD 196 undef, a.tmps.getD 197 undef, a.tmps.getD 198 undef, a.tmps.getD 199 undef, a.tmps.getD 200 undef, a.tmps.getD 201 undef, a.tmps.getD 202 undef, a.tmps.getD 203 undef, a.tmps.getD 204 undef, a.tmps.getD 205 undef, a.tmps.getD 206 undef, a.tmps.getD 207 undef, a.tmps.getD 208 undef, a.tmps.getD 209 undef, a.tmps.getD 210 undef, a.tmps.getD 211 undef, a.tmps.getD 212 undef, a.tmps.getD 213 undef, a.tmps.getD 214 undef, a.tmps.getD 215 undef, a.tmps.getD 216 undef, a.tmps.getD 217 undef, a.tmps.getD 218 undef, a.tmps.getD 219 undef, a.tmps.getD 220 undef, a.tmps.getD 221 undef, a.tmps.getD 222 undef, a.tmps.getD 223 undef, a.tmps.getD 224 undef, a.tmps.getD 225 undef, a.tmps.getD 226 undef, a.tmps.getD 227 undef, a.tmps.getD 228 undef, a.tmps.getD 229 undef, a.tmps.getD 230 undef, a.tmps.getD 231 undef, a.tmps.getD 232 undef, a.tmps.getD 233 undef, a.tmps.getD 234 undef, a.tmps.getD 235 undef, a.tmps.getD 236 undef, a.tmps.getD 237 undef, a.tmps.getD 238 undef, a.tmps.getD 239 undef, a.tmps.getD 240 undef, a.tmps.getD 241 undef, a.tmps.getD 242 undef, a.tmps.getD 243 undef, a.tmps.getD 244 undef, a.tmps.getD 245 undef, a.tmps.getD 246 undef, a.tmps.getD 247 undef, a.tmps.getD 248 undef, a.tmps.getD 249 undef, a.tmps.getD 250 undef, a.tmps.getD 251 undef, a.tmps.getD 252 undef, a.tmps.getD 253 undef, a.tmps.getD 254 undef, a.tmps.getD 255 undef, a.tmps.getD 256 undef, a.tmps.getD 257 undef, a.tmps.getD 258 undef, a.tmps.getD 259 undef, a.tmps.getD 260 undef, a.tmps.getD 261 undef, a.tmps.getD 262 undef, a.tmps.getD 263 undef, a.tmps.getD 264 undef, a.tmps.getD 265 undef, a.tmps.getD 266 undef, a.tmps.getD 267 undef, a.tmps.getD 268 undef, a.tmps.getD 269 undef, a.tmps.getD 270 undef, a.tmps.getD 271 undef, a.tmps.getD 272 undef, a.tmps.getD 273 undef, a.tmps.getD 274 undef, a.tmps.getD 275 undef, a.tmps.getD 276 undef, a.tmps.getD 277 undef, a.tmps.getD 278 undef, a.tmps.getD 279 undef, a.tmps.getD 280 undef, a.tmps.getD 281 undef, a.tmps.getD 282 undef, a.tmps.getD 283 undef, a.tmps.getD 284 undef, a.tmps.getD 285 undef, a.tmps.getD 286 undef, a.tmps.getD 287 undef, a.tmps.getD 288 undef, a.tmps.getD 289 undef, a.tmps.getD 290 undef, a.tmps.getD 291 undef, a.tmps.getD 292 undef, a.tmps.getD 293 undef, a.tmps.getD 294 undef, a.tmps.getD 295 undef, a.tmps.getD 296 undef, a.tmps.getD 297 undef, a.tmps.getD 298 undef, a.tmps.getD 299 undef, a.tmps.getD 300 undef, a.tmps.getD 301 undef, a.tmps.getD 302 undef, a.tmps.getD 303 undef, a.tmps.getD 304 undef, a.tmps.getD 305 undef, a.tmps.getD 306 undef, a.tmps.getD 307 undef, a.tmps.getD 308 undef, a.tmps.getD 309 undef], defers := [] } := by
  obtain ⟨t, d⟩ := a
  simp only at h hd
  subst hd
  have h1 := arr_range t 310 h
  show Act.mk t [] = _
  have h2 : ((List.range 310).map fun i => t.getD i undef).toArray = #[t.getD 0 undef, t.getD 1 undef, t.getD 2 undef, t.getD 3 undef, t.getD 4 undef, t.getD 5 undef, t.getD 6 undef, t.getD 7 undef, t.getD 8 undef, t.getD 9 undef, t.getD 10 undef, t.getD 11 undef, t.getD 12 undef, t.getD 13 undef, t.getD 14 undef, t.getD 15 undef, t.getD 16 undef, t.getD 17 undef, t.getD 18 undef, t.getD 19 undef, t.getD 20 undef, t.getD 21 undef, t.getD 22 undef, t.getD 23 undef, t.getD 24 undef, t.getD 25 undef, t.getD 26 undef, t.getD 27 undef, t.getD 28 undef, t.getD 29 undef, t.getD 30 undef, t.getD 31 undef, t.getD 32 undef, t.getD 33 undef, t.getD 34 undef, t.getD 35 undef, t.getD 36 undef, t.getD 37 undef, t.getD 38 undef, t.getD 39 undef, t.getD 40 undef, t.getD 41 undef, t.getD 42 undef, t.getD 43 undef, t.getD 44 undef, t.getD 45 undef, t.getD 46 undef, t.getD 47 undef, t.getD 48 undef, t.getD 49 undef, t.getD 50 undef, t.getD 51 undef, t.getD 52 undef, t.getD 53 undef, t.getD 54 undef, t.getD 55 undef, t.getD 56 undef, t.getD 57 undef, t.getD 58 undef, t.getD 59 undef, t.getD 60 undef, t.getD 61 undef, t.getD 62 undef, t.getD 63 undef, t.getD 64 undef, t.getD 65 undef, t.getD 66 undef, t.getD 67 undef, t.getD 68 undef, t.getD 69 undef, t.getD 70 undef, t.getD 71 undef, t.getD 72 undef, t.getD 73 undef, t.getD 74 undef, t.getD 75 undef, t.getD 76 undef, t.getD 77 undef, t.getD 78 undef, t.getD 79 undef, t.getD 80 undef, t.getD 81 undef, t.getD 82 undef, t.getD 83 undef, t.getD 84 undef, t.getD 85 undef, t.getD 86 undef, t.getD 87 undef, t.getD 88 undef, t.getD 89 undef, t.getD 90 undef, t.getD 91 undef, t.getD 92 undef, t.getD 93 undef, t.getD 94 undef, t.getD 95 undef, t.getD 96 undef, t.getD 97 undef, t.getD 98 undef, t.getD 99 undef, t.getD 100 undef, t.getD 101 undef, t.getD 102 undef, t.getD 103 undef, t.getD 104 undef, t.getD 105 undef, t.getD 106 undef, t.getD 107 undef, t.getD 108 undef, t.getD 109 undef, t.getD 110 undef, t.getD 111 undef, t.getD 112 undef, t.getD 113 undef, t.getD 114 undef, t.getD 115 undef, t.getD 116 undef, t.getD 117 undef, t.getD 118 undef, t.getD 119 undef, t.getD 120 undef, t.getD 121 undef, t.getD 122 undef, t.getD 123 undef, t.getD 124 undef, t.getD 125 undef, t.getD 126 undef, t.getD 127 undef, t.getD 128 undef, t.getD 129 undef, t.getD 130 undef, t.getD 131 undef, t.getD 132 undef, t.getD 133 undef, t.getD 134 undef, t.getD 135 undef, t.getD 136 undef, t.getD 137 undef, t.getD 138 undef, t.getD 139 undef, t.getD 140 undef, t.getD 141 undef, t.getD 142 undef, t.getD 143 undef, t.getD 144 undef, t.getD 145 undef, t.getD 146 undef, t.getD 147 undef, t.getD 148 undef, t.getD 149 undef, t.getD 150 undef, t.getD 151 undef, t.getD 152 undef, t.getD 153 undef, t.getD 154 undef, t.getD 155 undef, t.getD 156 undef, t.getD 157 undef, t.getD 158 undef, t.getD 159 undef, t.getD 160 undef, t.getD 161 undef, t.getD 162 undef, t.getD 163 undef, t.getD 164 undef, t.getD 165 undef, t.getD 166 undef, t.getD 167 undef, t.getD 168 undef, t.getD 169 undef, t.getD 170 undef, t.getD 171 undef, t.getD 172 undef, t.getD 173 undef, t.getD 174 undef, t.getD 175 undef, t.getD 176 undef, t.getD 177 undef, t.getD 178 undef, t.getD 179 undef, t.getD 180 undef, t.getD 181 undef, t.getD 182 undef, t.getD 183 undef, t.getD 184 undef, t.getD 185 undef, t.getD 186 undef, t.getD 187 undef, t.getD 188 undef, t.getD 189 undef, t.getD 190 undef, t.getD 191 undef, t.getD 192 undef, t.getD 193 undef, t.getD 194 undef, t.getD 195 undef, t.getD 196 undef, t.getD 197 undef, t.getD 198 undef, t.getD 199 undef, t.getD 200 undef, t.getD 201 undef, t.getD 202 undef, t.getD 203 undef, t.getD 204 undef, t.getD 205 undef, t.getD 206 undef, t.getD 207 undef, t.getD 208 undef, t.getD 209 undef, t.getD 210 undef, t.getD 211 undef, t.getD 212 undef, t.getD 213 undef, t.getD 214 undef, t.getD 215 undef, t.getD 216 undef, t.getD 217 undef, t.getD 218 undef, t.getD 219 undef, t.getD 220 undef, t.getD 221 undef, t.getD 222 undef, t.getD 223 undef, t.getD 224 undef, t.getD 225 undef, t.getD 226 undef, t.getD 227 undef, t.getD 228 undef, t.getD 229 undef, t.getD 230 undef, t.getD 231 undef, t.getD 232 undef, t.getD 233 undef, t.getD 234 undef, t.getD 235 undef, t.getD 236 undef, t.getD 237 undef, t.getD 238 undef, t.getD 239 undef, t.getD 240 undef, t.getD 241 undef, t.getD 242 undef, t.getD 243 undef, t.getD 244 undef, t.getD 245 undef, t.getD 246 undef, t.getD 247 undef, t.getD 248 undef, t.getD 249 undef, t.getD 250 undef, t.getD 251 undef, t.getD 252 undef, t.getD 253 undef, t.getD 254 undef, t.getD 255 undef, t.getD 256 undef, t.getD 257 undef, t.getD 258 undef, t.getD 259 undef, t.getD 260 undef, t.getD 261 undef, t.getD 262 undef, t.getD 263 undef, t.getD 264 undef, t.getD 265 undef, t.getD 266 undef, t.getD 267 undef, t.getD 268 undef, t.getD 269 undef, t.getD 270 undef, t.getD 271 undef, t.getD 272 undef, t.getD 273 undef, t.getD 274 undef, t.getD 275 undef, t.getD 276 undef, t.getD 277 undef, t.getD 278 undef, t.getD 279 undef, t.getD 280 undef, t.getD 281 undef, t.getD 282 undef, t.getD 283 undef, t.getD 284 undef, t.getD 285 undef, t.getD 286 undef, t.getD 287 undef, t.getD 288 undef, t.getD 289 undef, t.getD 290 undef, t.getD 291 undef, t.getD 292 undef, t.getD 293 undef, t.getD 294 undef, t.getD 295 undef, t.getD 296 undef, t.getD 297 undef, t.getD 298 undef, t.getD 299 undef, t.getD 300 undef, t.getD 301 undef, t.getD 302 undef, t.getD 303 undef, t.getD 304 undef, t.getD 305 undef, t.getD 306 undef, t.getD 307 undef, t.getD 308 undef, t.getD 309 undef] := by kernel_rfl
  rw [← h2, ← h1]

noncomputable def lsBody : Code := match Tryz.f4.body with | some c => c | none => Code.skip
/-- the memory of CallLists -/
structure LsI (w w2 : World) (c t B p n o q : Nat) (c2 : Cf) (s : Cl) (td : Td) (L : List En) (wh : Int → Bool) : Prop where
  at_ : CliAt w2 c t B p n s td L wh
  o_ : w2.heap[o]? = some (.cells #[.pointer (some ⟨c, 0, none⟩), .pointer (some ⟨q, 0, none⟩)] 29 (0, 0))
  q_ : w2.cell? ⟨q, 3, none⟩ = some (.int .i64 c2.de)
  low : w.heap.size ≤ c ∧ w.heap.size ≤ t ∧ w.heap.size ≤ B ∧ w.heap.size ≤ o ∧ w.heap.size ≤ q
  ab : c < o ∧ t < o ∧ p < o
  aq : c < q ∧ t < q ∧ p < q
  bel : Below w.heap.size w w2
set_option maxRecDepth 100000 in
set_option maxHeartbeats 4000000 in
theorem ls_front (cf : Cf) (nv : Value) (other : ByteArray) (ve : Int) (w : World) (K : Code)
    (hK : ∀ (a : Act) (w2 : World) (c t B p o q : Nat) (c2 : Cf), a.tmps.size = 310 → a.defers = [] → a.tmps.getD 1 undef = nv → a.tmps.getD 2 undef = .string other → a.tmps.getD 3 undef = .int .i64 ve → a.tmps.getD 9 undef = .pointer (some ⟨o, 0, none⟩) →
      chkErr other = 0 → rightP c2 → LsI w w2 c t B p 0 o q c2 (cl0 1 1 c2) (td0 1 1 c2.ho) [] (fun _ => false) → K.wp Tryz.prog (bodyPost Tryz.prog Tryz.f4 fun e w' => e = .returned (.bool true) ∧ Below w.heap.size w w') a w2) :
    (cutN 3 lsBody K).wp Tryz.prog (bodyPost Tryz.prog Tryz.f4 fun e w' => e = .returned (.bool true) ∧ Below w.heap.size w w') { tmps := #[cf.v, nv, .string other, .int .i64 ve, undef, undef, undef, undef, undef, undef, undef, undef, undef, undef, undef, undef, undef, undef, undef, undef, undef, undef, undef, undef, undef, undef, undef, undef, undef, undef, undef, undef, undef, undef, undef, undef, undef, undef, undef, undef, undef, undef, undef, undef, undef, undef, undef, undef, undef, undef, undef, undef, undef, undef, undef, undef, undef, undef, undef, undef, undef, undef, undef, undef, undef, undef, undef, undef, undef, undef, undef, undef, undef, undef, undef, undef, undef, undef, undef, undef, undef, undef, undef, undef, undef, undef, undef, undef, undef, undef, undef, undef, undef, undef, undef, undef, undef, undef, undef, undef, undef, undef, undef, undef, undef, undef, undef, undef, undef, undef, undef, undef, undef, undef, undef, undef, undef, undef, undef, undef, undef, undef, undef, undef, undef, undef, undef, undef, undef, undef, undef, undef, undef, undef, undef, undef, undef, undef, undef, undef, undef, undef, undef, undef, undef, undef, undef, undef, undef, undef, undef, undef, undef, undef, undef, undef, undef, undef, undef, undef, undef, undef, undef, undef, undef, undef, undef, undef, undef, undef, undef, undef, undef, undef, undef, undef, undef, undef, undef, undef, undef, undef, undef, undef, undef, undef, undef, undef, undef, undef, undef, undef, undef, undef, undef, undef, undef, undef, undef, undef, undef, undef, undef, undef, undef, undef, undef, undef, undef, undef, undef, undef, undef, undef, undef, undef, undef, undef, undef, undef, undef, undef, undef, undef, undef, undef, undef, undef, undef, undef, undef, undef, undef, undef, undef, undef, undef, undef, undef, undef, undef, undef, undef, undef, undef, undef, undef, undef, undef, undef, undef, undef, undef, undef, undef, undef, undef, undef, undef, undef, undef, undef, undef, undef, undef, undef, undef, undef, undef, undef, undef, undef, undef, undef, undef, undef, undef, undef, undef, undef, undef, undef, undef, undef, undef, undef, undef, undef, undef, undef, undef, undef, undef, undef, undef, undef, undef, undef, undef, undef, undef, undef, undef, undef, undef, undef, undef, undef, undef, undef], defers := [] } w := by
  have HKK := hid hK
  clear hK
  conv => pattern (cutN 3 lsBody K); whnf
  simp only [cutN]
  have HCB := hid (heap_new w (.cells #[.int .i64 cf.cl, .int .i64 cf.de, .int .i64 cf.ne, .int .i64 cf.li, .int .i64 cf.pr, .int .i64 cf.qu, .int .i64 cf.ho] 23))
  have HB := hid (bl1 w (.cells #[.int .i64 cf.cl, .int .i64 cf.de, .int .i64 cf.ne, .int .i64 cf.li, .int .i64 cf.pr, .int .i64 cf.qu, .int .i64 cf.ho] 23))
  have b := blk7 HCB.out
  unfold Cf.v
  go_wp2_with fail
  refine (law_client cf _).mono ?_; rintro e w1 ⟨c, t, B, p, q, c2, rfl, hR2, hC1, hcz, htz, hBz, hqc, hq1, hq2, hq3, hq4, hb1⟩
  have HR2 := hid hR2
  have HB1 := hid (HB.out.trans (hb1.mono HB.out.size))
  simp only [World.size_alloc] at hcz htz hBz
  have HLO := hid (show w.heap.size ≤ c ∧ w.heap.size ≤ t ∧ w.heap.size ≤ B ∧ w.heap.size ≤ q by omega)
  have HAQ := hid (And.intro hq1 (And.intro hq2 hq3))
  have HLZ := hid (And.intro (blk_lt hC1.hc) (And.intro hC1.ht.lt hC1.hp.lt))
  have HQ1 := hid (And.intro hqc hq4)
  have HC1 := hid (hC1.below (bl1 w1 (.cells #[.pointer (some ⟨c, 0, none⟩), .pointer (some ⟨q, 0, none⟩)] 29)))
  have HO1 := hid (heap_new w1 (.cells #[.pointer (some ⟨c, 0, none⟩), .pointer (some ⟨q, 0, none⟩)] 29))
  have HB2 := hid (HB1.out.trans ((bl1 w1 (.cells #[.pointer (some ⟨c, 0, none⟩), .pointer (some ⟨q, 0, none⟩)] 29)).mono HB1.out.size))
  have hqo : (w1.alloc (.cells #[.pointer (some ⟨c, 0, none⟩), .pointer (some ⟨q, 0, none⟩)] 29)).cell? ⟨q, 3, none⟩ = some (.int .i64 c2.de) := by
    have h8 := (bl1 w1 (.cells #[.pointer (some ⟨c, 0, none⟩), .pointer (some ⟨q, 0, none⟩)] 29)).block q hq4
    simp only [World.cell?, h8] at hqc ⊢
    exact hqc
  have HQ2 := hid hqo
  have hq5 : q < (w1.alloc (.cells #[.pointer (some ⟨c, 0, none⟩), .pointer (some ⟨q, 0, none⟩)] 29)).heap.size := by simp; omega
  have bo := blk2 HO1.out
  clear b hR2 hC1 hcz htz hBz hb1 hqc hq1 hq2 hq3 hqo
  go_wp2_with fail
  refine (check_any other _).mono ?_; rintro e w2 ⟨rfl, hb2⟩
  have HC2 := hid (HC1.out.below hb2)
  have HO2 := hid (heap_below hb2 HO1.out (blk_lt HO1.out))
  have HB3 := hid (HB2.out.trans (hb2.mono HB2.out.size))
  have hqo2 : w2.cell? ⟨q, 3, none⟩ = some (.int .i64 c2.de) := by
    have h8 := hb2.block q hq5
    have h9 := HQ2.out
    simp only [World.cell?, h8] at h9 ⊢
    exact h9
  have HQ3 := hid hqo2
  clear bo hb2 hqo2
  by_cases hs : chkErr other = 0
  · rw [hs]
    have HS := hid hs
    clear hs
    go_wp2
    refine HKK.out _ w2 c t B p w1.heap.size q c2 ?_ ?_ ?_ ?_ ?_ ?_ HS.out HR2.out ⟨HC2.out, HO2.out, HQ3.out, ?_, ?_, HAQ.out, HB3.out⟩
    iterate 6 rfl
    · have := HLO.out; have := HB1.out.size; omega
    · exact HLZ.out
  · have t1 : (chkErr other != 0) = true := by simp [hs]
    have t2 : (chkErr other == 0) = false := by simp [hs]
    clear hs
    go_wp2_with fail
    refine (call_awake _).mono ?_; rintro e w4 ⟨rfl, hb4⟩
    have HB4 := hid (HB3.out.trans (hb4.mono HB3.out.size))
    clear hb4
    go_wp2
    go_ret
    exact ⟨rfl, HB4.out⟩
end Go.Proofs.YtbjibkjenleloaaGreatDoor

end

section
namespace Go.Proofs.YtbjibkjenleloaaGreatDoor
set_option linter.unusedVariables false
set_option linter.unusedSimpArgs false
open Go.RowKit

/-! ### the list that CallLists builds -/
structure Nl (F : List En) (last : ByteArray) : Prop where
  flat : ∀ e ∈ F, FlatE e
  rise : F.Pairwise riseE
  le : ∀ e ∈ F, e.key.name = last ∨ nmLt e.key.name last = true
theorem Nl.nil : Nl [] { data := #[] } := ⟨by simp, List.Pairwise.nil, by simp⟩
theorem Nl.snoc {F : List En} {last x : ByteArray} {i : Int} (h : Nl F last) (hx : nmLt last x = true) (hn : x ≠ ByteArray.empty) (hi : 1 < i) : Nl (F ++ [⟨⟨1, x⟩, false, ⟨i, 2, 0, { data := #[] }⟩⟩]) x := by
  have hl : ∀ e ∈ F, nmLt e.key.name x = true := fun e he => by
    rcases h.le e he with h1 | h1
    · rw [h1]; exact hx
    · exact nm_trans h1 hx
  refine ⟨fun e he => ?_, ?_, fun e he => ?_⟩
  · rcases List.mem_append.1 he with h1 | h1
    · exact h.flat e h1
    · have : e = ⟨⟨1, x⟩, false, ⟨i, 2, 0, { data := #[] }⟩⟩ := by simpa using h1
      subst this
      exact ⟨rfl, rfl, hi, hn⟩
  · rw [List.pairwise_append]
    refine ⟨h.rise, List.pairwise_singleton _ _, fun a ha b hb => ?_⟩
    have : b = ⟨⟨1, x⟩, false, ⟨i, 2, 0, { data := #[] }⟩⟩ := by simpa using hb
    subst this
    exact hl a ha
  · rcases List.mem_append.1 he with h1 | h1
    · exact .inr (hl e h1)
    · have : e = ⟨⟨1, x⟩, false, ⟨i, 2, 0, { data := #[] }⟩⟩ := by simpa using h1
      subst this
      exact .inl rfl
/-- what `names[i] > last` says -/
theorem gt_of {a b : ByteArray} (h : (!(Op.bytesLess a.toList b.toList || a.toList == b.toList)) = true) : nmLt b a = true := by
  simp only [Bool.not_eq_true', Bool.or_eq_false_iff, beq_eq_false_iff_ne] at h
  cases hh : nmLt b a with
  | true => rfl
  | false => exact absurd (congrArg ByteArray.toList (nm_total (a := b) (b := a) hh h.1)) (fun e => h.2 e.symm)
end Go.Proofs.YtbjibkjenleloaaGreatDoor

end

section
namespace Go.Proofs.YtbjibkjenleloaaGreatDoor
set_option linter.unusedVariables false
set_option linter.unusedSimpArgs false
open Go.RowKit

/-! ### a name looked up in a flat list, before and behind a break -/
theorem slash_no {s p : ByteArray} (h47 : (47 : UInt8) ∉ s.data.toList) (hn : s.data.toList ≠ []) (hp : p.data.toList = 47 :: s.data.toList) : slashEnd p = false := by
  unfold slashEnd Lib.hasSuffix
  rw [hp, ← Bool.not_eq_true, List.isSuffixOf_iff_suffix]
  rintro ⟨l, hl⟩
  cases l with
  | nil => simp at hl; exact hn (by rw [hl])
  | cons x l =>
    simp only [List.cons_append, List.cons.injEq] at hl
    exact h47 (by rw [← hl.2]; simp)
theorem path_other {s p : ByteArray} (hs : chkErr s = 0) (hp : p.data.toList = 47 :: s.data.toList) : pathErr p = 0 ∧ stepsL p = [s] ∧ dirB p = false ∧ dotT s = false ∧ dot2T s = false ∧ s ≠ { data := #[] } := by
  obtain ⟨g1, g2, g3, g4, g5⟩ := chk_yes hs
  obtain ⟨h1, h2, h3⟩ := name_path1 hs hp
  have h4 : dotT s = false ∧ dot2T s = false := by
    unfold dotsB at g3
    simp only [Bool.or_eq_false_iff] at g3
    exact ⟨g3.1, g3.2⟩
  refine ⟨h1, h2, ?_, h4.1, h4.2, fun e => g2 (by rw [e])⟩
  unfold dirB
  rw [slash_no g5 g2 hp, h2]
  simp [lastDots, g3]
def hasN (F : List En) (x : ByteArray) : Bool := F.any fun e => e.key.name.toList == x.toList
theorem hasN_find {F : List En} {x : ByteArray} (hf : ∀ e ∈ F, FlatE e) : (hasN F x = true → ∃ e ∈ F, findL ⟨1, x⟩ F = some e) ∧ (hasN F x = false → findL ⟨1, x⟩ F = none) := by
  constructor
  · intro h
    obtain ⟨e, he, h1⟩ := List.any_eq_true.1 h
    have h2 : e.key.name = x := by
      have h3 : e.key.name.toList = x.toList := by simpa using h1
      rw [ByteArray.toList_eq, ByteArray.toList_eq] at h3
      have h4 : e.key.name.data = x.data := Array.toList_inj.1 h3
      exact ByteArray.ext h4
    cases hfi : findL ⟨1, x⟩ F with
    | none =>
      have h5 := List.find?_eq_none.1 hfi e he
      have h6 := (hf e he).1
      refine absurd ?_ h5
      unfold isK
      rw [decide_eq_true_eq]
      cases hk : e.key with
      | mk d nm => rw [hk] at h2 h6; simp only at h2 h6; rw [h2, h6]
    | some y => exact ⟨y, List.mem_of_find?_eq_some hfi, rfl⟩
  · intro h
    unfold findL
    rw [List.find?_eq_none]
    intro e he h5
    unfold isK at h5
    rw [decide_eq_true_eq] at h5
    have h6 := List.any_eq_false.1 h e he
    rw [← h5] at h6
    simp at h6
theorem wk_fin {fresh L : List En} {wh : Int → Bool} {follow : Bool} {A : List Nd} {y : Nd} {T : List ByteArray} {dir : Bool} {k : Int} {U : List Ky} {z : Ow} (h : Wk fresh L wh follow A y T dir k U z) (hT : T = []) (hd : dir = false) : z = ⟨false, ky0, 0, y, U⟩ := by
  cases h <;> simp_all
theorem wk_one_go {fresh L : List En} {wh : Int → Bool} {follow : Bool} {A : List Nd} {y : Nd} {s : ByteArray} {T : List ByteArray} {dir : Bool} {k : Int} {U : List Ky} {z : Ow} {x : En} (h : Wk fresh L wh follow A y (s :: T) dir k U z) (hk : y.kind = 1) (h1 : dotT s = false) (h2 : dot2T s = false) (hn : knW fresh L wh ⟨y.id, s⟩ = some x) (hx : x.neg = false) (h3 : (x.node.kind != 3 || (T.isEmpty && !dir && !follow)) = true) : Wk fresh L wh follow (A ++ [y]) x.node T dir k (U ++ [⟨y.id, s⟩]) z := by
  cases h <;> simp_all
theorem wk_flat {F : List En} {wh : Int → Bool} {other : ByteArray} {k : Int} {z : Ow} (hf : ∀ e ∈ F, FlatE e) (hk2 : ∀ e ∈ F, e.node.kind = 2) (hwh : wh 1 = true) (h1 : dotT other = false) (h2 : dot2T other = false) (h : Wk [] F wh true [] rootNd [other] false k [] z) :
    z.need = false ∧ z.used = [⟨1, other⟩] ∧ z.err = (if hasN F other = true then 0 else 40) := by
  have hr : rootNd.kind = 1 := rfl
  have hri : rootNd.id = 1 := rfl
  obtain ⟨g1, g2⟩ := hasN_find (x := other) hf
  cases hh : hasN F other with
  | true =>
    obtain ⟨e, he, h3⟩ := g1 hh
    have h4 : knW [] F wh ⟨rootNd.id, other⟩ = some e := by
      rw [hri]
      simp [knW, findL] at h3 ⊢
      rw [h3]
    have h5 := hk2 e he
    have h6 := (hf e he).2.1
    have h7 := wk_one_go h hr h1 h2 h4 h6 (by rw [h5]; rfl)
    have h8 := wk_fin h7 rfl rfl
    subst h8
    simp [hri]
  | false =>
    have h3 := g2 hh
    have h4 : knW [] F wh ⟨rootNd.id, other⟩ = some ⟨⟨1, other⟩, true, ⟨0, 0, 0, ByteArray.empty⟩⟩ := by
      rw [hri]
      unfold knW
      rw [h3]
      simp [findL, hwh]
    have h5 := wk_one_neg h hr h1 h2 h4 rfl
    subst h5
    simp [hri]
theorem cut_kn (L : List En) (wh : Int → Bool) {other : ByteArray} (hne : other ≠ { data := #[] }) : knW [] (cutE [⟨1, other⟩] L) (cutWh [⟨1, other⟩] wh) ⟨rootNd.id, other⟩ = none ∧ cutWh [⟨1, other⟩] wh 1 = false := by
  have h1 : cutWh [⟨1, other⟩] wh 1 = false := by simp [cutWh]
  have h2 : findL ⟨rootNd.id, other⟩ (cutE [⟨1, other⟩] L) = none := by
    unfold findL cutE
    rw [List.find?_eq_none]
    intro e he h5
    have h6 := (List.mem_filter.1 he).2
    have hne' : other ≠ ByteArray.empty := hne
    simp only [List.any_cons, List.any_nil, Bool.or_false, Bool.not_eq_true', hitE, if_neg hne'] at h6
    have h7 : isK ⟨1, other⟩ e = true := h5
    rw [h6] at h7
    cases h7
  refine ⟨?_, h1⟩
  unfold knW
  rw [h2]
  have h3 : cutWh [⟨1, other⟩] wh rootNd.id = false := h1
  simp [findL, h3]
theorem root_same {F N : List En} {last : ByteArray} (hn : Nl F last) (h : N.Perm (F.filter (inDir 1)) ∧ N.Pairwise fun x y => nmLt x.key.name y.key.name = true) : N = F := by
  rw [flat_dir hn.flat] at h
  exact perm_eq h.1 h.2 hn.rise
theorem root_case {F N : List En} {last : ByteArray} (hn : Nl F last) {de ne : Int} (hde : 1 ≤ de) (h : ((trimT de ne ⟨putAll F [], setWh 1 (fun _ => false), []⟩).wh 1 = true ∧ N.Perm ((trimT de ne ⟨putAll F [], setWh 1 (fun _ => false), []⟩).L.filter (inDir 1)) ∧ N.Pairwise fun x y => nmLt x.key.name y.key.name = true) ∨ ((trimT de ne ⟨putAll F [], setWh 1 (fun _ => false), []⟩).wh 1 = false ∧ N = F)) :
    N = F ∧ (((F.length : Int) ≤ de ∧ (trimT de ne ⟨putAll F [], setWh 1 (fun _ => false), []⟩).L = F ∧ (trimT de ne ⟨putAll F [], setWh 1 (fun _ => false), []⟩).wh = setWh 1 (fun _ => false)) ∨ ((F.length : Int) > de ∧ ((trimT de ne ⟨putAll F [], setWh 1 (fun _ => false), []⟩).L.length : Int) = de ∧ (trimT de ne ⟨putAll F [], setWh 1 (fun _ => false), []⟩).wh 1 = false)) := by
  rw [put_flat hn.flat hn.rise] at h ⊢
  by_cases hl : (F.length : Int) ≤ de
  · rw [trim_flat_room hn.flat _ de ne hl] at h ⊢
    refine ⟨?_, .inl ⟨hl, rfl, rfl⟩⟩
    rcases h with h | h
    · exact root_same hn h.2
    · exact h.2
  · have hg : (F.length : Int) > de := by omega
    have h1 := trim_flat_full hn.flat hn.rise (setWh 1 fun _ => false) de ne hde hg
    refine ⟨?_, .inr ⟨hg, h1.1, h1.2⟩⟩
    rcases h with h | h
    · rw [h1.2] at h; exact absurd h.1 (by decide)
    · exact h.2
end Go.Proofs.YtbjibkjenleloaaGreatDoor

end
