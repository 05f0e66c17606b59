/- Parts of a proof about the given program, in build order: CalZ. No condition. -/
import Derived.Test.YtbjibkjenleloaaGreatDoorMg30
section
namespace Go.Proofs.YtbjibkjenleloaaGreatDoor
set_option linter.unusedVariables false
set_option linter.unusedSimpArgs false
open Go.RowKit
attribute [local go_sem ↓] Go.wp_at_zero Go.wp_at_succ
attribute [local go_sem] run_store_complex run_store_float


set_option maxRecDepth 100000 in
set_option maxHeartbeats 8000000 in
theorem ag_mid2 (w w9 : World) (a : Act) (tk e : Int) (c t B p n o g q Bg Ba : Nat) (a0 : Option Addr) (c0 : Nat) (s : Cl) (td : Td) (L : List En) (wh : Int → Bool) (z : Ow) (K : Code) (hs : a.tmps.size = 201) (hd : a.defers = []) (f3 : a.tmps.getD 3 undef = .int .i64 tk) (f9 : a.tmps.getD 9 undef = .pointer (some ⟨o, 0, none⟩)) (f11 : a.tmps.getD 11 undef = .slice (some ⟨g, 0, none⟩) 1 1) (f12 : a.tmps.getD 12 undef = .bool false) (f15 : a.tmps.getD 15 undef = .int .i64 e) (f16 : a.tmps.getD 16 undef = .slice a0 1 c0)
    (he : InM e) (hC : CliAt w9 c t B p n s td L wh) (hme : td.me = e) (hmn : td.mn = 0) (hO : w9.heap[o]? = some (.cells #[.pointer (some ⟨c, 0, none⟩), .pointer (some ⟨q, 0, none⟩)] 29 (0, 0))) (hG : w9.ownsRow Bg 50 16 (.slice (some ⟨g, 0, none⟩) 1 1) 1 [.int .i64 1, .int .i64 1, .int .i64 1, .int .i64 1, .complex .f64 (fl 0) (fl 0), .int .i64 0, .int .i64 0, .int .i64 1, .int .i64 z.key.dir, .string z.key.name, .int .i64 0, .string { data := #[] }, .int .i64 0, .string { data := #[] }, .slice none 0 0, .slice none 0 0]) (hA : w9.ownsRow Ba 50 16 (.slice a0 1 c0) 1 [.int .i64 1, .int .i64 1, .int .i64 1, .int .i64 1, .complex .f64 (fl e) (fl 0), .int .i64 0, .int .i64 0, .int .i64 1, .int .i64 z.key.dir, .string z.key.name, .int .i64 0, .string { data := #[] }, .int .i64 0, .string { data := #[] }, .slice none 0 0, .slice none 0 0])
    (hK : ∀ (a' : Act) (w10 : World) (wb : Nat), a'.tmps.size = 201 → a'.defers = [] → a'.tmps.getD 3 undef = .int .i64 tk → a'.tmps.getD 9 undef = .pointer (some ⟨o, 0, none⟩) → a'.tmps.getD 18 undef = .pointer (some ⟨wb, 0, none⟩) → w10.heap[wb]? = some (.cells #[.int .i64 1, .int .i64 1, .int .i64 1, .int .i64 1, .complex .f64 (fl e) (fl 0), .int .i64 0, .int .i64 0, .int .i64 1, .int .i64 z.key.dir, .string z.key.name, .int .i64 0, .string { data := #[] }, .int .i64 0, .string { data := #[] }, .slice none 0 0, .slice none 0 0] 50 (0, 0)) → w9.heap.size ≤ wb → Below w9.heap.size w9 w10 → K.wp Tryz.prog (bodyPost Tryz.prog Tryz.f5 fun e w' => e = .returned (.bool true) ∧ Below w.heap.size w w') a' w10) :
    (cutN 3 (sndN 10 agBody) K).wp Tryz.prog (bodyPost Tryz.prog Tryz.f5 fun e w' => e = .returned (.bool true) ∧ Below w.heap.size w w') a w9 := by
  conv => pattern (sndN 10 agBody); whnf
  simp only [cutN]
  have HK := hid hK
  have h9 := frame201 a hs hd
  rw [f3, f9, f11, f12, f15, f16] at h9
  generalize a.tmps = u at h9
  subst h9
  have HC := hid hC
  have HO := hid hO
  have bo := blk2 hO
  have hoz := blk_lt hO
  have G := Rd.own hG
  have x0 := G.at 0 (.int .i64 1) rfl
  have x1 := G.at 1 (.int .i64 1) rfl
  have x2 := G.at 2 (.int .i64 1) rfl
  have x3 := G.at 3 (.int .i64 1) rfl
  have x4 := G.at 4 (.complex .f64 (fl 0) (fl 0)) rfl
  have x5 := G.at 5 (.int .i64 0) rfl
  have x6 := G.at 6 (.int .i64 0) rfl
  have x7 := G.at 7 (.int .i64 1) rfl
  have x8 := G.at 8 (.int .i64 z.key.dir) rfl
  have x9 := G.at 9 (.string z.key.name) rfl
  have x10 := G.at 10 (.int .i64 0) rfl
  have x11 := G.at 11 (.string { data := #[] }) rfl
  have x12 := G.at 12 (.int .i64 0) rfl
  have x13 := G.at 13 (.string { data := #[] }) rfl
  have x14 := G.at 14 (.slice none 0 0) rfl
  have x15 := G.at 15 (.slice none 0 0) rfl
  simp only [Nat.zero_add] at x0 x1 x2 x3 x4 x5 x6 x7 x8 x9 x10 x11 x12 x13 x14 x15
  clear hs hd f3 f9 f11 f12 f15 f16 hC hO hK G
  obtain ⟨g0, hg0, _, hg0z, _, _⟩ := own_loc hA (by omega)
  subst hg0
  have HA := hid hA
  clear hA
  go_wp2_with fail
  refine (law_mark _ _ _).mono ?_; rintro e1 w1 ⟨rfl, rfl⟩
  go_wp2_with fail
  refine gen_w (P := fun w' => Code.wp _ _ _ _ w') (S := fun w10 => w10.heap[w9.heap.size]? = some (.cells #[.int .i64 1, .int .i64 1, .int .i64 1, .int .i64 1, .complex .f64 (fl e) (fl 0), .int .i64 0, .int .i64 0, .int .i64 1, .int .i64 z.key.dir, .string z.key.name, .int .i64 0, .string { data := #[] }, .int .i64 0, .string { data := #[] }, .slice none 0 0, .slice none 0 0] 50 (0, 0)) ∧ Below w9.heap.size w9 w10) _ ⟨?_, ?_⟩ ?_
  · first
    | exact heap_new w9 _
    | (have h9 := heap_set (heap_new w9 (.cells #[.int .i64 1, .int .i64 1, .int .i64 1, .int .i64 1, .complex .f64 (fl 0) (fl 0), .int .i64 0, .int .i64 0, .int .i64 1, .int .i64 z.key.dir, .string z.key.name, .int .i64 0, .string { data := #[] }, .int .i64 0, .string { data := #[] }, .slice none 0 0, .slice none 0 0] 50)) 4 (.complex .f64 (fl e) (fl 0))
       simp only [List.setIfInBounds_toArray, List.set_cons_zero, List.set_cons_succ] at h9
       exact h9)
  · first
    | exact bl1 w9 _
    | exact (bl1 w9 _).trans (Chg.toBelow (Chg.set1 (Chg.refl (fun j => j = w9.heap.size) _) _ _ rfl) (by simp) fun i hi hf => by omega)
  rintro w10 ⟨hw10, hb10⟩
  have HWB := hid hw10
  have HB10 := hid hb10
  have HC10 := hid (HC.out.below hb10)
  have HO10 := hid (heap_below hb10 HO.out (blk_lt HO.out))
  have HA10 := hid (own_below HA.out hb10)
  have hcn := fun W => run_neq_complex e 0 he (by unfold InM; omega) 46 W
  have hoz1 := blk_lt HO10.out
  have hgz1 := (own_lt HA10.out rfl).2
  clear hw10 hb10 bo hoz hg0z
  have KR : w10.cell? ⟨o, 0, none⟩ = some (.pointer (some ⟨c, 0, none⟩)) ∧ w10.cell? ⟨g0, 0, none⟩ = some (.int .i64 1) ∧ w10.cell? ⟨g0, 1, none⟩ = some (.int .i64 1) ∧ w10.cell? ⟨g0, 2, none⟩ = some (.int .i64 1) ∧ w10.cell? ⟨g0, 3, none⟩ = some (.int .i64 1) ∧ w10.cell? ⟨g0, 4, none⟩ = some (.complex .f64 (fl e) (fl 0)) ∧ w10.cell? ⟨g0, 5, none⟩ = some (.int .i64 0) ∧ w10.cell? ⟨g0, 6, none⟩ = some (.int .i64 0) ∧ w10.cell? ⟨g0, 7, none⟩ = some (.int .i64 1) ∧ w10.cell? ⟨g0, 8, none⟩ = some (.int .i64 z.key.dir) ∧ w10.cell? ⟨g0, 9, none⟩ = some (.string z.key.name) ∧ w10.cell? ⟨g0, 10, none⟩ = some (.int .i64 0) ∧ w10.cell? ⟨g0, 11, none⟩ = some (.string { data := #[] }) ∧ w10.cell? ⟨g0, 12, none⟩ = some (.int .i64 0) ∧ w10.cell? ⟨g0, 13, none⟩ = some (.string { data := #[] }) ∧ w10.cell? ⟨g0, 14, none⟩ = some (.slice none 0 0) ∧ w10.cell? ⟨g0, 15, none⟩ = some (.slice none 0 0) ∧ w10.cell? ⟨w9.heap.size, 0, none⟩ = some (.int .i64 1) ∧ w10.cell? ⟨w9.heap.size, 1, none⟩ = some (.int .i64 1) ∧ w10.cell? ⟨w9.heap.size, 2, none⟩ = some (.int .i64 1) ∧ w10.cell? ⟨w9.heap.size, 3, none⟩ = some (.int .i64 1) ∧ w10.cell? ⟨w9.heap.size, 4, none⟩ = some (.complex .f64 (fl e) (fl 0)) ∧ w10.cell? ⟨w9.heap.size, 5, none⟩ = some (.int .i64 0) ∧ w10.cell? ⟨w9.heap.size, 6, none⟩ = some (.int .i64 0) ∧ w10.cell? ⟨w9.heap.size, 7, none⟩ = some (.int .i64 1) ∧ w10.cell? ⟨w9.heap.size, 8, none⟩ = some (.int .i64 z.key.dir) ∧ w10.cell? ⟨w9.heap.size, 9, none⟩ = some (.string z.key.name) ∧ w10.cell? ⟨w9.heap.size, 10, none⟩ = some (.int .i64 0) ∧ w10.cell? ⟨w9.heap.size, 11, none⟩ = some (.string { data := #[] }) ∧ w10.cell? ⟨w9.heap.size, 12, none⟩ = some (.int .i64 0) ∧ w10.cell? ⟨w9.heap.size, 13, none⟩ = some (.string { data := #[] }) ∧ w10.cell? ⟨w9.heap.size, 14, none⟩ = some (.slice none 0 0) ∧ w10.cell? ⟨w9.heap.size, 15, none⟩ = some (.slice none 0 0) := by
    (have P6 := Rd.own HA10.out); (have b1 := (blk16 HWB.out).1); (have b2 := blk2 HO10.out); exact ⟨b2.1, by simpa using P6.at 0 (.int .i64 1) rfl, by simpa using P6.at 1 (.int .i64 1) rfl, by simpa using P6.at 2 (.int .i64 1) rfl, by simpa using P6.at 3 (.int .i64 1) rfl, by simpa using P6.at 4 (.complex .f64 (fl e) (fl 0)) rfl, by simpa using P6.at 5 (.int .i64 0) rfl, by simpa using P6.at 6 (.int .i64 0) rfl, by simpa using P6.at 7 (.int .i64 1) rfl, by simpa using P6.at 8 (.int .i64 z.key.dir) rfl, by simpa using P6.at 9 (.string z.key.name) rfl, by simpa using P6.at 10 (.int .i64 0) rfl, by simpa using P6.at 11 (.string { data := #[] }) rfl, by simpa using P6.at 12 (.int .i64 0) rfl, by simpa using P6.at 13 (.string { data := #[] }) rfl, by simpa using P6.at 14 (.slice none 0 0) rfl, by simpa using P6.at 15 (.slice none 0 0) rfl, b1.1, b1.2.1, b1.2.2.1, b1.2.2.2.1, b1.2.2.2.2.1, b1.2.2.2.2.2.1, b1.2.2.2.2.2.2.1, b1.2.2.2.2.2.2.2.1, b1.2.2.2.2.2.2.2.2.1, b1.2.2.2.2.2.2.2.2.2.1, b1.2.2.2.2.2.2.2.2.2.2.1, b1.2.2.2.2.2.2.2.2.2.2.2.1, b1.2.2.2.2.2.2.2.2.2.2.2.2.1, b1.2.2.2.2.2.2.2.2.2.2.2.2.2.1, b1.2.2.2.2.2.2.2.2.2.2.2.2.2.2.1, b1.2.2.2.2.2.2.2.2.2.2.2.2.2.2.2⟩
  have CM := hid (show ∀ W : World, CliAt W c t B p n s td L wh → Calls Tryz.prog 21 #[.pointer (some ⟨c, 0, none⟩)] W (fun e1 w' => e1 = .returned (.complex .f64 (fl e) (fl 0)) ∧ W = w') from fun W h => by have h1 := cli_mark W c t B p n s td L wh h; rw [hme, hmn] at h1; exact h1)
  have KRd : w10.drew.cell? ⟨o, 0, none⟩ = some (.pointer (some ⟨c, 0, none⟩)) ∧ w10.drew.cell? ⟨g0, 0, none⟩ = some (.int .i64 1) ∧ w10.drew.cell? ⟨g0, 1, none⟩ = some (.int .i64 1) ∧ w10.drew.cell? ⟨g0, 2, none⟩ = some (.int .i64 1) ∧ w10.drew.cell? ⟨g0, 3, none⟩ = some (.int .i64 1) ∧ w10.drew.cell? ⟨g0, 4, none⟩ = some (.complex .f64 (fl e) (fl 0)) ∧ w10.drew.cell? ⟨g0, 5, none⟩ = some (.int .i64 0) ∧ w10.drew.cell? ⟨g0, 6, none⟩ = some (.int .i64 0) ∧ w10.drew.cell? ⟨g0, 7, none⟩ = some (.int .i64 1) ∧ w10.drew.cell? ⟨g0, 8, none⟩ = some (.int .i64 z.key.dir) ∧ w10.drew.cell? ⟨g0, 9, none⟩ = some (.string z.key.name) ∧ w10.drew.cell? ⟨g0, 10, none⟩ = some (.int .i64 0) ∧ w10.drew.cell? ⟨g0, 11, none⟩ = some (.string { data := #[] }) ∧ w10.drew.cell? ⟨g0, 12, none⟩ = some (.int .i64 0) ∧ w10.drew.cell? ⟨g0, 13, none⟩ = some (.string { data := #[] }) ∧ w10.drew.cell? ⟨g0, 14, none⟩ = some (.slice none 0 0) ∧ w10.drew.cell? ⟨g0, 15, none⟩ = some (.slice none 0 0) ∧ w10.drew.cell? ⟨w9.heap.size, 0, none⟩ = some (.int .i64 1) ∧ w10.drew.cell? ⟨w9.heap.size, 1, none⟩ = some (.int .i64 1) ∧ w10.drew.cell? ⟨w9.heap.size, 2, none⟩ = some (.int .i64 1) ∧ w10.drew.cell? ⟨w9.heap.size, 3, none⟩ = some (.int .i64 1) ∧ w10.drew.cell? ⟨w9.heap.size, 4, none⟩ = some (.complex .f64 (fl e) (fl 0)) ∧ w10.drew.cell? ⟨w9.heap.size, 5, none⟩ = some (.int .i64 0) ∧ w10.drew.cell? ⟨w9.heap.size, 6, none⟩ = some (.int .i64 0) ∧ w10.drew.cell? ⟨w9.heap.size, 7, none⟩ = some (.int .i64 1) ∧ w10.drew.cell? ⟨w9.heap.size, 8, none⟩ = some (.int .i64 z.key.dir) ∧ w10.drew.cell? ⟨w9.heap.size, 9, none⟩ = some (.string z.key.name) ∧ w10.drew.cell? ⟨w9.heap.size, 10, none⟩ = some (.int .i64 0) ∧ w10.drew.cell? ⟨w9.heap.size, 11, none⟩ = some (.string { data := #[] }) ∧ w10.drew.cell? ⟨w9.heap.size, 12, none⟩ = some (.int .i64 0) ∧ w10.drew.cell? ⟨w9.heap.size, 13, none⟩ = some (.string { data := #[] }) ∧ w10.drew.cell? ⟨w9.heap.size, 14, none⟩ = some (.slice none 0 0) ∧ w10.drew.cell? ⟨w9.heap.size, 15, none⟩ = some (.slice none 0 0) := KR
  have HIE := hid he
  clear hme hmn he hG x0 x1 x2 x3 x4 x5 x6 x7 x8 x9 x10 x11 x12 x13 x14 x15
  go_wp2_with fail
  go_region_held3 (fun w' => w'.cell? ⟨o, 0, none⟩ = some (.pointer (some ⟨c, 0, none⟩)) ∧ w'.cell? ⟨g0, 0, none⟩ = some (.int .i64 1) ∧ w'.cell? ⟨g0, 1, none⟩ = some (.int .i64 1) ∧ w'.cell? ⟨g0, 2, none⟩ = some (.int .i64 1) ∧ w'.cell? ⟨g0, 3, none⟩ = some (.int .i64 1) ∧ w'.cell? ⟨g0, 4, none⟩ = some (.complex .f64 (fl e) (fl 0)) ∧ w'.cell? ⟨g0, 5, none⟩ = some (.int .i64 0) ∧ w'.cell? ⟨g0, 6, none⟩ = some (.int .i64 0) ∧ w'.cell? ⟨g0, 7, none⟩ = some (.int .i64 1) ∧ w'.cell? ⟨g0, 8, none⟩ = some (.int .i64 z.key.dir) ∧ w'.cell? ⟨g0, 9, none⟩ = some (.string z.key.name) ∧ w'.cell? ⟨g0, 10, none⟩ = some (.int .i64 0) ∧ w'.cell? ⟨g0, 11, none⟩ = some (.string { data := #[] }) ∧ w'.cell? ⟨g0, 12, none⟩ = some (.int .i64 0) ∧ w'.cell? ⟨g0, 13, none⟩ = some (.string { data := #[] }) ∧ w'.cell? ⟨g0, 14, none⟩ = some (.slice none 0 0) ∧ w'.cell? ⟨g0, 15, none⟩ = some (.slice none 0 0) ∧ w'.cell? ⟨w9.heap.size, 0, none⟩ = some (.int .i64 1) ∧ w'.cell? ⟨w9.heap.size, 1, none⟩ = some (.int .i64 1) ∧ w'.cell? ⟨w9.heap.size, 2, none⟩ = some (.int .i64 1) ∧ w'.cell? ⟨w9.heap.size, 3, none⟩ = some (.int .i64 1) ∧ w'.cell? ⟨w9.heap.size, 4, none⟩ = some (.complex .f64 (fl e) (fl 0)) ∧ w'.cell? ⟨w9.heap.size, 5, none⟩ = some (.int .i64 0) ∧ w'.cell? ⟨w9.heap.size, 6, none⟩ = some (.int .i64 0) ∧ w'.cell? ⟨w9.heap.size, 7, none⟩ = some (.int .i64 1) ∧ w'.cell? ⟨w9.heap.size, 8, none⟩ = some (.int .i64 z.key.dir) ∧ w'.cell? ⟨w9.heap.size, 9, none⟩ = some (.string z.key.name) ∧ w'.cell? ⟨w9.heap.size, 10, none⟩ = some (.int .i64 0) ∧ w'.cell? ⟨w9.heap.size, 11, none⟩ = some (.string { data := #[] }) ∧ w'.cell? ⟨w9.heap.size, 12, none⟩ = some (.int .i64 0) ∧ w'.cell? ⟨w9.heap.size, 13, none⟩ = some (.string { data := #[] }) ∧ w'.cell? ⟨w9.heap.size, 14, none⟩ = some (.slice none 0 0) ∧ w'.cell? ⟨w9.heap.size, 15, none⟩ = some (.slice none 0 0))
    (first | with_reducible exact KR | with_reducible exact KRd | with_reducible exact K7)
    (first
      | (go_at_call 19; refine (same_msg _ ⟨1, 1, 1, 1, e, 0, 0, 0, lookOp z.key, none, 0, 0, none, 0, 0⟩ HIE.out (show InM 0 by unfold InM; omega)).mono ?_; rintro e7 w11 ⟨rfl, hb7⟩; (have HB11 := hid hb7); (have HC11 := hid (CliAt.below HC10.out.drew hb7)); (have HO11 := hid (heap_below (w := w10.drew) hb7 HO10.out (blk_lt HO10.out))); (have HA11 := hid (own_below (own_drew HA10.out) hb7)); (have HWB11 := hid (heap_below (w := w10.drew) hb7 HWB.out (blk_lt HWB.out))); (have K7 : w11.cell? ⟨o, 0, none⟩ = some (.pointer (some ⟨c, 0, none⟩)) ∧ w11.cell? ⟨g0, 0, none⟩ = some (.int .i64 1) ∧ w11.cell? ⟨g0, 1, none⟩ = some (.int .i64 1) ∧ w11.cell? ⟨g0, 2, none⟩ = some (.int .i64 1) ∧ w11.cell? ⟨g0, 3, none⟩ = some (.int .i64 1) ∧ w11.cell? ⟨g0, 4, none⟩ = some (.complex .f64 (fl e) (fl 0)) ∧ w11.cell? ⟨g0, 5, none⟩ = some (.int .i64 0) ∧ w11.cell? ⟨g0, 6, none⟩ = some (.int .i64 0) ∧ w11.cell? ⟨g0, 7, none⟩ = some (.int .i64 1) ∧ w11.cell? ⟨g0, 8, none⟩ = some (.int .i64 z.key.dir) ∧ w11.cell? ⟨g0, 9, none⟩ = some (.string z.key.name) ∧ w11.cell? ⟨g0, 10, none⟩ = some (.int .i64 0) ∧ w11.cell? ⟨g0, 11, none⟩ = some (.string { data := #[] }) ∧ w11.cell? ⟨g0, 12, none⟩ = some (.int .i64 0) ∧ w11.cell? ⟨g0, 13, none⟩ = some (.string { data := #[] }) ∧ w11.cell? ⟨g0, 14, none⟩ = some (.slice none 0 0) ∧ w11.cell? ⟨g0, 15, none⟩ = some (.slice none 0 0) ∧ w11.cell? ⟨w9.heap.size, 0, none⟩ = some (.int .i64 1) ∧ w11.cell? ⟨w9.heap.size, 1, none⟩ = some (.int .i64 1) ∧ w11.cell? ⟨w9.heap.size, 2, none⟩ = some (.int .i64 1) ∧ w11.cell? ⟨w9.heap.size, 3, none⟩ = some (.int .i64 1) ∧ w11.cell? ⟨w9.heap.size, 4, none⟩ = some (.complex .f64 (fl e) (fl 0)) ∧ w11.cell? ⟨w9.heap.size, 5, none⟩ = some (.int .i64 0) ∧ w11.cell? ⟨w9.heap.size, 6, none⟩ = some (.int .i64 0) ∧ w11.cell? ⟨w9.heap.size, 7, none⟩ = some (.int .i64 1) ∧ w11.cell? ⟨w9.heap.size, 8, none⟩ = some (.int .i64 z.key.dir) ∧ w11.cell? ⟨w9.heap.size, 9, none⟩ = some (.string z.key.name) ∧ w11.cell? ⟨w9.heap.size, 10, none⟩ = some (.int .i64 0) ∧ w11.cell? ⟨w9.heap.size, 11, none⟩ = some (.string { data := #[] }) ∧ w11.cell? ⟨w9.heap.size, 12, none⟩ = some (.int .i64 0) ∧ w11.cell? ⟨w9.heap.size, 13, none⟩ = some (.string { data := #[] }) ∧ w11.cell? ⟨w9.heap.size, 14, none⟩ = some (.slice none 0 0) ∧ w11.cell? ⟨w9.heap.size, 15, none⟩ = some (.slice none 0 0) := by (have P6 := Rd.own HA11.out); (have b1 := (blk16 HWB11.out).1); (have b2 := blk2 HO11.out); exact ⟨b2.1, by simpa using P6.at 0 (.int .i64 1) rfl, by simpa using P6.at 1 (.int .i64 1) rfl, by simpa using P6.at 2 (.int .i64 1) rfl, by simpa using P6.at 3 (.int .i64 1) rfl, by simpa using P6.at 4 (.complex .f64 (fl e) (fl 0)) rfl, by simpa using P6.at 5 (.int .i64 0) rfl, by simpa using P6.at 6 (.int .i64 0) rfl, by simpa using P6.at 7 (.int .i64 1) rfl, by simpa using P6.at 8 (.int .i64 z.key.dir) rfl, by simpa using P6.at 9 (.string z.key.name) rfl, by simpa using P6.at 10 (.int .i64 0) rfl, by simpa using P6.at 11 (.string { data := #[] }) rfl, by simpa using P6.at 12 (.int .i64 0) rfl, by simpa using P6.at 13 (.string { data := #[] }) rfl, by simpa using P6.at 14 (.slice none 0 0) rfl, by simpa using P6.at 15 (.slice none 0 0) rfl, b1.1, b1.2.1, b1.2.2.1, b1.2.2.2.1, b1.2.2.2.2.1, b1.2.2.2.2.2.1, b1.2.2.2.2.2.2.1, b1.2.2.2.2.2.2.2.1, b1.2.2.2.2.2.2.2.2.1, b1.2.2.2.2.2.2.2.2.2.1, b1.2.2.2.2.2.2.2.2.2.2.1, b1.2.2.2.2.2.2.2.2.2.2.2.1, b1.2.2.2.2.2.2.2.2.2.2.2.2.1, b1.2.2.2.2.2.2.2.2.2.2.2.2.2.1, b1.2.2.2.2.2.2.2.2.2.2.2.2.2.2.1, b1.2.2.2.2.2.2.2.2.2.2.2.2.2.2.2⟩); clear hb7)
      | (go_at_call 21; refine (CM.out _ HC11.out).mono ?_; rintro e8 w12 ⟨rfl, rfl⟩))
  go_wp2_with fail
  refine HK.out _ w11 w9.heap.size ?_ ?_ ?_ ?_ ?_ HWB11.out (Nat.le_refl _) (HB10.out.drew.trans (HB11.out.mono HB10.out.size))
  · rfl
  · rfl
  · rfl
  · rfl
  · rfl
end Go.Proofs.YtbjibkjenleloaaGreatDoor

end
