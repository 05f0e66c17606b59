import Derived.Test.YtmhogjecfgbchaaDentI
import Derived.Test.YtmhogjecfgbchaaLibR
namespace Go.Proofs.Ytmhogjecfgbchaa
set_option linter.unusedVariables false
set_option linter.unusedSimpArgs false
open Go.RowKit
attribute [local go_sem ↓] Go.wp_at_zero Go.wp_at_succ

def nA : ByteArray := { data := #[97] }
def E0 : En := ⟨⟨1, nA⟩, false, ⟨2, 1, 0, ByteArray.empty⟩⟩
theorem e0v : E0.v = .agg #[.int .i64 1, .string { data := #[97] }, .bool false, .int .i64 2, .int .i64 1, .int .i64 0, .string { data := #[] }] := rfl
theorem zev : zeroE.v = .agg #[.int .i64 0, .string { data := #[] }, .bool false, .int .i64 0, .int .i64 0, .int .i64 0, .string { data := #[] }] := rfl
theorem getn : getE E0.key [] = zeroE := by kernel_rfl
theorem findn : (findL E0.key []).isSome = false := by kernel_rfl
theorem cutw0 : cutWh [E0.key] (fun d' => (fun _ => false) d' || (1 : Int) == d') 1 = false := by kernel_rfl
theorem put0 : putL E0 [] = [E0] := by kernel_rfl
theorem find0 : (findL E0.key [E0]).isSome = true := by kernel_rfl
theorem get0 : getE E0.key [E0] = E0 := by kernel_rfl
theorem cut0 : cutE [E0.key] [E0] = [] := by kernel_rfl

def e0c : Obj := .cells #[.int .i64 1, .string { data := #[97] }, .bool false, .int .i64 2, .int .i64 1, .int .i64 0, .string { data := #[] }] 30
set_option maxHeartbeats 1000000 in
theorem d_awake (w : World) : Calls Try.prog 30 #[] w fun e w' => e = .returned (.bool true) ∧ Below w.heap.size w w' := by
  go_enter Try.func30, Try.ntmps30
  go_wp2_with (first
    | (go_at_call 19; refine (c_new _).mono ?_; rintro e w1 ⟨rfl, hc1, hb1⟩; (have kx := heap_new w1 e0c); unfold e0c at kx; (have BX := blk7 kx); (have KX := hid kx); clear kx; (have HC1 := hid hc1); clear hc1)
    | (go_at_call 21; refine (c_put _ w.heap.size (w.heap.size + 2) 0 [] (fun _ => false) E0 (HC1.out.below (bl1 w1 _)) (by omega)).mono ?_; rintro e w2 ⟨rfl, hc2, hg2⟩; rw [put0] at hc2; (have hlt1 := HC1.out.lt); (have kx2 := heap_chg hg2 KX.out (fun h => by have := h.2; omega)); (have BX2 := blk7 kx2); (have KX2 := hid kx2); clear kx2 BX; (have HC2 := hid hc2); (have HG2 := hid hg2); clear hc2 hg2)
    | (go_at_call 34; refine (c_len _ _ _ _ _ _ HC2.out).mono ?_; rintro e w3 ⟨rfl, rfl⟩)
    | (go_at_call 26; refine (c_get _ _ _ _ _ _ E0.key HC2.out).mono ?_; rintro e w3 ⟨rfl, hb3⟩; rw [get0, find0, e0v]; (have hz2 := blk_lt KX2.out); (have HC3 := hid (HC2.out.below hb3)); (have kx3 := heap_below hb3 KX2.out hz2); (have BX3 := blk7 (heap_old kx3 e0c)); (have BY3 := blk7 (heap_new w3 e0c)); (have KX3 := hid kx3); clear kx3 BX2)
    | (go_at_call 28; refine (c_setwhole _ _ _ _ _ _ 1 (HC3.out.below (bl1 w3 e0c))).mono ?_; rintro e w4 ⟨rfl, hc4, hg4⟩; (have HC4 := hid hc4); (have HG4 := hid hg4); (have hlt3 := HC3.out.lt); (have kx4 := heap_chg hg4 (heap_old KX3.out e0c) (fun h => by have := h.2; have := hb3.size; omega)); (have ky4 := heap_chg hg4 (heap_new w3 e0c) (fun h => by have := h.2; omega)); unfold e0c at ky4; (have BX4 := blk7 kx4); (have BY4 := blk7 ky4); (have KX4 := hid kx4); clear kx4 ky4 hc4 hg4 BX3 BY3)
    | (go_at_call 29; refine (c_whole _ _ _ _ _ _ 1 HC4.out).mono ?_; rintro e w5 ⟨rfl, rfl⟩))
  go_wp2_with (first
    | (go_at_call 23; refine (c_cut _ _ _ _ _ _ [E0.key] (some ⟨w4.heap.size, 0, none⟩) 1 w4.heap.size (HC4.out.below (bl1 w4 _)) (ownsRow_of_whole (n := 1) (xs := kyc [E0.key]) (heap_new w4 (.cells #[.int .i64 1, .string nA] 26)) rfl (Nat.le_refl _) (by decide)) HC4.out.lt (by decide)).mono ?_; rintro e w5 ⟨rfl, hc5, hg5⟩; rw [cut0] at hc5; (have kx5 := heap_chg hg5 (heap_old KX4.out _) (fun h => by have := h.2; omega)); (have BX5 := blk7 kx5); (have HC5 := hid hc5); (have HG5 := hid hg5); clear kx5 hc5 hg5 BX4 BY4)
    | (go_at_call 26; refine (c_get _ _ _ _ _ _ E0.key HC5.out).mono ?_; rintro e w6 ⟨rfl, hb6⟩; rw [getn, findn, zev]; (have HC6 := hid (HC5.out.below hb6)))
    | (go_at_call 29; refine (c_whole _ _ _ _ _ _ 1 HC6.out).mono ?_; rintro e w7 ⟨rfl, rfl⟩; rw [cutw0])
    | (go_at_call 34; refine (c_len _ _ _ _ _ _ HC6.out).mono ?_; rintro e w7 ⟨rfl, rfl⟩))
  go_ret
  refine ⟨rfl, ?_⟩
  have e1 : Below w.heap.size w (w1.alloc e0c) := hb1.alloc hb1.size _
  have e2 := HG2.out.toBelow (B := w.heap.size) (by have := hb1.size; simp; omega) (fun i hi h => by have := h.1; omega)
  have e3 : Below w.heap.size w2 (w3.alloc e0c) := (hb3.mono (by have := (e1.trans e2).size; omega)).alloc (by have := (e1.trans e2).size; have := hb3.size; omega) _
  have e4 := HG4.out.toBelow (B := w.heap.size) (by have := ((e1.trans e2).trans e3).size; omega) (fun i hi h => by have := h.1; omega)
  have e5 := HG5.out.toBelow (B := w.heap.size) (by have := (((e1.trans e2).trans e3).trans e4).size; simp; omega) (fun i hi h => by have := h.1; omega)
  have e6 : Below w.heap.size w4 (w4.alloc (.cells #[.int .i64 1, .string nA] 26)) := (bl1 w4 _).mono (((e1.trans e2).trans e3).trans e4).size
  exact (((((e1.trans e2).trans e3).trans e4).trans e6).trans e5).trans (hb6.mono ((((((e1.trans e2).trans e3).trans e4).trans e6).trans e5).size))

end Go.Proofs.Ytmhogjecfgbchaa
