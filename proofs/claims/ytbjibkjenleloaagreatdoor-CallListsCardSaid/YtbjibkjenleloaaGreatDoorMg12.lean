/- Parts of a proof about the given program, in build order: CalP, LsaP, CalB. No condition. -/
import Derived.Test.YtbjibkjenleloaaGreatDoorMg11
import Derived.Test.YtbjibkjenleloaaGreatDoorMg03
import Derived.Test.YtbjibkjenleloaaGreatDoorMg02
section
namespace Go.Proofs.YtbjibkjenleloaaGreatDoor
set_option linter.unusedVariables false
open Go.ChangeShapes Go.WideShapes Go.RowKit
def Cf.cells (s : Cf) : List Value := [.int .i64 s.cl, .int .i64 s.de, .int .i64 s.ne, .int .i64 s.li, .int .i64 s.pr, .int .i64 s.qu, .int .i64 s.ho]
section
variable {H : Type} {enc : TypeId × Value → H} {w : World} {base : Nat} {spare : Nat → Bool} {held : Bool}
theorem conf_of {c : List Value} (h : Dat enc Tryz.prog w base spare held 23 c) : ∃ x : Cf, c = x.cells := by
  obtain ⟨hl, hf⟩ := h.fields [(3, 0, 1), (3, 1, 1), (3, 2, 1), (3, 3, 1), (3, 4, 1), (3, 5, 1), (3, 6, 1)] Tryz.underlying23 (by kernel_rfl) 7 (by kernel_rfl)
  match c, hl with
  | [c0, c1, c2, c3, c4, c5, c6], _ =>
    have f0 := hf 0 _ _ _ rfl
    have f1 := hf 1 _ _ _ rfl
    have f2 := hf 2 _ _ _ rfl
    have f3 := hf 3 _ _ _ rfl
    have f4 := hf 4 _ _ _ rfl
    have f5 := hf 5 _ _ _ rfl
    have f6 := hf 6 _ _ _ rfl
    simp only [List.drop_zero, List.drop_succ_cons, List.take_succ_cons, List.take_zero] at f0 f1 f2 f3 f4 f5 f6
    obtain ⟨k0, e0, _⟩ := f0.int Tryz.underlying3
    obtain ⟨k1, e1, _⟩ := f1.int Tryz.underlying3
    obtain ⟨k2, e2, _⟩ := f2.int Tryz.underlying3
    obtain ⟨k3, e3, _⟩ := f3.int Tryz.underlying3
    obtain ⟨k4, e4, _⟩ := f4.int Tryz.underlying3
    obtain ⟨k5, e5, _⟩ := f5.int Tryz.underlying3
    obtain ⟨k6, e6, _⟩ := f6.int Tryz.underlying3
    simp only [List.cons.injEq, and_true] at e0 e1 e2 e3 e4 e5 e6
    subst e0 e1 e2 e3 e4 e5 e6
    exact ⟨⟨k0, k1, k2, k3, k4, k5, k6⟩, rfl⟩
end
end Go.Proofs.YtbjibkjenleloaaGreatDoor

end

section
namespace Go.Proofs.YtbjibkjenleloaaGreatDoor
set_option linter.unusedVariables false
open Go.ChangeShapes Go.WideShapes Go.RowKit
theorem srow_flat : ∀ S : List ByteArray, srow S = (S.map fun x : ByteArray => [Value.string x]).flatten
  | [] => rfl
  | x :: r => by
    have h := srow_flat r
    simp only [srow, List.map_cons, List.flatten_cons] at h ⊢
    rw [h]
    rfl
section
variable {H : Type} {enc : TypeId × Value → H} {w : World} {base : Nat} {spare : Nat → Bool} {held : Bool}
theorem names_of {a : Option Addr} {n c : Nat} (h : Dat enc Tryz.prog w base spare held 41 [.slice a n c]) : ∃ M : List ByteArray, n = M.length ∧ Rd w (.slice a n c) M.length (srow M) ∧ M.length ≤ 1000000000000000 := by
  obtain ⟨css, hl, _, hr, hb, hd⟩ := h.slice (sz := 1) (by_ := 16) Tryz.underlying41 (by kernel_rfl) (by decide) (by kernel_rfl)
  obtain ⟨S, rfl, hS⟩ := list_of_cells (f := fun x : ByteArray => [Value.string x]) (Q := fun _ => True) fun c hc => by obtain ⟨x, hx, _⟩ := (hd c hc).str Tryz.underlying9; exact ⟨x, hx, trivial⟩
  rw [List.length_map] at hl
  subst hl
  refine ⟨S, rfl, ?_, by unfold reachBytes at hb; omega⟩
  rw [srow_flat]; exact hr
end
end Go.Proofs.YtbjibkjenleloaaGreatDoor

end

section
namespace Go.Proofs.YtbjibkjenleloaaGreatDoor
set_option linter.unusedVariables false
set_option linter.unusedSimpArgs false
open Go.RowKit
attribute [local go_sem ↓] Go.wp_at_zero Go.wp_at_succ
attribute [local go_sem] run_store_complex run_store_float


theorem blk7c {w : World} {k t : Nat} {x0 x1 x2 x3 x4 x5 x6 : Value} (h : w.heap[k]? = some (.cells #[x0, x1, x2, x3, x4, x5, x6] t (0, 0))) (o : Obj) :
    (w.alloc o).cell? ⟨k, 0, none⟩ = some x0 ∧ (w.alloc o).cell? ⟨k, 1, none⟩ = some x1 ∧ (w.alloc o).cell? ⟨k, 2, none⟩ = some x2 ∧ (w.alloc o).cell? ⟨k, 3, none⟩ = some x3 ∧ (w.alloc o).cell? ⟨k, 4, none⟩ = some x4 ∧ (w.alloc o).cell? ⟨k, 5, none⟩ = some x5 ∧ (w.alloc o).cell? ⟨k, 6, none⟩ = some x6 := by
  have n3 := blk7 (heap_old h o)
  exact ⟨n3.1, n3.2.1, n3.2.2.1, n3.2.2.2.1, n3.2.2.2.2.1, n3.2.2.2.2.2.1, n3.2.2.2.2.2.2.1⟩
def op0 : Op7 := ⟨0, 0, ByteArray.empty, 0, ByteArray.empty, 0, ByteArray.empty⟩
def ms0 : Ms := ⟨0, 0, 0, 0, 0, 0, 0, 0, op0, none, 0, 0, none, 0, 0⟩
def cl0 (id life : Int) (cf : Cf) : Cl := ⟨id, life, cf, 0, false, 0, ByteArray.empty, ByteArray.empty, 0, ms0⟩
def td0 (id life ho : Int) : Td := ⟨id, life, ho, 0, 0, 0, 0⟩
set_option maxHeartbeats 2000000 in
theorem call_new_no (id life : Int) (cf : Cf) (h : ¬ (newOK id life cf.ho ∧ rightP cf ∧ id ≤ cf.cl)) (w : World) : Calls Tryz.prog 24 #[.int .i64 id, .int .i64 life, cf.v] w fun e w' => e = .returned (.tuple #[.pointer none, .int .i64 1]) ∧ Below w.heap.size w w' := by
  have b := blk7 (heap_new w (.cells #[.int .i64 cf.cl, .int .i64 cf.de, .int .i64 cf.ne, .int .i64 cf.li, .int .i64 cf.pr, .int .i64 cf.qu, .int .i64 cf.ho] 23))
  have HN := hid (heap_new w (.cells #[.int .i64 cf.cl, .int .i64 cf.de, .int .i64 cf.ne, .int .i64 cf.li, .int .i64 cf.pr, .int .i64 cf.qu, .int .i64 cf.ho] 23))
  have HB := hid (bl1 w (.cells #[.int .i64 cf.cl, .int .i64 cf.de, .int .i64 cf.ne, .int .i64 cf.li, .int .i64 cf.pr, .int .i64 cf.qu, .int .i64 cf.ho] 23))
  by_cases c1 : newOK id life cf.ho
  · have HO := hid c1
    by_cases c2 : rightP cf
    · have HR := hid (right_yes cf c2)
      have c3 : ¬ id ≤ cf.cl := fun c3 => h ⟨c1, c2, c3⟩
      have d1 : decide (id > cf.cl) = true := by simp; omega
      have d2 : decide (cf.cl < id) = true := by simp; omega
      clear h c1 c2 c3
      unfold Cf.v at HR ⊢
      go_enter Tryz.func24, Tryz.ntmps24
      go_wp2_with fail
      refine (tide_new _ _ _ HO.out _).mono ?_; rintro e w1 ⟨rfl, ht1, hb1⟩
      have HB1 := hid (HB.out.trans (hb1.mono HB.out.size))
      have hn1 := heap_below hb1 HN.out (blk_lt HN.out)
      have HN1 := hid hn1
      have b1 := blk7 hn1
      clear b hn1 ht1 hb1 HN
      go_wp2_with fail
      refine (HR.out _).mono ?_; rintro e w2 ⟨rfl, hb2⟩
      have HB2 := hid (HB1.out.trans (hb2.mono HB1.out.size))
      have b2 := blk7 (heap_below hb2 HN1.out (blk_lt HN1.out))
      clear b1 hb2 HN1
      go_wp2
      go_ret2
      exact ⟨rfl, HB2.out⟩
    · have HR := hid (right_no cf c2)
      clear h c1 c2
      unfold Cf.v at HR ⊢
      go_enter Tryz.func24, Tryz.ntmps24
      go_wp2_with fail
      refine (tide_new _ _ _ HO.out _).mono ?_; rintro e w1 ⟨rfl, ht1, hb1⟩
      have HB1 := hid (HB.out.trans (hb1.mono HB.out.size))
      have b1 := blk7 (heap_below hb1 HN.out (blk_lt HN.out))
      clear b ht1 hb1 HN
      go_wp2_with fail
      refine (HR.out _).mono ?_; rintro e w2 ⟨rfl, hb2⟩
      have HB2 := hid (HB1.out.trans (hb2.mono HB1.out.size))
      clear b1 hb2
      go_wp2
      go_ret2
      exact ⟨rfl, HB2.out⟩
  · have HO := hid c1
    clear h c1
    unfold Cf.v
    go_enter Tryz.func24, Tryz.ntmps24
    go_wp2_with fail
    refine (tide_new_no _ _ _ HO.out _).mono ?_; rintro e w1 ⟨rfl, rfl⟩
    go_wp2
    go_ret2
    exact ⟨rfl, HB.out⟩
set_option maxRecDepth 100000 in
set_option maxHeartbeats 4000000 in
theorem call_new (id life : Int) (cf : Cf) (c1 : newOK id life cf.ho) (c2 : rightP cf) (c3 : id ≤ cf.cl) (w : World) : Calls Tryz.prog 24 #[.int .i64 id, .int .i64 life, cf.v] w fun e w' => ∃ c t B p, e = .returned (.tuple #[.pointer (some ⟨c, 0, none⟩), .int .i64 0]) ∧ CliAt w' c t B p 0 (cl0 id life cf) (td0 id life cf.ho) [] (fun _ => false) ∧ w.heap.size ≤ c ∧ w.heap.size ≤ t ∧ w.heap.size ≤ B ∧ Below w.heap.size w w' := by
  have b := blk7 (heap_new w (.cells #[.int .i64 cf.cl, .int .i64 cf.de, .int .i64 cf.ne, .int .i64 cf.li, .int .i64 cf.pr, .int .i64 cf.qu, .int .i64 cf.ho] 23))
  have HN := hid (heap_new w (.cells #[.int .i64 cf.cl, .int .i64 cf.de, .int .i64 cf.ne, .int .i64 cf.li, .int .i64 cf.pr, .int .i64 cf.qu, .int .i64 cf.ho] 23))
  have HB := hid (bl1 w (.cells #[.int .i64 cf.cl, .int .i64 cf.de, .int .i64 cf.ne, .int .i64 cf.li, .int .i64 cf.pr, .int .i64 cf.qu, .int .i64 cf.ho] 23))
  have HO := hid c1
  have HR := hid (right_yes cf c2)
  have d1 : decide (id > cf.cl) = false := by simp; omega
  have d2 : decide (cf.cl < id) = false := by simp; omega
  clear c1 c2 c3
  unfold Cf.v at HR ⊢
  go_enter Tryz.func24, Tryz.ntmps24
  go_wp2_with fail
  refine (tide_new _ _ _ HO.out _).mono ?_; rintro e w1 ⟨rfl, ht1, hb1⟩
  have HB1 := hid (HB.out.trans (hb1.mono HB.out.size))
  have hn1 := heap_below hb1 HN.out (blk_lt HN.out)
  have HN1 := hid hn1
  have HT1 := hid ht1
  obtain ⟨q, hq⟩ : ∃ q, q = (w.alloc (.cells #[.int .i64 cf.cl, .int .i64 cf.de, .int .i64 cf.ne, .int .i64 cf.li, .int .i64 cf.pr, .int .i64 cf.qu, .int .i64 cf.ho] 23)).heap.size := ⟨_, rfl⟩
  have HQ := hid (show w.heap.size ≤ q by rw [hq]; simp)
  rw [← hq] at HT1 ⊢
  have b1 := blk7 hn1
  clear b hn1 ht1 hb1 HN hq
  go_wp2_with fail
  refine (HR.out _).mono ?_; rintro e w2 ⟨rfl, hb2⟩
  have HB2 := hid (HB1.out.trans (hb2.mono HB1.out.size))
  have hn2 := heap_below hb2 HN1.out (blk_lt HN1.out)
  have HN2 := hid hn2
  have HT2 := hid (HT1.out.below hb2)
  have b2 := blk7 hn2
  have KR : w2.cell? ⟨w.heap.size, 0, none⟩ = some (.int .i64 cf.cl) ∧ w2.cell? ⟨w.heap.size, 1, none⟩ = some (.int .i64 cf.de) ∧ w2.cell? ⟨w.heap.size, 2, none⟩ = some (.int .i64 cf.ne) ∧ w2.cell? ⟨w.heap.size, 3, none⟩ = some (.int .i64 cf.li) ∧ w2.cell? ⟨w.heap.size, 4, none⟩ = some (.int .i64 cf.pr) ∧ w2.cell? ⟨w.heap.size, 5, none⟩ = some (.int .i64 cf.qu) ∧ w2.cell? ⟨w.heap.size, 6, none⟩ = some (.int .i64 cf.ho) := ⟨b2.1, b2.2.1, b2.2.2.1, b2.2.2.2.1, b2.2.2.2.2.1, b2.2.2.2.2.2.1, b2.2.2.2.2.2.2.1⟩
  have KRd : w2.drew.cell? ⟨w.heap.size, 0, none⟩ = some (.int .i64 cf.cl) ∧ w2.drew.cell? ⟨w.heap.size, 1, none⟩ = some (.int .i64 cf.de) ∧ w2.drew.cell? ⟨w.heap.size, 2, none⟩ = some (.int .i64 cf.ne) ∧ w2.drew.cell? ⟨w.heap.size, 3, none⟩ = some (.int .i64 cf.li) ∧ w2.drew.cell? ⟨w.heap.size, 4, none⟩ = some (.int .i64 cf.pr) ∧ w2.drew.cell? ⟨w.heap.size, 5, none⟩ = some (.int .i64 cf.qu) ∧ w2.drew.cell? ⟨w.heap.size, 6, none⟩ = some (.int .i64 cf.ho) := KR
  clear b1 hn2 hb2 HN1 HT1
  go_wp2_with fail
  go_region_held3 (fun w' => w'.cell? ⟨w.heap.size, 0, none⟩ = some (.int .i64 cf.cl) ∧ w'.cell? ⟨w.heap.size, 1, none⟩ = some (.int .i64 cf.de) ∧ w'.cell? ⟨w.heap.size, 2, none⟩ = some (.int .i64 cf.ne) ∧ w'.cell? ⟨w.heap.size, 3, none⟩ = some (.int .i64 cf.li) ∧ w'.cell? ⟨w.heap.size, 4, none⟩ = some (.int .i64 cf.pr) ∧ w'.cell? ⟨w.heap.size, 5, none⟩ = some (.int .i64 cf.qu) ∧ w'.cell? ⟨w.heap.size, 6, none⟩ = some (.int .i64 cf.ho))
    (first | with_reducible exact KR | with_reducible exact KRd | with_reducible exact K3 | with_reducible exact blk7c HN3.out _)
    (first | (go_at_call 47; refine (c_new _).mono ?_; rintro e w3 ⟨rfl, hc3, hb3⟩; (have HC3 := hid hc3); (have HB3 := hid (HB2.out.drew.trans (hb3.mono HB2.out.drew.size))); (have HT3 := hid (TidAt.below (w := w2.drew) HT2.out hb3)); (have hn3 := heap_below (w := w2.drew) hb3 HN2.out (blk_lt HN2.out)); (have HN3 := hid hn3); (have n3 := blk7 hn3); (have K3 : w3.cell? ⟨w.heap.size, 0, none⟩ = some (.int .i64 cf.cl) ∧ w3.cell? ⟨w.heap.size, 1, none⟩ = some (.int .i64 cf.de) ∧ w3.cell? ⟨w.heap.size, 2, none⟩ = some (.int .i64 cf.ne) ∧ w3.cell? ⟨w.heap.size, 3, none⟩ = some (.int .i64 cf.li) ∧ w3.cell? ⟨w.heap.size, 4, none⟩ = some (.int .i64 cf.pr) ∧ w3.cell? ⟨w.heap.size, 5, none⟩ = some (.int .i64 cf.qu) ∧ w3.cell? ⟨w.heap.size, 6, none⟩ = some (.int .i64 cf.ho) := ⟨n3.1, n3.2.1, n3.2.2.1, n3.2.2.2.1, n3.2.2.2.2.1, n3.2.2.2.2.2.1, n3.2.2.2.2.2.2.1⟩); clear hc3 hb3 n3 hn3))
  have hlt := HC3.out.lt
  have hqt := HT2.out.lt
  have hz2 : w.heap.size ≤ w2.heap.size := HB2.out.size
  have hz3 : w.heap.size ≤ w3.heap.size := HB3.out.size
  go_wp2
  go_ret2
  refine ⟨w3.heap.size, q, w2.heap.size, w2.heap.size + 2, rfl, ⟨?_, ?_, ?_, ?_, ?_⟩, hz3, HQ.out, hz2, ?_⟩
  · exact heap_new w3 _
  · exact heap_old HT3.out _
  · exact CAt.below HC3.out (bl1 w3 _)
  · intro h; have := h.2; exact absurd this (by have : w2.drew.heap.size + 2 < w3.heap.size := hlt; show ¬ (w3.heap.size ≤ w2.drew.heap.size + 2); omega)
  · intro h; have := h.1; omega
  · exact HB3.out.trans ((bl1 w3 _).mono HB3.out.size)
end Go.Proofs.YtbjibkjenleloaaGreatDoor

end
