import Derived.Test.YtdolaiejkobaiaaBagD
namespace Go.Proofs.Ytdolaiejkobaiaa
set_option linter.unusedVariables false
set_option linter.unusedSimpArgs false
open Go.RowKit
attribute [local go_sem ↓] Go.wp_at_zero Go.wp_at_succ

theorem bagF_no {p g k : Nat} (hp : p ≠ k) (hg : g ≠ k) : ¬ BagF p (some ⟨g, 0, none⟩) k := by
  rintro (h | h)
  · exact hp h.symm
  · exact hg (Option.some.inj h)

set_option maxHeartbeats 400000 in
theorem bag_take_no (w : World) (B p : Nat) (limit : Int) (a : Option Addr) (c : Nat) (L : List Lt) (i : Int) (h : BagAt 62 w B p limit a c L) (hi : i < 0 ∨ (L.length : Int) ≤ i) :
    Calls Try.prog 13 #[.pointer (some ⟨p, 0, none⟩), .int .i64 i] w fun e w' => e = .returned (.tuple #[.agg #[.int .i64 0, .slice none 0 0], .int .i64 30]) ∧ Below w.heap.size w w' := by
  have HH := hid h
  have HI := hid hi
  clear h hi
  go_enter Try.func13, Try.ntmps13
  go_wp2_with (go_at_call 29; refine (bag_has_no _ B p limit a c L i (HH.out.below (bl1 w _)) HI.out).mono ?_; rintro e w' ⟨rfl, rfl⟩)
  refine bodyPost_ret (v := .tuple #[.agg #[.int .i64 0, .slice none 0 0], .int .i64 30]) (by simp [results, Try.results13, go_sem]) rfl ⟨rfl, ?_⟩
  exact bl1 w _

set_option maxHeartbeats 400000 in
theorem bag_take_yes (w : World) (B p : Nat) (limit : Int) (a : Option Addr) (c : Nat) (L : List Lt) (i : Nat) (y : Lt) (h : BagAt 62 w B p limit a c L) (hi : L[i]? = some y) (hBw : B ≤ w.heap.size) :
    Calls Try.prog 13 #[.pointer (some ⟨p, 0, none⟩), .int .i64 i] w fun e w' => e = .returned (.tuple #[.agg #[.int .i64 y.tw, .slice y.a y.bs.length y.c], .int .i64 0]) ∧
      BagAt 62 w' B p limit a c (L.eraseIdx i) ∧ Chg (BagF p a) w w' := by
  have hi' : i < L.length := (List.getElem?_eq_some_iff.1 hi).1
  obtain ⟨g, rfl, hBg, hgz, hc1, hc2⟩ := h.loc (by omega)
  have hpz := blk_lt h.hp
  have b0 := blk2 h.hp
  have b1 := h.at hi
  have HH := hid h
  have HJ := hid hi
  have h3 : (0 : Int) ≤ (i : Int) := by omega
  have h4 : (i : Int) < (L.length : Int) := by omega
  clear h hi
  go_enter Try.func13, Try.ntmps13
  go_wp2_with (go_at_call 29; refine (bag_has_yes _ B p limit _ c L i (HH.out.below (bl1 w _)) hi').mono ?_; rintro e w' ⟨rfl, rfl⟩)
  go_region_held3 (fun w' => w'.cell? ⟨w.heap.size + 1, 0, none⟩ = some (.int .i64 y.tw) ∧ w'.cell? ⟨w.heap.size + 1, 1, none⟩ = some (.slice y.a y.bs.length y.c))
    (first | go_keep | exact ⟨by assumption, by assumption⟩)
    (first
      | (go_at_call 15; refine (bag_drop_yes _ B p limit _ c L i (HH.out.below (bl2 w _ _).drew) hi').mono ?_; rintro e w1 ⟨rfl, hbag, hchg⟩; (have k0 := heap_chg hchg (heap_old (heap_new w _) _) (bagF_no (by omega) (by omega))); (have k1 := heap_chg hchg (heap_new (w.alloc _) _) (bagF_no (by rw [World.size_alloc]; omega) (by rw [World.size_alloc]; omega))); (have c0 := blk2 k0); simp only [World.size_alloc] at k1; (have c1 := blk2 k1); (have hz := blk_lt k1); (have K0 := hid k0); clear k0 k1))
  go_wp2
  refine bodyPost_ret (v := .tuple #[.agg #[.int .i64 y.tw, .slice y.a y.bs.length y.c], .int .i64 0]) (by simp [results, Try.results13, go_sem, c0]) rfl ⟨rfl, ?_, ?_⟩
  · refine hbag.chg (F := fun k => k = w.heap.size) (chg_set2 _ _ _ _ _ _) (by omega) (fun k hk => ?_) (fun x hx k hk => ?_)
    · have := Option.some.inj hk; simp only at this; omega
    · have h5 := hbag.each x hx
      rintro rfl
      exact own_ne h5 K0.out (by decide) hk
  · refine ((Chg.trans (Chg.below (bl2 w _ _).drew) hchg (H := BagF p (some ⟨g, 0, none⟩)) (fun _ _ h => h.elim) (fun _ _ h => h)).setCell _ _ (.inr (Nat.le_refl _))).setCell _ _ (.inr (Nat.le_refl _))

end Go.Proofs.Ytdolaiejkobaiaa
