import Derived.Test.YtdolaiejkobaiaaBagF
namespace Go.Proofs.Ytdolaiejkobaiaa
set_option linter.unusedVariables false
set_option linter.unusedSimpArgs false
open Go.RowKit
attribute [local go_sem ↓] Go.wp_at_zero Go.wp_at_succ

theorem BagAt.notF {T : Nat} (hT : T ≠ 5) {w : World} {B p : Nat} {limit : Int} {a : Option Addr} {c : Nat} {L : List Lt} (h : BagAt T w B p limit a c L) {B' n k : Nat} {v : Value} {xs : List Value} (ho : w.ownsRow B' 5 1 v n xs) (hk : v.ownBlock = some k) : ¬ BagF p a k := by
  rintro (rfl | h1)
  · exact own_ne ho h.hp hT hk
  · exact own_ne2 ho h.row (by decide) k hk (by rw [ownBlock_slice]; exact h1)

theorem BagAt.low {T : Nat} {w : World} {B p : Nat} {limit : Int} {a : Option Addr} {c : Nat} {L : List Lt} (h : BagAt T w B p limit a c L) : ∀ i, i < B → ¬ BagF p a i := by
  rintro i hi (rfl | h1)
  · exact absurd h.hB (by omega)
  · exact absurd (own_lt h.row (by rw [ownBlock_slice]; exact h1)).1 (by omega)

set_option maxHeartbeats 1000000 in
theorem bag_awake (w : World) : Calls Try.prog 9 #[] w fun e w' => e = .returned (.bool true) ∧ Below w.heap.size w w' := by
  go_enter Try.func9, Try.ntmps9
  go_wp2_with (first
    | (go_at_call 8; refine (bag_new_yes _ 2 (by omega) (by omega)).mono ?_; rintro e w1 ⟨rfl, hbag1, hb1⟩; (have hz1 := blk_lt hbag1.hp))
    | (go_at_call 11; refine (bag_post_ok _ w.heap.size w.heap.size 2 none 0 [] 3 _ [7] (hbag1.below (bl1 w1 _)) (by simp) (by omega) (rd_blk (cs := bys [7]) (heap_new w1 _) (by simp [maxLen])) (by simp) (by simp; omega)).mono ?_; rintro e w2 ⟨rfl, a2, c2, x, hx1, hx2, hbag2, hown2, hat2, hchg2⟩))
  obtain ⟨xt, xa, xc, xb⟩ := x
  obtain rfl : xt = 3 := hx1
  obtain rfl : xb = [7] := hx2
  have hB2 := hchg2.size
  obtain ⟨gx, hxa, hc7⟩ : ∃ gx, xa = some ⟨gx, 0, none⟩ ∧ w2.cell? ⟨gx, 0, none⟩ = some (.int .u8 7) := by
    obtain ⟨b, off, cap, hv, _, _, _, hc⟩ := (Rd.own hown2).form (by simp [bys])
    rcases hown2.2 with ⟨h, _⟩ | ⟨g, cap', cur, h, _⟩
    · simp [Lt.v] at h
    · simp only [Lt.v, Value.slice.injEq] at h hv
      obtain ⟨rfl, _⟩ := h
      simp only [Option.some.injEq, Addr.mk.injEq] at hv
      obtain ⟨⟨rfl, rfl, _⟩, _⟩ := hv
      exact ⟨_, rfl, by simpa using hc 0 (.int .u8 7) (by simp [bys])⟩
  subst hxa
  have hgx : gx < w2.heap.size := World.block_lt_of_cell? w2 _ hc7
  have hnf := hbag2.notF (by decide) hown2 rfl
  have hBz : w.heap.size < w2.heap.size := blk_lt hbag2.hp
  have HO := hid hown2
  have HB2 := hid hbag2
  have HC2 := hid hchg2
  clear hown2 hbag2 hchg2
  go_wp2_with (first
    | (go_at_call 13; refine (bag_take_yes w2 w.heap.size w.heap.size 2 a2 c2 _ 0 ⟨3, some ⟨gx, 0, none⟩, xc, [7]⟩ HB2.out rfl (by omega)).mono ?_; rintro e w3 ⟨rfl, hbag3, hchg3⟩; (have hz3 := hchg3.size); (have b3 := blk2 hbag3.hp); (have c3 := hchg3.cell hc7 hnf); (have hgx3 : gx < w3.heap.size := by omega); (have hz4 := blk_lt hbag3.hp); (have HB3 := hid hbag3))
    | (go_at_call 17; refine (bag_len w.heap.size 2 a2 0 c2 _ (blk_cell (heap_old HB3.out.hp _) (i := 1) rfl)).mono ?_; rintro e w4 ⟨rfl, rfl⟩))
  go_ret
  refine ⟨rfl, ?_⟩
  have e1 : Below w.heap.size w (w1.alloc (.cells #[.int .u8 7] 5)) := hb1.alloc (by omega) _
  have e2 := HC2.out.toBelow (B := w.heap.size) (by simp; omega) (by rintro i hi (h | h) <;> first | omega | (simp at h; done))
  have e3 := hchg3.toBelow (B := w.heap.size) (by omega) HB2.out.low
  exact ((e1.trans e2).trans e3).alloc (by omega) _

end Go.Proofs.Ytdolaiejkobaiaa
