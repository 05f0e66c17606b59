import Derived.Test.YtdolaiejkobaiaaBagG
namespace Go.Proofs.Ytdolaiejkobaiaa
set_option linter.unusedVariables false
set_option linter.unusedSimpArgs false
open Go.RowKit
attribute [local go_sem ↓] Go.wp_at_zero Go.wp_at_succ

set_option maxHeartbeats 400000 in
theorem rb_new_no (w : World) (limit : Int) (h : limit < 1 ∨ 64 < limit) :
    Calls Try.prog 19 #[.int .i64 limit] w fun e w' => e = .returned (.tuple #[.pointer none, .int .i64 1]) ∧ w = w' := by
  by_cases h1 : limit < 1
  · clear h
    go_enter Try.func19, Try.ntmps19
    go_wp2
    go_ret2
    exact ⟨rfl, rfl⟩
  · have h2 : 64 < limit := by omega
    clear h
    go_enter Try.func19, Try.ntmps19
    go_wp2
    go_ret2
    exact ⟨rfl, rfl⟩

set_option maxHeartbeats 400000 in
theorem rb_new_yes (w : World) (limit : Int) (h1 : 1 ≤ limit) (h2 : limit ≤ 64) :
    Calls Try.prog 19 #[.int .i64 limit] w fun e w' => e = .returned (.tuple #[.pointer (some ⟨w.heap.size, 0, none⟩), .int .i64 0]) ∧
      BagAt 54 w' w.heap.size w.heap.size limit none 0 [] ∧ Below w.heap.size w w' := by
  have h3 : ¬ limit < 1 := by omega
  have h4 : ¬ 64 < limit := by omega
  go_enter Try.func19, Try.ntmps19
  go_wp2
  go_ret2
  exact ⟨rfl, ⟨Nat.le_refl _, heap_new _ _, World.ownsRow_nil _ _ _ _, by simp⟩, bl1 w _⟩

set_option maxHeartbeats 400000 in
theorem rb_post_full (w : World) (B p : Nat) (limit : Int) (a : Option Addr) (c : Nat) (L : List Lt) (tw : Int) (lv : Value) (h : BagAt 54 w B p limit a c L) (hl : limit ≤ L.length) :
    Calls Try.prog 20 #[.pointer (some ⟨p, 0, none⟩), .agg #[.int .i64 tw, lv]] w fun e w' => e = .returned (.int .i64 2) ∧ Below w.heap.size w w' := by
  have hlen : L.length ≤ maxLen := (Rd.own h.row).len
  unfold maxLen at hlen
  have hpz := blk_lt h.hp
  have b0 := blk2 h.hp
  clear h
  go_enter Try.func20, Try.ntmps20
  go_wp2_with fail
  go_quiet (fail)
  go_wp2
  go_ret
  exact ⟨rfl, below_drewN (bl1 w _) _⟩

set_option maxHeartbeats 1000000 in
theorem rb_post_ok (w : World) (B p : Nat) (limit : Int) (a : Option Addr) (c : Nat) (L : List Lt) (tw : Int) (lv : Value) (l : List Int) (h : BagAt 54 w B p limit a c L) (hl : L.length < limit) (hm : limit ≤ 64)
    (hv : Rd w lv l.length (bys l)) (hll : l.length ≤ 140737488351232) (hBw : B ≤ w.heap.size) :
    Calls Try.prog 20 #[.pointer (some ⟨p, 0, none⟩), .agg #[.int .i64 tw, lv]] w fun e w' => e = .returned (.int .i64 0) ∧ ∃ a' c' x, x.tw = tw ∧ x.bs = l ∧ BagAt 54 w' B p limit a' c' (L ++ [x]) ∧
      w'.ownsRow w.heap.size 5 1 x.v l.length (bys l) ∧ (a'.map (·.block) = a.map (·.block) ∨ ∃ g, a'.map (·.block) = some g ∧ w.heap.size ≤ g) ∧ Chg (BagF p a) w w' := by
  obtain ⟨va, vc, rfl, _, _⟩ := hv.shape
  have hpz := blk_lt h.hp
  have b0 := blk2 h.hp
  have hBp := h.hB
  have hne := h.ne (by decide)
  obtain ⟨i1, hi1, hy0, hy1, hy2⟩ := info_parts infoLt
  have HI := hid hi1
  have HR := hid h.row
  have HH := hid h
  have HV := hid hv
  have hn0 : (0 : Int) ≤ L.length := by omega
  clear h hv hi1
  go_enter Try.func20, Try.ntmps20
  go_wp2_with fail
  go_quiet (fail)
  go_wp2_with fail
  go_region_law (first
      | (refine step_append_rd (by rfl) _ _ 28 (by rfl) B 35 i1 _ 2 32 Try.underlying28 HI.out hy0 hy1 hy2 rfl (by decide) (.slice a L.length c) L.length (lcs L) (by rfl) (own_alloc hrow.out _) (.slice (some ⟨w1.heap.size, 0, none⟩) 1 1) 1 [.int .i64 tw, .slice a' l.length c'] (by rfl) (rd_blk (heap_new w1 _) (by unfold maxLen; omega)) rfl (by intro u hu; simp at hu; rcases hu with rfl | rfl <;> rfl) (by unfold maxLen; omega) (by omega) (by simp; omega) ?_; intro a2 c2 w2 hown2 hgrow2 hat2; (have kp := heap_grown hgrow2 (heap_old K1.out _) hne); (have b3 := blk2 kp); (have KP := hid kp); clear kp)
      | (go_simp; go_at_call 31; refine (one_any _ _ l _ ((HV.out.alloc _).drewN _) hll).mono ?_; rintro e w1 ⟨a', c', rfl, hown, hb⟩; (have k0 := heap_below hb (heap_new w _) (by first | (simp; done) | (simp; omega))); (have b1 := blk2 k0); (have k1 := heap_below hb (heap_old HH.out.hp _) (by first | (simp; done) | (simp; omega))); (have b2 := blk2 k1); (have hz := blk_lt k0); (have hz2 := blk_lt k1); (have hrow := hid (own_below (own_drewN (own_alloc HR.out _) _) hb)); (have K1 := hid k1); clear k0 k1))
  all_goals (go_wp2; go_ret; exact ⟨rfl, post_fin (by decide) (by decide) HH.out hBw hb hown hgrow2 hown2 hat2⟩)


end Go.Proofs.Ytdolaiejkobaiaa
