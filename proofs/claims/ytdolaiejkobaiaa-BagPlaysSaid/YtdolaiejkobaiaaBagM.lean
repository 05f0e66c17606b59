import Derived.Test.YtdolaiejkobaiaaBagL
import Derived.Test.YtdolaiejkobaiaaBagH
namespace Go.Proofs.Ytdolaiejkobaiaa
set_option linter.unusedVariables false
set_option linter.unusedSimpArgs false
open Go.RowKit
attribute [local go_sem ↓] Go.wp_at_zero Go.wp_at_succ

set_option maxHeartbeats 400000 in
theorem rb_drop_no (w : World) (B p : Nat) (limit : Int) (a : Option Addr) (c : Nat) (L : List Lt) (i : Int) (h : BagAt 54 w B p limit a c L) (hi : i < 0 ∨ (L.length : Int) ≤ i) :
    Calls Try.prog 22 #[.pointer (some ⟨p, 0, none⟩), .int .i64 i] w fun e w' => e = .returned (.int .i64 30) ∧ w = w' := by
  have hl := h.len
  have b0 := blk2 h.hp
  clear h
  by_cases h0 : i < 0
  · have h1 : decide (i < 0) = true := by simp; omega
    clear hi
    go_enter Try.func22, Try.ntmps22
    go_wp2
    go_ret
    exact ⟨rfl, rfl⟩
  · have h1 : decide (i < 0) = false := by simp; omega
    have h2 : (L.length : Int) ≤ i := by omega
    have h4 : decide (i ≥ (L.length : Int)) = true := by simp; omega
    clear hi
    go_enter Try.func22, Try.ntmps22
    go_wp2
    go_ret
    exact ⟨rfl, rfl⟩

theorem rdrop_fin {w w1 : World} {B p : Nat} {limit : Int} {a a' : Option Addr} {c c' : Nat} {L M : List Lt}
    (h : BagAt 54 w B p limit a c L) (hB : B ≤ w.heap.size) (hb : Below w.heap.size w w1) {n : Nat} (hn : n = M.length) (hM : ∀ x ∈ M, x ∈ L)
    (hown : w1.ownsRow w.heap.size 35 2 (.slice a' n c') n (lcs M)) :
    BagAt 54 (w1.setCell ⟨p, 1, none⟩ (.slice a' n c')) B p limit a' c' M ∧ (∀ k, a'.map (·.block) = some k → w.heap.size ≤ k) ∧ Chg (BagF p a) w (w1.setCell ⟨p, 1, none⟩ (.slice a' n c')) := by
  subst hn
  have hp1 := heap_below hb h.hp (blk_lt h.hp)
  refine ⟨⟨h.hB, heap_set hp1 1 _, own_set (ownsRow_mono hown hB) (own_ne hown hp1 (by decide)) _ _, fun x hx => ?_⟩, fun k hk => (own_lt hown (k := k) (by rw [ownBlock_slice]; exact hk)).1, ?_⟩
  · have h1 := own_below (h.each x (hM x hx)) hb
    exact own_set h1 (own_ne h1 hp1 (by decide)) _ _
  · exact (Chg.mono (Chg.below hb) (fun _ _ h => h.elim)).setCell _ _ (.inl (.inl rfl))

set_option maxHeartbeats 400000 in
theorem rb_drop_yes (w : World) (B p : Nat) (limit : Int) (a : Option Addr) (c : Nat) (L : List Lt) (i : Nat) (h : BagAt 54 w B p limit a c L) (hi : i < L.length) (hm : L.length ≤ 64) (hB : B ≤ w.heap.size) :
    Calls Try.prog 22 #[.pointer (some ⟨p, 0, none⟩), .int .i64 i] w fun e w' => e = .returned (.int .i64 0) ∧ ∃ a' c', BagAt 54 w' B p limit a' c' (L.eraseIdx i) ∧ (∀ k, a'.map (·.block) = some k → w.heap.size ≤ k) ∧ Chg (BagF p a) w w' := by
  have b0 := blk2 h.hp
  have hpz := blk_lt h.hp
  have hl := h.len
  have HH := hid h
  have h1 : decide ((i : Int) < 0) = false := by simp
  have h4 : decide ((i : Int) ≥ (L.length : Int)) = false := by simp; omega
  have h5 : decide ((i : Nat) ≥ L.length) = false := by simp; omega
  clear h
  go_enter Try.func22, Try.ntmps22
  go_wp2_with (first
    | (go_at_call 32; refine (rb_without _ B p limit a c L i HH.out hi hm).mono ?_; rintro e w1 ⟨a1, c1, rfl, hown, hb⟩; (have b1 := blk2 (heap_below hb HH.out.hp hpz))))
  go_ret
  exact ⟨rfl, a1, c1, rdrop_fin HH.out hB hb (by rw [List.length_eraseIdx_of_lt hi]) (fun x hx => List.mem_of_mem_eraseIdx hx) hown⟩

set_option maxHeartbeats 400000 in
theorem rb_double_no (w : World) (B p : Nat) (limit : Int) (a : Option Addr) (c : Nat) (L : List Lt) (i : Int) (h : BagAt 54 w B p limit a c L) (hi : i < 0 ∨ (L.length : Int) ≤ i) :
    Calls Try.prog 23 #[.pointer (some ⟨p, 0, none⟩), .int .i64 i] w fun e w' => e = .returned (.int .i64 30) ∧ w = w' := by
  have hl := h.len
  have b0 := blk2 h.hp
  clear h
  by_cases h0 : i < 0
  · have h1 : decide (i < 0) = true := by simp; omega
    clear hi
    go_enter Try.func23, Try.ntmps23
    go_wp2
    go_ret
    exact ⟨rfl, rfl⟩
  · have h1 : decide (i < 0) = false := by simp; omega
    have h2 : (L.length : Int) ≤ i := by omega
    have h4 : decide (i ≥ (L.length : Int)) = true := by simp; omega
    clear hi
    go_enter Try.func23, Try.ntmps23
    go_wp2
    go_ret
    exact ⟨rfl, rfl⟩

set_option maxHeartbeats 400000 in
theorem rb_double_full (w : World) (B p : Nat) (limit : Int) (a : Option Addr) (c : Nat) (L : List Lt) (i : Nat) (h : BagAt 54 w B p limit a c L) (hi : i < L.length) (hl : limit ≤ L.length) :
    Calls Try.prog 23 #[.pointer (some ⟨p, 0, none⟩), .int .i64 i] w fun e w' => e = .returned (.int .i64 2) ∧ Below w.heap.size w w' := by
  obtain ⟨g, rfl, hBg, hgz, hc1, hc2⟩ := h.loc (by omega)
  have b0 := blk2 h.hp
  have b1 := h.at (List.getElem?_eq_getElem hi)
  have hlen := h.len
  have HH := hid h
  have h3 : (0 : Int) ≤ (i : Int) := by omega
  have h4 : (i : Int) < (L.length : Int) := by omega
  have h1 : decide ((i : Int) < 0) = false := by simp
  have h5 : decide ((i : Int) ≥ (L.length : Int)) = false := by simp; omega
  have h6 : decide ((i : Nat) ≥ L.length) = false := by simp; omega
  clear h
  go_enter Try.func23, Try.ntmps23
  go_wp2_with (first
    | (go_at_call 20; refine (rb_post_full _ B p limit _ c L _ _ HH.out hl).mono ?_; rintro e w1 ⟨rfl, hb⟩))
  go_ret
  exact ⟨rfl, hb⟩

set_option maxHeartbeats 400000 in
theorem rb_double_ok (w : World) (B p : Nat) (limit : Int) (a : Option Addr) (c : Nat) (L : List Lt) (i : Nat) (y : Lt) (h : BagAt 54 w B p limit a c L) (hi : L[i]? = some y) (hl : L.length < limit) (hm : limit ≤ 64) (hBw : B ≤ w.heap.size)
    (hy : y.bs.length ≤ 140737488351232) :
    Calls Try.prog 23 #[.pointer (some ⟨p, 0, none⟩), .int .i64 i] w fun e w' => e = .returned (.int .i64 0) ∧ ∃ a' c' x, x.tw = y.tw ∧ x.bs = y.bs ∧ BagAt 54 w' B p limit a' c' (L ++ [x]) ∧
      w'.ownsRow w.heap.size 5 1 x.v y.bs.length (bys y.bs) ∧ (a'.map (·.block) = a.map (·.block) ∨ ∃ g, a'.map (·.block) = some g ∧ w.heap.size ≤ g) ∧ Chg (BagF p a) w w' := by
  have hi' : i < L.length := (List.getElem?_eq_some_iff.1 hi).1
  obtain ⟨g, rfl, hBg, hgz, hc1, hc2⟩ := h.loc (by omega)
  have b0 := blk2 h.hp
  have b1 := h.at hi
  have hyo := Rd.own (h.each y (List.mem_of_getElem? hi))
  have hlen := h.len
  have HH := hid h
  have HY := hid hyo
  have h3 : (0 : Int) ≤ (i : Int) := by omega
  have h4 : (i : Int) < (L.length : Int) := by omega
  have h1 : decide ((i : Int) < 0) = false := by simp
  have h5 : decide ((i : Int) ≥ (L.length : Int)) = false := by simp; omega
  have h6 : decide ((i : Nat) ≥ L.length) = false := by simp; omega
  clear h hyo hi
  go_enter Try.func23, Try.ntmps23
  go_wp2_with (first
    | (go_at_call 20; refine (rb_post_ok _ B p limit _ c L _ _ y.bs HH.out hl hm HY.out hy hBw).mono ?_; rintro e w1 ⟨rfl, hb⟩))
  go_ret
  exact ⟨rfl, hb⟩

set_option maxHeartbeats 400000 in
theorem rb_take_no (w : World) (B p : Nat) (limit : Int) (a : Option Addr) (c : Nat) (L : List Lt) (i : Int) (h : BagAt 54 w B p limit a c L) (hi : i < 0 ∨ (L.length : Int) ≤ i) :
    Calls Try.prog 21 #[.pointer (some ⟨p, 0, none⟩), .int .i64 i] w fun e w' => e = .returned (.tuple #[.agg #[.int .i64 0, .slice none 0 0], .int .i64 30]) ∧ Below w.heap.size w w' := by
  have hl := h.len
  have hpz := blk_lt h.hp
  have b0 := blk2 h.hp
  clear h
  by_cases h0 : i < 0
  · have h1 : decide (i < 0) = true := by simp; omega
    clear hi
    go_enter Try.func21, Try.ntmps21
    go_wp2
    refine bodyPost_ret (v := .tuple #[.agg #[.int .i64 0, .slice none 0 0], .int .i64 30]) (by simp [results, Try.results21, go_sem]) rfl ⟨rfl, ?_⟩
    first | exact bl1 w _ | exact ((bl1 w _).setCell (by simp) _).setCell (by simp) _
  · have h1 : decide (i < 0) = false := by simp; omega
    have h2 : (L.length : Int) ≤ i := by omega
    have h4 : decide (i ≥ (L.length : Int)) = true := by simp; omega
    clear hi
    go_enter Try.func21, Try.ntmps21
    go_wp2
    refine bodyPost_ret (v := .tuple #[.agg #[.int .i64 0, .slice none 0 0], .int .i64 30]) (by simp [results, Try.results21, go_sem]) rfl ⟨rfl, ?_⟩
    first | exact bl1 w _ | exact ((bl1 w _).setCell (by simp) _).setCell (by simp) _

set_option maxHeartbeats 1000000 in
theorem rb_take_yes (w : World) (B p : Nat) (limit : Int) (a : Option Addr) (c : Nat) (L : List Lt) (i : Nat) (y : Lt) (h : BagAt 54 w B p limit a c L) (hi : L[i]? = some y) (hm : L.length ≤ 64) (hB : B ≤ w.heap.size) (hy : y.bs.length ≤ 140737488351232) :
    Calls Try.prog 21 #[.pointer (some ⟨p, 0, none⟩), .int .i64 i] w fun e w' => ∃ ya yc, e = .returned (.tuple #[.agg #[.int .i64 y.tw, .slice ya y.bs.length yc], .int .i64 0]) ∧ w'.ownsRow w.heap.size 5 1 (.slice ya y.bs.length yc) y.bs.length (bys y.bs) ∧
      ∃ a' c', BagAt 54 w' B p limit a' c' (L.eraseIdx i) ∧ (∀ k, a'.map (·.block) = some k → w.heap.size ≤ k) ∧ Chg (BagF p a) w w' := by
  have hi' : i < L.length := (List.getElem?_eq_some_iff.1 hi).1
  obtain ⟨g, rfl, hBg, hgz, hc1, hc2⟩ := h.loc (by omega)
  have b0 := blk2 h.hp
  have b1 := h.at hi
  have hpz := blk_lt h.hp
  have hyo := Rd.own (h.each y (List.mem_of_getElem? hi))
  have hlen := h.len
  have HH := hid h
  have HY := hid hyo
  have h3 : (0 : Int) ≤ (i : Int) := by omega
  have h4 : (i : Int) < (L.length : Int) := by omega
  have h1 : decide ((i : Int) < 0) = false := by simp
  have h5 : decide ((i : Int) ≥ (L.length : Int)) = false := by simp; omega
  have h6 : decide ((i : Nat) ≥ L.length) = false := by simp; omega
  clear h hyo hi
  go_enter Try.func21, Try.ntmps21
  go_wp2_with fail
  refine (one_any _ _ y.bs _ (HY.out.below (bl1 w _)) hy).mono ?_
  rintro e w1 ⟨a1, c1, rfl, hown, hb⟩
  have k0 := heap_below hb (heap_new w (.cells #[.int .i64 0, .slice none 0 0] 35)) (by simp)
  have hz1 := hb.size
  simp only [World.size_alloc] at hz1
  have b0' := blk2 k0
  have HO := hid hown
  have K0 := hid k0
  have BB1 := hid ((bl1 w (.cells #[.int .i64 0, .slice none 0 0] 35)).trans (hb.mono (by simp)))
  have HH1 := hid ((HH.out.below (bl1 w (.cells #[.int .i64 0, .slice none 0 0] 35))).below hb)
  clear k0 hown hb
  go_wp2_with fail
  refine (rb_without _ B p limit _ c L i (HH1.out.below (bl1 w1 _)) hi' hm).mono ?_
  rintro e w2 ⟨a2, c2, rfl, hown2, hb2⟩
  have hz2 := hb2.size
  simp only [World.size_alloc] at hz2
  have k1 := heap_below hb2 (heap_old (heap_below BB1.out HH.out.hp hpz) (.cells #[.int .i64 y.tw, .slice a1 y.bs.length c1] 35)) (by simp; omega)
  have b2 := blk2 k1
  have k2 := heap_below hb2 (heap_old K0.out (.cells #[.int .i64 y.tw, .slice a1 y.bs.length c1] 35)) (by simp; omega)
  have b3 := blk2 k2
  have k3 := heap_below hb2 (heap_new w1 (.cells #[.int .i64 y.tw, .slice a1 y.bs.length c1] 35)) (by simp)
  have b4 := blk2 k3
  have HO2 := hid hown2
  have K2 := hid k2
  have K3 := hid k3
  have BB2 := hid (BB1.out.trans ((bl1 w1 (.cells #[.int .i64 y.tw, .slice a1 y.bs.length c1] 35)).trans (hb2.mono (by simp)) |>.mono (by omega)))
  have HOA := hid (own_below (own_alloc HO.out (.cells #[.int .i64 y.tw, .slice a1 y.bs.length c1] 35)) hb2)
  clear k1 k2 k3 hown2 hb2 b0 b1 b0'
  have hpw : p ≠ w.heap.size := by omega
  have hpw1 : p ≠ w1.heap.size := by omega
  go_wp2
  obtain ⟨hbag, hlow, hchg⟩ := rdrop_fin HH.out hB BB2.out (n := L.length - 1) (M := L.eraseIdx i) (by rw [List.length_eraseIdx_of_lt hi']) (fun x hx => List.mem_of_mem_eraseIdx hx) (ownsRow_mono HO2.out (by simp; omega))
  have K4 := heap_set_ne K2.out (j := p) 1 (.slice a2 (L.length - 1) c2) (by omega)
  refine bodyPost_ret (v := .tuple #[.agg #[.int .i64 y.tw, .slice a1 y.bs.length c1], .int .i64 0]) (by simp [results, Try.results21, go_sem, b3]) rfl ⟨a1, c1, rfl, ?_, a2, c2, ?_, hlow, ?_⟩
  · have h7 := ownsRow_mono (B' := w.heap.size) HOA.out (by simp)
    refine own_set (own_set (own_set h7 ?_ _ _) ?_ _ _) ?_ _ _
    · exact own_ne h7 (heap_below BB2.out HH.out.hp hpz) (by decide)
    · exact own_ne h7 K2.out (by decide)
    · exact own_ne h7 K2.out (by decide)
  · refine hbag.chg (F := fun k => k = w.heap.size) (chg_set2 _ _ _ _ _ _) (by omega) (fun k hk => ?_) (fun x hx k hk => ?_)
    · have h8 := (own_lt HO2.out (k := k) (by rw [ownBlock_slice]; exact hk)).1
      simp at h8; omega
    · have h5 := hbag.each x hx
      rintro rfl
      exact own_ne h5 K4 (by decide) hk
  · exact (hchg.setCell _ _ (.inr (Nat.le_refl _))).setCell _ _ (.inr (Nat.le_refl _))

end Go.Proofs.Ytdolaiejkobaiaa
