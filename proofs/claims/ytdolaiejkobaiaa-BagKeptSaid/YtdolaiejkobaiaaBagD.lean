import Derived.Test.YtdolaiejkobaiaaBagC
namespace Go.Proofs.Ytdolaiejkobaiaa
set_option linter.unusedVariables false
set_option linter.unusedSimpArgs false
open Go.RowKit
attribute [local go_sem ↓] Go.wp_at_zero Go.wp_at_succ

theorem BagAt.len {T : Nat} {w : World} {B p : Nat} {limit : Int} {a : Option Addr} {c : Nat} {L : List Lt} (h : BagAt T w B p limit a c L) : L.length ≤ 9223372036854775807 := by
  have := (Rd.own h.row).len
  unfold maxLen at this; omega

theorem BagAt.loc {T : Nat} {w : World} {B p : Nat} {limit : Int} {a : Option Addr} {c : Nat} {L : List Lt} (h : BagAt T w B p limit a c L) (hL : 0 < L.length) : ∃ g, a = some ⟨g, 0, none⟩ ∧ B ≤ g ∧ g < w.heap.size ∧ L.length ≤ c ∧ c ≤ maxLen := by
  rcases h.row.2 with ⟨hv, h0⟩ | ⟨g, cap, cur, hv, hB, hg, h1, h2, _⟩
  · omega
  · simp only [Value.slice.injEq] at hv
    obtain ⟨rfl, _, rfl⟩ := hv
    exact ⟨g, rfl, hB, blk_lt hg, h1, h2⟩

set_option maxHeartbeats 400000 in
theorem bag_has_no (w : World) (B p : Nat) (limit : Int) (a : Option Addr) (c : Nat) (L : List Lt) (i : Int) (h : BagAt 62 w B p limit a c L) (hi : i < 0 ∨ (L.length : Int) ≤ i) :
    Calls Try.prog 29 #[.pointer (some ⟨p, 0, none⟩), .int .i64 i] w fun e w' => e = .returned (.bool false) ∧ w = w' := by
  have hl := h.len
  have b0 := blk2 h.hp
  clear h
  by_cases h0 : i < 0
  · have h1 : decide (0 ≤ i) = false := by simp; omega
    clear hi
    go_enter Try.func29, Try.ntmps29
    go_wp2
    go_ret
    exact ⟨rfl, rfl⟩
  · have h1 : 0 ≤ i := by omega
    have h2 : (L.length : Int) ≤ i := by omega
    have h3 : decide (0 ≤ i) = true := by simp; omega
    have h4 : decide (i < (L.length : Int)) = false := by simp; omega
    clear hi
    go_enter Try.func29, Try.ntmps29
    go_wp2
    go_ret
    exact ⟨rfl, rfl⟩

set_option maxHeartbeats 400000 in
theorem bag_has_yes (w : World) (B p : Nat) (limit : Int) (a : Option Addr) (c : Nat) (L : List Lt) (i : Nat) (h : BagAt 62 w B p limit a c L) (hi : i < L.length) :
    Calls Try.prog 29 #[.pointer (some ⟨p, 0, none⟩), .int .i64 i] w fun e w' => e = .returned (.bool true) ∧ w = w' := by
  have hl := h.len
  have b0 := blk2 h.hp
  clear h
  have h3 : (0 : Int) ≤ (i : Int) := by omega
  go_enter Try.func29, Try.ntmps29
  go_wp2
  go_ret
  exact ⟨rfl, rfl⟩

set_option maxHeartbeats 400000 in
theorem bag_drop_no (w : World) (B p : Nat) (limit : Int) (a : Option Addr) (c : Nat) (L : List Lt) (i : Int) (h : BagAt 62 w B p limit a c L) (hi : i < 0 ∨ (L.length : Int) ≤ i) :
    Calls Try.prog 15 #[.pointer (some ⟨p, 0, none⟩), .int .i64 i] w fun e w' => e = .returned (.int .i64 30) ∧ w = w' := by
  have HH := hid h
  have HI := hid hi
  clear h hi
  go_enter Try.func15, Try.ntmps15
  go_wp2_with (go_at_call 29; refine (bag_has_no _ B p limit a c L i HH.out HI.out).mono ?_; rintro e w' ⟨rfl, rfl⟩)
  go_ret
  exact ⟨rfl, rfl⟩

theorem drop_fin {T : Nat} (hT : T ≠ 35) (hT5 : T ≠ 5) {w w1 : World} {B p g : Nat} {limit : Int} {c : Nat} {L M : List Lt} 
    (h : BagAt T w B p limit (some ⟨g, 0, none⟩) c L) (hc : Chg (fun k => k = g) w w1) {n : Nat} (hn : n = M.length) (hM : ∀ x ∈ M, x ∈ L)
    (hown : w1.ownsRow B 35 2 (.slice (some ⟨g, 0, none⟩) n c) n (lcs M)) :
    BagAt T (w1.setCell ⟨p, 1, none⟩ (.slice (some ⟨g, 0, none⟩) n c)) B p limit (some ⟨g, 0, none⟩) c M ∧ Chg (BagF p (some ⟨g, 0, none⟩)) w (w1.setCell ⟨p, 1, none⟩ (.slice (some ⟨g, 0, none⟩) n c)) := by
  subst hn
  have hne := h.ne hT
  have hpg : ¬ p = g := fun e => hne (by rw [e]; rfl)
  have hp1 := heap_chg hc h.hp hpg
  refine ⟨⟨h.hB, heap_set hp1 1 _, own_set hown (own_ne hown hp1 hT) _ _, fun x hx => ?_⟩, Chg.setCell (Chg.mono hc fun i _ hi => .inr (by simp [hi])) _ _ (.inl (.inl rfl))⟩
  have h1 := h.each x (hM x hx)
  have h2 := ownsRow_chg h1 fun k hk hl => hc.block k hl fun e => own_ne2 h1 h.row (by decide) k hk (by rw [e]; rfl)
  exact own_set h2 (own_ne h2 hp1 hT5) _ _

set_option maxHeartbeats 400000 in
theorem bag_drop_yes (w : World) (B p : Nat) (limit : Int) (a : Option Addr) (c : Nat) (L : List Lt) (i : Nat) (h : BagAt 62 w B p limit a c L) (hi : i < L.length) :
    Calls Try.prog 15 #[.pointer (some ⟨p, 0, none⟩), .int .i64 i] w fun e w' => e = .returned (.int .i64 0) ∧ BagAt 62 w' B p limit a c (L.eraseIdx i) ∧ Chg (BagF p a) w w' := by
  obtain ⟨g, rfl, hBg, hgz, hc1, hc2⟩ := h.loc (by omega)
  have b0 := blk2 h.hp
  have hpg : ¬ p = g := fun e => h.ne (by decide) (by rw [e]; rfl)
  have HH := hid h
  clear h
  go_enter Try.func15, Try.ntmps15
  go_wp2_with (first
    | (go_at_call 29; refine (bag_has_yes _ B p limit _ c L i HH.out hi).mono ?_; rintro e w' ⟨rfl, rfl⟩)
    | (go_at_call 30; refine (without_any _ B g c i L HH.out.row hi).mono ?_; rintro e w1 ⟨rfl, hown, hchg⟩; (have b1 := blk2 (heap_chg hchg HH.out.hp hpg))))
  go_ret
  exact ⟨rfl, drop_fin (by decide) (by decide) HH.out hchg (by rw [List.length_eraseIdx_of_lt hi]) (fun x hx => List.mem_of_mem_eraseIdx hx) hown⟩

set_option maxHeartbeats 400000 in
theorem bag_double_no (w : World) (B p : Nat) (limit : Int) (a : Option Addr) (c : Nat) (L : List Lt) (i : Int) (h : BagAt 62 w B p limit a c L) (hi : i < 0 ∨ (L.length : Int) ≤ i) :
    Calls Try.prog 16 #[.pointer (some ⟨p, 0, none⟩), .int .i64 i] w fun e w' => e = .returned (.int .i64 30) ∧ w = w' := by
  have HH := hid h
  have HI := hid hi
  clear h hi
  go_enter Try.func16, Try.ntmps16
  go_wp2_with (go_at_call 29; refine (bag_has_no _ B p limit a c L i HH.out HI.out).mono ?_; rintro e w' ⟨rfl, rfl⟩)
  go_ret
  exact ⟨rfl, rfl⟩

theorem BagAt.at {T : Nat} {w : World} {B p g : Nat} {limit : Int} {c : Nat} {L : List Lt} (h : BagAt T w B p limit (some ⟨g, 0, none⟩) c L) {i : Nat} {x : Lt} (hx : L[i]? = some x) :
    w.cell? ⟨g, i * 2, none⟩ = some (.int .i64 x.tw) ∧ w.cell? ⟨g, i * 2 + 1, none⟩ = some (.slice x.a x.bs.length x.c) := by
  have h1 := (Rd.own h.row).at
  have h2 := lcs_at hx
  have h3 := h1 _ _ h2.1
  have h4 := h1 _ _ h2.2
  simp only [Nat.zero_add] at h3 h4
  exact ⟨h3, h4⟩

set_option maxHeartbeats 400000 in
theorem bag_double_full (w : World) (B p : Nat) (limit : Int) (a : Option Addr) (c : Nat) (L : List Lt) (i : Nat) (h : BagAt 62 w B p limit a c L) (hi : i < L.length) (hl : limit ≤ L.length) :
    Calls Try.prog 16 #[.pointer (some ⟨p, 0, none⟩), .int .i64 i] w fun e w' => e = .returned (.int .i64 2) ∧ Below w.heap.size w w' := by
  obtain ⟨g, rfl, hBg, hgz, hc1, hc2⟩ := h.loc (by omega)
  have b0 := blk2 h.hp
  have b1 := h.at (List.getElem?_eq_getElem hi)
  have HH := hid h
  have h3 : (0 : Int) ≤ (i : Int) := by omega
  have h4 : (i : Int) < (L.length : Int) := by omega
  clear h
  go_enter Try.func16, Try.ntmps16
  go_wp2_with (first
    | (go_at_call 29; refine (bag_has_yes _ B p limit _ c L i HH.out hi).mono ?_; rintro e w' ⟨rfl, rfl⟩)
    | (go_at_call 11; refine (bag_post_full _ B p limit _ c L _ _ HH.out hl).mono ?_; rintro e w1 ⟨rfl, hb⟩))
  go_ret
  exact ⟨rfl, hb⟩

set_option maxHeartbeats 400000 in
theorem bag_double_ok (w : World) (B p : Nat) (limit : Int) (a : Option Addr) (c : Nat) (L : List Lt) (i : Nat) (y : Lt) (h : BagAt 62 w B p limit a c L) (hi : L[i]? = some y) (hl : L.length < limit) (hm : limit ≤ 64) (hBw : B ≤ w.heap.size)
    (hy : y.bs.length ≤ 140737488351232) :
    Calls Try.prog 16 #[.pointer (some ⟨p, 0, none⟩), .int .i64 i] w fun e w' => e = .returned (.int .i64 0) ∧ ∃ a' c' x, x.tw = y.tw ∧ x.bs = y.bs ∧ BagAt 62 w' B p limit a' c' (L ++ [x]) ∧
      w'.ownsRow w.heap.size 5 1 x.v y.bs.length (bys y.bs) ∧ (a'.map (·.block) = a.map (·.block) ∨ ∃ g, a'.map (·.block) = some g ∧ w.heap.size ≤ g) ∧ Chg (BagF p a) w w' := by
  have hi' : i < L.length := (List.getElem?_eq_some_iff.1 hi).1
  obtain ⟨g, rfl, hBg, hgz, hc1, hc2⟩ := h.loc (by omega)
  have b0 := blk2 h.hp
  have b1 := h.at hi
  have hyo := Rd.own (h.each y (List.mem_of_getElem? hi))
  have HH := hid h
  have HY := hid hyo
  have h3 : (0 : Int) ≤ (i : Int) := by omega
  have h4 : (i : Int) < (L.length : Int) := by omega
  clear h hyo hi
  go_enter Try.func16, Try.ntmps16
  go_wp2_with (first
    | (go_at_call 29; refine (bag_has_yes _ B p limit _ c L i HH.out hi').mono ?_; rintro e w' ⟨rfl, rfl⟩)
    | (go_at_call 11; refine (bag_post_ok _ B p limit _ c L _ _ y.bs HH.out hl hm HY.out hy hBw).mono ?_; rintro e w1 ⟨rfl, hb⟩))
  go_ret
  exact ⟨rfl, hb⟩

end Go.Proofs.Ytdolaiejkobaiaa
