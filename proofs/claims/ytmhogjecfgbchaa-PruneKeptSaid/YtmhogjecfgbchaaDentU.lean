import Derived.Test.YtmhogjecfgbchaaDentT
namespace Go.Proofs.Ytmhogjecfgbchaa
set_option linter.unusedVariables false
set_option linter.unusedSimpArgs false
open Go.RowKit
attribute [local go_sem ↓] Go.wp_at_zero Go.wp_at_succ

/-- the last one of a key -/
def lastE (k : Ky) (e : En) (L : List En) : En := (L.reverse.find? (isK k)).getD e
theorem lastE_nil (k : Ky) (e : En) : lastE k e [] = e := rfl
theorem lastE_yes {k : Ky} {e x : En} {L : List En} (h : isK k x = true) : lastE k e (L ++ [x]) = x := by simp [lastE, h]
theorem lastE_no {k : Ky} {e x : En} {L : List En} (h : isK k x = false) : lastE k e (L ++ [x]) = lastE k e L := by simp [lastE, h]
theorem lastE_find {k : Ky} {e y : En} {L : List En} (hn : (L.map En.key).Nodup) (hf : findL k L = some y) : lastE k e L = y := by
  have h1 := List.mem_of_find?_eq_some hf
  have h2 := List.find?_some hf
  unfold lastE
  cases hr : L.reverse.find? (isK k) with
  | none => rw [List.find?_eq_none] at hr; exact absurd h2 (hr y (by simpa using h1))
  | some z =>
    have h3 := List.mem_of_find?_eq_some hr
    have h4 := List.find?_some hr
    simp only [isK, decide_eq_true_eq] at h2 h4
    simp only [Option.getD_some]
    exact map_inj hn (by simpa using h3) h1 (by rw [← h4, h2])
theorem dropL_yes {k : Ky} {x : En} {L : List En} (h : isK k x = true) : dropL k (L ++ [x]) = dropL k L := by simp [dropL, h]
theorem dropL_no {k : Ky} {x : En} {L : List En} (h : isK k x = false) : dropL k (L ++ [x]) = dropL k L ++ [x] := by simp [dropL, h]
theorem dropL_le (k : Ky) (L : List En) : (dropL k L).length ≤ L.length := List.length_filter_le _ _
theorem find_drop (k : Ky) (L : List En) : findL k (dropL k L) = none := by
  rw [findL, List.find?_eq_none]; intro e he; have := (List.mem_filter.1 he).2; simpa using this
theorem useL_some {k : Ky} {y : En} {L : List En} (h : findL k L = some y) : useL k L = dropL k L ++ [y] := by simp [useL, h]
theorem useL_none {k : Ky} {L : List En} (h : findL k L = none) : useL k L = L := by simp [useL, h]

def En.v7 (x : En) : Value := .agg #[.int .i64 x.key.dir, .string x.key.name, .bool x.neg, .int .i64 x.node.id, .int .i64 x.node.kind, .int .i64 x.node.mode, .string x.node.target]
theorem en_eta (x y : En) : decide ((⟨⟨x.key.dir, x.key.name⟩, x.neg, ⟨x.node.id, x.node.kind, x.node.mode, x.node.target⟩⟩ : En) = ⟨⟨y.key.dir, y.key.name⟩, y.neg, ⟨y.node.id, y.node.kind, y.node.mode, y.node.target⟩⟩) = decide (x = y) := rfl
/-- reading an element of a row that reads as entries -/
theorem ecs_loc {w : World} {a : Option Addr} {n c : Nat} {L : List En} (h : Rd w (.slice a n c) n (ecs L)) (hS : 0 < L.length) : ∃ b off, a = some ⟨b, off, none⟩ := by
  obtain ⟨b, off, cap, hv, _⟩ := h.form (by rw [ecs_len]; omega)
  simp only [Value.slice.injEq] at hv
  exact ⟨b, off, hv.1⟩
theorem ecs_cells {w : World} {b off n c m : Nat} {L : List En} (h : Rd w (.slice (some ⟨b, off, none⟩) n c) m (ecs L)) {k : Nat} {x : En} (hx : L[k]? = some x) :
    w.cell? ⟨b, off + k * 7, none⟩ = some (.int .i64 x.key.dir) ∧ w.cell? ⟨b, off + k * 7 + 1, none⟩ = some (.string x.key.name) ∧ w.cell? ⟨b, off + k * 7 + 2, none⟩ = some (.bool x.neg) ∧ w.cell? ⟨b, off + k * 7 + 3, none⟩ = some (.int .i64 x.node.id) ∧ w.cell? ⟨b, off + k * 7 + 4, none⟩ = some (.int .i64 x.node.kind) ∧ w.cell? ⟨b, off + k * 7 + 5, none⟩ = some (.int .i64 x.node.mode) ∧ w.cell? ⟨b, off + k * 7 + 6, none⟩ = some (.string x.node.target) := by
  have g0 : ∀ (i : Nat) (v : Value), x.cells[i]? = some v → w.cell? ⟨b, off + k * 7 + i, none⟩ = some v := fun i v hi => by
    have := h.at _ _ (flatMap_at (f := En.cells) (sz := 7) (fun _ => rfl) hx hi)
    rw [Nat.add_assoc]; exact this
  exact ⟨g0 0 _ rfl, g0 1 _ rfl, g0 2 _ rfl, g0 3 _ rfl, g0 4 _ rfl, g0 5 _ rfl, g0 6 _ rfl⟩

theorem take_eq_snoc {α : Type} {L M : List α} {i : Nat} {x y : α} (hx : L[i]? = some x) (hy : M[i]? = some y) (h : L.take i = M.take i) (he : x = y) : L.take (i + 1) = M.take (i + 1) := by
  rw [List.take_add_one, List.take_add_one, hx, hy, h, he]

set_option maxRecDepth 100000 in
set_option maxHeartbeats 2000000 in
theorem same_entries (w : World) (L M : List En) (a1 a2 : Option Addr) (c1 c2 : Nat) (h1 : Rd w (.slice a1 L.length c1) L.length (ecs L)) (h2 : Rd w (.slice a2 M.length c2) M.length (ecs M)) :
    Calls Try.prog 33 #[.slice a1 L.length c1, .slice a2 M.length c2] w fun e w' => e = .returned (.bool (decide (L = M))) ∧ Below w.heap.size w w' := by
  have H1 := hid h1
  have H2 := hid h2
  have hl1 := h1.len
  have hl2 := h2.len
  unfold maxLen at hl1 hl2
  clear h1 h2
  by_cases hll : L.length = M.length
  · have HLL := hid hll
    have hll2 : ((L.length : Int) != (M.length : Int)) = false := by simp [hll]
    have HIFF := hid (show decide (L = M) = true ↔ L = M from decide_eq_true_iff)
    go_enter Try.func33, Try.ntmps33
    go_wp2_with fail
    go_loopw [5] (fun v wr => ∃ (i : Nat), i ≤ L.length ∧ v = .int .i64 i ∧ Hid (L.take i = M.take i) ∧ Hid (Below w.heap.size w wr)) (fun v _ => L.length - (intOf v).toNat)
    case atStart => exact ⟨0, Nat.zero_le _, rfl, hid (by simp), hid (Below.refl _ _)⟩
    case round =>
      obtain ⟨i, hi, rfl, HT, HB⟩ := hrel
      by_cases hlt : i < L.length
      · have hk0 : (0 : Int) ≤ (i : Int) := by omega
        have hk1 : (i : Int) < (L.length : Int) := by omega
        have hk2 : (i : Int) < (M.length : Int) := by omega
        obtain ⟨b1, o1, rfl⟩ := ecs_loc H1.out (by omega)
        obtain ⟨b2, o2, rfl⟩ := ecs_loc H2.out (by omega)
        obtain ⟨x, hx⟩ : ∃ x, L[i]? = some x := ⟨_, List.getElem?_eq_getElem hlt⟩
        obtain ⟨y, hy⟩ : ∃ y, M[i]? = some y := ⟨_, List.getElem?_eq_getElem (by omega)⟩
        have P1 := ecs_cells (H1.out.below HB.out) hx
        have P2 := ecs_cells (H2.out.below HB.out) hy
        have HX := hid hx
        have HY := hid hy
        have heq := fun W => eqIn_entry x.key.dir y.key.dir x.node.id x.node.kind x.node.mode y.node.id y.node.kind y.node.mode x.key.name y.key.name x.node.target y.node.target x.neg y.neg W
        simp only [en_eta] at heq
        clear hx hy hll
        by_cases he : x = y
        · rw [show decide (x = y) = true from decide_eq_true he] at heq
          have HN := hid (take_eq_snoc HX.out HY.out HT.out he)
          clear he
          go_wp2_with fail
          go_quiet (fail)
          go_wp2
          exact ⟨⟨i + 1, by omega, by go_num, HN, hid (below_drewN HB.out _)⟩, by simp [intOf]; omega⟩
        · rw [show decide (x = y) = false from decide_eq_false he] at heq
          have HN := hid (show decide (L = M) = false from decide_eq_false fun e => he (by have a := HX.out; rw [e, HY.out] at a; exact (Option.some.inj a).symm))
          clear he
          go_wp2_with fail
          go_quiet (fail)
          go_wp2
          go_ret
          exact ⟨by rw [HN.out]; rfl, below_drewN HB.out _⟩
      · have HN := hid (show decide (L = M) = true from decide_eq_true (by have := HT.out; rw [List.take_of_length_le (by omega), List.take_of_length_le (by have := HLL.out; omega)] at this; exact this))
        go_wp2
        go_ret
        exact ⟨by rw [HN.out]; rfl, HB.out⟩
  · have hll2 : ((L.length : Int) != (M.length : Int)) = true := by simp; omega
    have HN := hid (show decide (L = M) = false from decide_eq_false fun e => hll (by rw [e]))
    go_enter Try.func33, Try.ntmps33
    go_wp2
    go_ret
    exact ⟨by rw [HN.out]; rfl, Below.refl _ _⟩

end Go.Proofs.Ytmhogjecfgbchaa
