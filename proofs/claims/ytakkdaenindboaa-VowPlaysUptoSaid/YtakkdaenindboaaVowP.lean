import Derived.Test.YtakkdaenindboaaVowO
namespace Go.Proofs.Ytakkdaenindboaa
set_option linter.unusedVariables false
set_option linter.unusedSimpArgs false
open Go.RowKit
attribute [local go_sem ↓] Go.wp_at_zero Go.wp_at_succ
attribute [local go_sem] run_store_complex run_store_float

/-- a table that came behind w, and nothing else of w turned -/
structure VS (w wr : World) (F : Nat → Prop) (p : Nat) (t : Ts) : Prop where
  v : VAt wr F p t
  lo : ∀ k, F k → w.heap.size ≤ k
  below : Below w.heap.size w wr

section
variable {w wr w' : World} {F : Nat → Prop} {p : Nat} {t : Ts}
theorem VS.alloc (h : VS w wr F p t) (hb : Below wr.heap.size wr w') : VS w w' F p t := ⟨h.v.below hb, h.lo, h.below.trans (hb.mono h.below.size)⟩
theorem VS.sz (h : VS w wr F p t) : w.heap.size ≤ wr.heap.size := h.below.size
theorem VS.turn (h : VS w wr F p t) {t' : Ts} (hv : VAt w' F p t') (hc : Chg F wr w') : VS w w' F p t' :=
  ⟨hv, h.lo, h.below.trans (hc.toBelow h.below.size fun i hi hf => by have := h.lo i hf; omega)⟩
theorem VS.brk (h : VS w wr F p t) {r : Ts × List Bp} {e : Ending} (hp : BrkPost wr F p r e w') : ∃ (F' : Nat → Prop) (a : Option Addr) (c : Nat) (R : List Bk), e = .returned (.slice a R.length c) ∧ VS w w' F' p r.1 ∧ R.map Bk.pl = r.2 ∧ BrsAt w' wr.heap.size a c R ∧ BrsOut a R F' ∧ Chg F wr w' ∧ Fgrow wr F F' := by
  obtain ⟨F', a, c, R, he, hv, hR, hF, hC, hB, hO⟩ := hp
  refine ⟨F', a, c, R, he, ⟨hv, fun k hk => ?_, h.below.trans (hC.toBelow h.below.size fun i hi hf => by have := h.lo i hf; omega)⟩, hR, hB, hO, hC, hF⟩
  rcases hF k hk with h1 | h1
  · exact h.lo k h1
  · have := h.below.size; omega
end

theorem run_slice_from (t e sz : TypeId) (a : Option Addr) (len cap l : Nat) (ht : Try.prog.underlying t = some (.slice e)) (hs : ∀ w, (sizeOf e).run Try.prog w = .ok sz w) (hl : l ≤ len) (w : World) :
    (Instr.slice t (.slice a len cap) (some (.int .i64 (l : Int))) none none).run Try.prog w = .ok (.slice (if cap = l then a else a.map (·.add (l * sz))) (len - l) (cap - l)) w := by
  have h0 : (0 : Int) ≤ (l : Int) := by omega
  have h1 : (l : Int) ≤ (len : Int) := by omega
  have hb := run_sliceBound (P := Try.prog) w .i64 (l : Int) len .sliceB h0 h1
  simp [Instr.slice, run_underlying ht, Instr.sliceBounds, hs, hb]

theorem bkc_drop (L : List Bk) (i : Nat) : (bkc L).drop (i * 4) = bkc (L.drop i) := by
  induction L generalizing i with
  | nil => simp [bkc]
  | cons x L ih =>
    cases i with
    | zero => simp [bkc]
    | succ i =>
      have e : (i + 1) * 4 = i * 4 + 1 + 1 + 1 + 1 := by omega
      simp only [bkc, List.flatMap_cons, Bk.cells, List.cons_append, List.nil_append, e, List.drop_succ_cons] at ih ⊢
      rw [ih]

/-- what lies behind the first l breaks -/
theorem br_from {w : World} {a : Option Addr} {c l : Nat} {R : List Bk} (h : BrAt w (.slice a R.length c) R) (hl : l ≤ R.length) : BrAt w (.slice (if c = l then a else a.map (·.add (l * 4))) (R.length - l) (c - l)) (R.drop l) := by
  refine ⟨?_, fun x hx => h.each x (List.mem_of_mem_drop hx)⟩
  have hlen : (R.drop l).length = R.length - l := List.length_drop
  rw [hlen]
  rcases h.row with ⟨hv, h0, _⟩ | ⟨ad, cap, hv, h1, h2, h3⟩
  · simp only [Value.slice.injEq] at hv
    obtain ⟨rfl, _, rfl⟩ := hv
    have hl0 : l = 0 := by omega
    subst hl0
    simp only [if_true, Nat.sub_zero, List.drop_zero]
    exact h.row
  · simp only [Value.slice.injEq] at hv
    obtain ⟨rfl, _, rfl⟩ := hv
    by_cases hc : c = l
    · have hR : R.length = l := by omega
      rw [if_pos hc, hR, Nat.sub_self, List.drop_of_length_le (by omega)]
      exact .inr ⟨ad, c - l, rfl, Nat.zero_le _, by omega, by simp [bkc]⟩
    · rw [if_neg hc]
      refine .inr ⟨ad.add (l * 4), c - l, rfl, by omega, by omega, fun i v hi => ?_⟩
      rw [← bkc_drop, List.getElem?_drop] at hi
      rw [Addr.add_add]; exact h3 _ _ hi

theorem relL_one (a b : Ky) (h : a ≠ b) : relL [a] b = [a] := by simp [relL, h]
theorem grant_one {e n Q ver : Int} {a b : Ky} {qs : List Bp} (hab : a ≠ b) (hn : n < 1099511627776) (hq : ¬ Q ≤ (qs.length : Int)) :
    grantT ⟨e, n, 1, Q, [a], qs⟩ b ver = (⟨e, n + 1, 1, Q, [b], qs ++ [⟨e, n + 1, ver, false, [a]⟩]⟩, [⟨e, n + 1, ver, false, [a]⟩]) := by
  unfold grantT
  simp only [relL_one a b hab]
  rw [if_neg (by simp)]
  have h1 : relL ([a] ++ [b]) (([a] ++ [b]).headD b) = [b] := by
    have : b ≠ a := fun h => hab h.symm
    simp [relL, this]
  rw [h1, brkT_add (t := ⟨e, n, 1, Q, [b], qs⟩) hn hq]
  rfl

theorem grant_first {e n Q ver : Int} {b : Ky} {qs : List Bp} : grantT ⟨e, n, 1, Q, [], qs⟩ b ver = (⟨e, n, 1, Q, [b], qs⟩, []) := by
  unfold grantT
  simp [relL]

def kN (i : Int) : Ky := ⟨i, { data := #[107] }⟩
theorem kN_ne {i j : Int} (h : i ≠ j) : kN i ≠ kN j := fun e => h (congrArg Ky.dir e)

/-- the breaks of the first i promises, where one is kept -/
def qsA (e : Int) (vf : Nat → Int) (d : Int) (i : Nat) : List Bp := (List.range i).map fun (j : Nat) => ⟨e, (j : Int) + 1, vf (j + 1), false, [kN (d + j)]⟩
theorem qsA_len (e : Int) (vf : Nat → Int) (d : Int) (i : Nat) : (qsA e vf d i).length = i := by simp [qsA]
theorem qsA_succ (e : Int) (vf : Nat → Int) (d : Int) (i : Nat) : qsA e vf d (i + 1) = qsA e vf d i ++ [⟨e, (i : Int) + 1, vf (i + 1), false, [kN (d + i)]⟩] := by simp [qsA, List.range_succ]
/-- the state ahead of promise i -/
def stA (e Q : Int) (vf : Nat → Int) (d : Int) : Nat → Ts
  | 0 => ⟨e, 0, 1, Q, [], []⟩
  | i + 1 => ⟨e, i, 1, Q, [kN (d + i)], qsA e vf d i⟩

theorem stA_step (e Q : Int) (vf : Nat → Int) (d : Int) (i : Nat) (hi : (i : Int) ≤ Q) (hQ : Q ≤ 16) : (grantT (stA e Q vf d i) (kN (d + i)) (vf i)).1 = stA e Q vf d (i + 1) := by
  cases i with
  | zero => simp only [stA]; rw [grant_first]; rfl
  | succ i =>
    simp only [stA]
    rw [grant_one (kN_ne (by omega)) (by omega) (by rw [qsA_len]; omega), qsA_succ]
    rfl
theorem stA_tell (e Q : Int) (vf : Nat → Int) (d : Int) (i : Nat) (hi : ((i : Int) + 1) ≤ Q) (hQ : Q ≤ 16) : (grantT (stA e Q vf d (i + 1)) (kN (d + ((i + 1 : Nat) : Int))) (vf (i + 1))).2 = [⟨e, (i : Int) + 1, vf (i + 1), false, [kN (d + i)]⟩] := by
  simp only [stA]
  rw [grant_one (kN_ne (by omega)) (by omega) (by rw [qsA_len]; omega)]

theorem qsA_drop (e : Int) (vf : Nat → Int) (d : Int) (i : Nat) (a : Nat) : ((qsA e vf d i).filter fun x => decide ((a : Int) < x.n)) = (qsA e vf d i).drop a := by
  induction i with
  | zero => simp [qsA]
  | succ i ih =>
    rw [qsA_succ, List.filter_append, ih, List.drop_append, qsA_len]
    congr 1
    by_cases h : a ≤ i
    · have h1 : a - i = 0 := by omega
      rw [h1]; simp; omega
    · obtain ⟨j, hj⟩ : ∃ j, a - i = j + 1 := ⟨a - i - 1, by omega⟩
      rw [hj]; simp; omega

end Go.Proofs.Ytakkdaenindboaa
