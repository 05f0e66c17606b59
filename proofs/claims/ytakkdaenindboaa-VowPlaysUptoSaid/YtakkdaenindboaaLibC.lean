/- Rows of the call's own: stored anew, cut short, cleared behind. -/
import Derived.Test.YtakkdaenindboaaLibK
namespace Go.Proofs.Ytakkdaenindboaa
set_option linter.unusedVariables false
set_option linter.unusedSimpArgs false
open Go.RowKit

theorem zero_len (z : Value) (n : Nat) : (Builtin.zeroCells z.cells n).toList.length = n * z.cells.size := by
  simp [Builtin.zeroCells, Nat.mul_comm]

theorem zero_one (z : Value) (n : Nat) (h1 : ∀ u ∈ z.cells.toList, u.oneCell' = true) : ∀ u ∈ (Builtin.zeroCells z.cells n).toList, u.oneCell' = true := by
  intro u hu
  simp only [Builtin.zeroCells, Array.toList_map, List.mem_map, Array.mem_toList_iff, Array.mem_range] at hu
  obtain ⟨i, hi, rfl⟩ := hu
  have hp : 0 < z.cells.size := by
    rcases Nat.eq_zero_or_pos z.cells.size with h | h
    · rw [h] at hi; omega
    · exact h
  have : i % z.cells.size < z.cells.size := Nat.mod_lt _ hp
  rw [getElem!_pos z.cells _ this]
  exact h1 _ (by simp)

/-- 'clear' of what lies behind the first i elements of a row of the call's own -/
theorem wpList_clear_own {P : Program} {w : World} {ops : Array Oper} {rest : List Oper} {o : Oper} {a : Act} {Q : Exit → Act → World → Prop} (hgd : o.guard = none) (x : Operand) (t : TypeId)
    (ho : o.op = .call { callee := .builtin .clear, args := #[x], argTypes := #[t] })
    (e : TypeId) (z : Value) (sz : Nat) (ht : P.underlying t = some (.slice e)) (hv : ∀ w, (zeroValue e).run P w = .ok z w) (hzs : z.cells.size = sz) (h1 : ∀ u ∈ z.cells.toList, u.oneCell' = true)
    (B g n c i : Nat) (xs : List Value) (hown : w.ownsRow B e sz (.slice (some ⟨g, 0, none⟩) n c) n xs) (hi : i ≤ n)
    (ad : Option Addr) (m c' : Nat) (hx : a.eval x = .slice ad m c') (hm : m = n - i) (had : 0 < m → ad = some ⟨g, i * sz, none⟩)
    (h : ∀ w', Hid (w'.ownsRow B e sz (.slice (some ⟨g, 0, none⟩) i c) i (xs.take (i * sz))) → Chg (fun k => k = g) w w' → wpList P ops Q rest (a.put o.dst (.tuple #[])) w') :
    wpList P ops Q (o :: rest) a w := by
  refine wpList_plain hgd fun _ hK => ?_
  unfold Oper.wp execOp
  rcases Nat.eq_zero_or_pos m with h0 | h0
  · have hin : i = n := by omega
    subst h0
    have hrun : (Builtin.clear_ #[t] o.type #[.slice ad 0 c']).run P w = .ok (.tuple #[]) w := by
      cases ad <;> simp [Builtin.clear_, run_underlying ht]
    simp only [ho, resolve, invoke, builtin, Sem.run_bind, Sem.run_pure, Result.andThen_ok, List.map_toArray, List.map_cons, List.map_nil, hx, hrun]
    refine hK _ _ (h w (show World.ownsRow _ _ _ _ _ _ _ from ?_) (Chg.refl _ _))
    subst hin
    have hl := hown.1
    rw [List.take_of_length_le (by omega)]; exact hown
  · obtain rfl := had h0
    rcases hown.2 with ⟨hv', _⟩ | ⟨g', cap, cur, hv', hb, hg, q1, q2, q3, q4⟩
    · cases hv'
    · simp only [Value.slice.injEq, Option.some.injEq, Addr.mk.injEq] at hv'
      obtain ⟨⟨rfl, _⟩, _, rfl⟩ := hv'
      have hzl := zero_len z m
      rw [hzs] at hzl
      have hle : i * sz + m * sz ≤ cur.size := by
        rw [← Nat.add_mul, q3]; exact Nat.mul_le_mul_right _ (by omega)
      have hst := run_storeCells_at P g (i * sz) e (Builtin.zeroCells z.cells m).toList 0 cur w hg (by rw [hzl]; omega) (zero_one z m h1)
      simp only [Nat.add_zero, List.append_assoc] at hst
      have hrun : (Builtin.clear_ #[t] o.type #[.slice (some ⟨g, i * sz, none⟩) m c']).run P w = .ok (.tuple #[]) (w.setRow g (splice cur.toList (i * sz) (Builtin.zeroCells z.cells m).toList).toArray) := by
        obtain ⟨k, rfl⟩ : ∃ k, m = k + 1 := ⟨m - 1, by omega⟩
        simp [Builtin.clear_, run_underlying ht, hv, hst, splice]
      simp only [ho, resolve, invoke, builtin, Sem.run_bind, Sem.run_pure, Result.andThen_ok, List.map_toArray, List.map_cons, List.map_nil, hx, hrun]
      refine hK _ _ (h _ (show World.ownsRow _ _ _ _ _ _ _ from ?_) ⟨rfl, rfl, rfl, by simp [World.setRow], fun k _ hk => setRow_other w g k _ hk⟩)
      have hxl := hown.1
      have his : i * sz ≤ n * sz := Nat.mul_le_mul_right _ hi
      refine ⟨by rw [List.length_take]; omega, .inr ⟨g, c, _, rfl, hb, setRow_heap w g _ _ e _ hg, by omega, q2, ?_, ?_⟩⟩
      · rw [List.size_toArray, length_splice _ _ _ (by rw [hzl]; simpa using hle)]; simpa using q3
      · rw [List.toList_toArray] 
        rw [splice, List.take_append_of_le_length (by rw [List.length_take, Array.length_toList]; omega), List.take_take, Nat.min_self, ← q4, List.take_take, Nat.min_eq_left his]

end Go.Proofs.Ytakkdaenindboaa
