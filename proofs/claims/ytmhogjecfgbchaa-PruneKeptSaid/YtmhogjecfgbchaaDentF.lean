import Derived.Test.YtmhogjecfgbchaaDentE
namespace Go.Proofs.Ytmhogjecfgbchaa
set_option linter.unusedVariables false
set_option linter.unusedSimpArgs false
open Go.RowKit
open Go.ChangeMaps (setBlock)
attribute [local go_sem ↓] Go.wp_at_zero Go.wp_at_succ

theorem run_range_k {w : World} {me cl : Nat} {K : List Ke} (h : w.heap[me]? = some (.map (kes K) cl)) :
    (Instr.range 73 (.map (some me))).run Try.prog w = .ok (.pointer (some ⟨w.heap.size, 0, none⟩)) (w.alloc (.mapIter (some me) cl #[] cl)) := by
  simp [Instr.range, run_underlying Try.underlying73, getObj, Sem.run, h, newObj]

/-- an iterator over the entries: D is done, rest is to come -/
structure ItAt (w : World) (r me cl : Nat) (K D rest : List Ke) : Prop where
  it : ∃ c0, cl ≤ c0 ∧ w.heap[r]? = some (.mapIter (some me) cl (D.map Ke.born).toArray c0)
  pm : (D ++ rest).Perm K

theorem left_mem {K D rest : List Ke} (hp : (D ++ rest).Perm K) (hn : (K.map Ke.born).Nodup) (e : MapEntry) : e ∈ (leftOf (kes K) (D.map Ke.born).toArray).toList ↔ ∃ x ∈ rest, x.me = e := by
  have hn2 : ((D ++ rest).map Ke.born).Nodup := (hp.map _).nodup_iff.2 hn
  rw [List.map_append, List.nodup_append] at hn2
  simp only [leftOf, Array.toList_filter, kes_toList, List.mem_filter, List.mem_map]
  constructor
  · rintro ⟨⟨x, hx, rfl⟩, h2⟩
    rcases List.mem_append.1 (hp.mem_iff.2 hx) with h | h
    · simp [Ke.me] at h2
      exact absurd rfl (h2 x h)
    · exact ⟨x, h, rfl⟩
  · rintro ⟨x, hx, rfl⟩
    refine ⟨⟨x, hp.mem_iff.1 (List.mem_append.2 (.inr hx)), rfl⟩, ?_⟩
    simp [Ke.me]
    intro y hy e
    exact hn2.2.2 _ (List.mem_map.2 ⟨y, hy, rfl⟩) _ (List.mem_map.2 ⟨x, hx, rfl⟩) e

theorem perm_out {α : Type} {l : List α} {x : α} (h : x ∈ l) : ∃ l', l.Perm (x :: l') := by
  obtain ⟨a, b, rfl⟩ := List.append_of_mem h
  exact ⟨a ++ b, List.perm_middle⟩

theorem run_next_k {w : World} {r me cl : Nat} {K D rest : List Ke} (ty : TypeId) (hi : ItAt w r me cl K D rest) (he : w.heap[me]? = some (.map (kes K) cl)) (hb : ∀ x ∈ K, x.born < cl) (hn : (K.map Ke.born).Nodup) :
    (rest = [] ∧ (Instr.next (.pointer (some ⟨r, 0, none⟩)) false ty).run Try.prog w = .ok (.tuple #[.bool false]) w) ∨
    ∃ x rest' W, (Instr.next (.pointer (some ⟨r, 0, none⟩)) false ty).run Try.prog w = .ok (.tuple #[.bool true, x.e.key.v, x.val]) W ∧ ItAt W r me cl K (D ++ [x]) rest' ∧ Chg (fun k => k = r) w W ∧ x ∈ K ∧
      (W.heap[r]? = some (.mapIter (some me) cl ((D.map Ke.born).toArray.push x.born) cl)) ∧ rest.Perm (x :: rest') := by
  obtain ⟨⟨c0, hc0, hr⟩, hp⟩ := hi
  have hold : ∀ x ∈ (kes K).toList, x.born < cl := by
    intro x hx
    rw [kes_toList] at hx
    obtain ⟨y, hy, rfl⟩ := List.mem_map.1 hx
    exact hb y hy
  rcases run_next_at (P := Try.prog) w ty r me cl c0 (D.map Ke.born).toArray (kes K) cl hr he hold hc0 with ⟨h0, h1⟩ | ⟨e, hme, w1, hw1, hrun⟩
  · left
    refine ⟨?_, h1⟩
    cases rest with
    | nil => rfl
    | cons x rest =>
      have := (left_mem hp hn x.me).2 ⟨x, by simp, rfl⟩
      have h2 : (leftOf (kes K) (D.map Ke.born).toArray) = #[] := Array.eq_empty_of_size_eq_zero h0
      rw [h2] at this; simp at this
  · right
    obtain ⟨x, hx, rfl⟩ := (left_mem hp hn e).1 hme
    obtain ⟨rest', hr'⟩ := perm_out hx
    have hh : w1.heap = w.heap := by rcases hw1 with rfl | rfl <;> rfl
    have hdr : Dr w w1 := by rcases hw1 with rfl | rfl; exact Dr.refl _; exact ⟨1, rfl⟩
    have hr1 : w1.heap[r]? = some (.mapIter (some me) cl (D.map Ke.born).toArray c0) := by rw [hh]; exact hr
    refine ⟨x, rest', _, hrun, ⟨⟨cl, Nat.le_refl _, ?_⟩, ?_⟩, ?_, hp.mem_iff.1 (List.mem_append.2 (.inr hx)), heap_setBlock hr1, hr'⟩
    · rw [heap_setBlock hr1]; simp [Ke.me]
    · refine List.Perm.trans ?_ hp
      rw [List.append_assoc]
      exact (List.Perm.append_left D hr'.symm)
    · exact Chg.trans (Chg.mono (Chg.below (hdr.below _)) (fun _ _ h => h.elim)) (chg_setBlock w1 r _) (fun _ _ h => h) (fun _ _ h => h)

theorem wpList_next_k {w : World} {ops : Array Oper} {rest0 : List Oper} {o : Oper} {a : Act} {Q : Exit → Act → World → Prop} (hgd : o.guard = none) (it : Operand) (hop : o.op = Op.next it false) (r me cl : Nat) (K D rest : List Ke) (hv : a.eval it = .pointer (some ⟨r, 0, none⟩))
    (hi : ItAt w r me cl K D rest) (he : w.heap[me]? = some (.map (kes K) cl)) (hb : ∀ x ∈ K, x.born < cl) (hn : (K.map Ke.born).Nodup)
    (h : (∀ u : Unit, rest = [] → wpList Try.prog ops Q rest0 (a.put o.dst (.tuple #[.bool false])) w) ∧
      ∀ x rest' W, ItAt W r me cl K (D ++ [x]) rest' → Chg (fun k => k = r) w W → x ∈ K → (W.heap[r]? = some (.mapIter (some me) cl ((D.map Ke.born).toArray.push x.born) cl)) → rest.Perm (x :: rest') → wpList Try.prog ops Q rest0 (a.put o.dst (.tuple #[.bool true, x.e.key.v, x.val])) W) :
    wpList Try.prog ops Q (o :: rest0) a w := by
  refine wpList_plain hgd fun _ hK => ?_
  unfold Oper.wp
  rcases run_next_k o.type hi he hb hn with ⟨h1, hrun⟩ | ⟨x, rest', W, hrun, h1, h2, h3, h4, h5⟩
  · simp only [execOp, hop, hv, Sem.run_bind, hrun, Result.andThen_ok, Sem.run_pure]
    exact hK _ _ (h.1 () h1)
  · simp only [execOp, hop, hv, Sem.run_bind, hrun, Result.andThen_ok, Sem.run_pure]
    exact hK _ _ (h.2 x rest' W h1 h2 h3 h4 h5)

theorem run_entry_k {w : World} {r me cl : Nat} {K D : List Ke} {x : Ke} (hr : w.heap[r]? = some (.mapIter (some me) cl ((D.map Ke.born).toArray.push x.born) cl)) (he : w.heap[me]? = some (.map (kes K) cl)) (hx : x ∈ K) (hn : (K.map Ke.born).Nodup) :
    (Instr.entry (.pointer (some ⟨r, 0, none⟩))).run Try.prog w = .ok (.tuple #[x.e.key.v, x.val]) w :=
  run_entry_at (P := Try.prog) w r me cl (D.map Ke.born).toArray (kes K) cl x.me hr he (by rw [kes_toList]; exact List.mem_map.2 ⟨x, hx, rfl⟩) (by rw [kes_toList, List.map_map]; exact hn)

end Go.Proofs.Ytmhogjecfgbchaa
