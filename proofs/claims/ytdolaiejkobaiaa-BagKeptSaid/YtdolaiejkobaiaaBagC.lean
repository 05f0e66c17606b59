import Derived.Test.YtdolaiejkobaiaaBagB
namespace Go.Proofs.Ytdolaiejkobaiaa
set_option linter.unusedVariables false
set_option linter.unusedSimpArgs false
open Go.RowKit
attribute [local go_sem ↓] Go.wp_at_zero Go.wp_at_succ

theorem lcs_append (L M : List Lt) : lcs (L ++ M) = lcs L ++ lcs M := by simp [lcs]
theorem lcs_take (L : List Lt) (i : Nat) : (lcs L).take (i * 2) = lcs (L.take i) := by
  induction L generalizing i with
  | nil => simp [lcs]
  | cons x L ih =>
    cases i with
    | zero => simp [lcs]
    | succ i =>
      have e : (i + 1) * 2 = i * 2 + 1 + 1 := by omega
      simp only [lcs, List.flatMap_cons, Lt.cells, List.cons_append, List.nil_append, e, List.take_succ_cons] at ih ⊢
      rw [ih]
theorem lcs_drop (L : List Lt) (i : Nat) : (lcs L).drop (i * 2) = lcs (L.drop i) := by
  induction L generalizing i with
  | nil => simp [lcs]
  | cons x L ih =>
    cases i with
    | zero => simp [lcs]
    | succ i =>
      have e : (i + 1) * 2 = i * 2 + 1 + 1 := by omega
      simp only [lcs, List.flatMap_cons, Lt.cells, List.cons_append, List.nil_append, e, List.drop_succ_cons] at ih ⊢
      rw [ih]
theorem lcs_erase (L : List Lt) (i : Nat) : lcs (L.eraseIdx i) = (lcs L).take (i * 2) ++ (lcs L).drop ((i + 1) * 2) := by
  rw [lcs_take, lcs_drop, ← lcs_append, List.eraseIdx_eq_take_drop_succ]

theorem splice_erase (cur : List Value) (L : List Lt) (i : Nat) (hi : i < L.length) (h : cur.take (L.length * 2) = lcs L) :
    (splice cur (i * 2) ((lcs L).drop ((i + 1) * 2))).take ((L.length - 1) * 2) = lcs (L.eraseIdx i) := by
  have h1 : cur.take (i * 2) = (lcs L).take (i * 2) := by
    rw [← h, List.take_take]; congr 1; omega
  have h3 : ((lcs L).take (i * 2)).length = i * 2 := by rw [List.length_take, lcs_len]; omega
  have h4 : ((lcs L).drop ((i + 1) * 2)).length = (L.length - 1) * 2 - i * 2 := by rw [List.length_drop, lcs_len]; omega
  rw [splice, lcs_erase, h1, ← List.append_assoc, List.take_append_of_le_length (by rw [List.length_append, h3, h4]; omega), List.take_of_length_le (by rw [List.length_append, h3, h4]; omega)]

theorem ret_slice {a : Option Addr} {n c c' : Nat} (h : c = c') : Ending.returned (.slice a n c) = .returned (.slice a n c') := by rw [h]

set_option maxHeartbeats 400000 in
theorem without_any (w : World) (B g cap i : Nat) (L : List Lt) (h : w.ownsRow B 35 2 (.slice (some ⟨g, 0, none⟩) L.length cap) L.length (lcs L)) (hi : i < L.length) :
    Calls Try.prog 30 #[.slice (some ⟨g, 0, none⟩) L.length cap, .int .i64 i] w fun e w' => e = .returned (.slice (some ⟨g, 0, none⟩) (L.length - 1) cap) ∧
      w'.ownsRow B 35 2 (.slice (some ⟨g, 0, none⟩) (L.length - 1) cap) (L.length - 1) (lcs (L.eraseIdx i)) ∧ Chg (fun k => k = g) w w' := by
  obtain ⟨i1, hi1, hy0, hy1, hy2⟩ := info_parts infoLt
  have HI := hid hi1
  rcases h.2 with ⟨hv, _⟩ | ⟨g', cap', cur, hv, hBg, hg, hnc, hcm, hcs, htake⟩
  · cases hv
  simp only [Value.slice.injEq, Option.some.injEq, Addr.mk.injEq] at hv
  obtain ⟨⟨rfl, _⟩, _, rfl⟩ := hv
  have hll := lcs_len L
  have hsrc := Rd.own h
  obtain ⟨n, hn⟩ : ∃ n, n = L.length := ⟨_, rfl⟩
  have H := hid h
  have HC := hid hcs
  have HT := hid htake
  have HL := hid hll
  have HG := hid (show w.heap[g]? = some (.cells cur.toList.toArray 35 (0, 0)) by simpa using hg)
  have HN := hid hn
  unfold maxLen at hcm
  rw [← hn] at hi hnc ⊢
  clear h hcs htake hll hg hi1 hsrc hn
  have hi0 : (0 : Int) ≤ (i : Int) := by omega
  have hi2 : (i : Int) ≤ (n : Int) := by omega
  have hi3 : (0 : Int) ≤ (i : Int) + 1 := by omega
  have hi4 : (i : Int) + 1 ≤ (n : Int) := by omega
  have hn1 : (n : Int) ≤ (cap : Int) := by omega
  have hci : ¬ cap = i := by omega
  have hw1 : IntKind.i64.wrap ((i : Int) + 1) = (i : Int) + 1 := IntWalk.i64_in _ (by omega)
  have ht1 : ((i : Int) + 1).toNat = i + 1 := by omega
  go_enter Try.func30, Try.ntmps30
  go_wp2_with fail
  go_region_law (refine step_copy_k (by rfl) (.tmp 7) (.tmp 11) _ _ (by rfl) 35 2 Try.underlying28 (by simp [HI.out, hy1]) _ _ _ _ _ _ (by rfl) (by rfl) g (i * 2) cur.toList 35 (by exact HG.out) ((lcs L).drop ((i + 1) * 2)) (by clear hw1; rw [List.length_drop, HL.out, ← HN.out]; simp only [Nat.min_def]; split <;> omega) (by intro hp; refine ⟨rfl, ⟨g, (i + 1) * 2, none⟩, ?_, ?_⟩; (· (rw [if_neg]; clear hw1; simp only [Nat.min_def] at hp; split at hp <;> omega)); (· intro j v hv; rw [List.getElem?_drop] at hv; rw [add_mid]; (have h5 := (Rd.own H.out).at _ _ hv); simp only [Nat.zero_add] at h5; exact h5)) (by clear hw1; rw [List.length_drop, HL.out, ← HN.out]; have := HC.out; simp only [Array.length_toList]; omega) (by intro u hu; exact lcs_one L u (List.mem_of_mem_drop hu)) ?_; intro w2 hg2 hchg)
  clear hw1 ht1
  have hn2 : (0 : Int) ≤ (n : Int) - 1 := by omega
  have hn3 : (n : Int) - 1 ≤ (cap : Int) := by omega
  have ht2 : ((n : Int) - 1).toNat = n - 1 := by omega
  go_wp2
  all_goals
    go_ret
    refine ⟨by first | rfl | (simp; omega), ⟨?_, .inr ⟨g, _, _, rfl, hBg, hg2.out, by omega, by unfold maxLen; omega, ?_, ?_⟩⟩, ⟨hchg.os, hchg.tape, hchg.output, hchg.size, hchg.block⟩⟩
    · rw [lcs_len, List.length_eraseIdx_of_lt (by rw [← HN.out]; exact hi), HN.out]
    · rw [List.size_toArray, length_splice _ _ _ (by rw [List.length_drop, HL.out, ← HN.out]; have := HC.out; simp only [Array.length_toList]; omega)]
      have := HC.out; simp only [Array.length_toList]; omega
    · rw [HN.out]
      exact splice_erase _ _ _ (by rw [← HN.out]; exact hi) HT.out

end Go.Proofs.Ytdolaiejkobaiaa
