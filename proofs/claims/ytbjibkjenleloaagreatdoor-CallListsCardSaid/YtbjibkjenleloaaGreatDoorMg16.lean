/- Parts of a proof about the given program, in build order: NamG. No condition. -/
import Derived.Test.YtbjibkjenleloaaGreatDoorMg02
section
namespace Go.Proofs.YtbjibkjenleloaaGreatDoor
set_option linter.unusedVariables false
set_option linter.unusedSimpArgs false
open Go.RowKit

/-! ### paths of one right name -/
def spl (l : List UInt8) : List (List UInt8) := Lib.splitK [47] 0 (Lib.count l [47]) l
theorem ix_no {l : List UInt8} (h : 47 ∉ l) : Lib.index l [47] = -1 := by
  induction l with
  | nil => rfl
  | cons b l ih =>
    simp only [List.mem_cons, not_or] at h
    unfold Lib.index
    have h1 : ((47 : UInt8) == b) = false := by simpa using h.1
    simp [List.isPrefixOf, h1, ih h.2]
theorem ix_at {l m : List UInt8} (h : 47 ∉ l) : Lib.index (l ++ 47 :: m) [47] = (l.length : Nat) := by
  induction l with
  | nil => simp [Lib.index, List.isPrefixOf]
  | cons b l ih =>
    simp only [List.mem_cons, not_or] at h
    have h1 : ((47 : UInt8) == b) = false := by simpa using h.1
    rw [List.cons_append]
    unfold Lib.index
    have h3 := ih h.2
    have h4 : ¬ (Lib.index (l ++ 47 :: m) [47] == -1) = true := by rw [h3]; simp
    rw [if_neg (by simp [List.isPrefixOf, h1]), if_neg h4, h3]
    simp
theorem spl_no {l : List UInt8} (h : 47 ∉ l) : spl l = [l] := by
  unfold spl
  rw [Lib.count_miss (ix_no h)]
  rfl
theorem spl_at {l m : List UInt8} (h : 47 ∉ l) : spl (l ++ 47 :: m) = l :: spl m := by
  have h1 := ix_at (m := m) h
  unfold spl
  rw [Lib.count_hit (by simp) h1]
  have h2 : (l ++ 47 :: m).drop (l.length + [(47 : UInt8)].length) = m := by
    have : l ++ 47 :: m = (l ++ [47]) ++ m := by simp
    rw [this, List.drop_left' (by simp)]
  rw [h2, Nat.add_comm 1]
  conv => lhs; unfold Lib.splitK
  have h4 : ¬ (Lib.index (l ++ 47 :: m) [47] == -1) = true := by rw [h1]; simp
  rw [if_neg h4, h1]
  simp only [Int.toNat_natCast, Nat.add_zero, h2]
  rw [List.take_left' rfl]
theorem parts_data (s : ByteArray) : (parts s).map (·.data.toList) = spl s.data.toList := Lib.splitB_data _ _ _ _
theorem ba_ext {s t : ByteArray} (h : s.data.toList = t.data.toList) : s = t := by
  cases s; cases t; simp at h; simp [h]
theorem steps_map (s : ByteArray) : (stepsL s).map (·.data.toList) = (spl s.data.toList).filter fun x => decide (x.length ≠ 0) := by
  unfold stepsL
  rw [← parts_data, List.filter_map]
  congr 1
theorem map_inj_data : ∀ {L M : List ByteArray}, L.map (·.data.toList) = M.map (·.data.toList) → L = M
  | [], [], _ => rfl
  | [], _ :: _, h => by simp at h
  | _ :: _, [], h => by simp at h
  | x :: L, y :: M, h => by
    simp only [List.map_cons, List.cons.injEq] at h
    rw [ba_ext h.1, map_inj_data h.2]
theorem cut_map (s : ByteArray) : cutBad s = (spl s.data.toList).any fun x => decide (12 < x.length) := by
  unfold cutBad
  rw [← parts_data, List.any_map]
  congr 1
theorem get_mem {s : ByteArray} {j : Nat} (h : j < s.size) : s.get! j ∈ s.data.toList := by
  have h1 : j < s.data.size := h
  have h2 : s.get! j = s.data[j] := by
    show s.data[j]! = _
    rw [getElem!_pos s.data j h1]
  rw [h2]
  exact Array.getElem_mem_toList h1
theorem mem_get {s : ByteArray} {b : UInt8} (h : b ∈ s.data.toList) : ∃ j, j < s.size ∧ s.get! j = b := by
  obtain ⟨j, hj, hb⟩ := List.getElem_of_mem h
  have h1 : j < s.data.size := by simpa using hj
  refine ⟨j, h1, ?_⟩
  show s.data[j]! = _
  rw [getElem!_pos s.data j h1]
  simpa using hb
theorem hasR_no {s : ByteArray} {signs : List Int} (hs : hasR s signs = false) {b : UInt8} (hb : b.toNat < 128) (hm : (b.toNat : Int) ∈ signs) : b ∉ s.data.toList := by
  intro h
  obtain ⟨j, hj, he⟩ := mem_get h
  have h1 : b.toNat ∈ runes s := (mem_runes s hb).2 ⟨j, hj, by rw [he]⟩
  have h2 : hasR s signs = true := List.any_eq_true.2 ⟨_, h1, List.contains_iff_mem.2 hm⟩
  rw [hs] at h2
  cases h2
theorem no_hasR {s : ByteArray} (h : (0 : UInt8) ∉ s.data.toList) : hasR s [0] = false := by
  cases hh : hasR s [0] with
  | false => rfl
  | true =>
    obtain ⟨r, h1, h2⟩ := List.any_eq_true.1 (show (runes s).any _ = true from hh)
    have h3 : r = 0 := by simpa using h2
    subst h3
    obtain ⟨j, hj, he⟩ := (mem_runes s (by decide)).1 h1
    exact absurd (show (0 : UInt8) ∈ s.data.toList from by
      have h4 := get_mem hj
      have h5 : s.get! j = 0 := UInt8.toNat_inj.1 (by simpa using he)
      rw [h5] at h4
      exact h4) h
theorem chk_yes {s : ByteArray} (h : chkErr s = 0) : s.size ≤ 12 ∧ s.data.toList ≠ [] ∧ dotsB s = false ∧ (0 : UInt8) ∉ s.data.toList ∧ (47 : UInt8) ∉ s.data.toList := by
  unfold chkErr at h
  by_cases h1 : 12 < s.size
  · rw [if_pos h1] at h; cases h
  · rw [if_neg h1] at h
    by_cases h2 : (decide (s.size = 0) || dotsB s || hasR s [0, 47]) = true
    · rw [if_pos h2] at h; cases h
    · simp only [Bool.or_eq_true, not_or, Bool.not_eq_true, decide_eq_true_eq] at h2
      refine ⟨by omega, fun e => h2.1.1 ?_, h2.1.2, hasR_no h2.2 (by decide) (by decide), hasR_no h2.2 (by decide) (by decide)⟩
      show s.data.size = 0
      rw [← Array.length_toList, e]
      rfl
theorem name_path {s p : ByteArray} (hs : chkErr s = 0) (l1 l2 : List (List UInt8)) (hsz : p.size ≤ 96) (hp0 : (0 : UInt8) ∉ p.data.toList) (hh : slashHead p = true) (hp : spl p.data.toList = l1 ++ s.data.toList :: l2) (h1 : ∀ x ∈ l1, x = []) (h2 : ∀ x ∈ l2, x = []) :
    pathErr p = 0 ∧ stepsL p = [s] ∧ parErr p = 0 := by
  obtain ⟨g1, g2, g3, g4, g5⟩ := chk_yes hs
  have hlen : s.data.toList.length ≤ 12 := by rw [Array.length_toList]; exact g1
  have e1 : cutBad p = false := by
    rw [cut_map, hp]
    rw [List.any_eq_false]
    intro x hx
    rcases List.mem_append.1 hx with h | h
    · rw [h1 x h]; decide
    · rcases List.mem_cons.1 h with h | h
      · rw [h]; simpa using hlen
      · rw [h2 x h]; decide
  have e2 : pathErr p = 0 := by
    unfold pathErr
    rw [if_neg (by omega), if_neg (by rw [hh, no_hasR hp0]; decide), e1]
    rfl
  have f1 : ∀ {l : List (List UInt8)}, (∀ x ∈ l, x = []) → l.filter (fun x => decide (x.length ≠ 0)) = [] := by
    intro l hl
    rw [List.filter_eq_nil_iff]
    intro x hx
    rw [hl x hx]; decide
  have e3 : stepsL p = [s] := by
    apply map_inj_data
    rw [steps_map, hp, List.filter_append, List.filter_cons, f1 h1, f1 h2]
    rw [if_pos (show decide (s.data.toList.length ≠ 0) = true from decide_eq_true (fun e => g2 (List.length_eq_zero_iff.1 e)))]
    rfl
  refine ⟨e2, e3, ?_⟩
  unfold parErr
  rw [e2, e3, if_neg (by simp)]
  have : lastDots [s] = false := by simpa [lastDots] using g3
  rw [this]
  rfl
theorem name_path1 {s p : ByteArray} (hs : chkErr s = 0) (hp : p.data.toList = 47 :: s.data.toList) : pathErr p = 0 ∧ stepsL p = [s] ∧ parErr p = 0 := by
  obtain ⟨g1, g2, g3, g4, g5⟩ := chk_yes hs
  have hlen : s.data.toList.length ≤ 12 := by rw [Array.length_toList]; exact g1
  have hsz : p.size = p.data.toList.length := by rw [Array.length_toList]; rfl
  refine name_path hs [[]] [] (by rw [hsz, hp]; simp only [List.length_cons]; omega) (by rw [hp]; simp [g4]) (by rw [slashHead, hp]; rfl) ?_ (by simp) (by simp)
  rw [hp]
  have h1 := spl_at (l := []) (m := s.data.toList) (by simp)
  rw [List.nil_append] at h1
  rw [h1, spl_no g5]
  rfl
theorem name_path2 {s p : ByteArray} (hs : chkErr s = 0) (hp : p.data.toList = 47 :: 47 :: (s.data.toList ++ [47])) : pathErr p = 0 ∧ stepsL p = [s] ∧ parErr p = 0 := by
  obtain ⟨g1, g2, g3, g4, g5⟩ := chk_yes hs
  have hlen : s.data.toList.length ≤ 12 := by rw [Array.length_toList]; exact g1
  have hsz : p.size = p.data.toList.length := by rw [Array.length_toList]; rfl
  refine name_path hs [[], []] [[]] (by rw [hsz, hp]; simp only [List.length_cons, List.length_append, List.length_nil]; omega) (by rw [hp]; simp [g4]) (by rw [slashHead, hp]; rfl) ?_ (by simp) (by simp)
  rw [hp]
  have h1 := spl_at (l := []) (m := 47 :: (s.data.toList ++ [47])) (by simp)
  have h2 := spl_at (l := []) (m := s.data.toList ++ [47]) (by simp)
  have h3 := spl_at (l := s.data.toList) (m := []) g5
  rw [List.nil_append] at h1 h2
  rw [h1, h2, h3, spl_no (l := []) (by simp)]
  rfl
end Go.Proofs.YtbjibkjenleloaaGreatDoor

end
