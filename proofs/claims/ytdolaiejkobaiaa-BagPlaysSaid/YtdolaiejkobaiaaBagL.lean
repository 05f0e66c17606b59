import Derived.Test.YtdolaiejkobaiaaBagK
import Derived.Test.YtdolaiejkobaiaaLibB
namespace Go.Proofs.Ytdolaiejkobaiaa
set_option linter.unusedVariables false
set_option linter.unusedSimpArgs false
open Go.RowKit
attribute [local go_sem ↓] Go.wp_at_zero Go.wp_at_succ

theorem Rd.part {w : World} {b o n c : Nat} {cs : List Value} (h : Rd w (.slice (some ⟨b, o, none⟩) n c) n cs) (k m : Nat) (ds : List Value) (c' : Nat) (hm : m ≤ c') (hc' : c' ≤ maxLen) (hd : ∀ i v, ds[i]? = some v → cs[k + i]? = some v) : Rd w (.slice (some ⟨b, o + k, none⟩) m c') m ds := by
  refine .inr ⟨_, c', rfl, hm, hc', fun i v hv => ?_⟩
  rw [add_mid, Nat.add_assoc]
  exact h.at _ _ (hd i v hv)

set_option maxHeartbeats 1000000 in
theorem rb_without (w : World) (B p : Nat) (limit : Int) (a : Option Addr) (c : Nat) (L : List Lt) (i : Nat) (h : BagAt 54 w B p limit a c L) (hi : i < L.length) (hm : L.length ≤ 64) :
    Calls Try.prog 32 #[.pointer (some ⟨p, 0, none⟩), .int .i64 i] w fun e w' => ∃ a' c', e = .returned (.slice a' (L.length - 1) c') ∧
      w'.ownsRow w.heap.size 35 2 (.slice a' (L.length - 1) c') (L.length - 1) (lcs (L.eraseIdx i)) ∧ Below w.heap.size w w' := by
  obtain ⟨g, rfl, hBg, hgz, hc1, hc2⟩ := h.loc (by omega)
  obtain ⟨i1, hi1, hy0, hy1, hy2⟩ := info_parts infoLt
  have b0 := blk2 h.hp
  have hpz := blk_lt h.hp
  have HI := hid hi1
  have HH := hid h
  unfold maxLen at hc2
  have hr1 : Rd w (.slice (some ⟨g, 0, none⟩) i c) i (lcs (L.take i)) := by
    have := Rd.part (Rd.own h.row) 0 i (lcs (L.take i)) c (by omega) (by unfold maxLen; omega) (fun j v hv => by
      rw [← lcs_take, List.getElem?_take] at hv
      split at hv
      · rw [Nat.zero_add]; exact hv
      · cases hv)
    simpa using this
  have hr2 : Rd w (.slice (some ⟨g, (i + 1) * 2, none⟩) (L.length - (i + 1)) (c - (i + 1))) (L.length - (i + 1)) (lcs (L.drop (i + 1))) := by
    have := Rd.part (Rd.own h.row) ((i + 1) * 2) (L.length - (i + 1)) (lcs (L.drop (i + 1))) (c - (i + 1)) (by omega) (by unfold maxLen; omega) (fun j v hv => by
      rw [← lcs_drop, List.getElem?_drop] at hv; exact hv)
    simpa using this
  have hr3 : c = i + 1 → L.length - (i + 1) = 0 := by omega
  have HR1 := hid hr1
  have HR2 := hid hr2
  have hl1 : (lcs (L.take i)).length = i * 2 := by rw [lcs_len, List.length_take]; omega
  have hl2 : (lcs (L.drop (i + 1))).length = (L.length - (i + 1)) * 2 := by rw [lcs_len, List.length_drop]
  have HL1 := hid hl1
  have HL2 := hid hl2
  have HE := hid (show lcs (L.take i) ++ lcs (L.drop (i + 1)) = lcs (L.eraseIdx i) by rw [List.eraseIdx_eq_take_drop_succ, lcs_append])
  have h3 : (0 : Int) ≤ (i : Int) := by omega
  have h4 : (i : Int) < (L.length : Int) := by omega
  have h5 : (i : Int) ≤ (c : Int) := by omega
  have h6 : (i : Int) + 1 ≤ (L.length : Int) := by omega
  have h7 : (L.length : Int) ≤ (c : Int) := by omega
  have h8 : ((i : Int) + 1).toNat = i + 1 := by omega
  have hci : ¬ c = i := by omega
  have hsrc : Rd w (.slice (if c - (i + 1) = 0 then some ⟨g, 0, none⟩ else some ⟨g, (i + 1) * 2, none⟩) (L.length - (i + 1)) (c - (i + 1))) (L.length - (i + 1)) (lcs (L.drop (i + 1))) := by
    split
    · rename_i hz
      have hz2 : L.length - (i + 1) = 0 := by omega
      rw [hz2]
      have : lcs (L.drop (i + 1)) = [] := List.eq_nil_of_length_eq_zero (by rw [hl2, hz2])
      rw [this]
      exact .inr ⟨_, _, rfl, by omega, by unfold maxLen; omega, by simp⟩
    · exact hr2
  have HS := hid hsrc
  clear h hi1 hr1 hr2 hl1 hl2 hsrc
  by_cases hcc : c = i + 1
  · obtain rfl := hcc
    have hn : L.length = i + 1 := by omega
    have HN := hid hn
    have hz : L.length - (i + 1) = 0 := by omega
    simp only [Nat.sub_self, if_true, hz] at HS
    rw [hn]
    have e1 : i + 1 - 1 = i := by omega
    rw [e1]
    have e2 : lcs (L.drop (i + 1)) = [] := by rw [List.drop_of_length_le (by omega)]; rfl
    have HE1 := hid (show lcs (L.take i) = lcs (L.eraseIdx i) by rw [← HE.out, e2, List.append_nil])
    clear hn hz e1 e2
    go_enter Try.func32, Try.ntmps32
    go_wp2_with (first
      | (at_builtin; refine wpList_append_rd rfl (.tmp 6) (.tmp 12) 28 rfl w.heap.size 35 i1 _ 2 32 Try.underlying28 HI.out hy0 hy1 hy2 rfl (by decide) (.slice none 0 0) 0 [] rfl (World.ownsRow_nil _ _ _ _) (.slice (some ⟨g, 0, none⟩) i _) i (lcs (L.take i)) rfl HR1.out HL1.out (lcs_one _) (by unfold maxLen; omega) (by omega) (Nat.le_refl _) ?_; intro a1 c1 w1 hown1 hgrow1 hat1; (have bb1 := (Below.refl w.heap.size w).grown hgrow1 (Nat.le_refl _) (by simp [Value.ownBlock])); (have b1 := blk2 (heap_below bb1 HH.out.hp hpz)); simp only [Nat.zero_add, List.nil_append] at hown1)
      | (have hnn := HN.out; at_builtin; refine wpList_append_rd rfl (.tmp 14) (.tmp 21) 28 rfl w.heap.size 35 i1 _ 2 32 Try.underlying28 HI.out hy0 hy1 hy2 rfl (by decide) (.slice a1 i c1) i (lcs (L.take i)) rfl hown1 (.slice (some ⟨g, 0, none⟩) 0 0) 0 [] (by simp [Act.eval, hnn]) (.inr ⟨_, _, rfl, by omega, by unfold maxLen; omega, by simp⟩) rfl (by simp) (by unfold maxLen; omega) (by omega) (by have := bb1.size; omega) ?_; intro a2 c2 w2 hown2 hgrow2 hat2))
    go_ret
    simp only [Nat.add_zero, List.append_nil] at hown2
    rw [HE1.out] at hown2
    exact ⟨a2, c2, by simp [HN.out], hown2, bb1.grown hgrow2 bb1.size fun k hk => (own_lt hown1 hk).1⟩
  · have hss := HS.out
    rw [if_neg (show ¬ (c - (i + 1) = 0) by omega)] at hss
    clear HS
    have HS := hid hss
    clear hss
    have hn2 : i + (L.length - (i + 1)) = L.length - 1 := by omega
    have HN2 := hid hn2
    clear hn2
    go_enter Try.func32, Try.ntmps32
    go_wp2_with (first
      | (at_builtin; refine wpList_append_rd rfl (.tmp 6) (.tmp 12) 28 rfl w.heap.size 35 i1 _ 2 32 Try.underlying28 HI.out hy0 hy1 hy2 rfl (by decide) (.slice none 0 0) 0 [] rfl (World.ownsRow_nil _ _ _ _) (.slice (some ⟨g, 0, none⟩) i _) i (lcs (L.take i)) rfl HR1.out HL1.out (lcs_one _) (by unfold maxLen; omega) (by omega) (Nat.le_refl _) ?_; intro a1 c1 w1 hown1 hgrow1 hat1; (have bb1 := (Below.refl w.heap.size w).grown hgrow1 (Nat.le_refl _) (by simp [Value.ownBlock])); (have b1 := blk2 (heap_below bb1 HH.out.hp hpz)); simp only [Nat.zero_add, List.nil_append] at hown1)
      | (at_builtin; refine wpList_append_rd rfl (.tmp 14) (.tmp 21) 28 rfl w.heap.size 35 i1 _ 2 32 Try.underlying28 HI.out hy0 hy1 hy2 rfl (by decide) (.slice a1 i c1) i (lcs (L.take i)) rfl hown1 (.slice (some ⟨g, (i + 1) * 2, none⟩) (L.length - (i + 1)) (c - (i + 1))) (L.length - (i + 1)) (lcs (L.drop (i + 1))) rfl (HS.out.below bb1) HL2.out (lcs_one _) (by unfold maxLen; omega) (by omega) bb1.size ?_; intro a2 c2 w2 hown2 hgrow2 hat2))
    go_ret
    rw [HE.out, HN2.out] at hown2
    exact ⟨a2, c2, by rw [HN2.out]; rfl, hown2, bb1.grown hgrow2 bb1.size fun k hk => (own_lt hown1 hk).1⟩

end Go.Proofs.Ytdolaiejkobaiaa
