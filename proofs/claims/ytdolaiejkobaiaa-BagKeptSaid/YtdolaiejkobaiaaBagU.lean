import Derived.Test.YtdolaiejkobaiaaBagT
namespace Go.Proofs.Ytdolaiejkobaiaa
set_option linter.unusedVariables false
set_option linter.unusedSimpArgs false
open Go.RowKit
attribute [local go_sem ↓] Go.wp_at_zero Go.wp_at_succ

/-- the marks behind lent bytes -/
def mks (n : Nat) : List Int := (List.range n).map fun (i : Nat) => 101 + (i : Int)
theorem mks_len (n : Nat) : (mks n).length = n := by simp [mks]
theorem mks_succ (n : Nat) : mks (n + 1) = mks n ++ [101 + (n : Int)] := by simp [mks, List.range_succ]
theorem mks_at {n m : Nat} (h : m < n) : (mks n)[m]? = some (101 + (m : Int)) := by
  simp [mks, List.getElem?_map, List.getElem?_range h]
theorem bys_append (a b : List Int) : bys (a ++ b) = bys a ++ bys b := by simp [bys]
theorem bys_take (l : List Int) (n : Nat) : (bys l).take n = bys (l.take n) := by simp [bys]
theorem byte_at {w : World} {g n c m : Nat} {l : List Int} (h : Rd w (.slice (some ⟨g, 0, none⟩) n c) m (bys l)) {k : Nat} {x : Int} (hk : l[k]? = some x) : w.cell? ⟨g, k, none⟩ = some (.int .u8 x) := by
  have h1 := h.at k (.int .u8 x) (by simp [bys, List.getElem?_map, hk])
  simpa using h1
theorem byte_off {w : World} {g o n c m : Nat} {l : List Int} (h : Rd w (.slice (some ⟨g, o, none⟩) n c) m (bys l)) {k : Nat} {x : Int} (hk : l[k]? = some x) : w.cell? ⟨g, o + k, none⟩ = some (.int .u8 x) :=
  h.at k (.int .u8 x) (by simp [bys, List.getElem?_map, hk])
theorem bytes_loc {w : World} {a : Option Addr} {n c m : Nat} {l : List Int} (h : Rd w (.slice a n c) m (bys l)) (hl : 0 < l.length) : ∃ b o, a = some ⟨b, o, none⟩ := by
  obtain ⟨b, o, c', hv, _⟩ := h.form (by rw [bys_len]; omega)
  simp only [Value.slice.injEq] at hv
  exact ⟨b, o, hv.1⟩

set_option maxRecDepth 100000 in
set_option maxHeartbeats 2000000 in
theorem lend_any (v : Value) (l : List Int) (w : World) (hv : Rd w v l.length (bys l)) (hl : l.length ≤ 140737488351232) :
    Calls Try.prog 26 #[v] w fun e w' => ∃ g c, e = .returned (.tuple #[.slice (some ⟨g, 0, none⟩) l.length c, .slice (some ⟨g, 0, none⟩) (l.length + 70) c]) ∧ w'.ownsRow w.heap.size 5 1 (.slice (some ⟨g, 0, none⟩) (l.length + 70) c) (l.length + 70) (bys (l ++ mks 70)) ∧ Below w.heap.size w w' := by
  obtain ⟨va, vc, rfl, _, _⟩ := hv.shape
  obtain ⟨i0, hi, hz0, hz1, hz2⟩ := info_parts info5
  have HI := hid hi
  have HV := hid hv
  clear hi hv
  go_enter Try.func26, Try.ntmps26
  go_wp2_with fail
  refine (copyBytes_any _ l _ HV.out hl).mono ?_; rintro e w1 ⟨a1, c1, rfl, ho1, hb1⟩
  have HO1 := hid ho1
  have HB1 := hid hb1
  clear ho1 hb1
  go_wp2_with fail
  go_loopw [4, 5] (fun v4 v5 wr => ∃ (i : Nat) (a3 : Option Addr) (c3 : Nat), i ≤ 70 ∧ v5 = .int .i64 i ∧ v4 = .slice a3 (l.length + i) c3 ∧ Hid (Below w.heap.size w wr) ∧ Hid (wr.ownsRow w.heap.size 5 1 (.slice a3 (l.length + i) c3) (l.length + i) (bys (l ++ mks i)))) (fun _ v5 _ => 70 - (intOf v5).toNat)
  case atStart => exact ⟨0, a1, c1, Nat.zero_le _, rfl, rfl, HB1, hid (by simpa [mks] using HO1.out)⟩
  case round =>
    obtain ⟨i, a3, c3, hi, rfl, rfl, HB, HO⟩ := hrel
    have hzz := HB.out.size
    by_cases hlt : i < 70
    · have hi1 : decide ((i : Int) < 70) = true := decide_eq_true (by omega)
      have hw1 : IntKind.i64.wrap (101 + (i : Int)) = 101 + (i : Int) := IntWalk.i64_in _ (by omega)
      go_wp2_with (at_builtin; refine wpList_append_rd rfl _ _ 29 rfl w.heap.size 5 i0 _ 1 1 Try.underlying29 HI.out hz0 hz1 hz2 rfl (by decide) (.slice a3 (l.length + i) c3) (l.length + i) (bys (l ++ mks i)) rfl (own_alloc HO.out _) (.slice (some ⟨wr.heap.size, 0, none⟩) 1 1) 1 [.int .u8 (101 + (i : Int))] rfl (rd_blk (heap_new wr _) (by unfold maxLen; omega)) rfl (by intro u hu; simp at hu; subst hu; rfl) (by unfold maxLen; omega) (by omega) (Nat.le_trans hzz (by simp)) ?_; intro a6 c6 w6 hown6 hgrow6 hat6)
      have hB := (HB.out.alloc hzz (.cells #[.int .u8 (101 + (i : Int))] 5)).grown hgrow6 (Nat.le_trans hzz (by simp)) (fun k hk => (own_lt HO.out hk).1)
      exact ⟨⟨i + 1, a6, c6, by omega, by go_num, rfl, hid hB, hid (by rw [mks_succ, ← List.append_assoc, bys_append]; exact hown6)⟩, by simp [intOf]; omega⟩
    · have hi70 : i = 70 := by omega
      subst hi70
      have hi1 : decide (((70 : Nat) : Int) < 70) = false := by decide
      obtain ⟨g, hag, hBg, hgz, hg1, hg2⟩ := own_loc HO.out (by omega)
      subst hag
      have hm0 : (0 : Int) ≤ (l.length : Int) := by omega
      have hm1 : (l.length : Int) ≤ (l.length : Int) + 70 := by omega
      have hm2 : (l.length : Int) ≤ (c3 : Int) := by omega
      go_wp2
      go_ret2
      exact ⟨g, c3, rfl, HO.out, HB.out⟩

set_option maxRecDepth 100000 in
set_option maxHeartbeats 2000000 in
theorem back_any (u v : Value) (l : List Int) (w : World) (hu : Rd w u l.length (bys l)) (hv : Rd w v (l.length + 70) (bys (l ++ mks 70))) (hl : l.length ≤ 140737488351232) :
    Calls Try.prog 27 #[u, v] w fun e w' => e = .returned (.bool true) ∧ ∃ n, w' = w.drewN n := by
  obtain ⟨ua, uc, rfl, _, _⟩ := hu.shape
  obtain ⟨b2, o2, c2, rfl, _⟩ := hv.form (by rw [bys_len, List.length_append, mks_len]; omega)
  have HU := hid hu
  have HV := hid hv
  have hw0 : IntKind.i64.wrap ((l.length : Int) + 70) = (l.length : Int) + 70 := IntWalk.i64_in _ (by omega)
  clear hu hv
  go_enter Try.func27, Try.ntmps27
  go_wp2_with fail
  go_loopw [5] (fun v5 wr => ∃ i : Nat, i ≤ l.length + 70 ∧ v5 = .int .i64 i ∧ Hid (Dr w wr)) (fun v5 _ => l.length + 70 - (intOf v5).toNat)
  case atStart => exact ⟨0, Nat.zero_le _, rfl, hid (Dr.refl _)⟩
  case round =>
    obtain ⟨i, hi, rfl, HDR⟩ := hrel
    by_cases hlt : i < l.length + 70
    · have hi0 : (0 : Int) ≤ (i : Int) := by omega
      have hi1 : (i : Int) < (l.length : Int) + 70 := by omega
      by_cases hik : i < l.length
      · have hi2 : (i : Int) < (l.length : Int) := by omega
        have t1 : decide ((i : Int) < (l.length : Int)) = true := decide_eq_true hi2
        have t2 : decide ((i : Int) ≥ (l.length : Int)) = false := decide_eq_false (by omega)
        have t3 : decide ((l.length : Int) ≤ (i : Int)) = false := decide_eq_false (by omega)
        have t4 : decide (i < l.length) = true := decide_eq_true hik
        have t5 : decide (l.length ≤ i) = false := decide_eq_false (by omega)
        obtain ⟨k, hk⟩ : ∃ k, l[i]? = some k := ⟨_, List.getElem?_eq_getElem hik⟩
        obtain ⟨kg, ko, rfl⟩ := bytes_loc HU.out (by omega)
        have c1 := byte_off (HDR.out.rd HU.out) hk
        have c2 := byte_off (HDR.out.rd HV.out) (show (l ++ mks 70)[i]? = some k by rw [List.getElem?_append_left hik]; exact hk)
        clear hk
        go_wp2_with fail
        go_quiet (fail)
        go_wp2
        exact ⟨⟨i + 1, by omega, by go_num, hid (HDR.out.drewN _)⟩, by simp [intOf]; omega⟩
      · obtain ⟨m, hmm⟩ : ∃ m, i = l.length + m := ⟨i - l.length, by omega⟩
        have t1 : decide ((i : Int) < (l.length : Int)) = false := decide_eq_false (by omega)
        have t2 : decide ((i : Int) ≥ (l.length : Int)) = true := decide_eq_true (by omega)
        have t3 : decide ((l.length : Int) ≤ (i : Int)) = true := decide_eq_true (by omega)
        have t4 : decide (i < l.length) = false := decide_eq_false (by omega)
        have t5 : decide (l.length ≤ i) = true := decide_eq_true (by omega)
        have hw1 : IntKind.i64.wrap (101 + (i : Int)) = 101 + (i : Int) := IntWalk.i64_in _ (by omega)
        have hw2 : IntKind.i64.wrap (101 + (i : Int) - (l.length : Int)) = 101 + (m : Int) := by rw [IntWalk.i64_in _ (by omega)]; omega
        have c2 := byte_off (HDR.out.rd HV.out) (show (l ++ mks 70)[i]? = some (101 + (m : Int)) by
          rw [hmm, List.getElem?_append_right (by omega), Nat.add_sub_cancel_left]; exact mks_at (by omega))
        have hw3 : IntKind.u8.wrap (101 + (m : Int)) = 101 + (m : Int) := IntWalk.u8_in _ (by omega)
        clear hmm hik
        go_wp2_with fail
        go_quiet (fail)
        go_wp2
        exact ⟨⟨i + 1, by omega, by go_num, hid (HDR.out.drewN _)⟩, by simp [intOf]; omega⟩
    · go_wp2
      go_ret
      exact ⟨rfl, HDR.out⟩

end Go.Proofs.Ytdolaiejkobaiaa
