import Derived.Test.YtakkdaenindboaaLibK
import Derived.Test.YtakkdaenindboaaShelfSortKey
import Derived.Test.YtakkdaenindboaaShelfCmpInt
namespace Go.Proofs.Ytakkdaenindboaa
set_option linter.unusedVariables false
set_option linter.unusedSimpArgs false
open Go.RowKit
attribute [local go_sem ↓] Go.wp_at_zero Go.wp_at_succ

set_option maxHeartbeats 400000 in
theorem clone_keys (v : Value) (L : List Ky) (w : World) (hv : Rd w v L.length (kyc L)) (hl : L.length * 24 ≤ 140737488355328) :
    Calls Try.prog 39 #[v] w fun e w' => ∃ a c, e = .returned (.slice a L.length c) ∧ w'.ownsRow w.heap.size 37 2 (.slice a L.length c) L.length (kyc L) ∧ Below w.heap.size w w' := by
  obtain ⟨i0, hi, hz0, hz1, hz2⟩ := info_parts infoKy
  rcases id hv with ⟨rfl, hn, _⟩ | ⟨ad, cap, rfl, h1, h2, h3⟩
  · have hnil := fun (w : World) => Lib.run_eql_slice_nil (P := Try.prog) w 28 37 none 0 0 0 0 Try.underlying28
    have hL := List.eq_nil_of_length_eq_zero hn
    subst hL
    clear hv hl hn
    go_enter Try.func39, Try.ntmps39
    go_wp2
    go_ret
    exact ⟨none, 0, rfl, World.ownsRow_nil _ _ _ _, Below.refl _ _⟩
  · obtain ⟨n, hn⟩ : ∃ n, n = L.length := ⟨_, rfl⟩
    rw [← hn] at hv hl h1 ⊢
    have hnil := fun (w : World) => Lib.run_eql_slice_nil (P := Try.prog) w 28 37 (some ad) n cap 0 0 Try.underlying28
    have HV := hid hv
    have HN := hid (show (kyc L).length = n * 2 by rw [kyc_len, hn])
    have HB := hid (kyc_one L)
    have HI := hid hi
    have hem : (w.alloc (.cells #[] 37)).ownsRow w.heap.size 37 2 (.slice (some ⟨w.heap.size, 0, none⟩) 0 0) 0 [] := ownsRow_of_whole (heap_new w _) rfl (Nat.le_refl _) (by unfold maxLen; omega)
    have HE := hid hem
    clear hv hi h3 hn hem
    go_enter Try.func39, Try.ntmps39
    go_wp2_with (at_builtin; refine wpList_append_rd rfl _ _ 28 rfl w.heap.size 37 i0 _ 2 24 Try.underlying28 HI.out hz0 hz1 hz2 rfl (by decide) (.slice (some ⟨w.heap.size, 0, none⟩) 0 0) 0 [] rfl HE.out _ n (kyc L) rfl (HV.out.alloc _) HN.out HB.out (by unfold maxLen; omega) (by omega) (by simp) ?_; intro a' c' w1 hown hgrow hat)
    go_ret
    simp only [Nat.zero_add, List.nil_append] at hown
    exact ⟨_, _, rfl, hown, (bl1 w _).grown hgrow (by simp) (by simp [Value.ownBlock])⟩

set_option maxHeartbeats 1000000 in
theorem index_key (v : Value) (L : List Ky) (d : Int) (s : ByteArray) (w : World) (hv : Rd w v L.length (kyc L)) :
    Calls Try.prog 54 #[v, .agg #[.int .i64 d, .string s]] w fun e w' => ∃ j : Int, e = .returned (.int .i64 j) ∧ Hid (0 ≤ j ↔ (⟨d, s⟩ : Ky) ∈ L) ∧ Below w.heap.size w w' := by
  have hlen := hv.len
  unfold maxLen at hlen
  obtain ⟨a, c, rfl, _, _⟩ := hv.shape
  have HV := hid hv
  have bx := blk2 (heap_new w (.cells #[.int .i64 d, .string s] 37))
  have HBX := hid (heap_new w (.cells #[.int .i64 d, .string s] 37))
  clear hv
  go_enter Try.func54, Try.ntmps54
  go_wp2_with fail
  go_loopw [8] (fun v8 wr => ∃ k : Nat, k ≤ L.length ∧ v8 = .int .i64 k ∧ Hid (⟨d, s⟩ ∉ L.take k) ∧ Hid (Dr (w.alloc (.cells #[.int .i64 d, .string s] 37)) wr)) (fun v8 _ => L.length - (intOf v8).toNat)
  case atStart => exact ⟨0, Nat.zero_le _, rfl, hid (by simp), hid (Dr.refl _)⟩
  case round =>
    obtain ⟨k, hk, rfl, HT, HDR⟩ := hrel
    by_cases hlt : k < L.length
    · obtain ⟨b, off, rfl⟩ := ks_loc HV.out (by omega)
      obtain ⟨x, hx⟩ : ∃ x, L[k]? = some x := ⟨_, List.getElem?_eq_getElem hlt⟩
      have c1 := ks_at HV.out ((bl1 w (.cells #[.int .i64 d, .string s] 37)).trans ((HDR.out.below w.heap.size))) hx
      have q0 := HDR.out.cell (blk2 HBX.out).1
      have q1 := HDR.out.cell (blk2 HBX.out).2.1
      have heq := fun W => eqIn_key d x.dir s x.name W
      have HX := hid hx
      have hk0 : (0 : Int) ≤ (k : Int) := by omega
      have hk1 : (k : Int) < (L.length : Int) := by omega
      clear hx
      by_cases he : (⟨d, s⟩ : Ky) = ⟨x.dir, x.name⟩
      · have HE := hid (show (⟨d, s⟩ : Ky) ∈ L by rw [he]; exact List.mem_of_getElem? HX.out)
        simp only [decide_eq_true he] at heq
        clear he
        go_wp2_with fail
        go_quiet (fail)
        go_wp2
        go_ret
        exact ⟨_, rfl, hid ⟨fun _ => HE.out, fun _ => hk0⟩, below_drewN ((bl1 w _).trans (HDR.out.below _)) _⟩
      · have HE := hid (show (⟨d, s⟩ : Ky) ∉ L.take (k + 1) by
          rw [List.take_add_one, HX.out]; simp only [Option.toList_some, List.mem_append, List.mem_singleton, not_or]; exact ⟨HT.out, he⟩)
        simp only [decide_eq_false he] at heq
        clear he
        go_wp2_with fail
        go_quiet (fail)
        go_wp2
        exact ⟨⟨k + 1, by omega, by go_num, HE, hid (HDR.out.drewN _)⟩, by simp [intOf]; omega⟩
    · have HE := hid (show (⟨d, s⟩ : Ky) ∉ L by have := HT.out; rwa [List.take_of_length_le (by omega)] at this)
      go_wp2
      go_ret
      exact ⟨_, rfl, hid ⟨fun h => absurd h (by decide), fun h => absurd h HE.out⟩, (bl1 w _).trans (HDR.out.below _)⟩

set_option maxHeartbeats 400000 in
theorem contains_key (v : Value) (L : List Ky) (d : Int) (s : ByteArray) (w : World) (hv : Rd w v L.length (kyc L)) :
    Calls Try.prog 38 #[v, .agg #[.int .i64 d, .string s]] w fun e w' => e = .returned (.bool (decide ((⟨d, s⟩ : Ky) ∈ L))) ∧ Below w.heap.size w w' := by
  have HV := hid hv
  have bx := blk2 (heap_new w (.cells #[.int .i64 d, .string s] 37))
  clear hv
  go_enter Try.func38, Try.ntmps38
  go_wp2_with fail
  refine (index_key v L d s _ (HV.out.alloc _)).mono ?_
  rintro e w1 ⟨j, rfl, HJ, hb⟩
  by_cases hj : 0 ≤ j
  · have h1 : decide (j ≥ 0) = true := decide_eq_true hj
    have HM := hid (decide_eq_true (HJ.out.1 hj))
    clear hj
    go_wp2
    go_ret
    exact ⟨by rw [HM.out]; rfl, (bl1 w _).trans (hb.mono (by simp))⟩
  · have h1 : decide (j ≥ 0) = false := decide_eq_false hj
    have HM := hid (decide_eq_false (fun h => hj (HJ.out.2 h)))
    clear hj
    go_wp2
    go_ret
    exact ⟨by rw [HM.out]; rfl, (bl1 w _).trans (hb.mono (by simp))⟩

end Go.Proofs.Ytakkdaenindboaa
