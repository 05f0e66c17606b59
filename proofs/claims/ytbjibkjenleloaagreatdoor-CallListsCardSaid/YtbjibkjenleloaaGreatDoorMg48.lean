/- Parts of a proof about the given program, in build order: LsaA. No condition. -/
import Derived.Test.YtbjibkjenleloaaGreatDoorMg47
section
namespace Go.Proofs.YtbjibkjenleloaaGreatDoor
set_option linter.unusedVariables false
set_option linter.unusedSimpArgs false
open Go.RowKit
attribute [local go_sem ↓] Go.wp_at_zero Go.wp_at_succ
attribute [local go_sem] run_store_complex run_store_float


theorem hasN_step {F : List En} {i : Nat} {x : En} (hx : F[i]? = some x) (y : ByteArray) : hasN (F.take (i + 1)) y = (hasN (F.take i) y || x.key.name.toList == y.toList) := by
  unfold hasN
  rw [List.take_add_one, hx]
  simp
set_option maxRecDepth 100000 in
set_option maxHeartbeats 4000000 in
theorem ls_cmp (w w2 : World) (a : Act) (o ab b0 b1 : Nat) (F : List En) (la : Option Addr) (lc : Nat) (a0 : Option Addr) (c0 : Nat) (na : Option Addr) (nc : Nat) (other : ByteArray) (v : Int) (K : Code) (hs : a.tmps.size = 310) (hd : a.defers = []) (f2 : a.tmps.getD 2 undef = .string other) (f9 : a.tmps.getD 9 undef = .pointer (some ⟨o, 0, none⟩)) (f11 : a.tmps.getD 11 undef = .slice la F.length lc) (f14 : a.tmps.getD 14 undef = .slice a0 0 c0) (f15 : a.tmps.getD 15 undef = .bool true) (f17 : a.tmps.getD 17 undef = .int .i64 v) (f18 : a.tmps.getD 18 undef = .pointer (some ⟨ab, 0, none⟩))
    (hA : w2.heap[ab]? = some (.cells #[.int .i64 0, .int .i64 0, .int .i64 0, .int .i64 0, .string ByteArray.empty, .slice na F.length nc, .int .i64 v] 43 (0, 0))) (hN : w2.ownsRow b1 9 1 (.slice na F.length nc) F.length (srow (nmsL F))) (hF : w2.ownsRow b0 55 7 (.slice la F.length lc) F.length (ecs F)) (hl : F.length ≤ 20)
    (hK : ∀ (a : Act) (w3 : World), a.tmps.size = 310 → a.defers = [] → a.tmps.getD 2 undef = .string other → a.tmps.getD 9 undef = .pointer (some ⟨o, 0, none⟩) → a.tmps.getD 11 undef = .slice la F.length lc → a.tmps.getD 17 undef = .int .i64 v → a.tmps.getD 18 undef = .pointer (some ⟨ab, 0, none⟩) → a.tmps.getD 19 undef = .bool (hasN F other) → Below w2.heap.size w2 w3 → K.wp Tryz.prog (bodyPost Tryz.prog Tryz.f4 fun e w' => e = .returned (.bool true) ∧ Below w.heap.size w w') a w3) :
    (cutN 3 (sndN 10 lsBody) K).wp Tryz.prog (bodyPost Tryz.prog Tryz.f4 fun e w' => e = .returned (.bool true) ∧ Below w.heap.size w w') a w2 := by
  conv => pattern (sndN 10 lsBody); whnf
  simp only [cutN]
  have HKK := hid hK
  have HA := hid hA
  have HN := hid hN
  have HF := hid hF
  have ba := blk7 hA
  have h9 := frame310 a hs hd
  rw [f2, f9, f11, f14, f15, f17, f18] at h9
  generalize a.tmps = u at h9
  subst h9
  clear hs hd f2 f9 f11 f14 f15 f17 f18 hA hN hF hK
  go_wp2_with fail
  (try simp only [Exit.then])
  refine wp_loop (fun a wr => a.tmps.size = 310 ∧ a.defers = [] ∧ a.tmps.getD 2 undef = .string other ∧ a.tmps.getD 9 undef = .pointer (some ⟨o, 0, none⟩) ∧ a.tmps.getD 11 undef = .slice la F.length lc ∧ a.tmps.getD 17 undef = .int .i64 v ∧ a.tmps.getD 18 undef = .pointer (some ⟨ab, 0, none⟩) ∧ ∃ (i : Nat) (b : Bool), i ≤ F.length ∧ a.tmps.getD 19 undef = .bool b ∧ a.tmps.getD 20 undef = .int .i64 i ∧ Hid (b = hasN (F.take i) other) ∧ Hid (Below w2.heap.size w2 wr)) (fun a _ => F.length - (intOf (a.tmps.getD 20 undef)).toNat) ?_ ?_
  · exact ⟨rfl, rfl, rfl, rfl, rfl, rfl, rfl, 0, false, Nat.zero_le _, rfl, rfl, hid rfl, hid (Below.refl _ _)⟩
  intro a3 wr hI
  obtain ⟨hs, hd, f2, f9, f11, f17, f18, i, b, him, f19, f20, HBB, HW⟩ := hI
  have HMU := hid (show F.length - (intOf (a3.tmps.getD 20 undef)).toNat = F.length - i by rw [f20]; rfl)
  have h9 := frame310 a3 hs hd
  rw [f2, f9, f11, f17, f18, f19, f20] at h9
  generalize a3.tmps = u3 at h9 HMU
  subst h9
  clear hs hd f2 f9 f11 f17 f18 f19 f20 ba
  refine wp_seq_k fun K0 hK0 => ?_
  have HK0 := hid hK0
  clear hK0
  by_cases hlt : i < F.length
  · have hk0 : (0 : Int) ≤ (i : Int) := by omega
    have hk1 : (i : Int) < (F.length : Int) := by omega
    obtain ⟨x, hx⟩ : ∃ x, F[i]? = some x := ⟨_, List.getElem?_eq_getElem hlt⟩
    have hF := own_below HF.out HW.out
    have hN := own_below HN.out HW.out
    obtain ⟨gl, hgl, _⟩ := own_loc hF (by omega)
    obtain ⟨gn, hgn, _⟩ := own_loc hN (by omega)
    subst hgl hgn
    have x1 := ecs_at (Rd.own hF) hx
    have x2 : wr.cell? ⟨gn, i, none⟩ = some (.string x.key.name) := st_at (L := nmsL F) (Rd.own hN) (by unfold nmsL; rw [List.getElem?_map, hx]; rfl)
    have ba := blk7 (heap_below HW.out HA.out (blk_lt HA.out))
    have HST := hid (hasN_step hx other)
    clear hF hN hx
    cases b with
    | true =>
      go_wp2
      refine HK0.out _ _ ?_
      clear HK0
      refine wp_seq (wp_block ?_)
      go_wp2_with fail
      go_quiet (fail)
      go_wp2
      (try simp only [Exit.inBlock, Exit.then])
      (try go_wp2)
      refine ⟨⟨rfl, trivial, rfl, rfl, rfl, rfl, rfl, i + 1, true, by omega, rfl, ?_, hid ?_, hid (below_drewN HW.out _)⟩, ?_⟩
      · show Value.int .i64 _ = _
        go_num
      · rw [HST.out, ← HBB.out]; rfl
      · rw [HMU.out]
        show F.length - (i + 1) < F.length - i
        omega
    | false =>
      go_wp2
      refine HK0.out _ _ ?_
      clear HK0
      refine wp_seq (wp_block ?_)
      go_wp2_with fail
      go_quiet (fail)
      go_wp2
      (try simp only [Exit.inBlock, Exit.then])
      (try go_wp2)
      refine ⟨⟨rfl, trivial, rfl, rfl, rfl, rfl, rfl, i + 1, x.key.name.toList == other.toList, by omega, rfl, ?_, hid ?_, hid (below_drewN HW.out _)⟩, ?_⟩
      · show Value.int .i64 _ = _
        go_num
      · rw [HST.out, ← HBB.out]; rfl
      · rw [HMU.out]
        show F.length - (i + 1) < F.length - i
        omega
  · have hnl : ¬ ((i : Int) < (F.length : Int)) := by omega
    have hie : i = F.length := by omega
    subst hie
    go_wp2
    (try simp only [Exit.inBlock, Exit.then])
    refine HKK.out _ wr ?_ ?_ ?_ ?_ ?_ ?_ ?_ ?_ HW.out
    iterate 7 rfl
    have h1 := HBB.out
    rw [List.take_length] at h1
    rw [← h1]
    rfl
end Go.Proofs.YtbjibkjenleloaaGreatDoor

end
