/- Parts of a proof about the given program, in build order: CalZc. No condition. -/
import Derived.Test.YtbjibkjenleloaaGreatDoorMg32
import Derived.Test.YtbjibkjenleloaaGreatDoorMg33
import Derived.Test.YtbjibkjenleloaaGreatDoorMg34
section
namespace Go.Proofs.YtbjibkjenleloaaGreatDoor
set_option linter.unusedVariables false
set_option linter.unusedSimpArgs false
open Go.RowKit
attribute [local go_sem ↓] Go.wp_at_zero Go.wp_at_succ
attribute [local go_sem] run_store_complex run_store_float


set_option maxRecDepth 100000 in
set_option maxHeartbeats 4000000 in
theorem callAgains_walk (cf : Cf) (path : ByteArray) (ep tk : Int) (w : World) : Calls Tryz.prog 5 #[cf.v, .string path, .int .i64 ep, .int .i64 tk] w fun e w' => e = .returned (.bool true) ∧ Below w.heap.size w w' := by
  by_cases hp : pathErr path = 0
  · go_enter Tryz.func5, Tryz.ntmps5
    refine ag_front cf path ep tk w hp (cutN 2 (sndN 8 agBody) (cutN 3 (sndN 10 agBody) (cutN 1 (sndN 13 agBody) (sndN 14 agBody)))) ?_
    intro a w7 c t B p n o g q c2 s L z hs hd f2 f3 f9 f11 hlo hlz hC hb hi hl ham hO hG hB
    have n1 := Int.emod_nonneg ep (show (1000 : Int) ≠ 0 by decide); have m1 := Int.emod_lt_of_pos ep (show (0 : Int) < 1000 by decide)
    have he : InM (1 + ep % 1000) := by unfold InM; omega
    have hm0 : InM 0 := by unfold InM; omega
    refine ag_mid1 w w7 a ep tk c2.ho c t B p n o g q s L (fun _ => false) _ hs hd f2 f3 f9 f11 hC hO ?_
    intro a2 w9 a0 c0 hs2 hd2 g3 g9 g11 g12 g15 g16 hA9 hC9 hX9
    have hlow : ∀ j, j < w.heap.size → ¬ (j = c ∨ j = t ∨ CF B p j) := fun j hj hf => by
      rcases hf with hf | hf | hf
      · omega
      · omega
      · have := hf.1; omega
    have hno : ∀ j, o ≤ j → ¬ (j = c ∨ j = t ∨ CF B p j) := fun j hj hf => by
      rcases hf with hf | hf | hf
      · omega
      · omega
      · have := hf.2; omega
    have hO9 := heap_chg hX9 hO (hno o (Nat.le_refl _))
    have hB9 : Below w.heap.size w w9 := hB.trans (hX9.toBelow hB.size fun i hi hf => hlow i hi hf)
    have hG9 := ownsRow_chg hG fun j hj hl => hX9.block j hl (hno j (own_lt hG hj).1)
    have hA9' : w9.ownsRow w7.heap.size 50 16 (.slice a0 1 c0) 1 [.int .i64 1, .int .i64 1, .int .i64 1, .int .i64 1, .complex .f64 (fl (1 + ep % 1000)) (fl 0), .int .i64 0, .int .i64 0, .int .i64 1, .int .i64 z.key.dir, .string z.key.name, .int .i64 0, .string { data := #[] }, .int .i64 0, .string { data := #[] }, .slice none 0 0, .slice none 0 0] := by
      rw [ham] at hA9
      exact hA9
    refine ag_mid2 w w9 a2 tk (1 + ep % 1000) c t B p n o g q o w7.heap.size a0 c0 _ _ _ _ z _ hs2 hd2 g3 g9 g11 g12 g15 g16 he hC9 rfl rfl hO9 hG9 hA9' ?_
    intro a3 w10 wb hs3 hd3 k3 k9 k18 hWB hwb hB10
    have hC10 := hC9.below hB10
    have hO10 := heap_below hB10 hO9 (blk_lt hO9)
    have hBx : Below w.heap.size w w10 := hB9.trans (hB10.mono hB9.size)
    refine ag_loop w w10 a3 tk (1 + ep % 1000) c t B p n o q wb _ _ _ _ z _ hs3 hd3 k3 k9 k18 he (by omega) hC10 rfl rfl hi hl ?_ hO10 hWB ?_
    · show markAm s.am _ = _
      rw [ham]
      rfl
    intro a4 w11 hs4 hd4 l9 hO11 hC11 hX11
    exact ag_end w w11 a4 c t B p n o q _ _ _ _ hs4 hd4 l9 hC11 hb he hm0 (show (1 : Int) ≤ 1 + ep % 1000 by omega) hi hl hO11 ⟨hlo.1, hlo.2.1⟩ (hBx.trans (hX11.toBelow hBx.size fun i hi hf => by omega))
  · exact callAgains_bad cf path ep tk w hp
end Go.Proofs.YtbjibkjenleloaaGreatDoor

end
