/- Parts of a proof about the given program, in build order: CmuK. No condition. -/
import Derived.Test.YtbjibkjenleloaaGreatDoorMg37
section
namespace Go.Proofs.YtbjibkjenleloaaGreatDoor
set_option linter.unusedVariables false
set_option linter.unusedSimpArgs false
open Go.RowKit
attribute [local go_sem ↓] Go.wp_at_zero Go.wp_at_succ
attribute [local go_sem] run_store_complex run_store_float


theorem run_cat (a b : ByteArray) (h : a.size + b.size ≤ 1000) (T : TypeId) (w : World) : (binOp .add T (.string a) (.string b)).run Tryz.prog w = .ok (.string (a ++ b)) w := by
  simp [binOp, go_sem, Op.stringOp]
  omega
set_option maxRecDepth 100000 in
set_option maxHeartbeats 4000000 in
theorem mu_args (s : ByteArray) (xk xm er ve : Int) (xp xo : ByteArray) (w w2 : World) (a : Act) (X o : Nat) (K : Code) (Q : Exit → Act → World → Prop) (hs : a.tmps.size = 202) (hd : a.defers = []) (f1 : a.tmps.getD 1 undef = .string s) (f3 : a.tmps.getD 3 undef = .int .i64 er) (f4 : a.tmps.getD 4 undef = .int .i64 ve) (f7 : a.tmps.getD 7 undef = .pointer (some ⟨X, 0, none⟩)) (f11 : a.tmps.getD 11 undef = .pointer (some ⟨o, 0, none⟩))
    (hsz : s.size ≤ 12) (hX : w2.heap[X]? = some (.cells #[.int .i64 xk, .string xp, .string xo, .int .i64 xm] 25 (0, 0)))
    (hK : ∀ (a : Act) (w3 : World), a.tmps.size = 202 → a.defers = [] → a.tmps.getD 1 undef = .string s → a.tmps.getD 3 undef = .int .i64 er → a.tmps.getD 4 undef = .int .i64 ve → a.tmps.getD 7 undef = .pointer (some ⟨X, 0, none⟩) → a.tmps.getD 11 undef = .pointer (some ⟨o, 0, none⟩) →
      w3.heap[X]? = some (.cells #[.int .i64 (5 + xk % 7), .string (({ data := #[47] } ++ s)), .string ((if 5 + xk % 7 = 10 then { data := #[47, 47] } ++ s ++ { data := #[47] } else if 5 + xk % 7 = 7 then { data := #[116] } else xo)), .int .i64 (xm % 512)] 25 (0, 0)) → Chg (fun j => j = X) w2 w3 → K.wp Tryz.prog Q a w3) :
    (cutN 5 (sndN 4 muBody) K).wp Tryz.prog Q a w2 := by
  have HKK := hid hK
  have h9 := frame202 a hs hd
  rw [f1, f3, f4, f7, f11] at h9
  generalize a.tmps = u at h9
  subst h9
  have HX2 := hid hX
  have b := blk4 hX
  have hk0 := Int.emod_nonneg xk (show (7 : Int) ≠ 0 by decide); have hk1 := Int.emod_lt_of_pos xk (show (0 : Int) < 7 by decide)
  have hwk : IntKind.i64.wrap (5 + xk % 7) = 5 + xk % 7 := IntWalk.i64_in _ (by omega)
  have z1 : ({ data := #[47] } : ByteArray).size = 1 := rfl
  have z2 : ({ data := #[47, 47] } : ByteArray).size = 2 := rfl
  have z3 : ({ data := #[47, 47] } ++ s : ByteArray).size = 2 + s.size := by rw [ByteArray.size_append]; rfl
  have c1 : ¬ (9223372036854775807 < 1 + (s.size : Int)) := by omega
  have c2 : 1 + (s.size : Int) ≤ 9223372036854775807 := by omega
  have c3 : ¬ (9223372036854775807 < 2 + (s.size : Int)) := by omega
  have c4 : 2 + (s.size : Int) ≤ 9223372036854775807 := by omega
  have c5 : ¬ (9223372036854775807 < 2 + (s.size : Int) + 1) := by omega
  have c6 : 2 + (s.size : Int) + 1 ≤ 9223372036854775807 := by omega
  have c7 : (({ data := #[47] } : ByteArray).size : Int) + (s.size : Int) ≤ 9223372036854775807 := by rw [z1]; omega
  have c8 : (({ data := #[47, 47] } : ByteArray).size : Int) + (s.size : Int) ≤ 9223372036854775807 := by rw [z2]; omega
  have c9 : ((({ data := #[47, 47] } ++ s : ByteArray)).size : Int) + (({ data := #[47] } : ByteArray).size : Int) ≤ 9223372036854775807 := by rw [z1, z3]; omega
  have c10 : ((({ data := #[47, 47] } : ByteArray)).size : Int) + (s.size : Int) + (({ data := #[47] } : ByteArray).size : Int) ≤ 9223372036854775807 := by rw [z1, z2]; omega
  clear hs hd f1 f3 f4 f7 f11 hX hK z1 z2 z3 hsz
  conv => pattern (sndN 4 muBody); whnf
  simp only [cutN]
  refine wp_seq_k fun K0 hK0 => ?_
  have HK0 := hid hK0
  clear hK0
  go_wp2_with fail
  refine (place_pos _ _ _ (by omega) (by omega)).mono ?_; rintro e1 w1 ⟨rfl, rfl⟩
  go_wp2
  refine HK0.out _ _ ?_
  clear HK0 b
  refine gen_w (P := fun w' => Code.wp _ _ _ _ w') (S := fun w' => Chg (fun j => j = X) w2 w' ∧ w'.heap[X]? = some (.cells #[.int .i64 (5 + xk % 7), .string (xp), .string (xo), .int .i64 (xm)] 25 (0, 0))) _ ⟨?_, ?_⟩ ?_
  · exact Chg.set1 (Chg.refl _ _) _ _ rfl
  · have h9 := heap_set HX2.out 0 (.int .i64 (5 + xk % 7))
    simp only [List.setIfInBounds_toArray, List.set_cons_zero, List.set_cons_succ] at h9
    exact h9
  rintro w3 ⟨hc3, hx3⟩
  have HG3 := hid hc3
  have HX3 := hid hx3
  have b := blk4 hx3
  clear hc3 hx3
  refine wp_seq_k fun K1 hK1 => ?_
  have HK1 := hid hK1
  clear hK1
  go_wp2
  refine HK1.out _ _ ?_
  clear HK1 b
  refine gen_w (P := fun w' => Code.wp _ _ _ _ w') (S := fun w' => Chg (fun j => j = X) w3 w' ∧ w'.heap[X]? = some (.cells #[.int .i64 (5 + xk % 7), .string (({ data := #[47] } ++ s)), .string (xo), .int .i64 (xm)] 25 (0, 0))) _ ⟨?_, ?_⟩ ?_
  · exact Chg.set1 (Chg.refl _ _) _ _ rfl
  · have h9 := heap_set HX3.out 1 (.string ({ data := #[47] } ++ s))
    simp only [List.setIfInBounds_toArray, List.set_cons_zero, List.set_cons_succ] at h9
    exact h9
  rintro w4 ⟨hc4, hx4⟩
  have HG4 := hid (chg_new HG3.out hc4 (fun j hj => .inl hj))
  have HX4 := hid hx4
  have b := blk4 hx4
  clear hc4 hx4
  refine wp_seq_k fun K2 hK2 => ?_
  have HK2 := hid hK2
  clear hK2
  go_wp2_with fail
  refine (place_pos _ _ _ (by omega) (by omega)).mono ?_; rintro e1 w1 ⟨rfl, rfl⟩
  go_wp2
  refine HK2.out _ _ ?_
  clear HK2 b
  refine gen_w (P := fun w' => Code.wp _ _ _ _ w') (S := fun w' => Chg (fun j => j = X) w4 w' ∧ w'.heap[X]? = some (.cells #[.int .i64 (5 + xk % 7), .string (({ data := #[47] } ++ s)), .string (xo), .int .i64 (xm % 512)] 25 (0, 0))) _ ⟨?_, ?_⟩ ?_
  · exact Chg.set1 (Chg.refl _ _) _ _ rfl
  · have h9 := heap_set HX4.out 3 (.int .i64 (xm % 512))
    simp only [List.setIfInBounds_toArray, List.set_cons_zero, List.set_cons_succ] at h9
    exact h9
  rintro w5 ⟨hc5, hx5⟩
  have HG5 := hid (chg_new HG4.out hc5 (fun j hj => .inl hj))
  have HX5 := hid hx5
  have b := blk4 hx5
  clear hc5 hx5
  obtain ⟨k, hk⟩ : ∃ k, k = 5 + xk % 7 := ⟨_, rfl⟩
  rw [← hk] at HX5 b HKK
  have HKD := hid hk
  clear hk hwk hk0 hk1
  by_cases h10 : k = 10
  · subst h10
    go_wp2
    refine gen_w (P := fun w' => Code.wp _ _ _ _ w') (S := fun w' => Chg (fun j => j = X) w5 w' ∧ w'.heap[X]? = some (.cells #[.int .i64 (10), .string (({ data := #[47] } ++ s)), .string (({ data := #[47, 47] } ++ s ++ { data := #[47] })), .int .i64 (xm % 512)] 25 (0, 0))) _ ⟨?_, ?_⟩ ?_
    · exact Chg.set1 (Chg.refl _ _) _ _ rfl
    · have h9 := heap_set HX5.out 2 (.string ({ data := #[47, 47] } ++ s ++ { data := #[47] }))
      simp only [List.setIfInBounds_toArray, List.set_cons_zero, List.set_cons_succ] at h9
      exact h9
    rintro w6 ⟨hc6, hx6⟩
    refine HKK.out _ w6 ?_ ?_ ?_ ?_ ?_ ?_ ?_ ?_ (chg_new HG5.out hc6 (fun j hj => .inl hj))
    iterate 7 rfl
    rw [if_pos trivial]
    exact hx6
  by_cases h7 : k = 7
  · subst h7
    go_wp2
    refine gen_w (P := fun w' => Code.wp _ _ _ _ w') (S := fun w' => Chg (fun j => j = X) w5 w' ∧ w'.heap[X]? = some (.cells #[.int .i64 (7), .string (({ data := #[47] } ++ s)), .string ({ data := #[116] }), .int .i64 (xm % 512)] 25 (0, 0))) _ ⟨?_, ?_⟩ ?_
    · exact Chg.set1 (Chg.refl _ _) _ _ rfl
    · have h9 := heap_set HX5.out 2 (.string { data := #[116] })
      simp only [List.setIfInBounds_toArray, List.set_cons_zero, List.set_cons_succ] at h9
      exact h9
    rintro w6 ⟨hc6, hx6⟩
    refine HKK.out _ w6 ?_ ?_ ?_ ?_ ?_ ?_ ?_ ?_ (chg_new HG5.out hc6 (fun j hj => .inl hj))
    iterate 7 rfl
    rw [if_neg (by decide), if_pos trivial]
    exact hx6
  · have g1 : (k == 10) = false := by simp [h10]
    have g2 : decide (k = 10) = false := by simp [h10]
    have g3 : (k == 7) = false := by simp [h7]
    have g4 : decide (k = 7) = false := by simp [h7]
    have HNN := hid (And.intro h10 h7)
    clear h10 h7
    go_wp2
    refine HKK.out _ w5 ?_ ?_ ?_ ?_ ?_ ?_ ?_ ?_ HG5.out
    iterate 7 rfl
    rw [if_neg HNN.out.1, if_neg HNN.out.2]
    exact HX5.out
end Go.Proofs.YtbjibkjenleloaaGreatDoor

end
