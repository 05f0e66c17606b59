import Derived.Test.YtakkdaenindboaaVowQ
import Derived.Test.YtakkdaenindboaaLibG
namespace Go.Proofs.Ytakkdaenindboaa
set_option linter.unusedVariables false
set_option linter.unusedSimpArgs false
open Go.RowKit
attribute [local go_sem ↓] Go.wp_at_zero Go.wp_at_succ
attribute [local go_sem] run_store_complex run_store_float

theorem stA_tell' (e Q : Int) (vf : Nat → Int) (i : Nat) (h0 : 0 < i) (hi : (i : Int) ≤ Q) (hQ : Q ≤ 16) : (grantT (stA e Q vf 1 i) (kN (1 + i)) (vf i)).2 = [⟨e, i, vf i, false, [kN i]⟩] := by
  obtain ⟨j, rfl⟩ : ∃ j, i = j + 1 := ⟨i - 1, by omega⟩
  have := stA_tell e Q vf 1 j (by omega) hQ
  rw [this]
  rw [show (1 : Int) + (j : Int) = ((j + 1 : Nat) : Int) from by omega, show ((j + 1 : Nat) : Int) = (j : Int) + 1 from by omega]
theorem stA_none (e Q : Int) (vf : Nat → Int) (k : Ky) (v : Int) : (grantT (stA e Q vf 1 0) k v).2 = [] := by
  simp only [stA]; rw [grant_first]

theorem ord_same {a : Int} (h : InM a) : (FloatKind.f64.format.order (fl a) (fl a) == some .eq) = true := by rw [ord_M h h, cmp_eq]; rfl

theorem touch_flood {q ver : Int} {vf : Nat → Int} {i : Nat} (k : Ky) (hi : (i : Int) = q) (hq1 : 1 ≤ q) (hq : q ≤ 16) : touchT ⟨5, i, 1, q, [k], qsA 5 vf 1 i⟩ [k] ver = (⟨5, (i : Int) + 1, 1, q, [], [⟨5, (i : Int) + 1, ver, true, []⟩]⟩, [⟨5, (i : Int) + 1, ver, true, []⟩]) := by
  have h1 : tellB [k] k = true := by simp [tellB]
  unfold touchT
  simp only [List.filter_cons, h1, if_true, List.filter_nil]
  rw [if_neg (by simp), brkT_all (by show (i : Int) < 1099511627776; omega) (by show q ≤ ((qsA 5 vf 1 i).length : Int); rw [qsA_len]; omega)]

set_option maxRecDepth 100000 in
set_option maxHeartbeats 8000000 in
theorem vowFloods_walk (queue ver : Int) (w : World) :
    Calls Try.prog 10 #[.int .i64 queue, .int .i64 ver] w fun e w' => e = .returned (.bool true) ∧ Below w.heap.size w w' := by
  obtain ⟨q0, hq0⟩ : ∃ q0 : Nat, queue % 16 = q0 := ⟨(queue % 16).toNat, by have := Int.emod_nonneg queue (show (16 : Int) ≠ 0 by omega); omega⟩
  have hq15 : q0 ≤ 15 := by have := Int.emod_lt_of_pos queue (show (0 : Int) < 16 by omega); omega
  have HQ0 := hid hq0
  clear hq0
  go_enter Try.func10, Try.ntmps10
  go_wp2_with fail
  refine (place_pos queue 16 _ (by omega) (by omega)).mono ?_; rintro e wx ⟨rfl, rfl⟩
  rw [HQ0.out]
  obtain ⟨q, hq⟩ : ∃ q : Nat, q = 1 + q0 := ⟨_, rfl⟩
  have hq1 : 1 ≤ q := by omega
  have hq16 : q ≤ 16 := by omega
  have hqi : (1 : Int) + (q0 : Int) = (q : Int) := by omega
  have HQI := hid hqi
  clear hqi hq
  go_wp2_with fail
  rw [HQI.out]
  refine (v_new_yes _ 5 1 (q : Int) ⟨⟨by decide, by decide⟩, ⟨by decide, by decide⟩, by omega, by omega⟩).mono ?_
  rintro e w1 ⟨rfl, hv1, hb1⟩
  have HS1 := hid (show VS w w1 (fun k => k = w.heap.size) w.heap.size ⟨5, 0, 1, q, [], []⟩ from ⟨hv1, fun k hk => by omega, hb1⟩)
  clear hv1 hb1
  go_wp2_with fail
  go_loopw [8] (fun v8 wr => ∃ (i : Nat) (F : Nat → Prop), i ≤ q + 1 ∧ v8 = .int .i64 i ∧ Hid (VS w wr F w.heap.size (stA 5 q (fun _ => ver) 1 i))) (fun v8 _ => q + 1 - (intOf v8).toNat)
  case atStart => exact ⟨0, _, by omega, rfl, HS1⟩
  case round =>
    obtain ⟨i, F, hi, rfl, HV⟩ := hrel
    by_cases hlt : i ≤ q
    · have hik : (i : Int) ≤ (q : Int) := by omega
      have hi0 : (0 : Int) ≤ (i : Int) := by omega
      go_wp2_with fail
      refine (t_grant _ F _ _ (1 + (i : Int)) _ ver HV.out.v).mono ?_
      rintro e w2 hp
      obtain ⟨F2, a2, c2, R2, rfl, hs2, hR2, hB2, hO2, hC2, hF2⟩ := HV.out.brk hp
      have hs3 : VS w w2 F2 w.heap.size (stA 5 q (fun _ => ver) 1 (i + 1)) := by rw [← stA_step 5 q (fun _ => ver) 1 i (by omega) (by omega)]; exact hs2
      have HS := hid hs3
      by_cases h0 : i = 0
      · subst h0
        have hRn : R2 = [] := by
          have h5 : R2.map Bk.pl = [] := hR2.trans (stA_none _ _ _ _ _)
          simpa using h5
        subst hRn
        have z1 : (((0 : Nat) : Int) == 0) = true := by decide
        clear hs2 hs3 hR2 hB2 hO2 hC2 hF2 hp
        go_wp2_with fail
        go_quiet (fail)
        go_wp2
        exact ⟨⟨1, F2, by omega, by go_num, hid (HS.out.drewN _)⟩, by simp [intOf]⟩
      · have hR3 : R2.map Bk.pl = [⟨5, i, ver, false, [kN i]⟩] := hR2.trans (stA_tell' 5 q (fun _ => ver) i (by omega) (by omega) (by omega))
        obtain ⟨g, ka, kc, rfl, rfl, hgz, c0, c1, c2', c3, q4⟩ := one_brk hB2 hR3
        have z1 : ((i : Int) == 0) = false := by rw [beq_eq_false_iff_ne]; omega
        have z2 : decide ((i : Int) > 0) = true := decide_eq_true (by omega)
        have z3 : decide (0 < i) = true := decide_eq_true (by omega)
        have t1 := ord_same (a := 5) ⟨by decide, by decide⟩
        have t2 := ord_same (a := i) ⟨by omega, by omega⟩
        have Q4 := hid (Rd.own q4)
        simp only [List.length_singleton] at c3
        have HGZ := hid hgz
        clear hs2 hs3 hR2 hB2 hO2 hC2 hF2 hp hR3 q4
        go_wp2_with fail
        refine held_start (fun w' => w'.cell? ⟨g, 2, none⟩ = some (.bool false) ∧ w'.cell? ⟨g, 0, none⟩ = some (.complex .f64 (fl 5) (fl i)) ∧ w'.cell? ⟨g, 3, none⟩ = some (.slice ka 1 kc)) (by kernel_rfl) ?_ (fun hHeld => ?_)
        · first | exact ⟨by assumption, by assumption, by assumption⟩ | go_keep
        refine held_take 0 rfl (by kernel_rfl) (by kernel_rfl) (by kernel_rfl) (fun _ _ _ h => h) hHeld (by rfl) (v := ?_) ?_ ?_
        rotate_left
        · intro w hSw; (try dsimp only at hSw); (try go_simp); (try with_reducible rfl)
        try simp only [Act.put, List.setIfInBounds_toArray, List.set_cons_zero, List.set_cons_succ]
        refine held_take 1 rfl (by kernel_rfl) (by kernel_rfl) (by kernel_rfl) (fun _ _ _ h => h) hHeld (by rfl) (v := ?_) ?_ ?_
        rotate_left
        · intro w hSw; (try dsimp only at hSw); (try go_simp); (try with_reducible rfl)
        try simp only [Act.put, List.setIfInBounds_toArray, List.set_cons_zero, List.set_cons_succ]
        refine held_take 2 rfl (by kernel_rfl) (by kernel_rfl) (by kernel_rfl) (fun _ _ _ h => h) hHeld (by rfl) (v := ?_) ?_ ?_
        rotate_left
        · intro w hSw; (try dsimp only at hSw); (try go_simp); (try with_reducible rfl)
        try simp only [Act.put, List.setIfInBounds_toArray, List.set_cons_zero, List.set_cons_succ]
        refine held_skip 3 rfl (by kernel_rfl) (by kernel_rfl) (by kernel_rfl) (fun _ _ _ h => h) hHeld (by rfl) ?_
        try simp only [Act.put, List.setIfInBounds_toArray, List.set_cons_zero, List.set_cons_succ]
        refine held_skip 4 rfl (by kernel_rfl) (by kernel_rfl) (by kernel_rfl) (fun _ _ _ h => h) hHeld (by rfl) ?_
        try simp only [Act.put, List.setIfInBounds_toArray, List.set_cons_zero, List.set_cons_succ]
        refine held_skip 5 rfl (by kernel_rfl) (by kernel_rfl) (by kernel_rfl) (fun _ _ _ h => h) hHeld (by rfl) ?_
        try simp only [Act.put, List.setIfInBounds_toArray, List.set_cons_zero, List.set_cons_succ]
        refine held_take 6 rfl (by kernel_rfl) (by kernel_rfl) (by kernel_rfl) (fun _ _ _ h => h) hHeld (by rfl) (v := ?_) ?_ ?_
        rotate_left
        · intro w hSw; (try dsimp only at hSw); (try go_simp); (try with_reducible rfl)
        try simp only [Act.put, List.setIfInBounds_toArray, List.set_cons_zero, List.set_cons_succ]
        refine held_take 7 rfl (by kernel_rfl) (by kernel_rfl) (by kernel_rfl) (fun _ _ _ h => h) hHeld (by rfl) (v := ?_) ?_ ?_
        rotate_left
        · intro w hSw; (try dsimp only at hSw); (try go_simp); (try with_reducible rfl)
        try simp only [Act.put, List.setIfInBounds_toArray, List.set_cons_zero, List.set_cons_succ]
        refine held_take 8 rfl (by kernel_rfl) (by kernel_rfl) (by kernel_rfl) (fun _ _ _ h => h) hHeld (by rfl) (v := ?_) ?_ ?_
        rotate_left
        · intro w hSw; (try dsimp only at hSw); (try go_simp); (try with_reducible rfl)
        try simp only [Act.put, List.setIfInBounds_toArray, List.set_cons_zero, List.set_cons_succ]
        refine held_take 9 rfl (by kernel_rfl) (by kernel_rfl) (by kernel_rfl) (fun _ _ _ h => h) hHeld (by rfl) (v := ?_) ?_ ?_
        rotate_left
        · intro w hSw; (try dsimp only at hSw); (try go_simp); (try with_reducible rfl)
        try simp only [Act.put, List.setIfInBounds_toArray, List.set_cons_zero, List.set_cons_succ]
        refine held_take 10 rfl (by kernel_rfl) (by kernel_rfl) (by kernel_rfl) (fun _ _ _ h => h) hHeld (by rfl) (v := ?_) ?_ ?_
        rotate_left
        · intro w hSw; (try dsimp only at hSw); (try go_simp); (try with_reducible rfl)
        try simp only [Act.put, List.setIfInBounds_toArray, List.set_cons_zero, List.set_cons_succ]
        refine held_take 11 rfl (by kernel_rfl) (by kernel_rfl) (by kernel_rfl) (fun _ _ _ h => h) hHeld (by rfl) (v := ?_) ?_ ?_
        rotate_left
        · intro w hSw; (try dsimp only at hSw); (try go_simp); (try with_reducible rfl)
        try simp only [Act.put, List.setIfInBounds_toArray, List.set_cons_zero, List.set_cons_succ]
        refine held_take 12 rfl (by kernel_rfl) (by kernel_rfl) (by kernel_rfl) (fun _ _ _ h => h) hHeld (by rfl) (v := ?_) ?_ ?_
        rotate_left
        · intro w hSw; (try dsimp only at hSw); (try go_simp); (try with_reducible rfl)
        try simp only [Act.put, List.setIfInBounds_toArray, List.set_cons_zero, List.set_cons_succ]
        refine held_take 13 rfl (by kernel_rfl) (by kernel_rfl) (by kernel_rfl) (fun _ _ _ h => h) hHeld (by rfl) (v := ?_) ?_ ?_
        rotate_left
        · intro w hSw; (try dsimp only at hSw); (try go_simp); (try with_reducible rfl)
        try simp only [Act.put, List.setIfInBounds_toArray, List.set_cons_zero, List.set_cons_succ]
        refine held_take 14 rfl (by kernel_rfl) (by kernel_rfl) (by kernel_rfl) (fun _ _ _ h => h) hHeld (by rfl) (v := ?_) ?_ ?_
        rotate_left
        · intro w hSw; (try dsimp only at hSw); (try go_simp); (try with_reducible rfl)
        try simp only [Act.put, List.setIfInBounds_toArray, List.set_cons_zero, List.set_cons_succ]
        refine held_take 15 rfl (by kernel_rfl) (by kernel_rfl) (by kernel_rfl) (fun _ _ _ h => h) hHeld (by rfl) (v := ?_) ?_ ?_
        rotate_left
        · intro w hSw; (try dsimp only at hSw); (try go_simp); (try with_reducible rfl)
        try simp only [Act.put, List.setIfInBounds_toArray, List.set_cons_zero, List.set_cons_succ]
        refine held_take 16 rfl (by kernel_rfl) (by kernel_rfl) (by kernel_rfl) (fun _ _ _ h => h) hHeld (by rfl) (v := ?_) ?_ ?_
        rotate_left
        · intro w hSw; (try dsimp only at hSw); (try go_simp); (try with_reducible rfl)
        try simp only [Act.put, List.setIfInBounds_toArray, List.set_cons_zero, List.set_cons_succ]
        refine held_take 17 rfl (by kernel_rfl) (by kernel_rfl) (by kernel_rfl) (fun _ _ _ h => h) hHeld (by rfl) (v := ?_) ?_ ?_
        rotate_left
        · intro w hSw; (try dsimp only at hSw); (try go_simp); (try with_reducible rfl)
        try simp only [Act.put, List.setIfInBounds_toArray, List.set_cons_zero, List.set_cons_succ]
        refine held_take 18 rfl (by kernel_rfl) (by kernel_rfl) (by kernel_rfl) (fun _ _ _ h => h) hHeld (by rfl) (v := ?_) ?_ ?_
        rotate_left
        · intro w hSw; (try dsimp only at hSw); (try go_simp); (try with_reducible rfl)
        try simp only [Act.put, List.setIfInBounds_toArray, List.set_cons_zero, List.set_cons_succ]
        refine held_take 19 rfl (by kernel_rfl) (by kernel_rfl) (by kernel_rfl) (fun _ _ _ h => h) hHeld (by rfl) (v := ?_) ?_ ?_
        rotate_left
        · intro w hSw; (try dsimp only at hSw); (try go_simp); (try with_reducible rfl)
        try simp only [Act.put, List.setIfInBounds_toArray, List.set_cons_zero, List.set_cons_succ]
        refine held_take 20 rfl (by kernel_rfl) (by kernel_rfl) (by kernel_rfl) (fun _ _ _ h => h) hHeld (by rfl) (v := ?_) ?_ ?_
        rotate_left
        · intro w hSw; (try dsimp only at hSw); (try go_simp); (try with_reducible rfl)
        try simp only [Act.put, List.setIfInBounds_toArray, List.set_cons_zero, List.set_cons_succ]
        refine held_take 21 rfl (by kernel_rfl) (by kernel_rfl) (by kernel_rfl) (fun _ _ _ h => h) hHeld (by rfl) (v := ?_) ?_ ?_
        rotate_left
        · intro w hSw; (try dsimp only at hSw); (try go_simp); (try with_reducible rfl)
        try simp only [Act.put, List.setIfInBounds_toArray, List.set_cons_zero, List.set_cons_succ]
        refine held_take 22 rfl (by kernel_rfl) (by kernel_rfl) (by kernel_rfl) (fun _ _ _ h => h) hHeld (by rfl) (v := ?_) ?_ ?_
        rotate_left
        · intro w hSw; (try dsimp only at hSw); (try go_simp); (try with_reducible rfl)
        try simp only [Act.put, List.setIfInBounds_toArray, List.set_cons_zero, List.set_cons_succ]
        refine held_take 23 rfl (by kernel_rfl) (by kernel_rfl) (by kernel_rfl) (fun _ _ _ h => h) hHeld (by rfl) (v := ?_) ?_ ?_
        rotate_left
        · intro w hSw; (try dsimp only at hSw); (try go_simp); (try with_reducible rfl)
        try simp only [Act.put, List.setIfInBounds_toArray, List.set_cons_zero, List.set_cons_succ]
        refine held_take 24 rfl (by kernel_rfl) (by kernel_rfl) (by kernel_rfl) (fun _ _ _ h => h) hHeld (by rfl) (v := ?_) ?_ ?_
        rotate_left
        · intro w hSw; (try dsimp only at hSw); (try go_simp); (try with_reducible rfl)
        try simp only [Act.put, List.setIfInBounds_toArray, List.set_cons_zero, List.set_cons_succ]
        refine held_take 25 rfl (by kernel_rfl) (by kernel_rfl) (by kernel_rfl) (fun _ _ _ h => h) hHeld (by rfl) (v := ?_) ?_ ?_
        rotate_left
        · intro w hSw; (try dsimp only at hSw); (try go_simp); (try with_reducible rfl)
        try simp only [Act.put, List.setIfInBounds_toArray, List.set_cons_zero, List.set_cons_succ]
        refine held_step 26 rfl (by kernel_rfl) (by rfl) (fun K hK => ?_)
        go_simp
        go_at_call 21; refine (law_mark _ _ _).mono ?_; rintro e w9 ⟨rfl, rfl⟩
        refine hK.out _ _ ?_ (fun hHeld2 => ?_)
        · (try dsimp only); first | exact ⟨by assumption, by assumption, by assumption⟩ | go_keep
        clear hK K hHeld
        have hHeld := hHeld2
        clear hHeld2
        try simp only [Act.put, List.setIfInBounds_toArray, List.set_cons_zero, List.set_cons_succ]
        refine held_take 27 rfl (by kernel_rfl) (by kernel_rfl) (by kernel_rfl) (fun _ _ _ h => h) hHeld (by rfl) (v := ?_) ?_ ?_
        rotate_left
        · intro w hSw; (try dsimp only at hSw); (try go_simp); (try with_reducible rfl)
        try simp only [Act.put, List.setIfInBounds_toArray, List.set_cons_zero, List.set_cons_succ]
        refine held_take 28 rfl (by kernel_rfl) (by kernel_rfl) (by kernel_rfl) (fun _ _ _ h => h) hHeld (by rfl) (v := ?_) ?_ ?_
        rotate_left
        · intro w hSw; (try dsimp only at hSw); (try go_simp); (try with_reducible rfl)
        try simp only [Act.put, List.setIfInBounds_toArray, List.set_cons_zero, List.set_cons_succ]
        refine held_take 29 rfl (by kernel_rfl) (by kernel_rfl) (by kernel_rfl) (fun _ _ _ h => h) hHeld (by rfl) (v := ?_) ?_ ?_
        rotate_left
        · intro w hSw; (try dsimp only at hSw); (try go_simp); (try with_reducible rfl)
        try simp only [Act.put, List.setIfInBounds_toArray, List.set_cons_zero, List.set_cons_succ]
        refine held_take 30 rfl (by kernel_rfl) (by kernel_rfl) (by kernel_rfl) (fun _ _ _ h => h) hHeld (by rfl) (v := ?_) ?_ ?_
        rotate_left
        · intro w hSw; (try dsimp only at hSw); (try go_simp); (try with_reducible rfl)
        try simp only [Act.put, List.setIfInBounds_toArray, List.set_cons_zero, List.set_cons_succ]
        refine held_take 31 rfl (by kernel_rfl) (by kernel_rfl) (by kernel_rfl) (fun _ _ _ h => h) hHeld (by rfl) (v := ?_) ?_ ?_
        rotate_left
        · intro w hSw; (try dsimp only at hSw); (try go_simp); (try with_reducible rfl)
        try simp only [Act.put, List.setIfInBounds_toArray, List.set_cons_zero, List.set_cons_succ]
        refine held_take 32 rfl (by kernel_rfl) (by kernel_rfl) (by kernel_rfl) (fun _ _ _ h => h) hHeld (by rfl) (v := ?_) ?_ ?_
        rotate_left
        · intro w hSw; (try dsimp only at hSw); (try go_simp); (try with_reducible rfl)
        try simp only [Act.put, List.setIfInBounds_toArray, List.set_cons_zero, List.set_cons_succ]
        refine held_take 33 rfl (by kernel_rfl) (by kernel_rfl) (by kernel_rfl) (fun _ _ _ h => h) hHeld (by rfl) (v := ?_) ?_ ?_
        rotate_left
        · intro w hSw; (try dsimp only at hSw); (try go_simp); (try with_reducible rfl)
        try simp only [Act.put, List.setIfInBounds_toArray, List.set_cons_zero, List.set_cons_succ]
        refine held_take 34 rfl (by kernel_rfl) (by kernel_rfl) (by kernel_rfl) (fun _ _ _ h => h) hHeld (by rfl) (v := ?_) ?_ ?_
        rotate_left
        · intro w hSw; (try dsimp only at hSw); (try go_simp); (try with_reducible rfl)
        try simp only [Act.put, List.setIfInBounds_toArray, List.set_cons_zero, List.set_cons_succ]
        refine held_take 35 rfl (by kernel_rfl) (by kernel_rfl) (by kernel_rfl) (fun _ _ _ h => h) hHeld (by rfl) (v := ?_) ?_ ?_
        rotate_left
        · intro w hSw; (try dsimp only at hSw); (try go_simp); (try with_reducible rfl)
        try simp only [Act.put, List.setIfInBounds_toArray, List.set_cons_zero, List.set_cons_succ]
        refine held_step 36 rfl (by kernel_rfl) (by rfl) (fun K hK => ?_)
        go_simp
        refine hK.out _ _ ?_ (fun hHeld2 => ?_)
        · (try dsimp only); first | exact ⟨by assumption, by assumption, by assumption⟩ | go_keep
        clear hK K hHeld
        have hHeld := hHeld2
        clear hHeld2
        try simp only [Act.put, List.setIfInBounds_toArray, List.set_cons_zero, List.set_cons_succ]
        refine held_step 37 rfl (by kernel_rfl) (by rfl) (fun K hK => ?_)
        go_simp
        go_at_call 22; refine (same_keys_q _ [kN i] [kN i] _ _ _ _ ((Q4.out.alloc _).drew) (Rd.drew (rd_blk (heap_new w2 _) (by simp [maxLen]))) rfl).mono ?_; rintro e w8 ⟨rfl, q8, rfl⟩
        refine hK.out _ _ ?_ (fun hHeld2 => ?_)
        · (try dsimp only); first | exact ⟨by assumption, by assumption, by assumption⟩ | go_keep
        clear hK K hHeld
        have hHeld := hHeld2
        clear hHeld2
        try simp only [Act.put, List.setIfInBounds_toArray, List.set_cons_zero, List.set_cons_succ]
        refine held_take 38 rfl (by kernel_rfl) (by kernel_rfl) (by kernel_rfl) (fun _ _ _ h => h) hHeld (by rfl) (v := ?_) ?_ ?_
        rotate_left
        · intro w hSw; (try dsimp only at hSw); (try go_simp); (try with_reducible rfl)
        try simp only [Act.put, List.setIfInBounds_toArray, List.set_cons_zero, List.set_cons_succ]
        refine held_take 39 rfl (by kernel_rfl) (by kernel_rfl) (by kernel_rfl) (fun _ _ _ h => h) hHeld (by rfl) (v := ?_) ?_ ?_
        rotate_left
        · intro w hSw; (try dsimp only at hSw); (try go_simp); (try with_reducible rfl)
        try simp only [Act.put, List.setIfInBounds_toArray, List.set_cons_zero, List.set_cons_succ]
        refine held_take 40 rfl (by kernel_rfl) (by kernel_rfl) (by kernel_rfl) (fun _ _ _ h => h) hHeld (by rfl) (v := ?_) ?_ ?_
        rotate_left
        · intro w hSw; (try dsimp only at hSw); (try go_simp); (try with_reducible rfl)
        try simp only [Act.put, List.setIfInBounds_toArray, List.set_cons_zero, List.set_cons_succ]
        refine held_take 41 rfl (by kernel_rfl) (by kernel_rfl) (by kernel_rfl) (fun _ _ _ h => h) hHeld (by rfl) (v := ?_) ?_ ?_
        rotate_left
        · intro w hSw; (try dsimp only at hSw); (try go_simp); (try with_reducible rfl)
        try simp only [Act.put, List.setIfInBounds_toArray, List.set_cons_zero, List.set_cons_succ]
        refine wpAnyH_done (by kernel_rfl) ?_ _
        go_wp2
        exact ⟨⟨i + 1, F2, by omega, by go_num, hid ((HS.out.alloc (bl1 w2 _)).drewN _)⟩, by simp [intOf]; omega⟩
    · have hik : ¬ (i : Int) ≤ (q : Int) := by omega
      obtain rfl : i = q + 1 := by omega
      have hV0 : VS w wr F w.heap.size ⟨5, q, 1, q, [kN ((q : Int) + 1)], qsA 5 (fun _ => ver) 1 q⟩ := by have := HV.out; rw [show (q : Int) + 1 = 1 + q from by omega]; exact this
      have HV0 := hid hV0
      clear hV0 HV
      go_wp2_with fail
      refine (v_queue _ F _ _ HV0.out.v).mono ?_
      rintro e w2 ⟨qa, qc, R, rfl, HR, hBR, hb2⟩
      have hRl : R.length = q := by have := congrArg List.length HR.out; rw [List.length_map] at this; rw [this]; show (qsA 5 (fun _ => ver) 1 q).length = q; exact qsA_len _ _ _ _
      rw [hRl]
      have HV2 := hid (HV0.out.alloc hb2)
      clear hRl hBR hb2
      go_wp2_with (go_at_call 23; refine (v_promises _ F _ _ HV2.out.v).mono ?_; rintro e w3 ⟨pa, pc, rfl, hown3, hb3⟩; (have HV3 := hid (HV2.out.alloc hb3)); clear hown3 hb3; simp only [List.length_singleton])
      go_wp2_with fail
      have hkr := rd_blk (n := 1) (cs := kyc [kN ((q : Int) + 1)]) (heap_new w3 (.cells #[.int .i64 ((q : Int) + 1), .string { data := #[107] }] 37)) (by simp [maxLen])
      have HKR := hid hkr
      have HV3a := hid (HV3.out.alloc (bl1 w3 (.cells #[.int .i64 ((q : Int) + 1), .string { data := #[107] }] 37)))
      clear hkr
      refine (t_touch _ F _ _ _ [kN ((q : Int) + 1)] ver HV3a.out.v HKR.out (by simp)).mono ?_
      rintro e w4 hp
      obtain ⟨F4, a4, c4, R4, rfl, hs4, hR4, hB4, hO4, hC4, hF4⟩ := HV3a.out.brk hp
      rw [touch_flood (kN ((q : Int) + 1)) rfl (by omega) (by omega)] at hs4 hR4
      obtain ⟨g, ka, kc, rfl, rfl, hgz, c0, c1, c2', c3, q4⟩ := one_brk hB4 hR4
      have HV4 := hid hs4
      have HB4 := hid hB4
      have HG4 := hid (show ∀ W, BrsAt W (w3.alloc (.cells #[.int .i64 ((q : Int) + 1), .string { data := #[107] }] 37)).heap.size (some ⟨g, 0, none⟩) c4 [⟨5, (q : Int) + 1, ver, true, ka, kc, []⟩] → W.cell? ⟨g, 0, none⟩ = some (.complex .f64 (fl 5) (fl ((q : Int) + 1))) ∧ W.cell? ⟨g, 2, none⟩ = some (.bool true) ∧ W.cell? ⟨g, 3, none⟩ = some (.slice ka 0 kc) from fun W hW => by
        have h1 := bks_at (Rd.own hW.row) (Below.refl _ _) (k := 0) rfl
        simp only [Nat.zero_mul, Nat.zero_add] at h1
        exact ⟨h1.1, h1.2.2.1, h1.2.2.2⟩)
      have hS0 := HG4.out _ (HB4.out.drewN 1)
      have t1 := ord_same (a := 5) ⟨by decide, by decide⟩
      have t2 := ord_same (a := (q : Int) + 1) ⟨by omega, by omega⟩
      have hw1 : IntKind.i64.wrap ((q : Int) + 1) = (q : Int) + 1 := IntWalk.i64_in _ (by omega)
      clear hp hs4 hR4 hB4 hO4 hC4 hF4 c0 c1 c2' c3 q4
      go_wp2_with fail
      refine held_start (fun w' => w'.cell? ⟨g, 0, none⟩ = some (.complex .f64 (fl 5) (fl ((q : Int) + 1))) ∧ w'.cell? ⟨g, 2, none⟩ = some (.bool true) ∧ w'.cell? ⟨g, 3, none⟩ = some (.slice ka 0 kc)) (by kernel_rfl) ?_ (fun hHeld => ?_)
      · first | exact hS0 | exact hS5 | exact hS6 | exact hS7 | (clear hw1; omega)
      refine held_take 0 rfl (by kernel_rfl) (by kernel_rfl) (by kernel_rfl) (fun _ _ _ h => h) hHeld (by rfl) (v := ?_) ?_ ?_
      rotate_left
      · intro w hSw; (try dsimp only at hSw); (try go_simp); (try with_reducible rfl)
      try simp only [Act.put, List.setIfInBounds_toArray, List.set_cons_zero, List.set_cons_succ]
      refine held_take 1 rfl (by kernel_rfl) (by kernel_rfl) (by kernel_rfl) (fun _ _ _ h => h) hHeld (by rfl) (v := ?_) ?_ ?_
      rotate_left
      · intro w hSw; (try dsimp only at hSw); (try go_simp); (try with_reducible rfl)
      try simp only [Act.put, List.setIfInBounds_toArray, List.set_cons_zero, List.set_cons_succ]
      refine held_take 2 rfl (by kernel_rfl) (by kernel_rfl) (by kernel_rfl) (fun _ _ _ h => h) hHeld (by rfl) (v := ?_) ?_ ?_
      rotate_left
      · intro w hSw; (try dsimp only at hSw); (try go_simp); (try with_reducible rfl)
      try simp only [Act.put, List.setIfInBounds_toArray, List.set_cons_zero, List.set_cons_succ]
      refine held_take 3 rfl (by kernel_rfl) (by kernel_rfl) (by kernel_rfl) (fun _ _ _ h => h) hHeld (by rfl) (v := ?_) ?_ ?_
      rotate_left
      · intro w hSw; (try dsimp only at hSw); (try go_simp); (try with_reducible rfl)
      try simp only [Act.put, List.setIfInBounds_toArray, List.set_cons_zero, List.set_cons_succ]
      refine held_take 4 rfl (by kernel_rfl) (by kernel_rfl) (by kernel_rfl) (fun _ _ _ h => h) hHeld (by rfl) (v := ?_) ?_ ?_
      rotate_left
      · intro w hSw; (try dsimp only at hSw); (try go_simp); (try with_reducible rfl)
      try simp only [Act.put, List.setIfInBounds_toArray, List.set_cons_zero, List.set_cons_succ]
      refine held_take 5 rfl (by kernel_rfl) (by kernel_rfl) (by kernel_rfl) (fun _ _ _ h => h) hHeld (by rfl) (v := ?_) ?_ ?_
      rotate_left
      · intro w hSw; (try dsimp only at hSw); (try go_simp); (try with_reducible rfl)
      try simp only [Act.put, List.setIfInBounds_toArray, List.set_cons_zero, List.set_cons_succ]
      refine held_take 6 rfl (by kernel_rfl) (by kernel_rfl) (by kernel_rfl) (fun _ _ _ h => h) hHeld (by rfl) (v := ?_) ?_ ?_
      rotate_left
      · intro w hSw; (try dsimp only at hSw); (try go_simp); (try with_reducible rfl)
      try simp only [Act.put, List.setIfInBounds_toArray, List.set_cons_zero, List.set_cons_succ]
      refine held_take 7 rfl (by kernel_rfl) (by kernel_rfl) (by kernel_rfl) (fun _ _ _ h => h) hHeld (by rfl) (v := ?_) ?_ ?_
      rotate_left
      · intro w hSw; (try dsimp only at hSw); (try go_simp); (try with_reducible rfl)
      try simp only [Act.put, List.setIfInBounds_toArray, List.set_cons_zero, List.set_cons_succ]
      refine held_take 8 rfl (by kernel_rfl) (by kernel_rfl) (by kernel_rfl) (fun _ _ _ h => h) hHeld (by rfl) (v := ?_) ?_ ?_
      rotate_left
      · intro w hSw; (try dsimp only at hSw); (try go_simp); (try with_reducible rfl)
      try simp only [Act.put, List.setIfInBounds_toArray, List.set_cons_zero, List.set_cons_succ]
      refine held_take 9 rfl (by kernel_rfl) (by kernel_rfl) (by kernel_rfl) (fun _ _ _ h => h) hHeld (by rfl) (v := ?_) ?_ ?_
      rotate_left
      · intro w hSw; (try dsimp only at hSw); (try go_simp); (try with_reducible rfl)
      try simp only [Act.put, List.setIfInBounds_toArray, List.set_cons_zero, List.set_cons_succ]
      refine held_take 10 rfl (by kernel_rfl) (by kernel_rfl) (by kernel_rfl) (fun _ _ _ h => h) hHeld (by rfl) (v := ?_) ?_ ?_
      rotate_left
      · intro w hSw; (try dsimp only at hSw); (try go_simp); (try with_reducible rfl)
      try simp only [Act.put, List.setIfInBounds_toArray, List.set_cons_zero, List.set_cons_succ]
      refine held_take 11 rfl (by kernel_rfl) (by kernel_rfl) (by kernel_rfl) (fun _ _ _ h => h) hHeld (by rfl) (v := ?_) ?_ ?_
      rotate_left
      · intro w hSw; (try dsimp only at hSw); (try go_simp); (try with_reducible rfl)
      try simp only [Act.put, List.setIfInBounds_toArray, List.set_cons_zero, List.set_cons_succ]
      refine held_take 12 rfl (by kernel_rfl) (by kernel_rfl) (by kernel_rfl) (fun _ _ _ h => h) hHeld (by rfl) (v := ?_) ?_ ?_
      rotate_left
      · intro w hSw; (try dsimp only at hSw); (try go_simp); (try with_reducible rfl)
      try simp only [Act.put, List.setIfInBounds_toArray, List.set_cons_zero, List.set_cons_succ]
      refine held_take 13 rfl (by kernel_rfl) (by kernel_rfl) (by kernel_rfl) (fun _ _ _ h => h) hHeld (by rfl) (v := ?_) ?_ ?_
      rotate_left
      · intro w hSw; (try dsimp only at hSw); (try go_simp); (try with_reducible rfl)
      try simp only [Act.put, List.setIfInBounds_toArray, List.set_cons_zero, List.set_cons_succ]
      refine held_take 14 rfl (by kernel_rfl) (by kernel_rfl) (by kernel_rfl) (fun _ _ _ h => h) hHeld (by rfl) (v := ?_) ?_ ?_
      rotate_left
      · intro w hSw; (try dsimp only at hSw); (try go_simp); (try with_reducible rfl)
      try simp only [Act.put, List.setIfInBounds_toArray, List.set_cons_zero, List.set_cons_succ]
      refine held_take 15 rfl (by kernel_rfl) (by kernel_rfl) (by kernel_rfl) (fun _ _ _ h => h) hHeld (by rfl) (v := ?_) ?_ ?_
      rotate_left
      · intro w hSw; (try dsimp only at hSw); (try go_simp); (try with_reducible rfl)
      try simp only [Act.put, List.setIfInBounds_toArray, List.set_cons_zero, List.set_cons_succ]
      refine held_take 16 rfl (by kernel_rfl) (by kernel_rfl) (by kernel_rfl) (fun _ _ _ h => h) hHeld (by rfl) (v := ?_) ?_ ?_
      rotate_left
      · intro w hSw; (try dsimp only at hSw); (try go_simp); (try with_reducible rfl)
      try simp only [Act.put, List.setIfInBounds_toArray, List.set_cons_zero, List.set_cons_succ]
      refine held_take 17 rfl (by kernel_rfl) (by kernel_rfl) (by kernel_rfl) (fun _ _ _ h => h) hHeld (by rfl) (v := ?_) ?_ ?_
      rotate_left
      · intro w hSw; (try dsimp only at hSw); (try go_simp); (try with_reducible rfl)
      try simp only [Act.put, List.setIfInBounds_toArray, List.set_cons_zero, List.set_cons_succ]
      refine held_take 18 rfl (by kernel_rfl) (by kernel_rfl) (by kernel_rfl) (fun _ _ _ h => h) hHeld (by rfl) (v := ?_) ?_ ?_
      rotate_left
      · intro w hSw; (try dsimp only at hSw); (try go_simp); (try with_reducible rfl)
      try simp only [Act.put, List.setIfInBounds_toArray, List.set_cons_zero, List.set_cons_succ]
      refine held_take 19 rfl (by kernel_rfl) (by kernel_rfl) (by kernel_rfl) (fun _ _ _ h => h) hHeld (by rfl) (v := ?_) ?_ ?_
      rotate_left
      · intro w hSw; (try dsimp only at hSw); (try go_simp); (try with_reducible rfl)
      try simp only [Act.put, List.setIfInBounds_toArray, List.set_cons_zero, List.set_cons_succ]
      refine held_step 20 rfl (by kernel_rfl) (by rfl) (fun K hK => ?_)
      go_simp
      go_at_call 23; refine (v_promises _ F4 _ _ HV4.out.drew.v).mono ?_; rintro e w5 ⟨pa5, pc5, rfl, hown5, hb5⟩; (have HV5 := hid (HV4.out.drew.alloc hb5)); (have HB5 := hid ((HB4.out.drewN 1).below hb5)); (have hS5 := HG4.out _ HB5.out); clear hown5 hb5 hS0
      refine hK.out _ _ ?_ (fun hHeld2 => ?_)
      · (try dsimp only); first | exact hS0 | exact hS5 | exact hS6 | exact hS7 | (clear hw1; omega)
      clear hK K hHeld
      have hHeld := hHeld2
      clear hHeld2
      try simp only [Act.put, List.setIfInBounds_toArray, List.set_cons_zero, List.set_cons_succ]
      refine held_take 21 rfl (by kernel_rfl) (by kernel_rfl) (by kernel_rfl) (fun _ _ _ h => h) hHeld (by rfl) (v := ?_) ?_ ?_
      rotate_left
      · intro w hSw; (try dsimp only at hSw); (try go_simp); (try with_reducible rfl)
      try simp only [Act.put, List.setIfInBounds_toArray, List.set_cons_zero, List.set_cons_succ]
      refine held_take 22 rfl (by kernel_rfl) (by kernel_rfl) (by kernel_rfl) (fun _ _ _ h => h) hHeld (by rfl) (v := ?_) ?_ ?_
      rotate_left
      · intro w hSw; (try dsimp only at hSw); (try go_simp); (try with_reducible rfl)
      try simp only [Act.put, List.setIfInBounds_toArray, List.set_cons_zero, List.set_cons_succ]
      refine held_take 23 rfl (by kernel_rfl) (by kernel_rfl) (by kernel_rfl) (fun _ _ _ h => h) hHeld (by rfl) (v := ?_) ?_ ?_
      rotate_left
      · intro w hSw; (try dsimp only at hSw); (try go_simp); (try with_reducible rfl)
      try simp only [Act.put, List.setIfInBounds_toArray, List.set_cons_zero, List.set_cons_succ]
      refine held_take 24 rfl (by kernel_rfl) (by kernel_rfl) (by kernel_rfl) (fun _ _ _ h => h) hHeld (by rfl) (v := ?_) ?_ ?_
      rotate_left
      · intro w hSw; (try dsimp only at hSw); (try go_simp); (try with_reducible rfl)
      try simp only [Act.put, List.setIfInBounds_toArray, List.set_cons_zero, List.set_cons_succ]
      refine held_take 25 rfl (by kernel_rfl) (by kernel_rfl) (by kernel_rfl) (fun _ _ _ h => h) hHeld (by rfl) (v := ?_) ?_ ?_
      rotate_left
      · intro w hSw; (try dsimp only at hSw); (try go_simp); (try with_reducible rfl)
      try simp only [Act.put, List.setIfInBounds_toArray, List.set_cons_zero, List.set_cons_succ]
      refine held_take 27 rfl (by kernel_rfl) (by kernel_rfl) (by kernel_rfl) (fun _ _ _ h => h) hHeld (by rfl) (v := ?_) ?_ ?_
      rotate_left
      · intro w hSw; (try dsimp only at hSw); (try go_simp); (try with_reducible rfl)
      try simp only [Act.put, List.setIfInBounds_toArray, List.set_cons_zero, List.set_cons_succ]
      refine held_step 26 rfl (by kernel_rfl) (by rfl) (fun K hK => ?_)
      go_simp
      go_at_call 25; refine (v_queue _ F4 _ _ HV5.out.v).mono ?_; rintro e w6 ⟨qa6, qc6, R6, rfl, HR6, hBR6, hb6⟩; (have HV6 := hid (HV5.out.alloc hb6)); (have HB6 := hid (HB5.out.below hb6)); (have hS6 := HG4.out _ HB6.out); (have HBR6 := hid hBR6); clear hBR6 hb6 hS5
      refine hK.out _ _ ?_ (fun hHeld2 => ?_)
      · (try dsimp only); first | exact hS0 | exact hS5 | exact hS6 | exact hS7 | (clear hw1; omega)
      clear hK K hHeld
      have hHeld := hHeld2
      clear hHeld2
      try simp only [Act.put, List.setIfInBounds_toArray, List.set_cons_zero, List.set_cons_succ]
      refine held_step 28 rfl (by kernel_rfl) (by rfl) (fun K hK => ?_)
      go_simp
      go_at_call 26; refine (same_brks _ _ R6 _ _ HBR6.out.rd HB6.out.rd (by rw [HR6.out]; rfl) (marks_in HR6.out (fun y hy => by obtain rfl := List.mem_singleton.1 hy; exact ⟨⟨by show (0 : Int) ≤ 5; decide, by show (5 : Int) ≤ 1099511627776; decide⟩, by clear hw1; exact ⟨by show (0 : Int) ≤ (q : Int) + 1; omega, by show (q : Int) + 1 ≤ 1099511627776; omega⟩⟩))).mono ?_; rintro e w7 ⟨rfl, q7, rfl⟩; (have HV7 := hid (HV6.out.drewN q7)); (have HB7 := hid (HB6.out.drewN q7)); (have hS7 := HG4.out _ HB7.out); clear hS6
      refine hK.out _ _ ?_ (fun hHeld2 => ?_)
      · (try dsimp only); first | exact hS0 | exact hS5 | exact hS6 | exact hS7 | (clear hw1; omega)
      clear hK K hHeld
      have hHeld := hHeld2
      clear hHeld2
      try simp only [Act.put, List.setIfInBounds_toArray, List.set_cons_zero, List.set_cons_succ]
      refine held_take 29 rfl (by kernel_rfl) (by kernel_rfl) (by kernel_rfl) (fun _ _ _ h => h) hHeld (by rfl) (v := ?_) ?_ ?_
      rotate_left
      · intro w hSw; (try dsimp only at hSw); (try go_simp); (try with_reducible rfl)
      try simp only [Act.put, List.setIfInBounds_toArray, List.set_cons_zero, List.set_cons_succ]
      refine held_take 30 rfl (by kernel_rfl) (by kernel_rfl) (by kernel_rfl) (fun _ _ _ h => h) hHeld (by rfl) (v := ?_) ?_ ?_
      rotate_left
      · intro w hSw; (try dsimp only at hSw); (try go_simp); (try with_reducible rfl)
      try simp only [Act.put, List.setIfInBounds_toArray, List.set_cons_zero, List.set_cons_succ]
      refine held_take 31 rfl (by kernel_rfl) (by kernel_rfl) (by kernel_rfl) (fun _ _ _ h => h) hHeld (by rfl) (v := ?_) ?_ ?_
      rotate_left
      · intro w hSw; (try dsimp only at hSw); (try go_simp); (try with_reducible rfl)
      try simp only [Act.put, List.setIfInBounds_toArray, List.set_cons_zero, List.set_cons_succ]
      refine held_take 32 rfl (by kernel_rfl) (by kernel_rfl) (by kernel_rfl) (fun _ _ _ h => h) hHeld (by rfl) (v := ?_) ?_ ?_
      rotate_left
      · intro w hSw; (try dsimp only at hSw); (try go_simp); (try with_reducible rfl)
      try simp only [Act.put, List.setIfInBounds_toArray, List.set_cons_zero, List.set_cons_succ]
      refine held_take 33 rfl (by kernel_rfl) (by kernel_rfl) (by kernel_rfl) (fun _ _ _ h => h) hHeld (by rfl) (v := ?_) ?_ ?_
      rotate_left
      · intro w hSw; (try dsimp only at hSw); (try go_simp); (try with_reducible rfl)
      try simp only [Act.put, List.setIfInBounds_toArray, List.set_cons_zero, List.set_cons_succ]
      refine held_take 34 rfl (by kernel_rfl) (by kernel_rfl) (by kernel_rfl) (fun _ _ _ h => h) hHeld (by rfl) (v := ?_) ?_ ?_
      rotate_left
      · intro w hSw; (try dsimp only at hSw); (try go_simp); (try with_reducible rfl)
      try simp only [Act.put, List.setIfInBounds_toArray, List.set_cons_zero, List.set_cons_succ]
      refine held_take 35 rfl (by kernel_rfl) (by kernel_rfl) (by kernel_rfl) (fun _ _ _ h => h) hHeld (by rfl) (v := ?_) ?_ ?_
      rotate_left
      · intro w hSw; (try dsimp only at hSw); (try go_simp); (try with_reducible rfl)
      try simp only [Act.put, List.setIfInBounds_toArray, List.set_cons_zero, List.set_cons_succ]
      refine held_take 36 rfl (by kernel_rfl) (by kernel_rfl) (by kernel_rfl) (fun _ _ _ h => h) hHeld (by rfl) (v := ?_) ?_ ?_
      rotate_left
      · intro w hSw; (try dsimp only at hSw); (try go_simp); (try with_reducible rfl)
      try simp only [Act.put, List.setIfInBounds_toArray, List.set_cons_zero, List.set_cons_succ]
      refine held_take 37 rfl (by kernel_rfl) (by kernel_rfl) (by kernel_rfl) (fun _ _ _ h => h) hHeld (by rfl) (v := ?_) ?_ ?_
      rotate_left
      · intro w hSw; (try dsimp only at hSw); (try go_simp); (try with_reducible rfl)
      try simp only [Act.put, List.setIfInBounds_toArray, List.set_cons_zero, List.set_cons_succ]
      refine held_step 38 rfl (by kernel_rfl) (by rfl) (fun K hK => ?_)
      go_simp
      go_at_call 21; refine (law_mark _ _ _).mono ?_; rintro e w9 ⟨rfl, rfl⟩
      refine hK.out _ _ ?_ (fun hHeld2 => ?_)
      · (try dsimp only); first | exact hS0 | exact hS5 | exact hS6 | exact hS7 | (clear hw1; omega)
      clear hK K hHeld
      have hHeld := hHeld2
      clear hHeld2
      try simp only [Act.put, List.setIfInBounds_toArray, List.set_cons_zero, List.set_cons_succ]
      refine held_take 39 rfl (by kernel_rfl) (by kernel_rfl) (by kernel_rfl) (fun _ _ _ h => h) hHeld (by rfl) (v := ?_) ?_ ?_
      rotate_left
      · intro w hSw; (try dsimp only at hSw); (try go_simp); (try with_reducible rfl)
      try simp only [Act.put, List.setIfInBounds_toArray, List.set_cons_zero, List.set_cons_succ]
      refine held_take 40 rfl (by kernel_rfl) (by kernel_rfl) (by kernel_rfl) (fun _ _ _ h => h) hHeld (by rfl) (v := ?_) ?_ ?_
      rotate_left
      · intro w hSw; (try dsimp only at hSw); (try go_simp); (try with_reducible rfl)
      try simp only [Act.put, List.setIfInBounds_toArray, List.set_cons_zero, List.set_cons_succ]
      refine wpAnyH_done (by kernel_rfl) ?_ _
      clear hw1 hS7 hHeld
      have HNO1 := hid (show ¬ AckOk ⟨5, (q : Int) + 1, 1, q, [], [⟨5, (q : Int) + 1, ver, true, []⟩]⟩ 5 ((q : Int) + 2) from fun h => by have h4 : (q : Int) + 2 ≤ (q : Int) + 1 := h.2.2.2; omega)
      have HNO2 := hid (show ¬ AckOk ⟨5, (q : Int) + 1, 1, q, [], [⟨5, (q : Int) + 1, ver, true, []⟩]⟩ 4 0 from fun h => by have h4 : (4 : Int) = 5 := h.2.2.1; omega)
      have HYES := hid (show AckOk ⟨5, (q : Int) + 1, 1, q, [], [⟨5, (q : Int) + 1, ver, true, []⟩]⟩ 5 ((q : Int) + 1) from ⟨⟨by decide, by decide⟩, ⟨by omega, by omega⟩, rfl, Int.le_refl _⟩)
      obtain ⟨W8, hW8⟩ : ∃ W8, W8 = w6.drewN q7 := ⟨_, rfl⟩
      have HV8 := hid (show VS w W8 F4 w.heap.size ⟨5, (q : Int) + 1, 1, q, [], [⟨5, (q : Int) + 1, ver, true, []⟩]⟩ by rw [hW8]; exact HV7.out)
      rw [← hW8]
      clear hW8
      go_wp2_with fail
      refine (law_mark _ _ _).mono ?_; rintro e wm1 ⟨rfl, rfl⟩
      go_wp2_with fail
      refine (v_ack_no _ F4 _ _ 5 ((q : Int) + 2) ⟨by decide, by decide⟩ ⟨by omega, by omega⟩ HV8.out.v HNO1.out).mono ?_; rintro e w9 ⟨rfl, hb9⟩
      have HV9 := hid (HV8.out.alloc hb9)
      clear hb9
      go_wp2_with fail
      refine (law_mark _ _ _).mono ?_; rintro e wm2 ⟨rfl, rfl⟩
      go_wp2_with fail
      refine (v_ack_no _ F4 _ _ 4 0 ⟨by decide, by decide⟩ ⟨by decide, by decide⟩ HV9.out.v HNO2.out).mono ?_; rintro e w10 ⟨rfl, hb10⟩
      have HV10 := hid (HV9.out.alloc hb10)
      clear hb10
      go_wp2_with fail
      refine (v_queue _ F4 _ _ HV10.out.v).mono ?_; rintro e w11 ⟨qa11, qc11, R11, rfl, HR11, hBR11, hb11⟩
      have hR11 : R11.length = 1 := by have := congrArg List.length HR11.out; rw [List.length_map] at this; exact this
      rw [hR11]
      have HV11 := hid (HV10.out.alloc hb11)
      clear hR11 hBR11 hb11
      go_wp2_with fail
      refine (law_mark _ _ _).mono ?_; rintro e wm3 ⟨rfl, rfl⟩
      go_wp2_with fail
      refine (v_ack_yes _ F4 _ _ 5 ((q : Int) + 1) HV11.out.v HYES.out).mono ?_; rintro e w12 ⟨rfl, hv12, hch12⟩
      have hfil : ([(⟨5, (q : Int) + 1, ver, true, []⟩ : Bp)].filter fun x => decide ((q : Int) + 1 < x.n)) = [] := by
        have hd : decide ((q : Int) + 1 < (q : Int) + 1) = false := decide_eq_false (by omega)
        simp [List.filter_cons, hd]
      have HV12 := hid (show VS w w12 F4 w.heap.size ⟨5, (q : Int) + 1, 1, q, [], []⟩ from by have := HV11.out.turn hv12 hch12; rw [hfil] at this; exact this)
      clear hv12 hch12 hfil
      go_wp2_with fail
      refine (v_queue _ F4 _ _ HV12.out.v).mono ?_; rintro e w13 ⟨qa13, qc13, R13, rfl, HR13, hBR13, hb13⟩
      have hR13 : R13.length = 0 := by have := congrArg List.length HR13.out; rw [List.length_map] at this; exact this
      rw [hR13]
      have HV13 := hid (HV12.out.alloc hb13)
      clear hR13 hBR13 hb13
      go_wp2_with fail
      refine (t_grant _ F4 _ _ 9 _ ver HV13.out.v).mono ?_
      rintro e w14 hp
      obtain ⟨F14, a14, c14, R14, rfl, hs14, hR14, hB14, hO14, hC14, hF14⟩ := HV13.out.brk hp
      rw [grant_first] at hs14 hR14
      have hRn : R14 = [] := by simpa using hR14
      subst hRn
      have HV14 := hid hs14
      clear hp hs14 hR14 hB14 hO14 hC14 hF14
      go_wp2_with (first
        | (go_at_call 19; refine (v_holds _ _ _ _ 9 _ HV14.out.v).mono ?_; rintro e w15 ⟨rfl, hb15⟩; (have HV15 := hid (HV14.out.alloc hb15)); clear hb15; rw [decide_eq_true (show (⟨9, { data := #[122] }⟩ : Ky) ∈ [(⟨9, { data := #[122] }⟩ : Ky)] from List.mem_singleton.2 rfl)])
        | (go_at_call 12; refine (v_awake _).mono ?_; rintro e w16 ⟨rfl, hb16⟩; (have HB16 := hid (HV15.out.below.trans (hb16.mono HV15.out.sz))); clear hb16))
      go_ret
      exact ⟨rfl, HB16.out⟩

end Go.Proofs.Ytakkdaenindboaa
