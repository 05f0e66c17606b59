import Derived.Test.YtakkdaenindboaaVowP
import Derived.Test.YtakkdaenindboaaLibP
namespace Go.Proofs.Ytakkdaenindboaa
set_option linter.unusedVariables false
set_option linter.unusedSimpArgs false
open Go.RowKit
attribute [local go_sem ↓] Go.wp_at_zero Go.wp_at_succ
attribute [local go_sem] run_store_complex run_store_float


theorem VS.drewN {w wr : World} {F : Nat → Prop} {p : Nat} {t : Ts} (h : VS w wr F p t) (n : Nat) : VS w (wr.drewN n) F p t := h.alloc (below_drewN (Below.refl _ _) n)
theorem VS.drew {w wr : World} {F : Nat → Prop} {p : Nat} {t : Ts} (h : VS w wr F p t) : VS w wr.drew F p t := h.drewN 1
theorem BrsAt.drewN {w : World} {B : Nat} {a : Option Addr} {c : Nat} {R : List Bk} (h : BrsAt w B a c R) (n : Nat) : BrsAt (w.drewN n) B a c R := ⟨h.row, h.each⟩

theorem marks_in {R : List Bk} {L : List Bp} (h : R.map Bk.pl = L) (hL : ∀ y ∈ L, InM y.ep ∧ InM y.n) : ∀ x ∈ R, InM x.ep ∧ InM x.n := fun x hx => hL x.pl (by rw [← h]; exact List.mem_map.2 ⟨x, hx, rfl⟩)
theorem qsA_in {e : Int} {vf : Nat → Int} {d : Int} {i : Nat} (he : InM e) (hi : i ≤ 16) : ∀ y ∈ qsA e vf d i, InM y.ep ∧ InM y.n := by
  intro y hy
  obtain ⟨j, hj, rfl⟩ := List.mem_map.1 hy
  have := List.mem_range.1 hj
  exact ⟨he, by show (0 : Int) ≤ (j : Int) + 1; omega, by show (j : Int) + 1 ≤ 1099511627776; omega⟩
theorem qsA_late {e : Int} {vf : Nat → Int} {d : Int} {i a : Nat} : ∀ y ∈ (qsA e vf d i).drop a, (a : Int) < y.n := by
  intro y hy
  rw [← qsA_drop] at hy
  simpa using (List.mem_filter.1 hy).2

set_option maxRecDepth 100000 in
set_option maxHeartbeats 4000000 in
theorem vowAcks_walk (n at_ less : Int) (w : World) :
    Calls Try.prog 7 #[.int .i64 n, .int .i64 at_, .int .i64 less] w fun e w' => e = .returned (.bool true) ∧ Below w.heap.size w w' := by
  obtain ⟨k, hk⟩ : ∃ k : Nat, n % 17 = k := ⟨(n % 17).toNat, by have := Int.emod_nonneg n (show (17 : Int) ≠ 0 by omega); omega⟩
  have hk16 : k ≤ 16 := by have := Int.emod_lt_of_pos n (show (0 : Int) < 17 by omega); omega
  obtain ⟨a, ha⟩ : ∃ a : Nat, at_ % ((k : Int) + 1) = a := ⟨(at_ % ((k : Int) + 1)).toNat, by have := Int.emod_nonneg at_ (show (k : Int) + 1 ≠ 0 by omega); omega⟩
  have hak : a ≤ k := by have := Int.emod_lt_of_pos at_ (show (0 : Int) < (k : Int) + 1 by omega); omega
  obtain ⟨l, hl⟩ : ∃ l : Nat, less % ((a : Int) + 1) = l := ⟨(less % ((a : Int) + 1)).toNat, by have := Int.emod_nonneg less (show (a : Int) + 1 ≠ 0 by omega); omega⟩
  have hla : l ≤ a := by have := Int.emod_lt_of_pos less (show (0 : Int) < (a : Int) + 1 by omega); omega
  have HK := hid hk
  have HA := hid ha
  have HL := hid hl
  clear hk ha hl
  go_enter Try.func7, Try.ntmps7
  go_wp2_with fail
  refine (v_new_yes _ 2 1 16 ⟨⟨by decide, by decide⟩, ⟨by decide, by decide⟩, by decide, by decide⟩).mono ?_
  rintro e w1 ⟨rfl, hv1, hb1⟩
  have HS1 := hid (show VS w w1 (fun k => k = w.heap.size) w.heap.size ⟨2, 0, 1, 16, [], []⟩ from ⟨hv1, fun k hk => by omega, hb1⟩)
  clear hv1 hb1
  go_wp2_with fail
  refine (place_pos n 17 _ (by omega) (by omega)).mono ?_; rintro e wx ⟨rfl, rfl⟩
  rw [HK.out]
  go_wp2_with fail
  go_loopw [10] (fun v10 wr => ∃ (i : Nat) (F : Nat → Prop), i ≤ k + 1 ∧ v10 = .int .i64 i ∧ Hid (VS w wr F w.heap.size (stA 2 16 (fun i => i) 0 i))) (fun v10 _ => k + 1 - (intOf v10).toNat)
  case atStart => exact ⟨0, _, by omega, rfl, HS1⟩
  case round =>
    obtain ⟨i, F, hi, rfl, HV⟩ := hrel
    by_cases hlt : i ≤ k
    · have hik : (i : Int) ≤ (k : Int) := by omega
      go_wp2_with fail
      refine (t_grant _ F _ _ (i : Int) _ i HV.out.v).mono ?_
      rintro e w2 hp
      obtain ⟨F2, a2, c2, R2, rfl, hs2, hR2, hB2, hO2, hC2, hF2⟩ := HV.out.brk hp
      have hst := stA_step 2 16 (fun i => i) 0 i (by omega) (by omega)
      rw [show (0 : Int) + (i : Int) = i from by omega] at hst
      have hs3 : VS w w2 F2 w.heap.size (stA 2 16 (fun i => i) 0 (i + 1)) := by rw [← hst]; exact hs2
      have HS := hid hs3
      clear hs2 hs3 hst hR2 hB2 hO2 hC2 hF2 hp
      go_wp2
      exact ⟨⟨i + 1, F2, by omega, by go_num, HS⟩, by simp [intOf]; omega⟩
    · have hik : ¬ (i : Int) ≤ (k : Int) := by omega
      obtain rfl : i = k + 1 := by omega
      have hV0 : VS w wr F w.heap.size ⟨2, k, 1, 16, [kN (0 + k)], qsA 2 (fun i => i) 0 k⟩ := HV.out
      have HV0 := hid hV0
      clear hV0 HV
      go_wp2_with fail
      refine (v_queue _ F _ _ HV0.out.v).mono ?_
      rintro e w2 ⟨qa, qc, R, rfl, HR, hBR, hb2⟩
      have HV2 := hid (HV0.out.alloc hb2)
      have HBR := hid hBR
      have hRl : R.length = k := by have := congrArg List.length HR.out; rw [List.length_map] at this; rw [this]; exact qsA_len _ _ _ _
      have hwr2 : wr.heap.size ≤ w2.heap.size := hb2.size
      have hFr : ∀ j, wr.heap.size ≤ j → ¬ F j := fun j hj hf => by have := HV0.out.v.lt j hf; omega
      have HFR := hid hFr
      have HRL := hid hRl
      have hsl := fun w => run_slice_from 31 41 4 qa R.length qc a Try.underlying31 (fun w => Try.sizeOf41 w) (by omega) w
      rw [hRl] at hsl
      have hmk : ∀ W, BrsAt W wr.heap.size qa qc R → BrAt W (Value.slice (if qc = a then qa else qa.map (·.add (a * 4))) (k - a) (qc - a)) (R.drop a) := fun W hW => by
        have := br_from (l := a) hW.rd (by rw [HRL.out]; omega)
        rwa [HRL.out] at this
      generalize hsv : (Value.slice (if qc = a then qa else qa.map (·.add (a * 4))) (k - a) (qc - a)) = sv at hsl hmk
      have HMK := hid hmk
      have HSB := hid hBR
      clear hBR hb2 hFr hmk hsv HBR
      rw [hRl]
      clear hRl
      go_wp2_with fail
      refine (place_pos at_ ((k : Int) + 1) _ (by omega) (by omega)).mono ?_; rintro e wx ⟨rfl, rfl⟩
      rw [HA.out]
      go_wp2_with fail
      have hio : AckOk ⟨2, k, 1, 16, [kN (0 + k)], qsA 2 (fun i => i) 0 k⟩ 2 a := ⟨⟨by decide, by decide⟩, ⟨by omega, by omega⟩, rfl, by show (a : Int) ≤ k; omega⟩
      have HIO := hid hio
      have HDROP := hid (qsA_drop 2 (fun i => i) 0 k a)
      have hRd : (R.drop a).map Bk.pl = (qsA 2 (fun i => i) 0 k).drop a := by rw [List.map_drop, HR.out]
      have HRD := hid hRd
      clear hio hRd
      go_region_held3 (fun w' => True) (first | go_keep | trivial)
        (first
          | (go_at_call 21; refine (law_mark _ _ _).mono ?_; rintro e w9 ⟨rfl, rfl⟩)
          | (go_at_call 27; refine (v_ack_yes _ F _ _ 2 a HV2.out.drew.v HIO.out).mono ?_; rintro e w4 ⟨rfl, hv4, hch4⟩; (have HV4 := hid (HV2.out.drew.turn hv4 hch4)); (have HSB4 := hid ((HSB.out.drewN 1).chg hch4 (fun j hj _ => HFR.out j hj))); clear hv4 hch4)
          | (go_at_call 25; refine (v_queue _ F _ _ HV4.out.v).mono ?_; rintro e w5 ⟨qa5, qc5, R5, rfl, HR5, hBR5, hb5⟩; (have HV5 := hid (HV4.out.alloc hb5)); (have HSB5 := hid (HSB4.out.below hb5)); (have HBR5 := hid hBR5); clear hBR5 hb5)
          | (go_at_call 26; refine (same_brks _ _ R5 (R.drop a) _ HBR5.out.rd (HMK.out _ HSB5.out) (by rw [HR5.out, HRD.out]; exact HDROP.out) (marks_in (HR5.out.trans HDROP.out) (fun y hy => qsA_in ⟨by decide, by decide⟩ (by omega) y (List.mem_of_mem_drop hy)))).mono ?_; rintro e w6 ⟨rfl, q6, rfl⟩; (have HV6 := hid (HV5.out.drewN q6)); (have HSB6 := hid (HSB5.out.drewN q6))))
      have hV7 : VS w (w5.drewN q6) F w.heap.size ⟨2, k, 1, 16, [kN (0 + k)], (qsA 2 (fun i => i) 0 k).drop a⟩ := by rw [← HDROP.out]; exact HV6.out
      obtain ⟨W7, hW7⟩ : ∃ W7, W7 = w5.drewN q6 := ⟨_, rfl⟩
      rw [← hW7] at hV7 HSB6 ⊢
      have HV7 := hid hV7
      have hio2 : AckOk ⟨2, k, 1, 16, [kN (0 + k)], (qsA 2 (fun i => i) 0 k).drop a⟩ 2 l := ⟨⟨by decide, by decide⟩, ⟨by omega, by omega⟩, rfl, by show (l : Int) ≤ k; omega⟩
      have HIO2 := hid hio2
      have HDROP2 := hid (show (((qsA 2 (fun i => i) 0 k).drop a).filter fun x => decide ((l : Int) < x.n)) = (qsA 2 (fun i => i) 0 k).drop a from List.filter_eq_self.2 (fun y hy => decide_eq_true (by have := qsA_late y hy; omega)))
      have t1 : (FloatKind.f64.format.order (fl 2) (fl 2) == some .eq) = true := by
        have h : InM 2 := ⟨by decide, by decide⟩
        rw [ord_M h h, cmp_eq]; rfl
      have t2 : (FloatKind.f64.format.order (fl k) (fl k) == some .eq) = true := by
        have h : InM k := ⟨by omega, by omega⟩
        rw [ord_M h h, cmp_eq]; rfl
      have HQIN := hid (show ∀ y ∈ qsA 2 (fun i => i) 0 k, InM y.ep ∧ InM y.n from qsA_in ⟨by decide, by decide⟩ (by omega))
      clear hV7 hio2 hW7 HV2 HV4 HV5 HV6 HSB HSB4 HSB5
      have hpl := fun (W : World) => place_pos less ((a : Int) + 1) W (by omega) (by omega)
      rw [HL.out] at hpl
      have HPL := hid hpl
      clear hpl
      have hw1 : IntKind.i64.wrap ((a : Int) + 1) = (a : Int) + 1 := IntWalk.i64_in _ (by omega)
      go_wp2_with fail
      go_region_held3 (fun w' => True) (first | go_keep | trivial)
        (first
          | (go_at_call 13; refine (HPL.out _).mono ?_; rintro e wx ⟨rfl, rfl⟩)
          | (go_at_call 21; refine (law_mark _ _ _).mono ?_; rintro e w9 ⟨rfl, rfl⟩)
          | (go_at_call 27; refine (v_ack_yes _ F _ _ 2 l HV7.out.drew.v HIO2.out).mono ?_; rintro e w4 ⟨rfl, hv4, hch4⟩; (have HV4 := hid (HV7.out.drew.turn hv4 hch4)); (have HSB4 := hid ((HSB6.out.drewN 1).chg hch4 (fun j hj _ => HFR.out j hj))); clear hv4 hch4)
          | (go_at_call 25; refine (v_queue _ F _ _ HV4.out.v).mono ?_; rintro e w8 ⟨qa8, qc8, R8, rfl, HR8, hBR8, hb8⟩; (have HV8 := hid (HV4.out.alloc hb8)); (have HSB8 := hid (HSB4.out.below hb8)); (have HBR8 := hid hBR8); clear hBR8 hb8)
          | (go_at_call 26; refine (same_brks _ _ R8 (R.drop a) _ HBR8.out.rd (HMK.out _ HSB8.out) (by rw [HR8.out, HRD.out]; exact HDROP2.out) (marks_in (HR8.out.trans HDROP2.out) (fun y hy => HQIN.out y (List.mem_of_mem_drop hy)))).mono ?_; rintro e w10 ⟨rfl, q10, rfl⟩; (have HV10 := hid (HV8.out.drewN q10)))
          | (go_at_call 20; refine (v_mark _ _ _ _ HV10.out.v).mono ?_; rintro e w11 ⟨rfl, rfl⟩)
          | (go_at_call 23; refine (v_promises _ _ _ _ HV10.out.v).mono ?_; rintro e w12 ⟨pa, pc, rfl, hown12, hb12⟩; (have HV12 := hid (HV10.out.alloc hb12)); clear hown12 hb12)
          | (go_at_call 12; refine (v_awake _).mono ?_; rintro e w13 ⟨rfl, hb13⟩; (have HB13 := hid (HV12.out.below.trans (hb13.mono HV12.out.sz))); clear hb13))
      go_wp2
      go_ret
      exact ⟨rfl, HB13.out⟩

end Go.Proofs.Ytakkdaenindboaa
