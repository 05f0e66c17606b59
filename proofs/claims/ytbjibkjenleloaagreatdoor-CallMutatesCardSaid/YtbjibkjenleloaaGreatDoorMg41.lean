/- Parts of a proof about the given program, in build order: CmuN. No condition. -/
import Derived.Test.YtbjibkjenleloaaGreatDoorMg40
section
namespace Go.Proofs.YtbjibkjenleloaaGreatDoor
set_option linter.unusedVariables false
set_option linter.unusedSimpArgs false
open Go.RowKit
attribute [local go_sem ↓] Go.wp_at_zero Go.wp_at_succ
attribute [local go_sem] run_store_complex run_store_float


set_option maxRecDepth 100000 in
set_option maxHeartbeats 8000000 in
theorem mu_tail (w w2 : World) (a : Act) (s : ByteArray) (e ve : Int) (c t B p o q X : Nat) (s1 : Cl) (ho : Int) (hs : a.tmps.size = 202) (hd : a.defers = []) (f1 : a.tmps.getD 1 undef = .string s) (f11 : a.tmps.getD 11 undef = .pointer (some ⟨o, 0, none⟩)) (f17 : a.tmps.getD 17 undef = .int .i64 e) (f18 : a.tmps.getD 18 undef = .int .i64 (ve % 1000))
    (hI : MuI w w2 c t B p 0 o q X s1 { td0 1 1 ho with asked := 1 } []) (hk : 4 ≤ s1.am.op.kind) (hde : 1 ≤ s1.cf.de) (hne : 1 ≤ s1.cf.ne) (hsn : s ≠ ByteArray.empty) (he : e ≠ 70) (hv : 0 ≤ ve % 1000) :
    (sndN 16 muBody).wp Tryz.prog (bodyPost Tryz.prog Tryz.f3 fun e w' => e = .returned (.bool true) ∧ Below w.heap.size w w') a w2 := by
  have h9 := frame202 a hs hd
  rw [f1, f11, f17, f18] at h9
  generalize a.tmps = u at h9
  subst h9
  have HI := hid hI
  have HLO := hid (And.intro hI.low hI.ab)
  have bo := blk2 hI.o_
  have hoz := blk_lt hI.o_
  have hT := take_mut (w2.alloc (.cells #[.int .i64 1, .string s, .bool true, .int .i64 0, .int .i64 0, .int .i64 0, .string { data := #[] }] 55)) c t B p 0 w2.heap.size s1 ho (ve % 1000) e ⟨⟨1, s⟩, true, ⟨0, 0, 0, { data := #[] }⟩⟩ (hI.at_.below (bl1 w2 (.cells #[.int .i64 1, .string s, .bool true, .int .i64 0, .int .i64 0, .int .i64 0, .string { data := #[] }] 55))) hk he hv (by omega) hsn hde hne (heap_new w2 (.cells #[.int .i64 1, .string s, .bool true, .int .i64 0, .int .i64 0, .int .i64 0, .string { data := #[] }] 55))
  simp only [Ms.v, Ms.cs, msM, op0, fl_one, fl_0] at hT
  have HT := hid hT
  have HOB := hid (heap_old hI.o_ (.cells #[.int .i64 1, .string s, .bool true, .int .i64 0, .int .i64 0, .int .i64 0, .string { data := #[] }] 55))
  have HB2 := hid (hI.bel.trans ((bl1 w2 (.cells #[.int .i64 1, .string s, .bool true, .int .i64 0, .int .i64 0, .int .i64 0, .string { data := #[] }] 55)).mono hI.bel.size))
  clear hs hd f1 f11 f17 f18 hI hk hde hne hsn he hv hT
  conv => pattern (sndN 16 muBody); whnf
  go_wp2_with fail
  refine HT.out.mono ?_; rintro e1 w3 ⟨a0, c0, rfl, hc3, hg3⟩
  have hlo := HLO.out
  have hO3 := heap_chg hg3 HOB.out (fun hf => by rcases hf with hf | hf | hf; omega; omega; (have := hf.2; omega))
  have HO4 := hid (heap_old hO3 (.cells #[.int .i64 e, .int .i64 0, .int .i64 0, .int .i64 0, .string ByteArray.empty, .slice none 0 0, .int .i64 (ve % 1000)] 43))
  have HC4 := hid (hc3.below (bl1 w3 (.cells #[.int .i64 e, .int .i64 0, .int .i64 0, .int .i64 0, .string ByteArray.empty, .slice none 0 0, .int .i64 (ve % 1000)] 43)))
  have hb3 := HB2.out.trans (hg3.toBelow HB2.out.size fun i hi hf => by rcases hf with hf | hf | hf; omega; omega; (have := hf.1; omega))
  have HB4 := hid (hb3.trans ((bl1 w3 (.cells #[.int .i64 e, .int .i64 0, .int .i64 0, .int .i64 0, .string ByteArray.empty, .slice none 0 0, .int .i64 (ve % 1000)] 43)).mono hb3.size))
  have heq : ∀ W : World, (Op.equalIn 10000 40 (.agg #[.int .i64 0, .int .i64 0, .int .i64 0, .string { data := #[] }]) (.agg #[.int .i64 0, .int .i64 0, .int .i64 0, .string { data := #[] }])).run Tryz.prog W = .ok true W := fun W => by kernel_rfl
  have ba := blk7 (heap_new w3 (.cells #[.int .i64 e, .int .i64 0, .int .i64 0, .int .i64 0, .string ByteArray.empty, .slice none 0 0, .int .i64 (ve % 1000)] 43))
  unfold An.v nd0
  clear bo hoz hlo hO3 hg3 hc3 hb3 HT
  have bo := blk2 HO4.out
  go_wp2_with fail
  refine (cli_busy _ c t B p _ _ _ _ _ HC4.out).mono ?_; rintro e7 w4 ⟨rfl, rfl⟩
  by_cases he0 : e = 0
  · have HC5 := hid (show CliAt (w3.alloc (.cells #[.int .i64 e, .int .i64 0, .int .i64 0, .int .i64 0, .string ByteArray.empty, .slice none 0 0, .int .i64 (ve % 1000)] 43)) c t B p 1 { s1 with busy := false, am := ms0 } ⟨1, 1, ho, 1, 0, ve % 1000, 0⟩ [⟨⟨1, s⟩, true, ⟨0, 0, 0, { data := #[] }⟩⟩] (fun _ => false) from by have h1 := HC4.out; rw [if_pos he0] at h1; exact h1)
    subst he0
    go_wp2_with fail
    refine (cli_entries _ c t B p _ _ _ _ _ HC5.out (by decide)).mono ?_; rintro e8 w5 ⟨a8, c8, rfl, _, hb5⟩
    have HB5 := hid (HB4.out.trans (hb5.mono HB4.out.size))
    clear hb5 ba bo
    go_wp2_with fail
    refine (call_awake _).mono ?_; rintro e w6 ⟨rfl, hb6⟩
    have HB6 := hid (HB5.out.trans (hb6.mono HB5.out.size))
    clear hb6
    go_wp2
    go_ret
    exact ⟨rfl, HB6.out⟩
  · have HC5 := hid (show CliAt (w3.alloc (.cells #[.int .i64 e, .int .i64 0, .int .i64 0, .int .i64 0, .string ByteArray.empty, .slice none 0 0, .int .i64 (ve % 1000)] 43)) c t B p 0 { s1 with busy := false, am := ms0 } ⟨1, 1, ho, 1, 0, ve % 1000, 0⟩ [] (fun _ => false) from by have h1 := HC4.out; rw [if_neg he0] at h1; exact h1)
    have t1 : (e == 0) = false := by simp [he0]
    have t2 : decide (e = 0) = false := by simp [he0]
    clear he0
    go_wp2_with fail
    refine (cli_entries _ c t B p _ _ _ _ _ HC5.out (by decide)).mono ?_; rintro e8 w5 ⟨a8, c8, rfl, _, hb5⟩
    have HB5 := hid (HB4.out.trans (hb5.mono HB4.out.size))
    clear hb5 ba bo
    go_wp2_with fail
    refine (call_awake _).mono ?_; rintro e w6 ⟨rfl, hb6⟩
    have HB6 := hid (HB5.out.trans (hb6.mono HB5.out.size))
    clear hb6
    go_wp2
    go_ret
    exact ⟨rfl, HB6.out⟩
set_option maxRecDepth 100000 in
set_option maxHeartbeats 8000000 in
theorem mu_end (w w2 : World) (a : Act) (s : ByteArray) (er ve : Int) (c t B p o q X : Nat) (s1 : Cl) (ho : Int) (hs : a.tmps.size = 202) (hd : a.defers = []) (f1 : a.tmps.getD 1 undef = .string s) (f3 : a.tmps.getD 3 undef = .int .i64 er) (f4 : a.tmps.getD 4 undef = .int .i64 ve) (f11 : a.tmps.getD 11 undef = .pointer (some ⟨o, 0, none⟩))
    (hI : MuI w w2 c t B p 0 o q X s1 { td0 1 1 ho with asked := 1 } []) (hk : 4 ≤ s1.am.op.kind) (hde : 1 ≤ s1.cf.de) (hne : 1 ≤ s1.cf.ne) (hsn : s ≠ ByteArray.empty) :
    (sndN 13 muBody).wp Tryz.prog (bodyPost Tryz.prog Tryz.f3 fun e w' => e = .returned (.bool true) ∧ Below w.heap.size w w') a w2 := by
  have h9 := frame202 a hs hd
  rw [f1, f3, f4, f11] at h9
  generalize a.tmps = u at h9
  subst h9
  have HI := hid hI
  have HN := hid (And.intro hk (And.intro hde (And.intro hne hsn)))
  have hv0 := Int.emod_nonneg ve (show (1000 : Int) ≠ 0 by decide)
  have HV := hid hv0
  have hlo := And.intro hI.low hI.ab
  have HLO := hid hlo
  clear hs hd f1 f3 f4 f11 hI hk hde hne hsn hlo
  conv => pattern (sndN 13 muBody); whnf
  refine wp_seq_k fun K0 hK0 => ?_
  have HK0 := hid hK0
  clear hK0
  go_wp2_with fail
  refine (place_pos _ _ _ (by omega) (by omega)).mono ?_; rintro e1 w1 ⟨rfl, rfl⟩
  go_wp2
  refine HK0.out _ _ ?_
  clear HK0
  refine wp_seq_k fun K1 hK1 => ?_
  have HK1 := hid hK1
  clear hK1
  go_wp2_with fail
  refine (place_pos _ _ _ (by omega) (by omega)).mono ?_; rintro e1 w1 ⟨rfl, rfl⟩
  go_wp2
  refine HK1.out _ _ ?_
  clear HK1
  refine wp_seq_k fun K2 hK2 => ?_
  have HK2 := hid hK2
  clear hK2
  have hfin : ∀ (e : Int) (u0 u1 u2 u3 : Value), e ≠ 70 → True := fun _ _ _ _ _ _ => trivial
  clear hfin
  obtain ⟨e0, he0⟩ : ∃ e0, e0 = er % 90 := ⟨_, rfl⟩
  rw [← he0]
  clear he0
  by_cases h70 : e0 = 70
  · subst h70
    go_wp2
    refine HK2.out _ _ ?_
    clear HK2
    refine mu_tail w w2 _ s 0 ve c t B p o q X s1 ho rfl rfl rfl rfl rfl rfl HI.out HN.out.1 HN.out.2.1 HN.out.2.2.1 HN.out.2.2.2 (by decide) HV.out
  · have t1 : (e0 == 70) = false := by simp [h70]
    have t2 : decide (e0 = 70) = false := by simp [h70]
    have H70 := hid h70
    clear h70
    go_wp2
    refine HK2.out _ _ ?_
    clear HK2
    refine mu_tail w w2 _ s e0 ve c t B p o q X s1 ho rfl rfl rfl rfl rfl rfl HI.out HN.out.1 HN.out.2.1 HN.out.2.2.1 HN.out.2.2.2 H70.out HV.out
set_option maxRecDepth 100000 in
set_option maxHeartbeats 4000000 in
theorem callMutates_walk (cf : Cf) (s : ByteArray) (xk xm er ve : Int) (xp xo : ByteArray) (w : World) : Calls Tryz.prog 3 #[cf.v, .string s, .agg #[.int .i64 xk, .string xp, .string xo, .int .i64 xm], .int .i64 er, .int .i64 ve] w fun e w' => e = .returned (.bool true) ∧ Below w.heap.size w w' := by
  go_enter Tryz.func3, Tryz.ntmps3
  refine mu_front cf s xk xm er ve xp xo w (cutN 5 (sndN 4 muBody) (cutN 2 (sndN 9 muBody) (cutN 2 (sndN 11 muBody) (sndN 13 muBody)))) ?_
  intro a w2 c t B p o q X c2 hs hd f1 f3 f4 f7 f11 hck hR hI hX
  obtain ⟨g1, g2, _, _, _⟩ := chk_yes hck
  have hk0 := Int.emod_nonneg xk (show (7 : Int) ≠ 0 by decide); have hk1 := Int.emod_lt_of_pos xk (show (0 : Int) < 7 by decide)
  have hm0 := Int.emod_nonneg xm (show (512 : Int) ≠ 0 by decide); have hm1 := Int.emod_lt_of_pos xm (show (0 : Int) < 512 by decide)
  refine mu_args s xk xm er ve xp xo w w2 a X o _ _ hs hd f1 f3 f4 f7 f11 g1 hX ?_
  intro a3 w3 hs3 hd3 b1 b3 b4 b7 b11 hX3 hG3
  have hlow := hI.low
  have hab := hI.ab
  have hcz := blk_lt hI.at_.hc
  have htz := hI.at_.ht.lt
  have hpz := hI.at_.hp.lt
  have hI3 : MuI w w3 c t B p 0 o q X (cl0 1 1 c2) (td0 1 1 c2.ho) [] := ⟨hI.at_.chg hG3 (by omega) (by omega) (hI.at_.hp.chg hG3 (fun k hk e => by have := hk.1; omega)), heap_chg hG3 hI.o_ (by omega), hI.low, hI.ab, hI.bel.trans (hG3.toBelow hI.bel.size fun i hi hf => by omega)⟩
  refine mu_want s ({ data := #[47] } ++ s) (if 5 + xk % 7 = 10 then { data := #[47, 47] } ++ s ++ { data := #[47] } else if 5 + xk % 7 = 7 then { data := #[116] } else xo) (5 + xk % 7) (xm % 512) er ve w3 a3 X o _ _ hs3 hd3 b1 b3 b4 b7 b11 (by omega) (by omega) hX3 ?_
  intro a4 w4 O hs4 hd4 d1 d3 d4 d7 d11 d13 hO hOz hG4
  have hz3 := hG3.size
  have hI4 : MuI w w4 c t B p 0 o q X (cl0 1 1 c2) (td0 1 1 c2.ho) [] := ⟨hI3.at_.chg hG4 (fun h => h) (fun h => h) (hI3.at_.hp.chg hG4 (fun k hk e => e)), heap_chg hG4 hI3.o_ (fun h => h), hI.low, hI.ab, hI3.bel.trans (hG4.toBelow hI3.bel.size fun i hi hf => hf)⟩
  have hX4 := heap_chg hG4 hX3 (fun h => h)
  have hsl : (({ data := #[47] } ++ s) : ByteArray).data.toList = 47 :: s.data.toList := by simp
  have hn1 := name_path1 hck hsl
  refine mu_start w w4 a4 s ({ data := #[47] } ++ s) (if 5 + xk % 7 = 10 then { data := #[47, 47] } ++ s ++ { data := #[47] } else if 5 + xk % 7 = 7 then { data := #[116] } else xo) (5 + xk % 7) (xm % 512) er ve c t B p o q X O c2 _ _ hs4 hd4 d1 d3 d4 d7 d11 d13 hI4 hX4 hO (by omega) (by omega) (by omega) hR ⟨hn1.2.2, hn1.2.1⟩ (fun h => ?_) (fun h => ?_) ⟨by omega, by omega⟩ ?_
  · rw [if_pos h]
    have h2 := name_path2 (p := { data := #[47, 47] } ++ s ++ { data := #[47] }) hck (by simp)
    exact ⟨h2.2.2, h2.2.1⟩
  · rw [if_neg (by omega), if_pos h]
  intro a5 w5 hs5 hd5 k1 k3 k4 k11 hI5
  exact mu_end w w5 a5 s er ve c t B p o q X _ c2.ho hs5 hd5 k1 k3 k4 k11 hI5 (show 4 ≤ 5 + xk % 7 by omega) hR.2.1.1 hR.2.2.1.1 (fun h => g2 (by rw [h]; rfl))
end Go.Proofs.YtbjibkjenleloaaGreatDoor

end
