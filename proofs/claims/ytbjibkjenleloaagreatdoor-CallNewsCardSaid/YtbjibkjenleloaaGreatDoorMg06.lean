/- Parts of a proof about the given program, in build order: NamE, NamF, WlkA, LibR, DentJ, DentK. No condition. -/
import Derived.Test.YtbjibkjenleloaaGreatDoorMg05
import Derived.Test.YtbjibkjenleloaaGreatDoorMg04
import Derived.Test.YtbjibkjenleloaaGreatDoorMg00
import Derived.ProofKit
import Derived.OpenShut
import Derived.ShutString
import Derived.ChangeOld
import Derived.Below
import Derived.SizedLaws
import Derived.Deep.Slices
section
namespace Go.Proofs.YtbjibkjenleloaaGreatDoor
set_option linter.unusedVariables false
set_option linter.unusedSimpArgs false
open Go.RowKit Go.Shelf
attribute [local go_sem ↓] Go.wp_at_zero Go.wp_at_succ

theorem results_tmp4 {fn : Func} {t u v x : Tmp} (h : fn.results = #[.tmp t, .tmp u, .tmp v, .tmp x]) (tmps : Array Value) (P : Program) (w : World) :
    (results fn tmps).run P w = .ok (.tuple #[tmps.getD t undef, tmps.getD u undef, tmps.getD v undef, tmps.getD x undef]) w := by
  simp [results, h]

def pathErr (s : ByteArray) : Int := if 96 < s.size then 13 else if (!slashHead s || hasR s [0]) = true then 12 else if cutBad s = true then 11 else 0
theorem rune_row {w : World} {o : Obj} (L : List Int) (hn : L.length ≤ maxLen) (ho : o = .cells (rns L).toArray 21) : Rd (w.alloc o) (.slice (some ⟨w.heap.size, 0, none⟩) L.length L.length) L.length (rns L) := by
  subst ho
  exact rd_blk (cs := rns L) (heap_new w _) hn

set_option maxRecDepth 100000 in
set_option maxHeartbeats 1000000 in
theorem split_any (s : ByteArray) (w : World) :
    Calls Tryz.prog 54 #[.string s] w fun e w' => Hid (pathErr s ≠ 0 ∧ e = .returned (.tuple #[.slice none 0 0, .bool false, .int .i64 (pathErr s)]) ∧ Below w.heap.size w w' ∨
      pathErr s = 0 ∧ (∃ a c, e = .returned (.tuple #[.slice a (stepsL s).length c, .bool (dirB s), .int .i64 0]) ∧ w'.ownsRow w.heap.size 9 1 (.slice a (stepsL s).length c) (stepsL s).length (srow (stepsL s))) ∧ Below w.heap.size w w') := by
  by_cases hbig : 96 < s.size
  · have HE := hid (show pathErr s = 13 by rw [pathErr, if_pos hbig])
    have hb1 : (s.size : Int) > 96 := by omega
    clear hbig
    go_enter Tryz.func54, Tryz.ntmps54
    go_wp2
    go_ret3
    exact hid (.inl ⟨by rw [HE.out]; decide, by rw [HE.out]; rfl, Below.refl _ _⟩)
  · have HS := hid (show s.size ≤ 96 by omega)
    have hb1 : ¬ (s.size : Int) > 96 := by omega
    cases hsh : slashHead s with
    | false =>
      have HE := hid (show pathErr s = 12 by rw [pathErr, if_neg hbig, if_pos (by simp [hsh])])
      have HH := hid hsh
      clear hbig hsh
      go_enter Tryz.func54, Tryz.ntmps54
      go_wp2_with fail
      refine (prefix_slash s _).mono ?_; rintro e w3 ⟨rfl, rfl⟩
      rw [HH.out]
      go_wp2
      go_ret3
      exact hid (.inl ⟨by rw [HE.out]; decide, by rw [HE.out]; rfl, Below.refl _ _⟩)
    | true =>
      have HH := hid hsh
      cases hz : hasR s [0] with
      | true =>
        have HE := hid (show pathErr s = 12 by rw [pathErr, if_neg hbig, if_pos (by simp [hsh, hz])])
        have HZ := hid hz
        clear hbig hsh hz
        go_enter Tryz.func54, Tryz.ntmps54
        go_wp2_with fail
        refine (prefix_slash s _).mono ?_; rintro e w3 ⟨rfl, rfl⟩
        rw [HH.out]
        go_wp2_with fail
        refine (has_any s _ [0] _ (rune_row [0] (by decide) rfl)).mono ?_; rintro e w4 ⟨rfl, hb4⟩
        have HB4 := hid ((bl1 w3 _).trans (hb4.mono (by simp)))
        rw [HZ.out]
        clear hb4
        go_wp2
        go_ret3
        exact hid (.inl ⟨by rw [HE.out]; decide, by rw [HE.out]; rfl, HB4.out⟩)
      | false =>
        have HP := hid (show pathErr s = if cutBad s = true then 11 else 0 by rw [pathErr, if_neg hbig, if_neg (by simp [hsh, hz])])
        have HZ := hid hz
        clear hbig hsh hz
        go_enter Tryz.func54, Tryz.ntmps54
        go_wp2_with fail
        refine (prefix_slash s _).mono ?_; rintro e w3 ⟨rfl, rfl⟩
        rw [HH.out]
        go_wp2_with fail
        refine (has_any s _ [0] _ (rune_row [0] (by decide) rfl)).mono ?_; rintro e w4 ⟨rfl, hb4⟩
        have HB4 := hid ((bl1 w3 _).trans (hb4.mono (by simp)))
        rw [HZ.out]
        clear hb4
        go_wp2_with fail
        refine (cut_any s _ (by have := HS.out; omega)).mono ?_; rintro e w5 hc
        rcases hc.out with ⟨h1, rfl, hb5⟩ | ⟨h1, ⟨a, c, rfl, ho5⟩, hb5⟩
        · have HE := hid (show pathErr s = 11 by rw [HP.out, if_pos h1])
          have HB5 := hid (HB4.out.trans (hb5.mono HB4.out.size))
          clear h1 hb5 hc
          go_wp2
          go_ret3
          exact hid (.inl ⟨by rw [HE.out]; decide, by rw [HE.out]; rfl, HB5.out⟩)
        · have HE := hid (show pathErr s = 0 by rw [HP.out, if_neg (by rw [h1]; decide)])
          have HB5 := hid (HB4.out.trans (hb5.mono HB4.out.size))
          have HO5 := hid (ownsRow_mono ho5 HB4.out.size)
          clear h1 hb5 hc ho5
          go_wp2
          go_ret3
          exact hid (.inr ⟨HE.out, ⟨a, c, rfl, HO5.out⟩, HB5.out⟩)

def tgtErr (s : ByteArray) : Int := if 96 < s.size then 13 else if (decide (s.size = 0) || hasR s [0]) = true then 12 else if cutBad s = true then 11 else 0
set_option maxRecDepth 100000 in
set_option maxHeartbeats 1000000 in
theorem target_any (s : ByteArray) (w : World) :
    Calls Tryz.prog 56 #[.string s] w fun e w' => Hid (tgtErr s ≠ 0 ∧ e = .returned (.tuple #[.slice none 0 0, .bool false, .bool false, .int .i64 (tgtErr s)]) ∧ Below w.heap.size w w' ∨
      tgtErr s = 0 ∧ (∃ a c, e = .returned (.tuple #[.slice a (stepsL s).length c, .bool (slashHead s), .bool (dirB s), .int .i64 0]) ∧ w'.ownsRow w.heap.size 9 1 (.slice a (stepsL s).length c) (stepsL s).length (srow (stepsL s))) ∧ Below w.heap.size w w') := by
  by_cases hbig : 96 < s.size
  · have HE := hid (show tgtErr s = 13 by rw [tgtErr, if_pos hbig])
    have hb1 : (s.size : Int) > 96 := by omega
    clear hbig
    go_enter Tryz.func56, Tryz.ntmps56
    go_wp2
    (try simp only [Exit.inBlock, Exit.then]); refine bodyPost_ret (results_tmp4 rfl _ _ _) rfl ?_
    exact hid (.inl ⟨by rw [HE.out]; decide, by rw [HE.out]; rfl, Below.refl _ _⟩)
  · have HS := hid (show s.size ≤ 96 by omega)
    have hb1 : ¬ (s.size : Int) > 96 := by omega
    by_cases h0 : s.size = 0
    · have HE := hid (show tgtErr s = 12 by rw [tgtErr, if_neg hbig, if_pos (by simp [h0])])
      have hn1 := (size_nil s).1 h0
      have hn0 : s.toList.isEmpty = true := by simp [hn1]
      clear hbig h0
      go_enter Tryz.func56, Tryz.ntmps56
      go_wp2
      (try simp only [Exit.inBlock, Exit.then]); refine bodyPost_ret (results_tmp4 rfl _ _ _) rfl ?_
      exact hid (.inl ⟨by rw [HE.out]; decide, by rw [HE.out]; rfl, Below.refl _ _⟩)
    · have hn1 : s.toList ≠ [] := fun h => h0 ((size_nil s).2 h)
      have hn0 : s.toList.isEmpty = false := by simpa using hn1
      cases hz : hasR s [0] with
      | true =>
        have HE := hid (show tgtErr s = 12 by rw [tgtErr, if_neg hbig, if_pos (by simp [hz])])
        have HZ := hid hz
        clear hbig h0 hz hn1
        go_enter Tryz.func56, Tryz.ntmps56
        go_wp2_with fail
        refine (has_any s _ [0] _ (rune_row [0] (by decide) rfl)).mono ?_; rintro e w4 ⟨rfl, hb4⟩
        have HB4 := hid ((bl1 w _).trans (hb4.mono (by simp)))
        rw [HZ.out]
        clear hb4
        go_wp2
        (try simp only [Exit.inBlock, Exit.then]); refine bodyPost_ret (results_tmp4 rfl _ _ _) rfl ?_
        exact hid (.inl ⟨by rw [HE.out]; decide, by rw [HE.out]; rfl, HB4.out⟩)
      | false =>
        have HP := hid (show tgtErr s = if cutBad s = true then 11 else 0 by rw [tgtErr, if_neg hbig, if_neg (by simp [h0, hz])])
        have HZ := hid hz
        clear hbig h0 hz hn1
        go_enter Tryz.func56, Tryz.ntmps56
        go_wp2_with fail
        refine (has_any s _ [0] _ (rune_row [0] (by decide) rfl)).mono ?_; rintro e w4 ⟨rfl, hb4⟩
        have HB4 := hid ((bl1 w _).trans (hb4.mono (by simp)))
        rw [HZ.out]
        clear hb4
        go_wp2_with fail
        refine (cut_any s _ (by have := HS.out; omega)).mono ?_; rintro e w5 hc
        rcases hc.out with ⟨h1, rfl, hb5⟩ | ⟨h1, ⟨a, c, rfl, ho5⟩, hb5⟩
        · have HE := hid (show tgtErr s = 11 by rw [HP.out, if_pos h1])
          have HB5 := hid (HB4.out.trans (hb5.mono HB4.out.size))
          clear h1 hb5 hc
          go_wp2
          (try simp only [Exit.inBlock, Exit.then]); refine bodyPost_ret (results_tmp4 rfl _ _ _) rfl ?_
          exact hid (.inl ⟨by rw [HE.out]; decide, by rw [HE.out]; rfl, HB5.out⟩)
        · have HE := hid (show tgtErr s = 0 by rw [HP.out, if_neg (by rw [h1]; decide)])
          have HB5 := hid (HB4.out.trans (hb5.mono HB4.out.size))
          have HO5 := hid (ownsRow_mono ho5 HB4.out.size)
          clear h1 hb5 hc ho5
          go_wp2_with fail
          refine (prefix_slash s _).mono ?_; rintro e w6 ⟨rfl, rfl⟩
          go_wp2
          (try simp only [Exit.inBlock, Exit.then]); refine bodyPost_ret (results_tmp4 rfl _ _ _) rfl ?_
          exact hid (.inr ⟨HE.out, ⟨a, c, rfl, HO5.out⟩, HB5.out⟩)

def chkErr (s : ByteArray) : Int := if 12 < s.size then 11 else if (decide (s.size = 0) || dotsB s || hasR s [0, 47]) = true then 10 else 0
set_option maxRecDepth 100000 in
set_option maxHeartbeats 1000000 in
theorem check_any (s : ByteArray) (w : World) :
    Calls Tryz.prog 8 #[.string s] w fun e w' => e = .returned (.int .i64 (chkErr s)) ∧ Below w.heap.size w w' := by
  by_cases hbig : 12 < s.size
  · have HE := hid (show chkErr s = 11 by rw [chkErr, if_pos hbig])
    have hb1 : (s.size : Int) > 12 := by omega
    clear hbig
    go_enter Tryz.func8, Tryz.ntmps8
    go_wp2
    go_ret
    exact ⟨by rw [HE.out]; rfl, Below.refl _ _⟩
  · have hb1 : ¬ (s.size : Int) > 12 := by omega
    by_cases h0 : s.size = 0
    · have HE := hid (show chkErr s = 10 by rw [chkErr, if_neg hbig, if_pos (by simp [h0])])
      have hn1 := (size_nil s).1 h0
      have hn0 : s.toList.isEmpty = true := by simp [hn1]
      clear hbig h0
      go_enter Tryz.func8, Tryz.ntmps8
      go_wp2
      go_ret
      exact ⟨by rw [HE.out]; rfl, Below.refl _ _⟩
    · have hn1 : s.toList ≠ [] := fun h => h0 ((size_nil s).2 h)
      have hn0 : s.toList.isEmpty = false := by simpa using hn1
      cases hd : dotsB s with
      | true =>
        have HE := hid (show chkErr s = 10 by rw [chkErr, if_neg hbig, if_pos (by simp [hd])])
        have HD := hid hd
        clear hbig h0 hd hn1
        go_enter Tryz.func8, Tryz.ntmps8
        go_wp2_with fail
        refine (dots_any s _).mono ?_; rintro e w4 ⟨rfl, rfl⟩
        rw [HD.out]
        go_wp2
        go_ret
        exact ⟨by rw [HE.out]; rfl, Below.refl _ _⟩
      | false =>
        have HP := hid (show chkErr s = if hasR s [0, 47] = true then 10 else 0 by
          rw [chkErr, if_neg hbig]; simp [h0, hd])
        have HD := hid hd
        clear hbig h0 hd hn1
        go_enter Tryz.func8, Tryz.ntmps8
        go_wp2_with fail
        refine (dots_any s _).mono ?_; rintro e w4 ⟨rfl, rfl⟩
        rw [HD.out]
        go_wp2_with fail
        refine (has_any s _ [0, 47] _ (rune_row [0, 47] (by decide) rfl)).mono ?_; rintro e w5 ⟨rfl, hb5⟩
        have HB5 := hid ((bl1 w _).trans (hb5.mono (by simp)))
        clear hb5
        cases hz : hasR s [0, 47] with
        | true =>
          have HE := hid (show chkErr s = 10 by rw [HP.out, if_pos hz])
          clear hz
          go_wp2
          go_ret
          exact ⟨by rw [HE.out]; rfl, HB5.out⟩
        | false =>
          have HE := hid (show chkErr s = 0 by rw [HP.out, if_neg (by rw [hz]; decide)])
          clear hz
          go_wp2
          go_ret
          exact ⟨by rw [HE.out]; rfl, HB5.out⟩

end Go.Proofs.YtbjibkjenleloaaGreatDoor

end

section
namespace Go.Proofs.YtbjibkjenleloaaGreatDoor
set_option linter.unusedVariables false
set_option linter.unusedSimpArgs false
open Go.RowKit Go.Shelf
attribute [local go_sem ↓] Go.wp_at_zero Go.wp_at_succ

def parErr (s : ByteArray) : Int := if pathErr s ≠ 0 then pathErr s else if (stepsL s).isEmpty || lastDots (stepsL s) then 10 else 0
theorem rd_prefix {w : World} {g n m c : Nat} {cs : List Value} (h : Rd w (.slice (some ⟨g, 0, none⟩) n c) n cs) (hm : m ≤ n) : Rd w (.slice (some ⟨g, 0, none⟩) m m) m (cs.take m) := by
  rcases h with ⟨hv, _⟩ | ⟨a, cap, hv, h1, h2, h3⟩
  · simp only [Value.slice.injEq] at hv
    cases hv.1
  · simp only [Value.slice.injEq, Option.some.injEq] at hv
    obtain ⟨rfl, _, rfl⟩ := hv
    refine .inr ⟨_, m, rfl, Nat.le_refl _, by omega, fun i x hx => h3 i x ?_⟩
    rw [List.getElem?_take] at hx
    split at hx
    · exact hx
    · cases hx

set_option maxRecDepth 100000 in
set_option maxHeartbeats 1000000 in
theorem parent_any (s : ByteArray) (w : World) :
    Calls Tryz.prog 55 #[.string s] w fun e w' => Hid (parErr s ≠ 0 ∧ e = .returned (.tuple #[.slice none 0 0, .string ByteArray.empty, .int .i64 (parErr s)]) ∧ Below w.heap.size w w' ∨
      parErr s = 0 ∧ (∃ g L1 y, stepsL s = L1 ++ [y] ∧ e = .returned (.tuple #[.slice (some ⟨g, 0, none⟩) L1.length L1.length, .string y, .int .i64 0]) ∧ w.heap.size ≤ g ∧ Rd w' (.slice (some ⟨g, 0, none⟩) L1.length L1.length) L1.length (srow L1)) ∧ Below w.heap.size w w') := by
  go_enter Tryz.func55, Tryz.ntmps55
  go_wp2_with fail
  refine (split_any s _).mono ?_; rintro e w1 hc
  rcases hc.out with ⟨h1, rfl, hb1⟩ | ⟨h1, ⟨a, c, rfl, ho1⟩, hb1⟩
  · have HE := hid (show parErr s = pathErr s by rw [parErr, if_pos h1])
    have HN := hid h1
    have HB := hid hb1
    have t1 : (pathErr s != 0) = true := by simp [h1]
    have t2 : (pathErr s == 0) = false := by simp [h1]
    clear h1 hb1 hc
    go_wp2
    go_ret3
    exact hid (.inl ⟨by rw [HE.out]; exact HN.out, by rw [HE.out]; rfl, HB.out⟩)
  · have HP := hid (show parErr s = if (stepsL s).isEmpty || lastDots (stepsL s) then 10 else 0 by rw [parErr, if_neg (by rw [h1]; simp)])
    have HB := hid hb1
    have HO := hid ho1
    obtain ⟨L, hL⟩ : ∃ L, L = stepsL s := ⟨_, rfl⟩
    rw [← hL] at HO HP
    rw [← hL]
    have hmax : L.length ≤ maxLen := (Rd.own HO.out).len
    unfold maxLen at hmax
    have HLD := hid hL
    clear h1 hb1 ho1 hc hL
    by_cases hL0 : L = []
    · have HE := hid (show parErr s = 10 by rw [HP.out, if_pos (by simp [hL0])])
      subst hL0
      have hw1 : IntKind.i64.wrap (((0 : Nat) : Int) - 1) = -1 := by decide
      go_wp2
      go_ret3
      exact hid (.inl ⟨by rw [HE.out]; decide, by rw [HE.out]; rfl, HB.out⟩)
    · obtain ⟨L1, y, hLy⟩ : ∃ L1 y, L = L1 ++ [y] := ⟨L.dropLast, L.getLast hL0, (List.dropLast_concat_getLast hL0).symm⟩
      obtain ⟨g, o, rfl⟩ := st_loc (Rd.own HO.out) (List.length_pos_iff.2 hL0)
      obtain ⟨m, hm⟩ : ∃ m, m = L1.length := ⟨_, rfl⟩
      have hLm : L.length = m + 1 := by rw [hLy, hm]; simp
      have HLM := hid hLm
      have ho0 : o = 0 := by
        obtain ⟨c0, hc0⟩ := (show ∃ c0, Value.slice (some ⟨g, o, none⟩) L.length c = .slice (some ⟨g, 0, none⟩) L.length c0 by
          rcases HO.out.2 with ⟨hv, _⟩ | ⟨g', cap, cur, hv, _⟩
          · cases hv
          · have h2 := hv
            simp only [Value.slice.injEq, Option.some.injEq, Addr.mk.injEq] at h2
            obtain ⟨⟨rfl, rfl, _⟩, _, rfl⟩ := h2
            exact ⟨_, rfl⟩)
        simp only [Value.slice.injEq, Option.some.injEq, Addr.mk.injEq] at hc0
        exact hc0.1.2.1
      subst ho0
      have c1 := st_at (Rd.own HO.out) (show L[m]? = some y by rw [hLy, hm]; simp)
      have HRD := hid (show Rd w1 (.slice (some ⟨g, 0, none⟩) m m) m (srow L1) by
        have h2 := rd_prefix (m := m) (Rd.own HO.out) (by omega)
        rwa [show (srow L).take m = srow L1 by rw [hLy, hm]; simp [srow]] at h2)
      have HBG := hid (show w.heap.size ≤ g from (own_lt HO.out rfl).1)
      have HLS := hid (show stepsL s = L1 ++ [y] by rw [← HLD.out]; exact hLy)
      have HPD := hid (show parErr s = if dotsB y = true then 10 else 0 by rw [HP.out, hLy]; simp [lastDots])
      have HCC := hid ((own_lt HO.out rfl).2)
      have hcap : L.length ≤ c := by
        rcases HO.out.2 with ⟨hv, _⟩ | ⟨g', cap, cur, hv, _, _, h1, _⟩
        · cases hv
        · simp only [Value.slice.injEq] at hv; obtain ⟨_, _, rfl⟩ := hv; exact h1
      rw [hLm]
      have hw1 : IntKind.i64.wrap (((m + 1 : Nat) : Int) - 1) = (m : Int) := by rw [IntWalk.i64_in _ (by omega)]; omega
      have hm9 : m + 1 ≤ 9223372036854775807 := by omega
      have hm8 : (m : Int) ≤ 9223372036854775806 := by omega
      have hm0 : (0 : Int) ≤ (m : Int) := by omega
      have hm1 : (m : Int) < ((m + 1 : Nat) : Int) := by omega
      have hm2 : (m : Int) ≤ (c : Int) := by omega
      have hm3 : ¬ (m : Int) < 0 := by omega
      rw [hm] at HRD
      have HMD := hid hm
      clear hL0 hLy hLm hm
      go_wp2_with fail
      refine (dots_any y _).mono ?_; rintro e w4 ⟨rfl, rfl⟩
      cases hd : dotsB y with
      | true =>
        have HE := hid (show parErr s = 10 by rw [HPD.out, if_pos hd])
        clear hd
        go_wp2
        go_ret3
        exact hid (.inl ⟨by rw [HE.out]; decide, by rw [HE.out]; rfl, HB.out⟩)
      | false =>
        have HE := hid (show parErr s = 0 by rw [HPD.out, if_neg (by rw [hd]; decide)])
        clear hd
        go_wp2_with fail
        go_quiet (fail)
        go_wp2
        go_ret3
        exact hid (.inr ⟨HE.out, ⟨g, L1, y, HLS.out, by rw [HMD.out]; rfl, HBG.out, HRD.out.below (below_drewN (Below.refl _ _) _)⟩, below_drewN HB.out _⟩)

end Go.Proofs.YtbjibkjenleloaaGreatDoor

end

section
namespace Go.Proofs.YtbjibkjenleloaaGreatDoor
set_option linter.unusedVariables false
set_option linter.unusedSimpArgs false
open Go.RowKit
attribute [local go_sem ↓] Go.wp_at_zero Go.wp_at_succ

/-! ### a row of nodes -/
def Nd.cells (x : Nd) : List Value := [.int .i64 x.id, .int .i64 x.kind, .int .i64 x.mode, .string x.target]
def Nd.v (x : Nd) : Value := .agg #[.int .i64 x.id, .int .i64 x.kind, .int .i64 x.mode, .string x.target]
def ncs (L : List Nd) : List Value := L.flatMap Nd.cells
theorem ncs_len (L : List Nd) : (ncs L).length = L.length * 4 := by
  induction L with
  | nil => rfl
  | cons x L ih => simp only [ncs, List.flatMap_cons, List.length_append] at ih ⊢; rw [ih]; simp [Nd.cells]; omega
theorem ncs_snoc (L : List Nd) (x : Nd) : ncs (L ++ [x]) = ncs L ++ [.int .i64 x.id, .int .i64 x.kind, .int .i64 x.mode, .string x.target] := by simp [ncs, Nd.cells]
theorem ncs_at : ∀ {L : List Nd} {k : Nat} {x : Nd}, L[k]? = some x → (ncs L)[k * 4]? = some (.int .i64 x.id) ∧ (ncs L)[k * 4 + 1]? = some (.int .i64 x.kind) ∧ (ncs L)[k * 4 + 2]? = some (.int .i64 x.mode) ∧ (ncs L)[k * 4 + 3]? = some (.string x.target)
  | [], k, x, h => by simp at h
  | y :: L, 0, x, h => by
    simp only [List.getElem?_cons_zero, Option.some.injEq] at h
    subst h
    simp [ncs, Nd.cells]
  | y :: L, k + 1, x, h => by
    have ih := ncs_at (L := L) (k := k) (x := x) (by simpa using h)
    have e : ∀ j, (ncs (y :: L))[(k + 1) * 4 + j]? = (ncs L)[k * 4 + j]? := fun j => by
      rw [show (k + 1) * 4 + j = 4 + (k * 4 + j) by omega]
      simp only [ncs, List.flatMap_cons]
      rw [List.getElem?_append_right (by simp [Nd.cells])]
      simp [Nd.cells]
    have e0 := e 0
    simp only [Nat.add_zero] at e0
    rw [e0, e 1, e 2, e 3]
    exact ih
theorem nd_at {w : World} {g n c m : Nat} {L : List Nd} (h : Rd w (.slice (some ⟨g, 0, none⟩) n c) m (ncs L)) {k : Nat} {x : Nd} (hk : L[k]? = some x) :
    w.cell? ⟨g, k * 4, none⟩ = some (.int .i64 x.id) ∧ w.cell? ⟨g, k * 4 + 1, none⟩ = some (.int .i64 x.kind) ∧ w.cell? ⟨g, k * 4 + 2, none⟩ = some (.int .i64 x.mode) ∧ w.cell? ⟨g, k * 4 + 3, none⟩ = some (.string x.target) := by
  obtain ⟨h0, h1, h2, h3⟩ := ncs_at hk
  have a0 := h.at _ _ h0; have a1 := h.at _ _ h1; have a2 := h.at _ _ h2; have a3 := h.at _ _ h3
  simp only [Nat.zero_add] at a0 a1 a2 a3
  exact ⟨a0, a1, a2, a3⟩
theorem infoNd : (Tryz.prog.info? 40).map (fun i => (i.zero, i.size, i.bytes)) = some (some (.agg #[.int .i64 0, .int .i64 0, .int .i64 0, .string ByteArray.empty]), 4, 40) := by kernel_rfl
theorem row_loc {w : World} {B e sz n : Nat} {a : Option Addr} {m c : Nat} {xs : List Value} (h : w.ownsRow B e sz (.slice a m c) n xs) (hL : 0 < n) : ∃ g, a = some ⟨g, 0, none⟩ ∧ B ≤ g ∧ g < w.heap.size ∧ n ≤ c ∧ c ≤ maxLen := by
  rcases h.2 with ⟨hv, h0⟩ | ⟨g, cap, cur, hv, hB, hg, h1, h2, _⟩
  · omega
  · simp only [Value.slice.injEq] at hv
    obtain ⟨rfl, _, rfl⟩ := hv
    exact ⟨g, rfl, hB, blk_lt hg, h1, h2⟩
theorem row_prefix {w : World} {B e sz n m g c : Nat} {xs : List Value} (h : w.ownsRow B e sz (.slice (some ⟨g, 0, none⟩) n c) n xs) (hm : m ≤ n) : w.ownsRow B e sz (.slice (some ⟨g, 0, none⟩) m c) m (xs.take (m * sz)) := by
  have hl := h.1
  have hmn : m * sz ≤ n * sz := Nat.mul_le_mul_right _ hm
  refine ⟨by rw [List.length_take]; omega, .inr ?_⟩
  rcases h.2 with ⟨hv, _⟩ | ⟨g', cap, cur, hv, hb, hg, h1, h2, h3, h4⟩
  · cases hv
  · simp only [Value.slice.injEq, Option.some.injEq, Addr.mk.injEq] at hv
    obtain ⟨⟨rfl, _⟩, _, rfl⟩ := hv
    refine ⟨g, c, cur, rfl, hb, hg, by omega, h2, h3, ?_⟩
    rw [← h4, List.take_take, Nat.min_eq_left hmn]
theorem ncs_take (L : List Nd) (n : Nat) : (ncs L).take (n * 4) = ncs (L.take n) := by
  induction L generalizing n with
  | nil => simp [ncs]
  | cons x L ih =>
    cases n with
    | zero => simp [ncs]
    | succ n =>
      have h := ih n
      simp only [ncs, List.flatMap_cons, List.take_succ_cons] at h ⊢
      rw [show (n + 1) * 4 = (Nd.cells x).length + n * 4 by simp [Nd.cells]; omega, List.take_append, List.take_of_length_le (by omega), Nat.add_sub_cancel_left, h]

/-- the root -/
def rootNd : Nd := ⟨1, 1, 0, ByteArray.empty⟩
set_option maxHeartbeats 400000 in
theorem root_any (w : World) : Calls Tryz.prog 142 #[] w fun e w' => e = .returned (.slice (some ⟨w.heap.size, 0, none⟩) 1 1) ∧ w'.ownsRow w.heap.size 40 4 (.slice (some ⟨w.heap.size, 0, none⟩) 1 1) 1 (ncs [rootNd]) ∧ Below w.heap.size w w' := by
  go_enter Tryz.func142, Tryz.ntmps142
  go_wp2
  go_ret
  exact ⟨rfl, ownsRow_of_whole (heap_new w _) rfl (Nat.le_refl _) (by simp [maxLen]), bl1 w _⟩

set_option maxHeartbeats 400000 in
theorem node_any (w : World) (B g c : Nat) (L1 : List Nd) (y : Nd) (h : w.ownsRow B 40 4 (.slice (some ⟨g, 0, none⟩) (L1.length + 1) c) (L1.length + 1) (ncs (L1 ++ [y]))) :
    Calls Tryz.prog 143 #[.slice (some ⟨g, 0, none⟩) (L1.length + 1) c] w fun e w' => e = .returned y.v ∧ Below w.heap.size w w' := by
  obtain ⟨m, hm⟩ : ∃ m, m = L1.length := ⟨_, rfl⟩
  have c1 := nd_at (Rd.own (own_alloc h (.cells #[.int .i64 0, .int .i64 0, .int .i64 0, .string { data := #[] }] 40))) (show (L1 ++ [y])[m]? = some y by rw [hm]; simp)
  have hl := (Rd.own h).len
  unfold maxLen at hl
  rw [← hm] at hl ⊢
  have hm0 : (0 : Int) ≤ (m : Int) := by omega
  have hm1 : (m : Int) < ((m + 1 : Nat) : Int) := by omega
  have hm2 : (m : Int) ≤ 9223372036854775806 := by omega
  have hw1 : IntKind.i64.wrap (((m + 1 : Nat) : Int) - 1) = (m : Int) := by rw [IntWalk.i64_in _ (by omega)]; omega
  clear h hm
  go_enter Tryz.func143, Tryz.ntmps143
  go_wp2
  refine bodyPost_ret (v := y.v) (by simp [results, Tryz.results143, go_sem, Nd.v]) rfl ⟨rfl, ?_⟩
  exact bl1 w _

set_option maxHeartbeats 400000 in
theorem up_any (w : World) (B g c : Nat) (L : List Nd) (h : w.ownsRow B 40 4 (.slice (some ⟨g, 0, none⟩) L.length c) L.length (ncs L)) (hL : 0 < L.length) :
    Calls Tryz.prog 144 #[.slice (some ⟨g, 0, none⟩) L.length c] w fun e w' => e = .returned (.slice (some ⟨g, 0, none⟩) (max 1 (L.length - 1)) c) ∧ w = w' := by
  obtain ⟨n, hn⟩ : ∃ n, n = L.length := ⟨_, rfl⟩
  have hl := (Rd.own h).len
  unfold maxLen at hl
  have hc : L.length ≤ c := by
    rcases h.2 with ⟨hv, _⟩ | ⟨g', cap, cur, hv, _, _, h1, _⟩
    · cases hv
    · simp only [Value.slice.injEq] at hv; obtain ⟨_, _, rfl⟩ := hv; exact h1
  rw [← hn] at hl hL hc ⊢
  clear h hn
  by_cases h1 : n = 1
  · subst h1
    go_enter Tryz.func144, Tryz.ntmps144
    go_wp2
    go_ret
    exact ⟨rfl, rfl⟩
  · obtain ⟨m, rfl⟩ : ∃ m, n = m + 2 := ⟨n - 2, by omega⟩
    have hw1 : IntKind.i64.wrap (((m + 2 : Nat) : Int) - 1) = ((m + 1 : Nat) : Int) := by rw [IntWalk.i64_in _ (by omega)]; omega
    have hm2 : (m : Int) + 1 ≤ 9223372036854775806 := by omega
    have hm0 : (0 : Int) ≤ (m : Int) := by omega
    have hmx : max (1 : Int) ((m : Int) + 1) = (m : Int) + 1 := by omega
    have hc1 : (m : Int) + 1 ≤ (c : Int) := by omega
    have hmn : max 1 (m + 2 - 1) = m + 1 := by omega
    have HMN := hid hmn
    clear hmn h1
    go_enter Tryz.func144, Tryz.ntmps144
    go_wp2
    go_ret
    rw [HMN.out]
    exact ⟨by show Ending.returned (Value.slice _ (max 1 ((m : Int) + 2 - 1)).toNat c) = _; rw [show (max 1 ((m : Int) + 2 - 1)).toNat = m + 1 by omega], rfl⟩

end Go.Proofs.YtbjibkjenleloaaGreatDoor

end

/- What a law's arguments read as: slices and structs opened into lists, with the row's own bound on their weight. -/
section
namespace Go.Proofs.YtbjibkjenleloaaGreatDoor
set_option linter.unusedVariables false
set_option linter.unusedSimpArgs false
open Go.RowKit Go.ChangeShapes Go.WideShapes

section
variable {H : Type} {enc : TypeId × Value → H} {P : Program} {w : World} {base : Nat} {spare : Nat → Bool} {held : Bool}

/-- a datum, read from cells, no part of it beyond the reach -/
def Dat (enc : TypeId × Value → H) (P : Program) (w : World) (base : Nat) (spare : Nat → Bool) (held : Bool) (t : TypeId) (cs : List Value) : Prop :=
  ∃ fuel x, DataW.trod enc P w base spare held fuel t cs = some x ∧ ∀ n ∈ x.1.weights P t, n ≤ reachBytes

theorem weights_all {e : TypeId} {D : Nat → DataW H} {n i : Nat} (hi : i < n) {m : Nat} (hm : m ∈ (D i).weights P e) : m ∈ DataW.weightsAll P e ((List.range n).map D) := by
  induction n with
  | zero => omega
  | succ n ih =>
    have happ : ∀ (a b : List (DataW H)), DataW.weightsAll P e (a ++ b) = DataW.weightsAll P e a ++ DataW.weightsAll P e b := by
      intro a b
      induction a with
      | nil => rfl
      | cons x a ih => simp [DataW.weightsAll, ih]
    rw [List.range_succ, List.map_append, happ, List.mem_append]
    by_cases h : i = n
    · subst h; right; simp [DataW.weightsAll, hm]
    · exact .inl (ih (by omega))

theorem list_of_index {α : Type} {n : Nat} {p : Nat → α → Prop} (h : ∀ i, i < n → ∃ x, p i x) : ∃ l : List α, l.length = n ∧ ∀ i x, l[i]? = some x → p i x := by
  induction n with
  | zero => exact ⟨[], rfl, by simp⟩
  | succ n ih =>
    obtain ⟨l, hl, hp⟩ := ih fun i hi => h i (by omega)
    obtain ⟨x, hx⟩ := h n (by omega)
    refine ⟨l ++ [x], by simp [hl], fun i y hy => ?_⟩
    by_cases hi : i < n
    · rw [List.getElem?_append_left (by omega)] at hy; exact hp i y hy
    · have hin : i = n := by
        have := (List.getElem?_eq_some_iff.1 hy).1; simp at this; omega
      subst hin
      rw [List.getElem?_append_right (by omega)] at hy
      simp [hl] at hy; subst hy; exact hx

theorem flatten_at {α : Type} {sz : Nat} : ∀ {css : List (List α)}, (∀ c ∈ css, c.length = sz) → ∀ {i : Nat} {c : List α}, css[i]? = some c → ∀ {j : Nat} {v : α}, c[j]? = some v → css.flatten[i * sz + j]? = some v
  | [], _, i, c, hi, j, v, hj => by simp at hi
  | c0 :: css, hl, 0, c, hi, j, v, hj => by
    simp at hi; subst hi
    simp only [Nat.zero_mul, Nat.zero_add, List.flatten_cons]
    rw [List.getElem?_append_left (List.getElem?_eq_some_iff.1 hj).1]; exact hj
  | c0 :: css, hl, i + 1, c, hi, j, v, hj => by
    have h0 : c0.length = sz := hl c0 (by simp)
    have := flatten_at (fun c hc => hl c (List.mem_cons_of_mem _ hc)) (by simpa using hi) hj
    rw [List.flatten_cons, List.getElem?_append_right (by rw [h0, Nat.add_mul]; omega)]
    rw [h0, show (i + 1) * sz + j - sz = i * sz + j by rw [Nat.add_mul]; omega]
    exact this

theorem at_flatten {α : Type} {sz : Nat} (hsz : 0 < sz) : ∀ {css : List (List α)}, (∀ c ∈ css, c.length = sz) → ∀ {k : Nat} {v : α}, css.flatten[k]? = some v → ∃ i j c, k = i * sz + j ∧ css[i]? = some c ∧ c[j]? = some v
  | [], _, k, v, h => by simp at h
  | c0 :: css, hl, k, v, h => by
    have h0 : c0.length = sz := hl c0 (by simp)
    by_cases hk : k < sz
    · rw [List.flatten_cons, List.getElem?_append_left (by omega)] at h
      exact ⟨0, k, c0, by omega, rfl, h⟩
    · rw [List.flatten_cons, List.getElem?_append_right (by omega)] at h
      obtain ⟨i, j, c, hk', hc, hj⟩ := at_flatten hsz (fun c hc => hl c (List.mem_cons_of_mem _ hc)) h
      exact ⟨i + 1, j, c, by rw [Nat.add_mul]; omega, by simpa using hc, hj⟩

/-- A SLICE: its elements' cells, each a datum of its own. -/
theorem Dat.slice {t e : TypeId} {sz by_ : Nat} {a : Option Addr} {len cap : Nat} (ht : P.underlying t = some (.slice e)) (hsz : P.cellsOf e = sz) (hpos : 0 < sz) (hby : P.bytesOf e = by_) (h : Dat enc P w base spare held t [.slice a len cap]) :
    ∃ css : List (List Value), css.length = len ∧ (∀ c ∈ css, c.length = sz) ∧ Rd w (.slice a len cap) len css.flatten ∧ len * by_ ≤ reachBytes ∧ ∀ c ∈ css, Dat enc P w base spare held e c := by
  obtain ⟨fuel, x, hx, hwt⟩ := h
  rcases Go.Deep.open_slice ht hx with ⟨hcs, _⟩ | ⟨ad, len', cap', m, n, D, Pl, hcs, hb, hl, hm, hme, rfl, hel⟩
  · simp only [List.cons.injEq, Value.slice.injEq, and_true] at hcs
    obtain ⟨rfl, rfl, rfl⟩ := hcs
    exact ⟨[], rfl, by simp, .inl ⟨rfl, rfl, rfl⟩, by simp, by simp⟩
  · simp only [List.cons.injEq, Value.slice.injEq, and_true] at hcs
    obtain ⟨rfl, rfl, rfl⟩ := hcs
    have hlm : len ≤ m := by rw [hme]; split <;> omega
    obtain ⟨css, hlen, hcss⟩ := list_of_index (n := len) (p := fun i c => w.cells? base (ad.add (i * P.cellsOf e)) (P.cellsOf e) = some c ∧ DataW.trod enc P w base spare held n e c = some (D i, Pl i)) fun i hi => hel i (by omega)
    have hc1 : ∀ c ∈ css, c.length = sz := fun c hc => by
      obtain ⟨i, hi⟩ := List.mem_iff_getElem?.1 hc
      rw [← hsz]; exact (World.cells?_some (hcss i c hi).1).2.1
    refine ⟨css, hlen, hc1, .inr ⟨ad, cap, rfl, hl, hm, fun k v hk => ?_⟩, ?_, fun c hc => ?_⟩
    · obtain ⟨i, j, c, rfl, hc, hj⟩ := at_flatten hpos hc1 hk
      have h1 := World.cells?_some (hcss i c hc).1
      have h2 := h1.2.2 j (by have := (List.getElem?_eq_some_iff.1 hj).1; have := hc1 c (List.mem_of_getElem? hc); omega)
      rw [hsz, Addr.add_add] at h2
      rw [h2]; exact hj
    · have := hwt ((((List.range len).map D).length + ((List.range (m - len)).map fun j => D (len + j)).length) * P.bytesOf e) (by simp [DataW.weights, ht])
      rw [hby] at this
      refine Nat.le_trans ?_ this
      refine Nat.mul_le_mul_right _ ?_
      simp
    · obtain ⟨i, hi⟩ := List.mem_iff_getElem?.1 hc
      have hil : i < len := by rw [← hlen]; exact (List.getElem?_eq_some_iff.1 hi).1
      refine ⟨n, _, (hcss i c hi).2, fun q hq => hwt q ?_⟩
      simp only [DataW.weights, ht, List.mem_cons, List.mem_append]
      exact .inr (.inl (weights_all hil hq))

theorem Dat.int {t : TypeId} {k : IntKind} {cs : List Value} (ht : P.underlying t = some (.int k)) (h : Dat enc P w base spare held t cs) : ∃ n, cs = [.int k n] ∧ (Lit.int k n).wf = true := by
  obtain ⟨fuel, x, hx, _⟩ := h
  obtain ⟨n, h1, _, h2⟩ := DataW.trod_int ht hx
  exact ⟨n, h1, h2⟩
theorem Dat.bool {t : TypeId} {cs : List Value} (ht : P.underlying t = some .bool) (h : Dat enc P w base spare held t cs) : ∃ b, cs = [.bool b] := by
  obtain ⟨fuel, x, hx, _⟩ := h
  obtain ⟨n, h1, _⟩ := DataW.trod_bool ht hx
  exact ⟨n, h1⟩
theorem Dat.str {t : TypeId} {cs : List Value} (ht : P.underlying t = some .string) (h : Dat enc P w base spare held t cs) : ∃ s : ByteArray, cs = [.string s] ∧ s.size ≤ reachBytes := by
  obtain ⟨fuel, x, hx, hw⟩ := h
  obtain ⟨s, h1, rfl, _⟩ := DataW.trod_string ht hx
  exact ⟨s, h1, by simpa using hw s.data.toList.length (by simp [DataW.weights])⟩

theorem Dat.sl {t e : TypeId} {cs : List Value} (ht : P.underlying t = some (.slice e)) (h : Dat enc P w base spare held t cs) : ∃ a n c, cs = [.slice a n c] := by
  obtain ⟨fuel, x, hx, _⟩ := h
  rcases Go.Deep.open_slice ht hx with ⟨hcs, _⟩ | ⟨ad, len', cap', m, n, D, Pl, hcs, _⟩
  · exact ⟨_, _, _, hcs⟩
  · exact ⟨_, _, _, hcs⟩

/-- A STRUCT: each field's cells, a datum of its own. -/
theorem Dat.field {t : TypeId} {fs : Array Field} {cs : List Value} (ht : P.underlying t = some (.struct fs)) (h : Dat enc P w base spare held t cs) :
    cs.length = P.cellsOf t ∧ ∀ (i : Nat) (f : Field), fs[i]? = some f → Dat enc P w base spare held f.type ((cs.drop f.offset).take (P.cellsOf f.type)) := by
  obtain ⟨fuel, x, hx, hw⟩ := h
  obtain ⟨xs, n, rfl, rfl, hl, hlen, hf⟩ := DataW.trod_struct ht hx
  refine ⟨hl, fun i f hi => ?_⟩
  have hil : i < xs.length := by rw [hlen]; exact (Array.getElem?_eq_some_iff.1 hi).1
  obtain ⟨y, hy⟩ : ∃ y, xs[i]? = some y := ⟨_, List.getElem?_eq_getElem hil⟩
  refine ⟨n, y, (hf i f hi).trans hy, fun m hm => hw m ?_⟩
  simp only [DataW.weights, ht]
  exact DataW.weights_mem_each (j := i) (t := f.type) (d := y.1) (by simp [hi]) (by simp [hy]) m hm

theorem Dat.fields {t : TypeId} {fs : Array Field} {cs : List Value} (tys : List (TypeId × Nat × Nat)) (ht : P.underlying t = some (.struct fs)) (hty : fs.toList.map (fun f => (f.type, f.offset, P.cellsOf f.type)) = tys) (N : Nat) (hN : P.cellsOf t = N) (h : Dat enc P w base spare held t cs) :
    cs.length = N ∧ ∀ (i : Nat) (t' o n : Nat), tys[i]? = some (t', o, n) → Dat enc P w base spare held t' ((cs.drop o).take n) := by
  obtain ⟨hl, hf⟩ := h.field ht
  refine ⟨hl.trans hN, fun i t' o n hi => ?_⟩
  rw [← hty, List.getElem?_map] at hi
  obtain ⟨f, hfi, he⟩ := Option.map_eq_some_iff.1 hi
  simp only [Prod.mk.injEq] at he
  obtain ⟨rfl, rfl, rfl⟩ := he
  exact hf i f (by simpa using hfi)

/-- an argument's reading, and the row's weights -/
theorem Dat.arg {ts : List TypeId} {ds : List (DataW H)} {j : Nat} {t : TypeId} {d : DataW H} {v : Value} {ps : List MemPlace} (hsz : (DataW.weightsEach P ts ds).all (· ≤ reachBytes) = true) (ht : ts[j]? = some t) (hd : ds[j]? = some d)
    (h : DataW.Trod enc P w base spare held t v d ps) : Dat enc P w base spare held t v.cells.toList := by
  obtain ⟨fuel, hf⟩ := h
  exact ⟨fuel, _, hf, fun n hn => by simpa using List.all_eq_true.1 hsz _ (DataW.weights_mem_each ht hd n hn)⟩

/-- a list of cells as the cells of a list -/
theorem list_of_cells {α : Type} {f : α → List Value} {Q : α → Prop} {css : List (List Value)} (h : ∀ c ∈ css, ∃ x, c = f x ∧ Q x) : ∃ S : List α, css = S.map f ∧ ∀ x ∈ S, Q x := by
  induction css with
  | nil => exact ⟨[], rfl, by simp⟩
  | cons c css ih =>
    obtain ⟨S, hS, hQ⟩ := ih fun c hc => h c (by simp [hc])
    obtain ⟨x, hx, hq⟩ := h c (by simp)
    refine ⟨x :: S, by simp [hS, hx], fun y hy => ?_⟩
    rcases List.mem_cons.1 hy with rfl | hy
    · exact hq
    · exact hQ y hy
end
end Go.Proofs.YtbjibkjenleloaaGreatDoor

end

section
namespace Go.Proofs.YtbjibkjenleloaaGreatDoor
set_option linter.unusedVariables false
set_option linter.unusedSimpArgs false
open Go.RowKit
attribute [local go_sem ↓] Go.wp_at_zero Go.wp_at_succ

def nA : ByteArray := { data := #[97] }
def E0 : En := ⟨⟨1, nA⟩, false, ⟨2, 1, 0, ByteArray.empty⟩⟩
theorem e0v : E0.v = .agg #[.int .i64 1, .string { data := #[97] }, .bool false, .int .i64 2, .int .i64 1, .int .i64 0, .string { data := #[] }] := rfl
theorem zev : zeroE.v = .agg #[.int .i64 0, .string { data := #[] }, .bool false, .int .i64 0, .int .i64 0, .int .i64 0, .string { data := #[] }] := rfl
theorem getn : getE E0.key [] = zeroE := by kernel_rfl
theorem findn : (findL E0.key []).isSome = false := by kernel_rfl
theorem cutw0 : cutWh [E0.key] (fun d' => (fun _ => false) d' || (1 : Int) == d') 1 = false := by kernel_rfl
theorem put0 : putL E0 [] = [E0] := by kernel_rfl
theorem find0 : (findL E0.key [E0]).isSome = true := by kernel_rfl
theorem get0 : getE E0.key [E0] = E0 := by kernel_rfl
theorem cut0 : cutE [E0.key] [E0] = [] := by kernel_rfl

def e0c : Obj := .cells #[.int .i64 1, .string { data := #[97] }, .bool false, .int .i64 2, .int .i64 1, .int .i64 0, .string { data := #[] }] 55

end Go.Proofs.YtbjibkjenleloaaGreatDoor

end

section
namespace Go.Proofs.YtbjibkjenleloaaGreatDoor
set_option linter.unusedVariables false
set_option linter.unusedSimpArgs false
open Go.RowKit

/-- a call of a script -/
structure Dop where
  kind : Int
  dir : Int
  e : En
  a : Option Addr
  c : Nat
  ks : List Ky

def Dop.kv (x : Dop) : Value := .slice x.a x.ks.length x.c
def Dop.cells (x : Dop) : List Value := [.int .i64 x.kind, .int .i64 x.dir, .int .i64 x.e.key.dir, .string x.e.key.name, .bool x.e.neg, .int .i64 x.e.node.id, .int .i64 x.e.node.kind, .int .i64 x.e.node.mode, .string x.e.node.target, x.kv]
def dcs (S : List Dop) : List Value := S.flatMap Dop.cells

theorem flatMap_len {α : Type} {f : α → List Value} {sz : Nat} (hf : ∀ x, (f x).length = sz) (S : List α) : (S.flatMap f).length = S.length * sz := by
  induction S with
  | nil => simp
  | cons x S ih => rw [List.flatMap_cons, List.length_append, ih, hf, List.length_cons, Nat.add_mul]; omega
theorem flatMap_at {α : Type} {f : α → List Value} {sz : Nat} (hf : ∀ x, (f x).length = sz) {S : List α} {k : Nat} {x : α} (h : S[k]? = some x) {j : Nat} {v : Value} (hj : (f x)[j]? = some v) : (S.flatMap f)[k * sz + j]? = some v := by
  rw [List.flatMap_def]
  exact flatten_at (fun c hc => by obtain ⟨y, _, rfl⟩ := List.mem_map.1 hc; exact hf y) (by rw [List.getElem?_map, h]; rfl) hj
theorem dcs_len (S : List Dop) : (dcs S).length = S.length * 10 := flatMap_len (f := Dop.cells) (sz := 10) (fun _ => rfl) S
theorem dcs_one (S : List Dop) : ∀ u ∈ dcs S, u.oneCell' = true := by
  intro u hu
  simp only [dcs, List.mem_flatMap, Dop.cells] at hu
  obtain ⟨x, _, hx⟩ := hu
  simp at hx
  rcases hx with rfl | rfl | rfl | rfl | rfl | rfl | rfl | rfl | rfl | rfl <;> rfl

/-- a script in memory -/
structure ScrD (w : World) (v : Value) (S : List Dop) : Prop where
  row : Rd w v S.length (dcs S)
  each : ∀ x ∈ S, Rd w x.kv x.ks.length (kyc x.ks)

theorem ScrD.loc {w : World} {sa : Option Addr} {sc : Nat} {S : List Dop} (h : ScrD w (.slice sa S.length sc) S) (hS : 0 < S.length) : ∃ b off, sa = some ⟨b, off, none⟩ := by
  obtain ⟨b, off, cap, hv, _⟩ := h.row.form (by rw [dcs_len]; omega)
  simp only [Value.slice.injEq] at hv
  exact ⟨b, off, hv.1⟩

theorem Rd.cellB {w wr : World} {b off n c m : Nat} {cs : List Value} (h : Rd w (.slice (some ⟨b, off, none⟩) n c) m cs) (hb : Below w.heap.size w wr) {i : Nat} {v : Value} (hi : cs[i]? = some v) : wr.cell? ⟨b, off + i, none⟩ = some v :=
  below_cell hb (Nat.le_refl _) (h.at _ _ hi)

theorem scrD_at {w wr : World} {b off sc : Nat} {S : List Dop} (h : ScrD w (.slice (some ⟨b, off, none⟩) S.length sc) S) (hb : Below w.heap.size w wr) {k : Nat} {x : Dop} (hx : S[k]? = some x) :
    wr.cell? ⟨b, off + k * 10, none⟩ = some (.int .i64 x.kind) ∧ wr.cell? ⟨b, off + k * 10 + 1, none⟩ = some (.int .i64 x.dir) ∧ wr.cell? ⟨b, off + k * 10 + 2, none⟩ = some (.int .i64 x.e.key.dir) ∧ wr.cell? ⟨b, off + k * 10 + 3, none⟩ = some (.string x.e.key.name) ∧ wr.cell? ⟨b, off + k * 10 + 4, none⟩ = some (.bool x.e.neg) ∧
    wr.cell? ⟨b, off + k * 10 + 5, none⟩ = some (.int .i64 x.e.node.id) ∧ wr.cell? ⟨b, off + k * 10 + 6, none⟩ = some (.int .i64 x.e.node.kind) ∧ wr.cell? ⟨b, off + k * 10 + 7, none⟩ = some (.int .i64 x.e.node.mode) ∧ wr.cell? ⟨b, off + k * 10 + 8, none⟩ = some (.string x.e.node.target) ∧ wr.cell? ⟨b, off + k * 10 + 9, none⟩ = some (.slice x.a x.ks.length x.c) := by
  have g : ∀ (j : Nat) (v : Value), x.cells[j]? = some v → wr.cell? ⟨b, off + k * 10 + j, none⟩ = some v := fun j v hj => by
    rw [Nat.add_assoc]; exact h.row.cellB hb (flatMap_at (f := Dop.cells) (sz := 10) (fun _ => rfl) hx hj)
  exact ⟨g 0 _ rfl, g 1 _ rfl, g 2 _ rfl, g 3 _ rfl, g 4 _ rfl, g 5 _ rfl, g 6 _ rfl, g 7 _ rfl, g 8 _ rfl, g 9 _ rfl⟩

/-- key k of a call of a script -/
theorem ks_at {w wr : World} {b off n c m : Nat} {ks : List Ky} (h : Rd w (.slice (some ⟨b, off, none⟩) n c) m (kyc ks)) (hb : Below w.heap.size w wr) {k : Nat} {x : Ky} (hx : ks[k]? = some x) :
    wr.cell? ⟨b, off + k * 2, none⟩ = some (.int .i64 x.dir) ∧ wr.cell? ⟨b, off + k * 2 + 1, none⟩ = some (.string x.name) := by
  have h2 := kyc_at hx
  exact ⟨h.cellB hb h2.1, by rw [Nat.add_assoc]; exact h.cellB hb h2.2⟩
theorem ks_loc {w : World} {sa : Option Addr} {n c : Nat} {ks : List Ky} (h : Rd w (.slice sa n c) n (kyc ks)) (hS : 0 < ks.length) : ∃ b off, sa = some ⟨b, off, none⟩ := by
  obtain ⟨b, off, cap, hv, _⟩ := h.form (by rw [kyc_len]; omega)
  simp only [Value.slice.injEq] at hv
  exact ⟨b, off, hv.1⟩

section
variable {H : Type} {enc : TypeId × Value → H} {w : World} {base : Nat} {spare : Nat → Bool} {held : Bool}

theorem key_of {c : List Value} (h : Dat enc Tryz.prog w base spare held 53 c) : ∃ x : Ky, c = x.cells ∧ x.name.size ≤ reachBytes := by
  obtain ⟨hl, hf⟩ := h.fields [(3, 0, 1), (9, 1, 1)] Tryz.underlying53 (by kernel_rfl) 2 (by kernel_rfl)
  match c, hl with
  | [c0, c1], _ =>
    have f0 := hf 0 _ _ _ rfl
    have f1 := hf 1 _ _ _ rfl
    simp only [List.drop_zero, List.drop_succ_cons, List.take_succ_cons, List.take_zero] at f0 f1
    obtain ⟨k, e0, _⟩ := f0.int Tryz.underlying3
    obtain ⟨s, e1, h1⟩ := f1.str Tryz.underlying9
    simp only [List.cons.injEq, and_true] at e0 e1
    subst e0 e1
    exact ⟨⟨k, s⟩, rfl, h1⟩

theorem node_of {c : List Value} (h : Dat enc Tryz.prog w base spare held 40 c) : ∃ x : Nd, c = [.int .i64 x.id, .int .i64 x.kind, .int .i64 x.mode, .string x.target] := by
  obtain ⟨hl, hf⟩ := h.fields [(3, 0, 1), (3, 1, 1), (3, 2, 1), (9, 3, 1)] Tryz.underlying40 (by kernel_rfl) 4 (by kernel_rfl)
  match c, hl with
  | [c0, c1, c2, c3], _ =>
    have f0 := hf 0 _ _ _ rfl
    have f1 := hf 1 _ _ _ rfl
    have f2 := hf 2 _ _ _ rfl
    have f3 := hf 3 _ _ _ rfl
    simp only [List.drop_zero, List.drop_succ_cons, List.take_succ_cons, List.take_zero] at f0 f1 f2 f3
    obtain ⟨k, e0, _⟩ := f0.int Tryz.underlying3
    obtain ⟨k1, e1, _⟩ := f1.int Tryz.underlying3
    obtain ⟨k2, e2, _⟩ := f2.int Tryz.underlying3
    obtain ⟨s, e3, h1⟩ := f3.str Tryz.underlying9
    simp only [List.cons.injEq, and_true] at e0 e1 e2 e3
    subst e0 e1 e2 e3
    exact ⟨⟨k, k1, k2, s⟩, rfl⟩

theorem entry_of {c : List Value} (h : Dat enc Tryz.prog w base spare held 55 c) : ∃ x : En, c = x.cells := by
  obtain ⟨hl, hf⟩ := h.fields [(53, 0, 2), (4, 2, 1), (40, 3, 4)] Tryz.underlying55 (by kernel_rfl) 7 (by kernel_rfl)
  match c, hl with
  | [c0, c1, c2, c3, c4, c5, c6], _ =>
    have f0 := hf 0 _ _ _ rfl
    have f1 := hf 1 _ _ _ rfl
    have f2 := hf 2 _ _ _ rfl
    simp only [List.drop_zero, List.drop_succ_cons, List.take_succ_cons, List.take_zero] at f0 f1 f2
    obtain ⟨k, e0, _⟩ := key_of f0
    obtain ⟨b, e1⟩ := f1.bool Tryz.underlying4
    obtain ⟨n, e2⟩ := node_of f2
    simp only [Ky.cells, List.cons.injEq, and_true] at e0 e1 e2
    obtain ⟨e0, e0'⟩ := e0
    obtain ⟨e2, e3, e4, e5⟩ := e2
    subst e0 e0' e1 e2 e3 e4 e5
    exact ⟨⟨k, b, n⟩, rfl⟩

theorem keys_of {a : Option Addr} {n c : Nat} (h : Dat enc Tryz.prog w base spare held 48 [.slice a n c]) : ∃ ks : List Ky, n = ks.length ∧ Rd w (.slice a n c) ks.length (kyc ks) ∧ ks.length * 24 ≤ 140737488351232 := by
  obtain ⟨css, hl, _, hr, hb, hd⟩ := h.slice (sz := 2) (by_ := 24) Tryz.underlying48 (by kernel_rfl) (by decide) (by kernel_rfl)
  obtain ⟨S, rfl, hS⟩ := list_of_cells (f := Ky.cells) (Q := fun _ => True) fun c hc => by obtain ⟨x, hx, _⟩ := key_of (hd c hc); exact ⟨x, hx, trivial⟩
  rw [List.length_map] at hl
  subst hl
  refine ⟨S, rfl, ?_, by unfold reachBytes at hb; omega⟩
  rw [kyc, List.flatMap_def]; exact hr


end
end Go.Proofs.YtbjibkjenleloaaGreatDoor

end
