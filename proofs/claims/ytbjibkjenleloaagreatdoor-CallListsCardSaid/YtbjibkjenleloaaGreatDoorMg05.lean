/- Parts of a proof about the given program, in build order: WlkH, WlkI, WlkJ, WlkK, WlkL, WlkM, WlkN, LibF. No condition. -/
import Derived.Test.YtbjibkjenleloaaGreatDoorMg04
import Derived.WalkKit
import Derived.WalkLawsBesides
section
namespace Go.Proofs.YtbjibkjenleloaaGreatDoor
set_option linter.unusedVariables false
set_option linter.unusedSimpArgs false
open Go.RowKit
attribute [local go_sem ↓] Go.wp_at_zero Go.wp_at_succ

set_option maxRecDepth 100000 in
set_option maxHeartbeats 8000000 in
theorem pass0b {w : World} {fresh L : List En} {wh : Int → Bool} {follow : Bool} {p : Nat} {fv : Value} {T0 : List ByteArray} {dir0 : Bool} {links0 : Int} {J : Nat → Act → World → Prop} {Q : Exit → Act → World → Prop} {a : Act} {w2 w3 : World} {r o h x gs : Nat} {dir : Bool} {links : Int} {A : List Nd} {y nd : Nd} {er : Int} {ga ca : Nat} {ta : Option Addr} {tc : Nat} {U : List Ky} {ua : Option Addr} {uc : Nat} {k : Ky} {e : En} (hQ : FinQ Q fresh L wh follow w T0 dir0 links0)
    (hF : Fst a r o h x gs p fv follow dir links A ga ca [] ta tc) (HS2 : Hid (SI w w2 r o h x gs p fv A y ga ca [] ta tc U ua uc k e)) (HC : Hid (Chg (fun j => j = o) w2 w3))
    (ho : w3.heap[o]? = some (.cells #[.bool false, .int .i64 0, .string { data := #[] }, .int .i64 er, .int .i64 nd.id, .int .i64 nd.kind, .int .i64 nd.mode, .string nd.target, .slice ua U.length uc] 176 (0, 0)))
    (HW : Hid (Wk fresh L wh follow [] rootNd T0 dir0 links0 [] ⟨false, ky0, er, nd, U⟩)) : (sndN 1 (wRest 0)).wp Tryz.prog (jumpM J Q) a w3 := by
  conv => pattern (sndN 1 (wRest 0)); whnf
  obtain ⟨u, rfl⟩ := hF.open
  have bo := blk9 ho
  have br := blk9 (heap_chg HC.out HS2.out.hr HS2.out.hro)
  have hro := HS2.out.hro
  have hor : o ≠ r := fun e1 => hro e1.symm
  clear ho hF
  go_wp2_with fail
  (try simp only [Exit.inBlock, Exit.then])
  show Q .ret _ _
  refine hQ _ _ r ⟨false, ky0, er, nd, U⟩ ua uc ?_ rfl ?_ ?_ ?_ ?_
  · rfl
  · refine (SI.ret9 HS2.out ?_ (.bool false) (.int .i64 0) (.string ByteArray.empty) (.int .i64 er) (.int .i64 nd.id) (.int .i64 nd.kind) (.int .i64 nd.mode) (.string nd.target) (.slice ua U.length uc)).1; exact HC.out
  · exact HW.out
  · refine (SI.ret9 HS2.out ?_ (.bool false) (.int .i64 0) (.string ByteArray.empty) (.int .i64 er) (.int .i64 nd.id) (.int .i64 nd.kind) (.int .i64 nd.mode) (.string nd.target) (.slice ua U.length uc)).2.1; exact HC.out
  · refine (SI.ret9 HS2.out ?_ (.bool false) (.int .i64 0) (.string ByteArray.empty) (.int .i64 er) (.int .i64 nd.id) (.int .i64 nd.kind) (.int .i64 nd.mode) (.string nd.target) (.slice ua U.length uc)).2.2; exact HC.out
set_option maxRecDepth 100000 in
set_option maxHeartbeats 8000000 in
theorem pass0a {w : World} {fresh L : List En} {wh : Int → Bool} {follow : Bool} {p : Nat} {fv : Value} {T0 : List ByteArray} {dir0 : Bool} {links0 : Int} {J : Nat → Act → World → Prop} {Q : Exit → Act → World → Prop} {a : Act} {w1 : World} (K : Code) (hj : Jst fresh L wh follow w p fv T0 dir0 links0 0 a w1)
    (hK : ∀ (a : Act) (w2 w3 : World) (r o h x gs : Nat) (dir : Bool) (links : Int) (A : List Nd) (y nd : Nd) (er : Int) (ga ca : Nat) (ta : Option Addr) (tc : Nat) (U : List Ky) (ua : Option Addr) (uc : Nat) (k : Ky) (e : En), Fst a r o h x gs p fv follow dir links A ga ca [] ta tc → Hid (SI w w2 r o h x gs p fv A y ga ca [] ta tc U ua uc k e) → Hid (Chg (fun j => j = o) w2 w3) →
      w3.heap[o]? = some (.cells #[.bool false, .int .i64 0, .string { data := #[] }, .int .i64 er, .int .i64 nd.id, .int .i64 nd.kind, .int .i64 nd.mode, .string nd.target, .slice ua U.length uc] 176 (0, 0)) →
      Hid (Wk fresh L wh follow [] rootNd T0 dir0 links0 [] ⟨false, ky0, er, nd, U⟩) → K.wp Tryz.prog (jumpM J Q) a w3) : (cutN 1 (wRest 0) K).wp Tryz.prog (jumpM J Q) a w1 := by
  conv => pattern (cutN 1 (wRest 0) K); whnf
  simp only [cutN]
  have HKK := hid hK
  obtain ⟨r, o, h, x, gs, dir, links, A, y, ga, ca, T, ta, tc, U, ua, uc, k, e, u, rfl, hT0, HI, hl1, hl2, hb1, hb2, hb3, HW⟩ := hj.open
  have hT := hT0 rfl
  subst hT
  clear hj hT0 hK
  go_wp2_with fail
  refine (node_any _ w.heap.size ga ca A y HI.out.row).mono ?_; rintro e w2 ⟨rfl, hb2⟩
  have HS2 := hid (HI.out.alloc hb2)
  have bo := blk9 HS2.out.ho
  unfold Nd.v
  clear hb2
  cases dir with
  | false =>
    go_wp2_with fail
    refine HKK.out _ w2 _ r o h x gs false links A y y 0 ga ca ta tc U ua uc k _ ⟨⟨rfl, rfl⟩, rfl, rfl, rfl, rfl, rfl, rfl, rfl, rfl, rfl, rfl, rfl, rfl⟩ HS2 (hid ?_) ?_ (hid (HW.out _ (.done _ _ _ _ _ (by simp))))
    · iterate 4 refine Chg.set1 ?_ _ _ rfl
      exact Chg.refl _ _
    · have h9 := heap_set (heap_set (heap_set (heap_set HS2.out.ho 4 (.int .i64 y.id)) 5 (.int .i64 y.kind)) 6 (.int .i64 y.mode)) 7 (.string y.target)
      simp only [List.setIfInBounds_toArray, List.set_cons_zero, List.set_cons_succ] at h9
      exact h9
  | true =>
    by_cases hk : y.kind = 1
    · have HK := hid hk
      go_wp2_with fail
      refine HKK.out _ w2 _ r o h x gs true links A y y 0 ga ca ta tc U ua uc k _ ⟨⟨rfl, rfl⟩, rfl, rfl, rfl, rfl, rfl, rfl, rfl, rfl, rfl, rfl, rfl, rfl⟩ HS2 (hid ?_) ?_ (hid (HW.out _ (.done _ _ _ _ _ (by simp [HK.out]))))
      · iterate 4 refine Chg.set1 ?_ _ _ rfl
        exact Chg.refl _ _
      · have h9 := heap_set (heap_set (heap_set (heap_set HS2.out.ho 4 (.int .i64 y.id)) 5 (.int .i64 y.kind)) 6 (.int .i64 y.mode)) 7 (.string y.target)
        simp only [List.setIfInBounds_toArray, List.set_cons_zero, List.set_cons_succ] at h9
        first | exact h9 | (rw [HK.out] at h9; rw [HK.out]; exact h9)
    · have hk1 : (y.kind != 1) = true := by simp [hk]
      have HK := hid hk
      clear hk
      go_wp2_with fail
      refine HKK.out _ w2 _ r o h x gs true links A y nd0 42 ga ca ta tc U ua uc k _ ⟨⟨rfl, rfl⟩, rfl, rfl, rfl, rfl, rfl, rfl, rfl, rfl, rfl, rfl, rfl, rfl⟩ HS2 (hid ?_) ?_ (hid (HW.out _ (.wrong _ _ _ _ _ (by simp [HK.out]))))
      · iterate 9 refine Chg.set1 ?_ _ _ rfl
        exact Chg.refl _ _
      · have h9 := heap_set (heap_set (heap_set (heap_set (heap_set (heap_set (heap_set (heap_set (heap_set HS2.out.ho 4 (.int .i64 y.id)) 5 (.int .i64 y.kind)) 6 (.int .i64 y.mode)) 7 (.string y.target)) 4 (.int .i64 0)) 5 (.int .i64 0)) 6 (.int .i64 0)) 7 (.string { data := #[] })) 3 (.int .i64 42)
        simp only [List.setIfInBounds_toArray, List.set_cons_zero, List.set_cons_succ] at h9
        exact h9
theorem pass0 {w : World} {fresh L : List En} {wh : Int → Bool} {follow : Bool} {p : Nat} {fv : Value} {T0 : List ByteArray} {dir0 : Bool} {links0 : Int} {J : Nat → Act → World → Prop} {Q : Exit → Act → World → Prop} {a : Act} {w1 : World} (hQ : FinQ Q fresh L wh follow w T0 dir0 links0) (hj : Jst fresh L wh follow w p fv T0 dir0 links0 0 a w1) : (wRest 0).wp Tryz.prog (jumpM J Q) a w1 :=
  pass0a (sndN 1 (wRest 0)) hj fun a w2 w3 r o h x gs dir links A y nd er ga ca ta tc U ua uc k e hF HS HC ho HW => pass0b hQ hF HS HC ho HW

end Go.Proofs.YtbjibkjenleloaaGreatDoor

end

section
namespace Go.Proofs.YtbjibkjenleloaaGreatDoor
set_option linter.unusedVariables false
set_option linter.unusedSimpArgs false
open Go.RowKit
attribute [local go_sem ↓] Go.wp_at_zero Go.wp_at_succ

set_option maxRecDepth 100000 in
set_option maxHeartbeats 8000000 in
theorem pass1a {w : World} {fresh L : List En} {wh : Int → Bool} {follow : Bool} {p : Nat} {fv : Value} {T0 : List ByteArray} {dir0 : Bool} {links0 : Int} {J : Nat → Act → World → Prop} {Q : Exit → Act → World → Prop} {a : Act} {w1 : World} {m0 : Nat} (K : Code) (hj : Jst fresh L wh follow w p fv T0 dir0 links0 1 a w1) (hm : m0 = muW 1 a w1) (hQ : FinQ Q fresh L wh follow w T0 dir0 links0) (h0 : ∀ a w2, Jst fresh L wh follow w p fv T0 dir0 links0 0 a w2 → J 0 a w2)
    (hK : ∀ (a : Act) (w2 : World) (r o h x gs : Nat) (dir : Bool) (links : Int) (A : List Nd) (y : Nd) (ga ca : Nat) (s : ByteArray) (T : List ByteArray) (ta : Option Addr) (tc : Nat) (U : List Ky) (ua : Option Addr) (uc : Nat) (k : Ky) (e : En), Fst a r o h x gs p fv follow dir links A ga ca (s :: T) ta tc → Hid (SI w w2 r o h x gs p fv A y ga ca (s :: T) ta tc U ua uc k e) → y.kind = 1 → 0 ≤ links → links ≤ 8 → T.length + 1 + 200 * links.toNat ≤ 10000 → A.length + T.length + 1 + 200 * links.toNat ≤ 10000 → U.length + T.length + 1 + 200 * links.toNat ≤ 10000 → 1 + links.toNat * 100000 + (T.length + 1) ≤ m0 → Hid (∀ z, Wk fresh L wh follow A y (s :: T) dir links U z → Wk fresh L wh follow [] rootNd T0 dir0 links0 [] z) → K.wp Tryz.prog (jumpM J Q) a w2) : (cutN 2 (wRest 1) K).wp Tryz.prog (jumpM J Q) a w1 := by
  conv => pattern (cutN 2 (wRest 1) K); whnf
  simp only [cutN]
  have HKK := hid hK
  have H0 := hid h0
  obtain ⟨r, o, h, x, gs, dir, links, A, y, ga, ca, T, ta, tc, U, ua, uc, k, e, u, rfl, hT0, HI, hl1, hl2, hb1, hb2, hb3, HW⟩ := hj.open
  have hm' : m0 = 1 + links.toNat * 100000 + T.length := hm
  clear hj hT0 hK h0 hm
  cases T with
  | nil =>
    go_wp2_with fail
    refine wp_goto ?_
    refine H0.out _ _ ?_
    exact ⟨.inl rfl, r, o, h, x, gs, dir, links, A, y, ga, ca, [], ta, tc, U, ua, uc, k, e, ⟨rfl, rfl⟩, ⟨rfl, rfl, rfl, rfl, rfl, rfl, rfl, rfl, rfl, rfl, rfl, rfl⟩, (fun _ => rfl), HI, hl1, hl2, hb1, hb2, hb3, HW⟩
  | cons s T =>
    simp only [List.length_cons] at hb1 hb2 hb3 hm' ⊢
    have hz1 : (((T.length + 1 : Nat) : Int) == 0) = false := by simp; omega
    have hz2 : ((T.length : Int) + 1 == 0) = false := by simp; omega
    have HM := hid hm'
    have HB := hid (And.intro hb1 (And.intro hb2 hb3))
    clear hm' hb1 hb2 hb3
    go_wp2_with fail
    refine (node_any _ w.heap.size ga ca A y HI.out.row).mono ?_; rintro e w2 ⟨rfl, hb2⟩
    have HS2 := hid (HI.out.alloc hb2)
    have bo := blk9 HS2.out.ho
    have br := blk9 HS2.out.hr
    have hro := HS2.out.hro
    have hf1 : ∀ w : World, (Instr.field 40 (.agg #[.int .i64 y.id, .int .i64 y.kind, .int .i64 y.mode, .string y.target]) 1).run Tryz.prog w = .ok (.int .i64 y.kind) w := fun _ => by kernel_rfl
    have hor : o ≠ r := fun e1 => hro e1.symm
    unfold Nd.v
    clear hb2
    by_cases hk : y.kind = 1
    · have hk1 : (y.kind != 1) = false := by simp [hk]
      have HK := hid hk
      clear hk
      go_wp2_with fail
      refine HKK.out _ w2 r o h x gs dir links A y ga ca s T ta tc U ua uc k _ ?_ HS2 HK.out hl1 hl2 (by have := HB.out; omega) (by have := HB.out; omega) (by have := HB.out; omega) (by have := HM.out; omega) HW
      exact ⟨⟨rfl, rfl⟩, rfl, rfl, rfl, rfl, rfl, rfl, rfl, rfl, rfl, rfl, rfl, rfl⟩
    · have hk1 : (y.kind != 1) = true := by simp [hk]
      have HK := hid hk
      clear hk
      go_wp2_with fail
      (try simp only [Exit.inBlock, Exit.then])
      show Q .ret _ _
      refine hQ _ _ r ⟨false, ky0, 42, nd0, U⟩ ua uc ?_ rfl ?_ ?_ ?_ ?_
      · rfl
      · refine (SI.ret9 HS2.out ?_ (.bool false) (.int .i64 0) (.string ByteArray.empty) (.int .i64 42) (.int .i64 0) (.int .i64 0) (.int .i64 0) (.string ByteArray.empty) (.slice ua U.length uc)).1; (iterate 1 refine Chg.set1 ?_ _ _ rfl); exact Chg.refl _ _
      · exact HW.out _ (.notdir _ _ _ _ _ _ _ HK.out)
      · refine (SI.ret9 HS2.out ?_ (.bool false) (.int .i64 0) (.string ByteArray.empty) (.int .i64 42) (.int .i64 0) (.int .i64 0) (.int .i64 0) (.string ByteArray.empty) (.slice ua U.length uc)).2.1; (iterate 1 refine Chg.set1 ?_ _ _ rfl); exact Chg.refl _ _
      · refine (SI.ret9 HS2.out ?_ (.bool false) (.int .i64 0) (.string ByteArray.empty) (.int .i64 42) (.int .i64 0) (.int .i64 0) (.int .i64 0) (.string ByteArray.empty) (.slice ua U.length uc)).2.2; (iterate 1 refine Chg.set1 ?_ _ _ rfl); exact Chg.refl _ _
end Go.Proofs.YtbjibkjenleloaaGreatDoor

end

section
namespace Go.Proofs.YtbjibkjenleloaaGreatDoor
set_option linter.unusedVariables false
set_option linter.unusedSimpArgs false
open Go.RowKit
attribute [local go_sem ↓] Go.wp_at_zero Go.wp_at_succ

theorem SI.drew {w w' : World} {r o h x gs p : Nat} {fv : Value} {A : List Nd} {y : Nd} {ga ca : Nat} {T : List ByteArray} {ta : Option Addr} {tc : Nat} {U : List Ky} {ua : Option Addr} {uc : Nat} {k : Ky} {e : En} (s : SI w w' r o h x gs p fv A y ga ca T ta tc U ua uc k e) : SI w w'.drew r o h x gs p fv A y ga ca T ta tc U ua uc k e :=
  ⟨s.below.drew, s.hr, s.ho, s.hh, s.hx, s.src, s.srct, s.row, s.used, s.usedh, s.todo, s.todot, s.hro, s.lo⟩
theorem rd_first {w : World} {b o n c : Nat} {x : Value} {cs : List Value} (h : Rd w (.slice (some ⟨b, o, none⟩) n c) n (x :: cs)) : w.cell? ⟨b, o, none⟩ = some x := by
  obtain ⟨b', o', cap, hv, _, _, _, h3⟩ := h.form (by simp)
  simp only [Value.slice.injEq, Option.some.injEq, Addr.mk.injEq] at hv
  obtain ⟨⟨rfl, rfl, _⟩, _, rfl⟩ := hv
  exact h3 0 x rfl
theorem run_slice_from (t e sz : TypeId) (a : Option Addr) (len cap l : Nat) (ht : Tryz.prog.underlying t = some (.slice e)) (hs : ∀ w, (sizeOf e).run Tryz.prog w = .ok sz w) (hl : l ≤ len) (w : World) :
    (Instr.slice t (.slice a len cap) (some (.int .i64 (l : Int))) none none).run Tryz.prog w = .ok (.slice (if cap = l then a else a.map (·.add (l * sz))) (len - l) (cap - l)) w := by
  have h0 : (0 : Int) ≤ (l : Int) := by omega
  have h1 : (l : Int) ≤ (len : Int) := by omega
  have hb := run_sliceBound (P := Tryz.prog) w .i64 (l : Int) len .sliceB h0 h1
  simp [Instr.slice, run_underlying ht, Instr.sliceBounds, hs, hb]
theorem up_at (w : World) (B g c : Nat) (A : List Nd) (y : Nd) (h : w.ownsRow B 40 4 (.slice (some ⟨g, 0, none⟩) (A.length + 1) c) (A.length + 1) (ncs (A ++ [y]))) :
    Calls Tryz.prog 144 #[.slice (some ⟨g, 0, none⟩) (A.length + 1) c] w fun e w' => ∃ A' y', e = .returned (.slice (some ⟨g, 0, none⟩) (A'.length + 1) c) ∧ w = w' ∧ w.ownsRow B 40 4 (.slice (some ⟨g, 0, none⟩) (A'.length + 1) c) (A'.length + 1) (ncs (A' ++ [y'])) ∧ A'.length ≤ A.length ∧ (A = [] ∧ A' = [] ∧ y' = y ∨ A = A' ++ [y']) := by
  have hl : (A ++ [y]).length = A.length + 1 := by simp
  have h2 := up_any w B g c (A ++ [y]) (by rw [hl]; exact h) (by simp)
  rw [hl] at h2
  refine h2.mono ?_; rintro e w' ⟨rfl, rfl⟩
  rcases List.eq_nil_or_concat A with rfl | ⟨A', z, rfl⟩
  · exact ⟨[], y, rfl, rfl, h, by simp, .inl ⟨rfl, rfl, rfl⟩⟩
  · rw [List.concat_eq_append] at h ⊢
    have hm : max 1 ((A' ++ [z]).length + 1 - 1) = A'.length + 1 := by simp
    refine ⟨A', z, by rw [hm], rfl, ?_, by simp, .inr rfl⟩
    have h3 := row_prefix h (m := A'.length + 1) (by simp)
    rw [ncs_take] at h3
    have h4 : (A' ++ [z] ++ [y]).take (A'.length + 1) = A' ++ [z] := by
      rw [show A'.length + 1 = (A' ++ [z]).length by simp]; exact List.take_left
    rw [h4] at h3
    exact h3

set_option maxRecDepth 100000 in
set_option maxHeartbeats 8000000 in
theorem pass1b {w : World} {fresh L : List En} {wh : Int → Bool} {follow : Bool} {p : Nat} {fv : Value} {T0 : List ByteArray} {dir0 : Bool} {links0 : Int} {J : Nat → Act → World → Prop} {Q : Exit → Act → World → Prop} {a : Act} {w1 : World} {r o h x gs : Nat} {dir : Bool} {links : Int} {A : List Nd} {y : Nd} {ga ca : Nat} {s : ByteArray} {T : List ByteArray} {ta : Option Addr} {tc : Nat} {U : List Ky} {ua : Option Addr} {uc : Nat} {k : Ky} {e : En} {m0 : Nat} (K : Code)
    (hF : Fst a r o h x gs p fv follow dir links A ga ca (s :: T) ta tc) (HI : Hid (SI w w1 r o h x gs p fv A y ga ca (s :: T) ta tc U ua uc k e)) (hl1 : 0 ≤ links) (hl2 : links ≤ 8) (hb1 : T.length + 1 + 200 * links.toNat ≤ 10000) (hb2 : A.length + T.length + 1 + 200 * links.toNat ≤ 10000) (hb3 : U.length + T.length + 1 + 200 * links.toNat ≤ 10000) (hm : 1 + links.toNat * 100000 + (T.length + 1) ≤ m0) (HW : Hid (∀ z, Wk fresh L wh follow A y (s :: T) dir links U z → Wk fresh L wh follow [] rootNd T0 dir0 links0 [] z)) (hk : y.kind = 1) (h1 : ∀ a w2, Jst fresh L wh follow w p fv T0 dir0 links0 1 a w2 → muW 1 a w2 < m0 → J 1 a w2)
    (hK : ∀ (a : Act) (w2 : World) (ta : Option Addr) (tc : Nat), Fst a r o h x gs p fv follow dir links A ga ca T ta tc → Hid (SI w w2 r o h x gs p fv A y ga ca T ta tc U ua uc ⟨y.id, s⟩ e) → dotT s = false → dot2T s = false → K.wp Tryz.prog (jumpM J Q) a w2) : (cutN 3 (sndN 2 (wRest 1)) K).wp Tryz.prog (jumpM J Q) a w1 := by
  conv => pattern (sndN 2 (wRest 1)); whnf
  simp only [cutN]
  have HKK := hid hK
  have HH1 := hid h1
  have HM := hid hm
  have HB := hid (And.intro hb1 (And.intro hb2 hb3))
  have HYK := hid hk
  obtain ⟨u, rfl⟩ := hF.open
  clear hF hK h1 hm hb1 hb2 hb3 hk
  obtain ⟨tb, tq, cap, hv, h1, h2, _, h3⟩ := HI.out.todo.form (by simp [srow])
  simp only [Value.slice.injEq] at hv
  obtain ⟨rfl, _, rfl⟩ := hv
  have KR : w1.cell? ⟨tb, tq, none⟩ = some (.string s) := by simpa using h3 0 (.string s) (by simp [srow])
  have KRd : w1.drew.cell? ⟨tb, tq, none⟩ = some (.string s) := KR
  have hz : ((0 : Int) < (T.length : Int) + 1) := by omega
  simp only [List.length_cons] at h1 ⊢
  have HC1 := hid h1
  clear h1 h2 h3
  have hf0 : ∀ w : World, (Instr.field 40 (.agg #[.int .i64 y.id, .int .i64 y.kind, .int .i64 y.mode, .string y.target]) 0).run Tryz.prog w = .ok (.int .i64 y.id) w := fun _ => by kernel_rfl
  obtain ⟨tn, htn⟩ : ∃ tn, tn = (if tc = 1 then some (⟨tb, tq, none⟩ : Addr) else (some (⟨tb, tq, none⟩ : Addr)).map (·.add 1)) := ⟨_, rfl⟩
  have hsl : ∀ w : World, (Instr.slice 41 (.slice (some ⟨tb, tq, none⟩) (T.length + 1) tc) (some (.int .i64 1)) none none).run Tryz.prog w = .ok (.slice tn T.length (tc - 1)) w := fun w => by
    rw [htn]
    exact run_slice_from 41 9 1 (some ⟨tb, tq, none⟩) (T.length + 1) tc 1 Tryz.underlying41 (fun w => Tryz.sizeOf9 w) (by omega) w
  have HTN := hid htn
  clear htn
  go_wp2_with fail
  go_region_held3 (fun w' => w'.cell? ⟨tb, tq, none⟩ = some (.string s))
    (first | with_reducible exact KR | with_reducible exact KRd | with_reducible exact K2 | with_reducible exact K3)
    (first | (go_at_call 143; refine (node_any _ w.heap.size ga ca A y (own_drew HI.out.row)).mono ?_; rintro e2 w2 ⟨rfl, hb2⟩; simp only [Nd.v]; (have HS2 := hid (HI.out.drew.alloc hb2)); (have K2 : w2.cell? ⟨tb, tq, none⟩ = some (.string s) := rd_first HS2.out.todo); (have HS3 := hid (HS2.out.seth ⟨y.id, s⟩)); (have K3 := rd_first HS3.out.todo); (have bh := blk2 HS2.out.hh); clear hb2))
  all_goals
    have HS4 := hid (show SI w _ r o h x gs p fv A y ga ca T tn (tc - 1) U ua uc ⟨y.id, s⟩ e from (by
      rw [HTN.out]
      exact HS3.out.todos (rd_srow_from HS3.out.todo) (TyB.from HS3.out.todot)))
    clear KR KRd K2 K3
    cases hd : dot2T s with
    | true =>
      have HD := hid hd
      have h2 : (s.toList == [46, 46]) = true := hd
      clear hd
      go_wp2_with fail
      refine (up_at _ w.heap.size ga ca A y HS4.out.row).mono ?_; rintro e3 w4 ⟨A', y', rfl, rfl, hrow, hle, hor⟩
      have HRW := hid hrow
      have HOR := hid hor
      have HLE := hid hle
      clear hrow hor hle
      go_wp2_with fail
      refine wp_goto ?_
      refine HH1.out _ _ ?_ ?_
      · exact ⟨.inr rfl, r, o, h, x, gs, dir, links, A', y', ga, ca, T, tn, tc - 1, U, ua, uc, ⟨y.id, s⟩, e, ⟨rfl, rfl⟩, ⟨rfl, rfl, rfl, rfl, rfl, rfl, rfl, rfl, rfl, rfl, rfl, rfl⟩, (fun h => absurd h (by decide)), hid (HS4.out.place HRW.out), hl1, hl2, by have := HB.out; omega, by have := HB.out; have := HLE.out; omega, by have := HB.out; omega, hid (fun z hz => HW.out z (by
          rcases HOR.out with ⟨rfl, rfl, rfl⟩ | rfl
          · exact .upRoot _ _ _ _ _ _ _ HYK.out HD.out hz
          · exact .up _ _ _ _ _ _ _ _ _ HYK.out HD.out hz))⟩
      · show 1 + links.toNat * 100000 + T.length < m0
        have := HM.out; omega
    | false =>
      have HD := hid hd
      have h2 : (s.toList == [46, 46]) = false := hd
      clear hd
      cases hd1 : dotT s with
      | true =>
        have HD1 := hid hd1
        have h3 : (s.toList == [46]) = true := hd1
        clear hd1
        go_wp2_with fail
        refine wp_goto ?_
        refine HH1.out _ _ ?_ ?_
        · exact ⟨.inr rfl, r, o, h, x, gs, dir, links, A, y, ga, ca, T, tn, tc - 1, U, ua, uc, ⟨y.id, s⟩, e, ⟨rfl, rfl⟩, ⟨rfl, rfl, rfl, rfl, rfl, rfl, rfl, rfl, rfl, rfl, rfl, rfl⟩, (fun h => absurd h (by decide)), HS4, hl1, hl2, by have := HB.out; omega, by have := HB.out; omega, by have := HB.out; omega, hid (fun z hz => HW.out z (.dot _ _ _ _ _ _ _ _ HYK.out HD1.out hz))⟩
        · show 1 + links.toNat * 100000 + T.length < m0
          have := HM.out; omega
      | false =>
        have HD1 := hid hd1
        have h3 : (s.toList == [46]) = false := hd1
        clear hd1
        go_wp2_with fail
        refine HKK.out _ _ tn (tc - 1) ?_ HS4 HD1.out HD.out
        exact ⟨⟨rfl, rfl⟩, rfl, rfl, rfl, rfl, rfl, rfl, rfl, rfl, rfl, rfl, rfl, rfl⟩

end Go.Proofs.YtbjibkjenleloaaGreatDoor

end

section
namespace Go.Proofs.YtbjibkjenleloaaGreatDoor
set_option linter.unusedVariables false
set_option linter.unusedSimpArgs false
open Go.RowKit
attribute [local go_sem ↓] Go.wp_at_zero Go.wp_at_succ

theorem gen_w {P S : World → Prop} (w : World) (hs : S w) (h : ∀ w, S w → P w) : P w := h w hs
set_option maxRecDepth 100000 in
set_option maxHeartbeats 8000000 in
theorem pass1c {w : World} {fresh L : List En} {wh : Int → Bool} {follow : Bool} {p : Nat} {fv : Value} {T0 : List ByteArray} {dir0 : Bool} {links0 : Int} {J : Nat → Act → World → Prop} {Q : Exit → Act → World → Prop} {a : Act} {w1 : World} {r o h x gs : Nat} {dir : Bool} {links : Int} {A : List Nd} {y : Nd} {ga ca : Nat} {s : ByteArray} {T : List ByteArray} {ta : Option Addr} {tc : Nat} {U : List Ky} {ua : Option Addr} {uc : Nat} {e : En} {B n : Nat} (K : Code) (hc : CAt w B p n L wh) (hf : Rd w fv fresh.length (ecs fresh)) (hQ : FinQ Q fresh L wh follow w T0 dir0 links0)
    (hF : Fst a r o h x gs p fv follow dir links A ga ca T ta tc) (HI : Hid (SI w w1 r o h x gs p fv A y ga ca T ta tc U ua uc ⟨y.id, s⟩ e)) (HW : Hid (∀ z, Wk fresh L wh follow A y (s :: T) dir links U z → Wk fresh L wh follow [] rootNd T0 dir0 links0 [] z)) (hk : y.kind = 1) (hd1 : dotT s = false) (hd2 : dot2T s = false)
    (hK : ∀ (a : Act) (w2 : World) (x' : En), knW fresh L wh ⟨y.id, s⟩ = some x' → Fst a r o h x gs p fv follow dir links A ga ca T ta tc → Hid (SI w w2 r o h x gs p fv A y ga ca T ta tc U ua uc ⟨y.id, s⟩ x') → K.wp Tryz.prog (jumpM J Q) a w2) : (cutN 1 (sndN 5 (wRest 1)) K).wp Tryz.prog (jumpM J Q) a w1 := by
  conv => pattern (sndN 5 (wRest 1)); whnf
  simp only [cutN]
  have HKK := hid hK
  have HD := hid (And.intro hk (And.intro hd1 hd2))
  obtain ⟨u, rfl⟩ := hF.open
  have hkc := known_any w1 B p n L fresh wh ⟨y.id, s⟩ gs fv (hc.below HI.out.below) HI.out.src (hf.below HI.out.below)
  have bh := blk2 HI.out.hh
  cases hkn : knW fresh L wh ⟨y.id, s⟩ with
  | none =>
    rw [hkn] at hkc
    simp only [Option.getD_none, Option.isSome_none, En.v, zeroE] at hkc
    have HKN := hid hkc
    have HKE := hid hkn
    clear hF hK hk hd1 hd2 hkc hkn hc hf
    refine wp_seq_k fun K0 hK0 => ?_
    refine wp_seq_k fun K1 hK1 => ?_
    have HK0 := hid hK0
    have HK1 := hid hK1
    clear hK0 hK1
    go_wp2_with fail
    refine HKN.out.mono ?_; rintro e2 w2 ⟨rfl, hb2⟩
    have HS2 := hid (HI.out.alloc hb2)
    have bx := blk7 HS2.out.hx
    clear hb2 bh
    go_wp2_with fail
    (try simp only [Exit.then])
    refine HK1.out _ _ ?_
    refine gen_w (P := fun w' => Code.wp _ _ _ _ w') (S := fun w3 => SI w w3 r o h x gs p fv A y ga ca T ta tc U ua uc ⟨y.id, s⟩ zeroE) _ (HS2.out.setx zeroE) ?_
    intro w3 hs3
    have HS3 := hid hs3
    clear hs3 HS2 bx HKK HK0 HK1 HKN
    have bo := blk9 HS3.out.ho
    have br := blk9 HS3.out.hr
    have bh := blk2 HS3.out.hh
    have hro := HS3.out.hro
    have hor : o ≠ r := fun e1 => hro e1.symm
    have hoh := heap_ty HS3.out.ho HS3.out.hh (by decide)
    have hho : h ≠ o := fun e1 => hoh e1.symm
    go_wp2_with fail
    go_region
    refine gen_w (P := fun w' => Exit.then _ _ _ _ w') (S := fun w4 => Chg (fun j => j = o) w3 w4 ∧ w4.heap[o]? = some (.cells #[.bool true, .int .i64 y.id, .string s, .int .i64 0, .int .i64 0, .int .i64 0, .int .i64 0, .string { data := #[] }, .slice ua U.length uc] 176 (0, 0))) _ ⟨?_, ?_⟩ ?_
    · show Chg _ w3 (((w3.setCell ⟨o, 0, none⟩ (.bool true)).setCell ⟨o, 1, none⟩ (.int .i64 y.id)).setCell ⟨o, 2, none⟩ (.string s)).drew
      refine Chg.drew ?_
      iterate 3 refine Chg.set1 ?_ _ _ rfl
      exact Chg.refl _ _
    · show (((w3.setCell ⟨o, 0, none⟩ (.bool true)).setCell ⟨o, 1, none⟩ (.int .i64 y.id)).setCell ⟨o, 2, none⟩ (.string s)).heap[o]? = _
      have h9 := heap_set (heap_set (heap_set HS3.out.ho 0 (.bool true)) 1 (.int .i64 y.id)) 2 (.string s)
      simp only [List.setIfInBounds_toArray, List.set_cons_zero, List.set_cons_succ] at h9
      exact h9
    rintro w4 ⟨hc4, ho4⟩
    have HC4 := hid hc4
    clear bo br bh hc4
    have bo := blk9 ho4
    have br := blk9 (heap_chg HC4.out HS3.out.hr HS3.out.hro)
    clear ho4
    go_wp2_with fail
    (try simp only [Exit.inBlock, Exit.then])
    show Q .ret _ _
    refine hQ _ _ r ⟨true, ⟨y.id, s⟩, 0, nd0, U⟩ ua uc ?_ rfl ?_ ?_ ?_ ?_
    · rfl
    · refine (SI.ret9 HS3.out ?_ (.bool true) (.int .i64 y.id) (.string s) (.int .i64 0) (.int .i64 0) (.int .i64 0) (.int .i64 0) (.string ByteArray.empty) (.slice ua U.length uc)).1; exact HC4.out
    · exact HW.out _ (.need _ _ _ _ _ _ _ HD.out.1 HD.out.2.1 HD.out.2.2 HKE.out)
    · refine (SI.ret9 HS3.out ?_ (.bool true) (.int .i64 y.id) (.string s) (.int .i64 0) (.int .i64 0) (.int .i64 0) (.int .i64 0) (.string ByteArray.empty) (.slice ua U.length uc)).2.1; exact HC4.out
    · refine (SI.ret9 HS3.out ?_ (.bool true) (.int .i64 y.id) (.string s) (.int .i64 0) (.int .i64 0) (.int .i64 0) (.int .i64 0) (.string ByteArray.empty) (.slice ua U.length uc)).2.2; exact HC4.out
  | some x' =>
    rw [hkn] at hkc
    simp only [Option.getD_some, Option.isSome_some, En.v] at hkc
    have HKN := hid hkc
    have HKE := hid hkn
    clear hF hK hk hd1 hd2 hkc hkn hc hf
    go_wp2_with fail
    refine HKN.out.mono ?_; rintro e2 w2 ⟨rfl, hb2⟩
    have HS2 := hid (HI.out.alloc hb2)
    have bx := blk7 HS2.out.hx
    clear hb2 bh
    go_wp2_with fail
    refine HKK.out _ _ x' HKE.out ?_ (hid (HS2.out.setx x'))
    exact ⟨⟨rfl, rfl⟩, rfl, rfl, rfl, rfl, rfl, rfl, rfl, rfl, rfl, rfl, rfl, rfl⟩

end Go.Proofs.YtbjibkjenleloaaGreatDoor

end

section
namespace Go.Proofs.YtbjibkjenleloaaGreatDoor
set_option linter.unusedVariables false
set_option linter.unusedSimpArgs false
open Go.RowKit
attribute [local go_sem ↓] Go.wp_at_zero Go.wp_at_succ

set_option maxRecDepth 100000 in
set_option maxHeartbeats 8000000 in
theorem pass1d {w : World} {fresh L : List En} {wh : Int → Bool} {follow : Bool} {p : Nat} {fv : Value} {T0 : List ByteArray} {dir0 : Bool} {links0 : Int} {J : Nat → Act → World → Prop} {Q : Exit → Act → World → Prop} {a : Act} {w1 : World} {r o h x gs : Nat} {dir : Bool} {links : Int} {A : List Nd} {y : Nd} {ga ca : Nat} {s : ByteArray} {T : List ByteArray} {ta : Option Addr} {tc : Nat} {U : List Ky} {ua : Option Addr} {uc : Nat} {e : En} {x' : En} {m0 : Nat} (K : Code) (hQ : FinQ Q fresh L wh follow w T0 dir0 links0)
    (hF : Fst a r o h x gs p fv follow dir links A ga ca T ta tc) (HI : Hid (SI w w1 r o h x gs p fv A y ga ca T ta tc U ua uc ⟨y.id, s⟩ x')) (HW : Hid (∀ z, Wk fresh L wh follow A y (s :: T) dir links U z → Wk fresh L wh follow [] rootNd T0 dir0 links0 [] z)) (hl1 : 0 ≤ links) (hl2 : links ≤ 8) (hb1 : T.length + 1 + 200 * links.toNat ≤ 10000) (hb2 : A.length + T.length + 1 + 200 * links.toNat ≤ 10000) (hb3 : U.length + T.length + 1 + 200 * links.toNat ≤ 10000) (hm : 1 + links.toNat * 100000 + (T.length + 1) ≤ m0) (hk : y.kind = 1) (hd1 : dotT s = false) (hd2 : dot2T s = false) (hkn : knW fresh L wh ⟨y.id, s⟩ = some x') (h1 : ∀ a w2, Jst fresh L wh follow w p fv T0 dir0 links0 1 a w2 → muW 1 a w2 < m0 → J 1 a w2)
    (hK : ∀ (a : Act) (w2 : World) (ua : Option Addr) (uc : Nat), Fst a r o h x gs p fv follow dir links A ga ca T ta tc → Hid (SI w w2 r o h x gs p fv A y ga ca T ta tc (U ++ [⟨y.id, s⟩]) ua uc ⟨y.id, s⟩ x') → x'.neg = false → (x'.node.kind != 3 || (T.isEmpty && !dir && !follow)) = false → K.wp Tryz.prog (jumpM J Q) a w2) : (cutN 2 (sndN 6 (wRest 1)) K).wp Tryz.prog (jumpM J Q) a w1 := by
  conv => pattern (sndN 6 (wRest 1)); whnf
  simp only [cutN]
  have HKK := hid hK
  have HH1 := hid h1
  have HM := hid hm
  have HB := hid (And.intro hb1 (And.intro hb2 hb3))
  have HD := hid (And.intro hk (And.intro hd1 hd2))
  have HKE := hid hkn
  obtain ⟨u, rfl⟩ := hF.open
  obtain ⟨i2, hi2, p2, q2, r2⟩ := info_parts infoKy
  have HI2 := hid hi2
  obtain ⟨i4, hi4, p4, q4, r4⟩ := info_parts infoNd
  have HI4 := hid hi4
  have bh := blk2 HI.out.hh
  have bo := blk9 HI.out.ho
  clear hF hK h1 hm hb1 hb2 hb3 hk hd1 hd2 hkn hi2 hi4
  refine wp_seq_k fun K0 hK0 => ?_
  have HK0 := hid hK0
  clear hK0
  go_wp2_with (at_builtin; (refine wpList_append_rd rfl _ _ 48 rfl w.heap.size 53 i2 _ 2 24 Tryz.underlying48 HI2.out p2 q2 r2 rfl (by decide) (.slice ua U.length uc) U.length (kyc U) rfl (own_alloc HI.out.used _) (.slice (some ⟨w1.heap.size, 0, none⟩) 1 1) 1 [.int .i64 y.id, .string s] rfl (rd_blk (heap_new w1 (.cells #[.int .i64 y.id, .string s] 53)) (by unfold maxLen; omega)) rfl (by intro u hu; simp at hu; rcases hu with rfl | rfl <;> rfl) (by unfold maxLen; have := HB.out; omega) (by have := HB.out; omega) (by simp; have := HI.out.below.size; omega) ?_; intro a2 c2 w2 hown2 hgrow2 hat2; (have HO2 := hid (HI.out.use hgrow2 hown2 hat2)); (have bo2 := blk9 (heap_grown hgrow2 (heap_old HI.out.ho _) (Ne.symm (own_ne HI.out.used HI.out.ho (by decide))))); clear hown2 hgrow2 hat2))
  (try simp only [Exit.then])
  refine HK0.out _ _ ?_
  refine gen_w (P := fun w' => Code.wp _ _ _ _ w') (S := fun w3 => SI w w3 r o h x gs p fv A y ga ca T ta tc (U ++ [⟨y.id, s⟩]) a2 c2 ⟨y.id, s⟩ x') _ HO2.out ?_
  intro w3 hs3
  obtain ⟨U2, hU2⟩ : ∃ U2, U2 = U ++ [⟨y.id, s⟩] := ⟨_, rfl⟩
  have hul : U.length + 1 = U2.length := by rw [hU2]; simp
  rw [← hU2] at hs3
  rw [hul]
  have HU2 := hid hU2
  have HS3 := hid hs3
  clear hs3 hU2 hul HO2 bo2 bo bh HK0
  have bo := blk9 HS3.out.ho
  have br := blk9 HS3.out.hr
  have bx := blk7 HS3.out.hx
  have hro := HS3.out.hro
  have hor : o ≠ r := fun e1 => hro e1.symm
  cases hn : x'.neg with
  | true =>
    rw [hn] at bx
    have HN := hid hn
    clear hn
    go_wp2_with fail
    (try simp only [Exit.inBlock, Exit.then])
    show Q .ret _ _
    refine hQ _ _ r ⟨false, ky0, 40, nd0, U2⟩ a2 c2 ?_ rfl ?_ ?_ ?_ ?_
    · rfl
    · refine (SI.ret9 HS3.out ?_ (.bool false) (.int .i64 0) (.string ByteArray.empty) (.int .i64 40) (.int .i64 0) (.int .i64 0) (.int .i64 0) (.string ByteArray.empty) (.slice a2 U2.length c2)).1; (iterate 1 refine Chg.set1 ?_ _ _ rfl); exact Chg.refl _ _
    · exact HW.out _ (by rw [HU2.out]; exact .neg _ _ _ _ _ _ _ x' HD.out.1 HD.out.2.1 HD.out.2.2 HKE.out HN.out)
    · refine (SI.ret9 HS3.out ?_ (.bool false) (.int .i64 0) (.string ByteArray.empty) (.int .i64 40) (.int .i64 0) (.int .i64 0) (.int .i64 0) (.string ByteArray.empty) (.slice a2 U2.length c2)).2.1; (iterate 1 refine Chg.set1 ?_ _ _ rfl); exact Chg.refl _ _
    · refine (SI.ret9 HS3.out ?_ (.bool false) (.int .i64 0) (.string ByteArray.empty) (.int .i64 40) (.int .i64 0) (.int .i64 0) (.int .i64 0) (.string ByteArray.empty) (.slice a2 U2.length c2)).2.2; (iterate 1 refine Chg.set1 ?_ _ _ rfl); exact Chg.refl _ _
  | false =>
    rw [hn] at bx
    have HN := hid hn
    clear hn
    by_cases hk3 : x'.node.kind = 3
    · have hk4 : (x'.node.kind != 3) = false := by simp [hk3]
      cases T with
      | cons s2 T2 =>
        have HCO := hid (show (x'.node.kind != 3 || ((s2 :: T2).isEmpty && !dir && !follow)) = false by simp [hk3])
        have hz1 : (((T2.length + 1 : Nat) : Int) == 0) = false := by simp; omega
        have hz2 : ((T2.length : Int) + 1 == 0) = false := by simp; omega
        simp only [List.length_cons]
        clear hk3
        go_wp2_with fail
        refine HKK.out _ _ a2 c2 ?_ (by rw [← HU2.out]; exact HS3) HN.out HCO.out
        exact ⟨⟨rfl, rfl⟩, rfl, rfl, rfl, rfl, rfl, rfl, rfl, rfl, rfl, rfl, rfl, rfl⟩
      | nil =>
        cases dir with
        | true =>
          have HCO := hid (show (x'.node.kind != 3 || (([] : List ByteArray).isEmpty && !true && !follow)) = false by simp [hk3])
          clear hk3
          go_wp2_with fail
          refine HKK.out _ _ a2 c2 ?_ (by rw [← HU2.out]; exact HS3) HN.out HCO.out
          exact ⟨⟨rfl, rfl⟩, rfl, rfl, rfl, rfl, rfl, rfl, rfl, rfl, rfl, rfl, rfl, rfl⟩
        | false =>
          cases follow with
          | true =>
            have HCO := hid (show (x'.node.kind != 3 || (([] : List ByteArray).isEmpty && !false && !true)) = false by simp [hk3])
            clear hk3
            go_wp2_with fail
            refine HKK.out _ _ a2 c2 ?_ (by rw [← HU2.out]; exact HS3) HN.out HCO.out
            exact ⟨⟨rfl, rfl⟩, rfl, rfl, rfl, rfl, rfl, rfl, rfl, rfl, rfl, rfl, rfl, rfl⟩
          | false =>
            have HCO := hid (show (x'.node.kind != 3 || (([] : List ByteArray).isEmpty && !false && !false)) = true by simp [hk3])
            clear hk3
            go_wp2_with (at_builtin; refine wpList_append_rd rfl _ _ 206 rfl w.heap.size 40 i4 _ 4 40 Tryz.underlying206 HI4.out p4 q4 r4 rfl (by decide) (.slice (some ⟨ga, 0, none⟩) (A.length + 1) ca) (A.length + 1) (ncs (A ++ [y])) rfl (own_alloc HS3.out.row _) (.slice (some ⟨w3.heap.size, 0, none⟩) 1 1) 1 [.int .i64 x'.node.id, .int .i64 x'.node.kind, .int .i64 x'.node.mode, .string x'.node.target] rfl (rd_blk (heap_new w3 (.cells #[.int .i64 x'.node.id, .int .i64 x'.node.kind, .int .i64 x'.node.mode, .string x'.node.target] 40)) (by unfold maxLen; omega)) rfl (by intro u hu; simp at hu; rcases hu with rfl | rfl | rfl | rfl <;> rfl) (by unfold maxLen; have := HB.out; omega) (by have := HB.out; omega) (by simp; have := HS3.out.below.size; omega) ?_; intro a4 c4 w4 hown4 hgrow4 hat4; (have HP := hid (HS3.out.push hgrow4 hown4)); clear hown4 hgrow4 hat4)
            obtain ⟨ga2, rfl, hs5⟩ := HP.out
            have HS5 := hid hs5
            clear hs5 HP
            go_wp2_with fail
            refine wp_goto ?_
            refine HH1.out _ _ ?_ ?_
            · exact ⟨.inr rfl, r, o, h, x, gs, false, links, A ++ [y], x'.node, ga2, c4, [], ta, tc, U2, a2, c2, ⟨y.id, s⟩, x', ⟨rfl, rfl⟩, ⟨rfl, rfl, rfl, rfl, rfl, rfl, rfl, rfl, (by show Value.slice _ _ _ = _; rw [List.length_append]; rfl), rfl, rfl, rfl⟩, (fun h => absurd h (by decide)), HS5, hl1, hl2, by have := HB.out; omega, by have := HB.out; rw [List.length_append]; simp only [List.length_singleton]; omega, by have := HB.out; rw [HU2.out, List.length_append]; simp only [List.length_singleton]; omega, hid (fun z hz => HW.out z (.go _ _ _ _ _ _ _ x' _ HD.out.1 HD.out.2.1 HD.out.2.2 HKE.out HN.out HCO.out (by rw [← HU2.out]; exact hz)))⟩
            · show 1 + links.toNat * 100000 + 0 < m0
              have := HM.out; omega
    · have hk4 : (x'.node.kind != 3) = true := by simp [hk3]
      have HCO := hid (show (x'.node.kind != 3 || (T.isEmpty && !dir && !follow)) = true by simp [hk3])
      clear hk3
      go_wp2_with (at_builtin; refine wpList_append_rd rfl _ _ 206 rfl w.heap.size 40 i4 _ 4 40 Tryz.underlying206 HI4.out p4 q4 r4 rfl (by decide) (.slice (some ⟨ga, 0, none⟩) (A.length + 1) ca) (A.length + 1) (ncs (A ++ [y])) rfl (own_alloc HS3.out.row _) (.slice (some ⟨w3.heap.size, 0, none⟩) 1 1) 1 [.int .i64 x'.node.id, .int .i64 x'.node.kind, .int .i64 x'.node.mode, .string x'.node.target] rfl (rd_blk (heap_new w3 (.cells #[.int .i64 x'.node.id, .int .i64 x'.node.kind, .int .i64 x'.node.mode, .string x'.node.target] 40)) (by unfold maxLen; omega)) rfl (by intro u hu; simp at hu; rcases hu with rfl | rfl | rfl | rfl <;> rfl) (by unfold maxLen; have := HB.out; omega) (by have := HB.out; omega) (by simp; have := HS3.out.below.size; omega) ?_; intro a4 c4 w4 hown4 hgrow4 hat4; (have HP := hid (HS3.out.push hgrow4 hown4)); clear hown4 hgrow4 hat4)
      obtain ⟨ga2, rfl, hs5⟩ := HP.out
      have HS5 := hid hs5
      clear hs5 HP
      go_wp2_with fail
      refine wp_goto ?_
      refine HH1.out _ _ ?_ ?_
      · exact ⟨.inr rfl, r, o, h, x, gs, dir, links, A ++ [y], x'.node, ga2, c4, T, ta, tc, U2, a2, c2, ⟨y.id, s⟩, x', ⟨rfl, rfl⟩, ⟨rfl, rfl, rfl, rfl, rfl, rfl, rfl, rfl, (by show Value.slice _ _ _ = _; rw [List.length_append]; rfl), rfl, rfl, rfl⟩, (fun h => absurd h (by decide)), HS5, hl1, hl2, by have := HB.out; omega, by have := HB.out; rw [List.length_append]; simp only [List.length_singleton]; omega, by have := HB.out; rw [HU2.out, List.length_append]; simp only [List.length_singleton]; omega, hid (fun z hz => HW.out z (.go _ _ _ _ _ _ _ x' _ HD.out.1 HD.out.2.1 HD.out.2.2 HKE.out HN.out HCO.out (by rw [← HU2.out]; exact hz)))⟩
      · show 1 + links.toNat * 100000 + T.length < m0
        have := HM.out; omega

end Go.Proofs.YtbjibkjenleloaaGreatDoor

end

section
namespace Go.Proofs.YtbjibkjenleloaaGreatDoor
set_option linter.unusedVariables false
set_option linter.unusedSimpArgs false
open Go.RowKit
attribute [local go_sem ↓] Go.wp_at_zero Go.wp_at_succ

theorem SI.seto {w w' : World} {r o h x gs p : Nat} {fv : Value} {A : List Nd} {y : Nd} {ga ca : Nat} {T : List ByteArray} {ta : Option Addr} {tc : Nat} {U : List Ky} {ua : Option Addr} {uc : Nat} {k : Ky} {e : En} (s : SI w w' r o h x gs p fv A y ga ca T ta tc U ua uc k e) : SI w (w'.setCell ⟨o, 3, none⟩ (.int .i64 0)) r o h x gs p fv A y ga ca T ta tc U ua uc k e := by
  have hc : Chg (fun j => j = o) w' (w'.setCell ⟨o, 3, none⟩ (.int .i64 0)) := (Chg.refl _ _).setCell _ _ (.inl rfl)
  have h9 := heap_set s.ho 3 (.int .i64 0)
  simp only [List.setIfInBounds_toArray, List.set_cons_zero, List.set_cons_succ] at h9
  exact s.upd hc (fun j hj => by subst hj; exact s.lo.2.1) s.hro (fun e1 => s.srct.ne s.ho (by decide) (by rw [e1]; rfl)) (fun j hj e1 => s.todot.ne s.ho (by decide) (by rw [hj, e1])) h9
    (heap_chg hc s.hh (heap_ty s.hh s.ho (by decide))) (heap_chg hc s.hx (heap_ty s.hx s.ho (by decide)))
    (ownsRow_chg s.row fun j hj hl => hc.block j hl fun e1 => by subst e1; exact own_ne s.row s.ho (by decide) hj)
    (ownsRow_chg s.used fun j hj hl => hc.block j hl fun e1 => by subst e1; exact own_ne s.used s.ho (by decide) hj) s.usedh
theorem tgt_small {s : ByteArray} (h : tgtErr s = 0) : (stepsL s).length ≤ 97 := by
  have h2 := steps_le s
  have h3 : s.size ≤ 96 := by
    unfold tgtErr at h
    by_cases hb : 96 < s.size
    · rw [if_pos hb] at h; exact absurd h (by decide)
    · omega
  omega
set_option maxRecDepth 100000 in
set_option maxHeartbeats 8000000 in
theorem pass1e {w : World} {fresh L : List En} {wh : Int → Bool} {follow : Bool} {p : Nat} {fv : Value} {T0 : List ByteArray} {dir0 : Bool} {links0 : Int} {J : Nat → Act → World → Prop} {Q : Exit → Act → World → Prop} {a : Act} {w1 : World} {r o h x gs : Nat} {dir : Bool} {links : Int} {A : List Nd} {y : Nd} {ga ca : Nat} {s : ByteArray} {T : List ByteArray} {ta : Option Addr} {tc : Nat} {U : List Ky} {ua : Option Addr} {uc : Nat} {e : En} {U0 : List Ky} {x' : En} {m0 : Nat} (hQ : FinQ Q fresh L wh follow w T0 dir0 links0)
    (hF : Fst a r o h x gs p fv follow dir links A ga ca T ta tc) (HI : Hid (SI w w1 r o h x gs p fv A y ga ca T ta tc U ua uc ⟨y.id, s⟩ x')) (hU : U = U0 ++ [⟨y.id, s⟩]) (HW : Hid (∀ z, Wk fresh L wh follow A y (s :: T) dir links U0 z → Wk fresh L wh follow [] rootNd T0 dir0 links0 [] z)) (hl1 : 0 ≤ links) (hl2 : links ≤ 8) (hb1 : T.length + 1 + 200 * links.toNat ≤ 10000) (hb2 : A.length + T.length + 1 + 200 * links.toNat ≤ 10000) (hb3 : U0.length + T.length + 1 + 200 * links.toNat ≤ 10000) (hm : 1 + links.toNat * 100000 + (T.length + 1) ≤ m0) (hk : y.kind = 1) (hd1 : dotT s = false) (hd2 : dot2T s = false) (hkn : knW fresh L wh ⟨y.id, s⟩ = some x') (hn : x'.neg = false) (hco : (x'.node.kind != 3 || (T.isEmpty && !dir && !follow)) = false) (h1 : ∀ a w2, Jst fresh L wh follow w p fv T0 dir0 links0 1 a w2 → muW 1 a w2 < m0 → J 1 a w2) : (sndN 8 (wRest 1)).wp Tryz.prog (jumpM J Q) a w1 := by
  conv => pattern (sndN 8 (wRest 1)); whnf
  have HH1 := hid h1
  have HM := hid hm
  have HB := hid (And.intro hb1 (And.intro hb2 hb3))
  have HD := hid (And.intro hk (And.intro hd1 hd2))
  have HKE := hid hkn
  have HN := hid hn
  have HCO := hid hco
  have HU := hid hU
  obtain ⟨u, rfl⟩ := hF.open
  have bo := blk9 HI.out.ho
  have br := blk9 HI.out.hr
  have bx := blk7 HI.out.hx
  have hro := HI.out.hro
  have hor : o ≠ r := fun e1 => hro e1.symm
  clear hF h1 hm hb1 hb2 hb3 hk hd1 hd2 hkn hn hco hU
  have hw1 : IntKind.i64.wrap (links - 1) = links - 1 := IntWalk.i64_in _ (by omega)
  by_cases hl : links ≤ 0
  · have HL := hid hl
    have hlz : links = 0 := by omega
    have hlt : (decide (links - 1 < 0)) = true := by simp; omega
    have HLZ := hid hlz
    clear hl hlz
    go_wp2_with fail
    (try simp only [Exit.inBlock, Exit.then])
    show Q .ret _ _
    refine hQ _ _ r ⟨false, ky0, 49, nd0, U⟩ ua uc ?_ rfl ?_ ?_ ?_ ?_
    · rfl
    · refine (SI.ret9 HI.out ?_ (.bool false) (.int .i64 0) (.string ByteArray.empty) (.int .i64 49) (.int .i64 0) (.int .i64 0) (.int .i64 0) (.string ByteArray.empty) (.slice ua U.length uc)).1; (iterate 1 refine Chg.set1 ?_ _ _ rfl); exact Chg.refl _ _
    · exact HW.out _ (by rw [HU.out]; exact .loop _ _ _ _ _ _ _ x' HD.out.1 HD.out.2.1 HD.out.2.2 HKE.out HN.out HCO.out HL.out)
    · refine (SI.ret9 HI.out ?_ (.bool false) (.int .i64 0) (.string ByteArray.empty) (.int .i64 49) (.int .i64 0) (.int .i64 0) (.int .i64 0) (.string ByteArray.empty) (.slice ua U.length uc)).2.1; (iterate 1 refine Chg.set1 ?_ _ _ rfl); exact Chg.refl _ _
    · refine (SI.ret9 HI.out ?_ (.bool false) (.int .i64 0) (.string ByteArray.empty) (.int .i64 49) (.int .i64 0) (.int .i64 0) (.int .i64 0) (.string ByteArray.empty) (.slice ua U.length uc)).2.2; (iterate 1 refine Chg.set1 ?_ _ _ rfl); exact Chg.refl _ _
  · have HL := hid hl
    have hlt : (decide (links - 1 < 0)) = false := by simp; omega
    have hlp : (links - 1).toNat + 1 = links.toNat := by omega
    have HLP := hid hlp
    clear hl hlp
    go_wp2_with fail
    refine (met_any _ _ _ T dir x'.node.target HI.out.todo (by have := HB.out; omega)).mono ?_; rintro e2 w2 ⟨hc2, hb2⟩
    have HS2 := hid (HI.out.alloc hb2)
    clear bo br bx
    have bo := blk9 HS2.out.ho
    have br := blk9 HS2.out.hr
    clear hb2
    rcases hc2.out with ⟨ht, rfl⟩ | ⟨ht, a3, c3, ho3, hcc⟩
    · have HT := hid ht
      have t1 : (tgtErr x'.node.target == 0) = false := by simp [ht]
      clear ht hc2
      go_wp2_with fail
      (try simp only [Exit.inBlock, Exit.then])
      show Q .ret _ _
      refine hQ _ _ r ⟨false, ky0, tgtErr x'.node.target, nd0, U⟩ ua uc ?_ rfl ?_ ?_ ?_ ?_
      · rfl
      · refine (SI.ret9 HS2.out ?_ (.bool false) (.int .i64 0) (.string ByteArray.empty) (.int .i64 (tgtErr x'.node.target)) (.int .i64 0) (.int .i64 0) (.int .i64 0) (.string ByteArray.empty) (.slice ua U.length uc)).1; (iterate 1 refine Chg.set1 ?_ _ _ rfl); exact Chg.refl _ _
      · exact HW.out _ (by rw [HU.out]; exact .bad _ _ _ _ _ _ _ x' HD.out.1 HD.out.2.1 HD.out.2.2 HKE.out HN.out HCO.out (by have := HL.out; omega) HT.out)
      · refine (SI.ret9 HS2.out ?_ (.bool false) (.int .i64 0) (.string ByteArray.empty) (.int .i64 (tgtErr x'.node.target)) (.int .i64 0) (.int .i64 0) (.int .i64 0) (.string ByteArray.empty) (.slice ua U.length uc)).2.1; (iterate 1 refine Chg.set1 ?_ _ _ rfl); exact Chg.refl _ _
      · refine (SI.ret9 HS2.out ?_ (.bool false) (.int .i64 0) (.string ByteArray.empty) (.int .i64 (tgtErr x'.node.target)) (.int .i64 0) (.int .i64 0) (.int .i64 0) (.string ByteArray.empty) (.slice ua U.length uc)).2.2; (iterate 1 refine Chg.set1 ?_ _ _ rfl); exact Chg.refl _ _
    · have HT := hid ht
      have HLN := hid (tgt_small ht)
      have HS3 := hid (HS2.out.todos (Rd.own ho3) (TyB.own ho3))
      clear ht hc2 ho3
      rcases hcc with ⟨hsl, rfl⟩ | ⟨hsl, g, rfl, hg⟩
      · have HSL := hid hsl
        clear hsl
        go_wp2_with fail
        refine wp_goto ?_
        refine HH1.out _ _ ?_ ?_
        · exact ⟨.inr rfl, r, o, h, x, gs, _, links - 1, A, y, ga, ca, stepsL x'.node.target ++ T, a3, c3, U, ua, uc, ⟨y.id, s⟩, x', ⟨rfl, rfl⟩, ⟨rfl, rfl, rfl, rfl, rfl, rfl, (by show Value.slice _ _ _ = _; rw [List.length_append]), rfl, rfl, rfl, rfl, rfl⟩, (fun h => absurd h (by decide)), hid HS3.out.seto, by have := HL.out; omega, by omega, by have := HB.out; have := HLN.out; have := HLP.out; rw [List.length_append]; omega, by have := HB.out; have := HLN.out; have := HLP.out; rw [List.length_append]; omega, by have h9 := congrArg List.length HU.out; rw [List.length_append] at h9; simp only [List.length_singleton] at h9; have := HB.out; have := HLN.out; have := HLP.out; rw [List.length_append]; omega, hid (fun z hz => HW.out z (.link _ _ _ _ _ _ _ x' _ HD.out.1 HD.out.2.1 HD.out.2.2 HKE.out HN.out HCO.out (by have := HL.out; omega) HT.out HSL.out (by rw [← HU.out]; exact hz)))⟩
        · show 1 + (links - 1).toNat * 100000 + ((stepsL x'.node.target).length + T.length) < m0
          have := HM.out; have := HLN.out; have := HLP.out; omega
      · have HSL := hid hsl
        have HS4 := hid (HS3.out.place (A' := []) (y' := rootNd) (ownsRow_mono hg HI.out.below.size))
        clear hsl hg
        go_wp2_with fail
        refine wp_goto ?_
        refine HH1.out _ _ ?_ ?_
        · exact ⟨.inr rfl, r, o, h, x, gs, _, links - 1, [], rootNd, g, 1, stepsL x'.node.target ++ T, a3, c3, U, ua, uc, ⟨y.id, s⟩, x', ⟨rfl, rfl⟩, ⟨rfl, rfl, rfl, rfl, rfl, rfl, (by show Value.slice _ _ _ = _; rw [List.length_append]), rfl, rfl, rfl, rfl, rfl⟩, (fun h => absurd h (by decide)), hid HS4.out.seto, by have := HL.out; omega, by omega, by have := HB.out; have := HLN.out; have := HLP.out; rw [List.length_append]; omega, by have := HB.out; have := HLN.out; have := HLP.out; rw [List.length_append]; simp only [List.length_nil]; omega, by have h9 := congrArg List.length HU.out; rw [List.length_append] at h9; simp only [List.length_singleton] at h9; have := HB.out; have := HLN.out; have := HLP.out; rw [List.length_append]; omega, hid (fun z hz => HW.out z (.linkRoot _ _ _ _ _ _ _ x' _ HD.out.1 HD.out.2.1 HD.out.2.2 HKE.out HN.out HCO.out (by have := HL.out; omega) HT.out HSL.out (by rw [← HU.out]; exact hz)))⟩
        · show 1 + (links - 1).toNat * 100000 + ((stepsL x'.node.target).length + T.length) < m0
          have := HM.out; have := HLN.out; have := HLP.out; omega

end Go.Proofs.YtbjibkjenleloaaGreatDoor

end

section
namespace Go.Proofs.YtbjibkjenleloaaGreatDoor
set_option linter.unusedVariables false
set_option linter.unusedSimpArgs false
open Go.RowKit
attribute [local go_sem ↓] Go.wp_at_zero Go.wp_at_succ

def Ow.cv (z : Ow) (ua : Option Addr) (uc : Nat) : Value := .agg #[.bool z.need, .int .i64 z.key.dir, .string z.key.name, .int .i64 z.err, .int .i64 z.node.id, .int .i64 z.node.kind, .int .i64 z.node.mode, .string z.node.target, .slice ua z.used.length uc]
def stepsPost (w : World) (fresh L : List En) (wh : Int → Bool) (follow : Bool) (T0 : List ByteArray) (dir0 : Bool) (links0 : Int) (e : Ending) (w' : World) : Prop :=
  ∃ z ua uc, e = .returned (z.cv ua uc) ∧ Wk fresh L wh follow [] rootNd T0 dir0 links0 [] z ∧ w'.ownsRow w.heap.size 53 2 (.slice ua z.used.length uc) z.used.length (kyc z.used) ∧ Below w.heap.size w w'
theorem pass1 {w : World} {fresh L : List En} {wh : Int → Bool} {follow : Bool} {p : Nat} {fv : Value} {T0 : List ByteArray} {dir0 : Bool} {links0 : Int} {J : Nat → Act → World → Prop} {Q : Exit → Act → World → Prop} {a : Act} {w1 : World} {m0 B n : Nat} (hc : CAt w B p n L wh) (hf : Rd w fv fresh.length (ecs fresh)) (hQ : FinQ Q fresh L wh follow w T0 dir0 links0) (hj : Jst fresh L wh follow w p fv T0 dir0 links0 1 a w1) (hm : m0 = muW 1 a w1)
    (h0 : ∀ a w2, Jst fresh L wh follow w p fv T0 dir0 links0 0 a w2 → J 0 a w2) (h1 : ∀ a w2, Jst fresh L wh follow w p fv T0 dir0 links0 1 a w2 → muW 1 a w2 < m0 → J 1 a w2) : (wRest 1).wp Tryz.prog (jumpM J Q) a w1 :=
  pass1a (sndN 2 (wRest 1)) hj hm hQ h0 fun a w2 r o h x gs dir links A y ga ca s T ta tc U ua uc k e hF HI hk hl1 hl2 b1 b2 b3 bm HW =>
    pass1b (sndN 5 (wRest 1)) hF HI hl1 hl2 b1 b2 b3 bm HW hk h1 fun a w2 ta tc hF HI d1 d2 =>
      pass1c (sndN 6 (wRest 1)) hc hf hQ hF HI HW hk d1 d2 fun a w2 x' hkn hF HI =>
        pass1d (e := e) (sndN 8 (wRest 1)) hQ hF HI HW hl1 hl2 b1 b2 b3 bm hk d1 d2 hkn h1 fun a w2 ua uc hF HI hn hco =>
          pass1e (e := e) hQ hF HI rfl HW hl1 hl2 b1 b2 b3 bm hk d1 d2 hkn hn hco h1
theorem finQ_steps (w : World) (fresh L : List En) (wh : Int → Bool) (follow : Bool) (T0 : List ByteArray) (dir0 : Bool) (links0 : Int) :
    FinQ (bodyPost Tryz.prog Tryz.f116 (stepsPost w fresh L wh follow T0 dir0 links0)) fresh L wh follow w T0 dir0 links0 := by
  intro a w3 r z ua uc h12 hd hr hwk hown hb
  have br := blk9 hr
  have h12' : a.tmps[12]?.getD undef = .pointer (some ⟨r, 0, none⟩) := by simpa using h12
  refine bodyPost_ret (v := z.cv ua uc) ?_ hd ⟨z, ua, uc, rfl, hwk, hown, hb⟩
  clear hwk hown hb hd
  simp [results, Tryz.results116, h12', go_sem, br, Ow.cv]
set_option maxRecDepth 100000 in
set_option maxHeartbeats 8000000 in
theorem steps_any (w : World) (B p n : Nat) (L fresh : List En) (wh : Int → Bool) (fv sv : Value) (T0 : List ByteArray) (dir0 follow : Bool) (links0 : Int) (hc : CAt w B p n L wh) (hf : Rd w fv fresh.length (ecs fresh)) (hs : Rd w sv T0.length (srow T0)) (hT : T0.length ≤ 200) (hl0 : 0 ≤ links0) (hl8 : links0 ≤ 8) :
    Calls Tryz.prog 116 #[.pointer (some ⟨p, 0, none⟩), fv, sv, .bool dir0, .bool follow, .int .i64 links0] w (stepsPost w fresh L wh follow T0 dir0 links0) := by
  have HC := hid hc
  have HF := hid hf
  have HS := hid hs
  have hc' := hc
  have hf' := hf
  clear hc hf hs
  have hmx : max links0 0 = links0 := by omega
  have hmn : min links0 8 = links0 := by omega
  go_enter Tryz.func116, Tryz.ntmps116
  go_wp2_with fail
  refine wp_scope_two (r0 := ?r0) (r1 := ?r1) (Jst fresh L wh follow w p fv T0 dir0 links0) muW (fun l a w1 h => h.1) ?h0 ?h1 ?f ?p0 ?p1
  case h0 => exact rfl
  case h1 => exact rfl
  case f =>
    intro hpass
    have hr0 := heap_new w (.cells #[.bool false, .int .i64 0, .string { data := #[] }, .int .i64 0, .int .i64 0, .int .i64 0, .int .i64 0, .string { data := #[] }, .slice none 0 0] 176)
    have HR0 := hid hr0
    have HP := hid hpass
    clear hr0 hpass
    go_wp2_with fail
    refine (clone_strs sv T0 _ (HS.out.below (bl1 w (.cells #[.bool false, .int .i64 0, .string { data := #[] }, .int .i64 0, .int .i64 0, .int .i64 0, .int .i64 0, .string { data := #[] }, .slice none 0 0] 176))) (by omega)).mono ?_; rintro e w2 ⟨ta, tc, rfl, ho2, hb2⟩
    have HB2 := hid ((bl1 w (.cells #[.bool false, .int .i64 0, .string { data := #[] }, .int .i64 0, .int .i64 0, .int .i64 0, .int .i64 0, .string { data := #[] }, .slice none 0 0] 176)).trans (hb2.mono (by simp)))
    have HO2 := hid ho2
    have HR2 := hid (heap_below hb2 HR0.out (by simp))
    clear ho2 hb2
    go_wp2_with fail
    refine (root_any _).mono ?_; rintro e w4 ⟨rfl, ho4, hb4⟩
    have HSRC := hid (heap_new w2 (.cells #[.iface 201 fv, .iface 84 (.pointer (some ⟨p, 0, none⟩)), .iface 203 (.agg #[.pointer (some ⟨p, 0, none⟩)])] 223))
    have HW3 := hid (show (w2.alloc (.cells #[.iface 201 fv, .iface 84 (.pointer (some ⟨p, 0, none⟩)), .iface 203 (.agg #[.pointer (some ⟨p, 0, none⟩)])] 223)).heap.size = w2.heap.size + 1 by simp)
    have HB4 := hid (HB2.out.trans (((bl1 w2 (.cells #[.iface 201 fv, .iface 84 (.pointer (some ⟨p, 0, none⟩)), .iface 203 (.agg #[.pointer (some ⟨p, 0, none⟩)])] 223)).trans (hb4.mono (by simp))).mono HB2.out.size))
    have HO4 := hid ho4
    have HQ4 := hid hb4
    clear ho4 hb4
    go_wp2_with fail
    go_step3
    simp only [Exit.then]
    go_step
    refine HP.out _ _ ?_
    refine ⟨.inr rfl, w.heap.size, w4.heap.size, w4.heap.size + 1, w4.heap.size + 1 + 1, w2.heap.size, dir0, links0, [], rootNd, _, 1, T0, ta, tc, [], none, 0, ⟨0, ByteArray.empty⟩, zeroE, ⟨rfl, rfl⟩, ⟨rfl, rfl, rfl, rfl, rfl, rfl, rfl, rfl, rfl, rfl, rfl, rfl⟩, (fun h => absurd h (by decide)), hid ?_, hl0, hl8, by omega, ?_, ?_, hid (fun z hz => hz)⟩
    · have z3 := HW3.out
      have s4 := HB4.out.size
      have s2 := HB2.out.size
      have h3 := HQ4.out.size
      rw [z3] at h3
      have ho4' := HO4.out
      rw [z3] at ho4'
      have bb := bl3 w4 (.cells #[.bool false, .int .i64 0, .string { data := #[] }, .int .i64 0, .int .i64 0, .int .i64 0, .int .i64 0, .string { data := #[] }, .slice none 0 0] 176) (.cells #[.int .i64 0, .string { data := #[] }] 53) (.cells #[.int .i64 0, .string { data := #[] }, .bool false, .int .i64 0, .int .i64 0, .int .i64 0, .string { data := #[] }] 55)
      have hz1 : (w4.alloc (.cells #[.bool false, .int .i64 0, .string { data := #[] }, .int .i64 0, .int .i64 0, .int .i64 0, .int .i64 0, .string { data := #[] }, .slice none 0 0] 176)).heap.size = w4.heap.size + 1 := by simp
      have hz2 : ((w4.alloc (.cells #[.bool false, .int .i64 0, .string { data := #[] }, .int .i64 0, .int .i64 0, .int .i64 0, .int .i64 0, .string { data := #[] }, .slice none 0 0] 176)).alloc (.cells #[.int .i64 0, .string { data := #[] }] 53)).heap.size = w4.heap.size + 1 + 1 := by simp
      have e1 := heap_new (w4.alloc (.cells #[.bool false, .int .i64 0, .string { data := #[] }, .int .i64 0, .int .i64 0, .int .i64 0, .int .i64 0, .string { data := #[] }, .slice none 0 0] 176)) (.cells #[.int .i64 0, .string { data := #[] }] 53)
      have e2 := heap_new ((w4.alloc (.cells #[.bool false, .int .i64 0, .string { data := #[] }, .int .i64 0, .int .i64 0, .int .i64 0, .int .i64 0, .string { data := #[] }, .slice none 0 0] 176)).alloc (.cells #[.int .i64 0, .string { data := #[] }] 53)) (.cells #[.int .i64 0, .string { data := #[] }, .bool false, .int .i64 0, .int .i64 0, .int .i64 0, .string { data := #[] }] 55)
      rw [hz1] at e1
      rw [hz2] at e2
      have b24 : Below w2.heap.size w2 w4 := (bl1 w2 (.cells #[.iface 201 fv, .iface 84 (.pointer (some ⟨p, 0, none⟩)), .iface 203 (.agg #[.pointer (some ⟨p, 0, none⟩)])] 223)).trans (HQ4.out.mono (by simp))
      have hsr : w4.heap[w2.heap.size]? = _ := heap_below HQ4.out HSRC.out (by rw [z3]; omega)
      have htd : Rd w4 (.slice ta T0.length tc) T0.length (srow T0) := (Rd.own HO2.out).below b24
      refine ⟨HB4.out.trans (bb.mono s4), heap_below bb (heap_below b24 HR2.out (blk_lt HR2.out)) (by have := blk_lt HR2.out; omega), heap_old (heap_old (heap_new w4 (.cells #[.bool false, .int .i64 0, .string { data := #[] }, .int .i64 0, .int .i64 0, .int .i64 0, .int .i64 0, .string { data := #[] }, .slice none 0 0] 176)) _) _, heap_old e1 _, e2, (rd_blk (cs := srcs fv p) hsr (by simp [maxLen])).below bb,
        (TyB.chg (fun k hk => ?_) (Chg.below bb) (fun _ _ h => h)), own_below (ownsRow_mono ho4' (by omega)) bb, World.ownsRow_nil _ _ _ _, by simp, htd.below bb, (TyB.own (own_below (own_below HO2.out b24) bb)), by omega, by omega⟩
      simp only [Option.map_some, Option.some.injEq] at hk
      subst hk
      exact ⟨_, hsr⟩
    · simp; omega
    · simp; omega
  case p0 =>
    intro a w1 hj
    exact pass0 (finQ_steps _ _ _ _ _ _ _ _) hj
  case p1 =>
    intro a w1 hj
    exact pass1 hc' hf' (finQ_steps _ _ _ _ _ _ _ _) hj rfl (fun a w2 h => ⟨h, by simp [muW]; omega⟩) fun a w2 h hl => ⟨h, hl⟩
end Go.Proofs.YtbjibkjenleloaaGreatDoor

end

/- Floats that are whole numbers: what they read as, how they compare, add, subtract, are cut. No program in it. -/
section
namespace Go.Proofs.YtbjibkjenleloaaGreatDoor
set_option linter.unusedVariables false
set_option linter.unusedSimpArgs false
open Ieee

/-- the bits of 'float64(n)' -/
def fl (n : Int) : Nat := floatOfInt .f64 n

theorem fl_def (n : Int) : fl n = Ieee.double.nearest (n < 0) n.natAbs 0 := rfl

theorem two_pos (n : Nat) : 0 < 2 ^ n := Nat.two_pow_pos n

/-- below 2^53 the rung is exact -/
theorem nearest_small (s : Bool) (n : Nat) (h0 : 0 < n) (h : n < 2 ^ 53) :
    Ieee.double.nearest s n 0 = Ieee.double.word s ((n.log2 + 1022) * 2 ^ 52 + n * 2 ^ (52 - n.log2)) := by
  have hne : n ≠ 0 := by omega
  have hl1 : 2 ^ n.log2 ≤ n := Nat.log2_self_le hne
  have hl2 : n < 2 ^ (n.log2 + 1) := Nat.lt_log2_self
  have hL : n.log2 ≤ 52 := by
    have := (Nat.log2_lt hne).2 h; omega
  unfold Format.nearest
  rw [if_neg hne]
  have hlp : Ieee.double.leastPlace = -1074 := by decide
  have hfb : Ieee.double.fractionBits = 52 := rfl
  have hlast : max ((0 : Int) + n.log2 - Ieee.double.fractionBits) (-1074) = (n.log2 : Int) - 52 := by
    rw [hfb]; omega
  simp only [hlp, hlast]
  have e1 : (0 - ((n.log2 : Int) - 52)).toNat = 52 - n.log2 := by omega
  have e2 : ((n.log2 : Int) - 52 - 0).toNat = 0 := by omega
  have e3 : ((n.log2 : Int) - 52 - -1074).toNat = n.log2 + 1022 := by omega
  rw [e1, e2, e3]
  have hcut : Toward.cut .even s (n <<< (52 - n.log2)) 0 = n * 2 ^ (52 - n.log2) := by
    simp [Toward.cut, Nat.shiftLeft_eq, Nat.mod_one]
  rw [hcut]
  have hb : Ieee.double.binade = 2 ^ 52 := rfl
  have hi : Ieee.double.infRung = 2047 * 2 ^ 52 := rfl
  rw [hb, hi]
  congr 1
  apply Nat.min_eq_left
  have h3 : n * 2 ^ (52 - n.log2) < 2 ^ 53 := by
    calc n * 2 ^ (52 - n.log2) < 2 ^ (n.log2 + 1) * 2 ^ (52 - n.log2) := Nat.mul_lt_mul_of_pos_right hl2 (two_pos _)
      _ = 2 ^ 53 := by rw [← Nat.pow_add]; congr 1; omega
  omega

theorem mant_bounds (n : Nat) (h0 : 0 < n) (h : n < 2 ^ 53) : n.log2 ≤ 52 ∧ 2 ^ 52 ≤ n * 2 ^ (52 - n.log2) ∧ n * 2 ^ (52 - n.log2) < 2 ^ 53 := by
  have hne : n ≠ 0 := by omega
  have hl1 : 2 ^ n.log2 ≤ n := Nat.log2_self_le hne
  have hl2 : n < 2 ^ (n.log2 + 1) := Nat.lt_log2_self
  have hL : n.log2 ≤ 52 := by
    have := (Nat.log2_lt hne).2 h; omega
  refine ⟨hL, ?_, ?_⟩
  · calc 2 ^ 52 = 2 ^ n.log2 * 2 ^ (52 - n.log2) := by rw [← Nat.pow_add]; congr 1; omega
      _ ≤ n * 2 ^ (52 - n.log2) := Nat.mul_le_mul_right _ hl1
  · calc n * 2 ^ (52 - n.log2) < 2 ^ (n.log2 + 1) * 2 ^ (52 - n.log2) := Nat.mul_lt_mul_of_pos_right hl2 (two_pos _)
      _ = 2 ^ 53 := by rw [← Nat.pow_add]; congr 1; omega

/-- a word with a rung in the normal range reads as its mantissa -/
theorem read_word (s : Bool) (e m : Nat) (he : 1 ≤ e) (he2 : e < 2047) (hm1 : 2 ^ 52 ≤ m) (hm2 : m < 2 ^ 53) :
    Ieee.double.read (Ieee.double.word s ((e - 1) * 2 ^ 52 + m)) = .number s m ((e : Int) - 1075) := by
  have hr1 : (e - 1) * 2 ^ 52 + m < 2047 * 2 ^ 52 := by omega
  have hr2 : 2 ^ 52 ≤ (e - 1) * 2 ^ 52 + m := by omega
  have hsw : Ieee.double.signWeight = 2 ^ 63 := rfl
  have hb : Ieee.double.binade = 2 ^ 52 := rfl
  have hi : Ieee.double.infRung = 2047 * 2 ^ 52 := rfl
  have hlp : Ieee.double.leastPlace = -1074 := by decide
  obtain ⟨r, hr⟩ : ∃ r, r = (e - 1) * 2 ^ 52 + m := ⟨_, rfl⟩
  rw [← hr] at hr1 hr2 ⊢
  have hmod : Ieee.double.word s r % 2 ^ 63 = r := by
    cases s <;> simp only [Format.word, hsw, if_true, Bool.false_eq_true, if_false] <;> omega
  have hdiv : (Ieee.double.word s r / 2 ^ 63 % 2 == 1) = s := by
    cases s <;> simp only [Format.word, hsw, if_true, Bool.false_eq_true, if_false]
    · have : r / 2 ^ 63 = 0 := Nat.div_eq_of_lt (by omega)
      simp [this]
    · have : (2 ^ 63 + r) / 2 ^ 63 = 1 := by omega
      simp [this]
  unfold Format.read
  simp only [hsw, hmod, hdiv, hb, hi, hlp]
  rw [if_neg (by omega), if_pos hr1]
  have hq : r / 2 ^ 52 = e := by omega
  have hmm : r % 2 ^ 52 = m - 2 ^ 52 := by omega
  rw [hq, hmm]
  have a1 : 2 ^ 52 + (m - 2 ^ 52) = m := by omega
  have a2 : (-1074 : Int) + ((e - 1 : Nat) : Int) = (e : Int) - 1075 := by omega
  rw [a1, a2]

theorem read_small (s : Bool) (n : Nat) (h0 : 0 < n) (h : n < 2 ^ 53) :
    Ieee.double.read (Ieee.double.nearest s n 0) = .number s (n * 2 ^ (52 - n.log2)) ((n.log2 : Int) - 52) := by
  obtain ⟨h1, h2, h3⟩ := mant_bounds n h0 h
  rw [nearest_small s n h0 h]
  have := read_word s (n.log2 + 1023) (n * 2 ^ (52 - n.log2)) (by omega) (by omega) h2 h3
  rw [show n.log2 + 1023 - 1 = n.log2 + 1022 from by omega] at this
  have a2 : ((n.log2 + 1023 : Nat) : Int) - 1075 = (n.log2 : Int) - 52 := by omega
  rw [this, a2]

theorem signed_eq (s : Bool) (m k : Nat) : signed s m k = (if s then -1 else 1) * ((m : Int) * 2 ^ k) := by
  cases s <;> simp [signed, Nat.shiftLeft_eq]

def E74 : Nat := 1074
theorem e74 : (E74 : Int) = 1074 := rfl

/-- x reads as the whole number v -/
def Fl (x : Nat) (v : Int) : Prop := ∃ s m i, Ieee.double.read x = .number s m i ∧ -1074 ≤ i ∧ (if s then -1 else 1) * ((m : Int) * 2 ^ (i + (E74 : Int)).toNat) = v * 2 ^ E74

theorem cmp_scale {a b A B K C : Int} (hK : 0 < K) (hC : 0 < C) (h1 : A * K = a * C) (h2 : B * K = b * C) : compare A B = compare a b := by
  have key : ∀ {a b A B : Int}, A * K = a * C → B * K = b * C → (A < B ↔ a < b) := by
    intro a b A B h1 h2
    constructor
    · intro h
      have := Int.mul_lt_mul_of_pos_right h hK
      rw [h1, h2] at this
      exact Int.lt_of_mul_lt_mul_right this (Int.le_of_lt hC)
    · intro h
      have := Int.mul_lt_mul_of_pos_right h hC
      rw [← h1, ← h2] at this
      exact Int.lt_of_mul_lt_mul_right this (Int.le_of_lt hK)
  have k1 := key h1 h2
  have k2 := key h2 h1
  simp only [compare, compareOfLessAndEq]
  by_cases hab : a < b
  · rw [if_pos hab, if_pos (k1.2 hab)]
  · rw [if_neg hab, if_neg (fun h => hab (k1.1 h))]
    have : A = B ↔ a = b := by
      have n1 : ¬ A < B := fun h => hab (k1.1 h)
      constructor
      · intro h
        have : ¬ B < A := by omega
        have := fun h => this (k2.2 h)
        omega
      · intro h
        have : ¬ b < a := by omega
        have := fun h => this (k2.1 h)
        omega
    by_cases h : a = b
    · rw [if_pos h, if_pos (this.2 h)]
    · rw [if_neg h, if_neg (fun h' => h (this.1 h'))]

theorem pow_cut {b : Int} {i : Int} (h1 : -1074 ≤ b) (h2 : b ≤ i) : (2 : Int) ^ (i - b).toNat * 2 ^ (b + (E74 : Int)).toNat = 2 ^ (i + (E74 : Int)).toNat := by
  have := e74; rw [← Int.pow_add]; congr 1; omega

theorem fl_order {x y : Nat} {a b : Int} (hx : Fl x a) (hy : Fl y b) : FloatKind.f64.format.order x y = some (compare a b) := by
  obtain ⟨s, m, i, h1, h2, h3⟩ := hx
  obtain ⟨t, n, j, k1, k2, k3⟩ := hy
  show (Datum.order (Ieee.double.read x) (Ieee.double.read y)) = _
  rw [h1, k1]
  simp only [Datum.order, signed_eq]
  congr 1
  have hb1 : -1074 ≤ min i j := by omega
  refine cmp_scale (K := 2 ^ (min i j + (E74 : Int)).toNat) (C := 2 ^ E74) (Int.pow_pos (by decide)) (Int.pow_pos (by decide)) ?_ ?_
  · rw [← h3, ← pow_cut hb1 (Int.min_le_left i j)]; simp only [Int.mul_assoc]
  · rw [← k3, ← pow_cut hb1 (Int.min_le_right i j)]; simp only [Int.mul_assoc]

theorem fl_zero : Fl 0 0 := ⟨false, 0, -1074, by decide, by decide, by simp⟩

theorem fl_nat (s : Bool) (n : Nat) (h : n < 2 ^ 53) : Fl (Ieee.double.nearest s n 0) (if s then -(n : Int) else n) := by
  rcases Nat.eq_zero_or_pos n with rfl | h0
  · cases s
    · exact ⟨false, 0, -1074, by decide, by decide, by simp⟩
    · exact ⟨true, 0, -1074, by decide, by decide, by simp⟩
  · obtain ⟨hL, _, _⟩ := mant_bounds n h0 h
    refine ⟨s, _, _, read_small s n h0 h, by omega, ?_⟩
    have e : (n : Int) * 2 ^ (52 - n.log2) * 2 ^ ((n.log2 : Int) - 52 + (E74 : Int)).toNat = n * 2 ^ E74 := by
      have := e74; rw [Int.mul_assoc, ← Int.pow_add]; congr 2; omega
    cases s
    · simp only [Bool.false_eq_true, if_false, Int.one_mul]
      rw [← e]; push_cast; rfl
    · simp only [if_true, Int.neg_mul, Int.one_mul]
      rw [← e]; push_cast; rfl

theorem fl_small (n : Int) (h : n.natAbs < 2 ^ 53) : Fl (fl n) n := by
  have := fl_nat (decide (n < 0)) n.natAbs h
  rw [fl_def]
  by_cases hn : n < 0
  · simp only [hn, decide_true, if_true] at this ⊢
    have e : -((n.natAbs : Nat) : Int) = n := by omega
    rwa [e] at this
  · simp only [hn, decide_false, Bool.false_eq_true, if_false] at this ⊢
    have e : ((n.natAbs : Nat) : Int) = n := by omega
    rwa [e] at this

theorem fl_word (s : Bool) (e m : Nat) (he : 1 ≤ e) (he2 : e < 2047) (h1 : 1075 ≤ e) (hm1 : 2 ^ 52 ≤ m) (hm2 : m < 2 ^ 53) :
    Fl (Ieee.double.word s ((e - 1) * 2 ^ 52 + m)) ((if s then -1 else 1) * ((m * 2 ^ (e - 1075) : Nat) : Int)) := by
  refine ⟨s, m, _, read_word s e m he he2 hm1 hm2, by omega, ?_⟩
  have h := e74
  have e1 : ((e : Int) - 1075 + (E74 : Int)).toNat = (e - 1075) + E74 := by omega
  rw [e1, Int.pow_add]
  push_cast
  simp only [Int.mul_assoc]

theorem nearest_big (s : Bool) (n : Nat) (h : 2 ^ 53 ≤ n) (h64 : n < 2 ^ 64) :
    ∃ m : Nat, 2 ^ 52 ≤ m ∧ m ≤ 2 ^ 53 ∧ 53 ≤ n.log2 ∧ n.log2 ≤ 63 ∧ Ieee.double.nearest s n 0 = Ieee.double.word s ((n.log2 + 1022) * 2 ^ 52 + m) := by
  have hne : n ≠ 0 := by omega
  have hl1 : 2 ^ n.log2 ≤ n := Nat.log2_self_le hne
  have hl2 : n < 2 ^ (n.log2 + 1) := Nat.lt_log2_self
  have hL : 53 ≤ n.log2 := (Nat.le_log2 hne).2 h
  have hL2 : n.log2 ≤ 63 := by
    have := (Nat.log2_lt hne).2 h64; omega
  unfold Format.nearest
  rw [if_neg hne]
  have hlp : Ieee.double.leastPlace = -1074 := by decide
  have hfb : Ieee.double.fractionBits = 52 := rfl
  have hlast : max ((0 : Int) + n.log2 - Ieee.double.fractionBits) (-1074) = (n.log2 : Int) - 52 := by
    rw [hfb]; omega
  simp only [hlp, hlast]
  have e1 : (0 - ((n.log2 : Int) - 52)).toNat = 0 := by omega
  have e2 : ((n.log2 : Int) - 52 - 0).toNat = n.log2 - 52 := by omega
  have e3 : ((n.log2 : Int) - 52 - -1074).toNat = n.log2 + 1022 := by omega
  rw [e1, e2, e3, Nat.shiftLeft_zero]
  have hb : Ieee.double.binade = 2 ^ 52 := rfl
  have hi : Ieee.double.infRung = 2047 * 2 ^ 52 := rfl
  rw [hb, hi]
  have hq1 : 2 ^ 52 ≤ n / 2 ^ (n.log2 - 52) := by
    rw [Nat.le_div_iff_mul_le (two_pos _), ← Nat.pow_add]
    exact Nat.le_trans (Nat.pow_le_pow_right (by decide) (by omega)) hl1
  have hq2 : n / 2 ^ (n.log2 - 52) < 2 ^ 53 := by
    rw [Nat.div_lt_iff_lt_mul (two_pos _), ← Nat.pow_add]
    exact Nat.lt_of_lt_of_le hl2 (Nat.pow_le_pow_right (by decide) (by omega))
  have hcut : ∃ b : Bool, Toward.cut .even s n (n.log2 - 52) = n / 2 ^ (n.log2 - 52) + b.toNat := by
    unfold Toward.cut
    rw [Nat.min_eq_left (by omega), Nat.shiftLeft_eq, Nat.one_mul]
    exact ⟨_, rfl⟩
  obtain ⟨b, hcut⟩ := hcut
  rw [hcut]
  have hb1 : b.toNat ≤ 1 := by cases b <;> decide
  refine ⟨n / 2 ^ (n.log2 - 52) + b.toNat, by omega, by omega, hL, hL2, ?_⟩
  congr 1
  apply Nat.min_eq_left
  omega

theorem two_le_pow {k : Nat} (h : 1 ≤ k) : 2 ≤ 2 ^ k := by
  obtain ⟨j, rfl⟩ : ∃ j, k = j + 1 := ⟨k - 1, by omega⟩
  have := two_pos j
  rw [Nat.pow_succ]; omega

theorem fl_big (n : Int) (h : 2 ^ 53 ≤ n.natAbs) (h64 : n.natAbs < 2 ^ 64) : ∃ v : Int, Fl (fl n) v ∧ 2 ^ 53 ≤ v.natAbs ∧ (v < 0 ↔ n < 0) := by
  obtain ⟨m, h1, h2, h3, h4, h5⟩ := nearest_big (decide (n < 0)) n.natAbs h h64
  rw [fl_def]
  have h5' : Ieee.double.nearest (n < 0) n.natAbs 0 = _ := h5
  rw [h5']
  by_cases hm : m < 2 ^ 53
  · have := fl_word (decide (n < 0)) (n.natAbs.log2 + 1023) m (by omega) (by omega) (by omega) h1 hm
    rw [show n.natAbs.log2 + 1023 - 1 = n.natAbs.log2 + 1022 from by omega] at this
    refine ⟨_, this, ?_, ?_⟩
    · have e1 : 2 ≤ 2 ^ (n.natAbs.log2 + 1023 - 1075) := two_le_pow (by omega)
      have e2 : 2 ^ 52 * 2 ≤ m * 2 ^ (n.natAbs.log2 + 1023 - 1075) := Nat.mul_le_mul h1 e1
      split <;> omega
    · have e1 : 0 < m * 2 ^ (n.natAbs.log2 + 1023 - 1075) := Nat.mul_pos (by omega) (two_pos _)
      by_cases hn : n < 0 <;> simp only [hn, decide_true, decide_false, if_true, Bool.false_eq_true, if_false, iff_true, iff_false] <;> omega
  · have hm2 : m = 2 ^ 53 := by omega
    have := fl_word (decide (n < 0)) (n.natAbs.log2 + 1024) (2 ^ 52) (by omega) (by omega) (by omega) (Nat.le_refl _) (by decide)
    rw [show (n.natAbs.log2 + 1024 - 1) * 2 ^ 52 + 2 ^ 52 = (n.natAbs.log2 + 1022) * 2 ^ 52 + m from by omega] at this
    refine ⟨_, this, ?_, ?_⟩
    · have e1 : 2 ≤ 2 ^ (n.natAbs.log2 + 1024 - 1075) := two_le_pow (by omega)
      have e2 : 2 ^ 52 * 2 ≤ 2 ^ 52 * 2 ^ (n.natAbs.log2 + 1024 - 1075) := Nat.mul_le_mul (Nat.le_refl _) e1
      split <;> omega
    · have e1 : 0 < 2 ^ 52 * 2 ^ (n.natAbs.log2 + 1024 - 1075) := Nat.mul_pos (by decide) (two_pos _)
      by_cases hn : n < 0 <;> simp only [hn, decide_true, decide_false, if_true, Bool.false_eq_true, if_false, iff_true, iff_false] <;> omega

/-- the plain form of a small whole number -/
theorem fl_read (n : Nat) (h : n < 2 ^ 53) : ∃ k : Nat, k ≤ 1074 ∧ Ieee.double.read (fl n) = .number false (n * 2 ^ k) (-(k : Int)) := by
  have e0 : fl n = Ieee.double.nearest false n 0 := by rw [fl_def]; congr 1
  rw [e0]
  rcases Nat.eq_zero_or_pos n with rfl | h0
  · exact ⟨1074, Nat.le_refl _, by simp only [Nat.zero_mul]; decide⟩
  · obtain ⟨hL, _, _⟩ := mant_bounds n h0 h
    refine ⟨52 - n.log2, by omega, ?_⟩
    rw [read_small false n h0 h]
    have : ((n.log2 : Int) - 52) = -((52 - n.log2 : Nat) : Int) := by omega
    rw [this]

theorem log2_scale (n k : Nat) (h0 : 0 < n) : (n * 2 ^ k).log2 = n.log2 + k := by
  have hne : n ≠ 0 := by omega
  have h1 : 2 ^ n.log2 ≤ n := Nat.log2_self_le hne
  have h2 : n < 2 ^ (n.log2 + 1) := Nat.lt_log2_self
  have h3 : n * 2 ^ k ≠ 0 := Nat.mul_ne_zero hne (by have := two_pos k; omega)
  have h4 : n.log2 + k ≤ (n * 2 ^ k).log2 := (Nat.le_log2 h3).2 (by rw [Nat.pow_add]; exact Nat.mul_le_mul_right _ h1)
  have h5 : (n * 2 ^ k).log2 < n.log2 + k + 1 := (Nat.log2_lt h3).2 (by rw [show n.log2 + k + 1 = n.log2 + 1 + k from by omega, Nat.pow_add]; exact Nat.mul_lt_mul_of_pos_right h2 (two_pos _))
  omega

theorem cut_exact (way : Toward) (s : Bool) (n k : Nat) : way.cut s (n * 2 ^ k) k = n := by
  rcases Nat.eq_zero_or_pos n with rfl | h0
  · unfold Toward.cut
    simp only [Nat.zero_mul, Nat.zero_div, Nat.zero_mod, Nat.mul_zero, Nat.not_lt_zero, decide_false, Bool.false_or, Nat.zero_add]
    cases way <;> simp
  · unfold Toward.cut
    rw [log2_scale n k h0, Nat.min_eq_left (by omega), Nat.shiftLeft_eq, Nat.one_mul]
    have h1 : n * 2 ^ k / 2 ^ k = n := Nat.mul_div_cancel _ (two_pos k)
    have h2 : n * 2 ^ k % 2 ^ k = 0 := Nat.mul_mod_left _ _
    have h3 := two_pos k
    simp only [h1, h2]
    cases way <;> simp <;> omega

theorem nearest_scale (n k : Nat) (h : n < 2 ^ 53) (hk : k ≤ 1074) : Ieee.double.nearest false (n * 2 ^ k) (-(k : Int)) = fl n := by
  have e0 : fl n = Ieee.double.nearest false n 0 := by rw [fl_def]; congr 1
  rw [e0]
  rcases Nat.eq_zero_or_pos n with rfl | h0
  · simp [Format.nearest]
  · rw [nearest_small false n h0 h]
    obtain ⟨hL, _, h9⟩ := mant_bounds n h0 h
    have h3 : n * 2 ^ k ≠ 0 := Nat.mul_ne_zero (by omega) (by have := two_pos k; omega)
    unfold Format.nearest
    rw [if_neg h3, log2_scale n k h0]
    have hlp : Ieee.double.leastPlace = -1074 := by decide
    have hfb : Ieee.double.fractionBits = 52 := rfl
    have hlast : max (-(k : Int) + ((n.log2 + k : Nat) : Int) - Ieee.double.fractionBits) (-1074) = (n.log2 : Int) - 52 := by
      rw [hfb]; omega
    simp only [hlp, hlast]
    have e3 : ((n.log2 : Int) - 52 - -1074).toNat = n.log2 + 1022 := by omega
    have hb : Ieee.double.binade = 2 ^ 52 := rfl
    have hi : Ieee.double.infRung = 2047 * 2 ^ 52 := rfl
    rw [e3, hb, hi]
    have hcut : Toward.even.cut false ((n * 2 ^ k) <<< (-(k : Int) - ((n.log2 : Int) - 52)).toNat) ((n.log2 : Int) - 52 - -(k : Int)).toNat = n * 2 ^ (52 - n.log2) := by
      by_cases hc : k ≤ 52 - n.log2
      · have e1 : (-(k : Int) - ((n.log2 : Int) - 52)).toNat = 52 - n.log2 - k := by omega
        have e2 : ((n.log2 : Int) - 52 - -(k : Int)).toNat = 0 := by omega
        rw [e1, e2, Nat.shiftLeft_eq, Nat.mul_assoc, ← Nat.pow_add, show k + (52 - n.log2 - k) = 52 - n.log2 from by omega]
        have := cut_exact .even false (n * 2 ^ (52 - n.log2)) 0
        simpa using this
      · have e1 : (-(k : Int) - ((n.log2 : Int) - 52)).toNat = 0 := by omega
        have e2 : ((n.log2 : Int) - 52 - -(k : Int)).toNat = k - (52 - n.log2) := by omega
        rw [e1, e2, Nat.shiftLeft_zero]
        have e4 : n * 2 ^ k = n * 2 ^ (52 - n.log2) * 2 ^ (k - (52 - n.log2)) := by
          rw [Nat.mul_assoc, ← Nat.pow_add]; congr 2; omega
        rw [e4]
        exact cut_exact _ _ _ _
    rw [hcut]
    congr 1
    apply Nat.min_eq_left
    omega

theorem signed_pow (a k K : Nat) (h : k ≤ K) : signed false (a * 2 ^ k) (-(k : Int) - -(K : Int)).toNat = ((a * 2 ^ K : Nat) : Int) := by
  have e : (-(k : Int) - -(K : Int)).toNat = K - k := by omega
  rw [e]
  simp only [signed, Bool.false_eq_true, if_false, Nat.shiftLeft_eq]
  rw [Nat.mul_assoc, ← Nat.pow_add, show k + (K - k) = K from by omega]

theorem fl_add (a b : Nat) (h : a + b < 2 ^ 53) : floatBits .add .f64 (fl a) (fl b) = some (fl ((a : Int) + b)) := by
  obtain ⟨k, hk, h1⟩ := fl_read a (by omega)
  obtain ⟨l, hl, h2⟩ := fl_read b (by omega)
  have e : fl ((a : Int) + b) = fl ((a + b : Nat) : Int) := by push_cast; rfl
  rw [e]
  show Option.map Ieee.double.write ((Ieee.double.read (fl a)).sum (Ieee.double.read (fl b))) = _
  rw [h1, h2]
  obtain ⟨K, hK⟩ : ∃ K : Nat, min (-(k : Int)) (-(l : Int)) = -(K : Int) := ⟨max k l, by omega⟩
  have hk1 : k ≤ K := by omega
  have hl1 : l ≤ K := by omega
  have hK2 : K ≤ 1074 := by omega
  simp only [Datum.sum, hK, signed_pow _ _ _ hk1, signed_pow _ _ _ hl1, Option.map_some]
  have et : ((a * 2 ^ K : Nat) : Int) + ((b * 2 ^ K : Nat) : Int) = (((a + b) * 2 ^ K : Nat) : Int) := by rw [Nat.add_mul]; omega
  rw [et]
  have en : decide ((((a + b) * 2 ^ K : Nat) : Int) < 0) = false := by rw [decide_eq_false_iff_not]; omega
  simp only [en, Bool.and_self, ite_self, Int.natAbs_natCast, Format.write]
  rw [nearest_scale (a + b) K h hK2]

theorem fl_sub (a b : Nat) (hb : b ≤ a) (h : a < 2 ^ 53) : floatBits .sub .f64 (fl a) (fl b) = some (fl ((a - b : Nat) : Int)) := by
  obtain ⟨k, hk, h1⟩ := fl_read a (by omega)
  obtain ⟨l, hl, h2⟩ := fl_read b (by omega)
  show Option.map Ieee.double.write ((Ieee.double.read (fl a)).sum (Ieee.double.read (fl b)).opposite) = _
  rw [h1, h2]
  obtain ⟨K, hK⟩ : ∃ K : Nat, min (-(k : Int)) (-(l : Int)) = -(K : Int) := ⟨max k l, by omega⟩
  have hk1 : k ≤ K := by omega
  have hl1 : l ≤ K := by omega
  have hK2 : K ≤ 1074 := by omega
  have hs : signed true (b * 2 ^ l) (-(l : Int) - -(K : Int)).toNat = -((b * 2 ^ K : Nat) : Int) := by
    rw [← signed_pow b l K hl1]; simp [signed]
  simp only [Datum.opposite, Bool.not_false, Datum.sum, hK, signed_pow _ _ _ hk1, hs, Option.map_some]
  have et : ((a * 2 ^ K : Nat) : Int) + -((b * 2 ^ K : Nat) : Int) = (((a - b) * 2 ^ K : Nat) : Int) := by
    rw [Nat.sub_mul]
    have := Nat.mul_le_mul_right (2 ^ K) hb
    omega
  rw [et]
  have en : decide ((((a - b) * 2 ^ K : Nat) : Int) < 0) = false := by rw [decide_eq_false_iff_not]; omega
  simp only [en, Bool.false_and, ite_self, Int.natAbs_natCast, Format.write]
  rw [nearest_scale (a - b) K (by omega) hK2]

theorem fl_integral (n : Nat) (h : n < 2 ^ 53) : (FloatKind.f64.decode (fl n)).integral .zero = .number false n 0 := by
  obtain ⟨k, hk, h1⟩ := fl_read n h
  show (Ieee.double.read (fl n)).integral .zero = _
  rw [h1]
  have e1 : (-(k : Int)).toNat = 0 := by omega
  have e2 : (- -(k : Int)).toNat = k := by omega
  simp only [Datum.integral, e1, e2, Nat.shiftLeft_zero, cut_exact]

theorem fl_trunc (n : Nat) (h : n < 2 ^ 53) : FloatKind.f64.encode ((FloatKind.f64.decode (fl n)).integral .zero) = fl n := by
  rw [fl_integral n h]
  show Ieee.double.nearest false n 0 = fl n
  rw [fl_def]; congr 1

theorem fl_toInt (n : Nat) (h : n < 2 ^ 53) : floatToIntVal .f64 (fl n) .i64 = some n := by
  unfold floatToIntVal Datum.toInt
  rw [fl_integral n h]
  have : signed false n 0 = n := by simp [signed]
  simp only [this]
  rw [if_pos]
  · rfl
  have h1 : IntKind.i64.min = -9223372036854775808 := by decide
  have h2 : IntKind.i64.max = 9223372036854775807 := by decide
  rw [h1, h2]; omega

/-- every 64-bit number: a whole number, of the same sign, the same below 2^53, great where it is great -/
theorem fl_any (n : Int) (h : n.natAbs < 2 ^ 64) : ∃ v : Int, Fl (fl n) v ∧ (v < 0 ↔ n < 0) ∧ (n.natAbs < 2 ^ 53 → v = n) ∧ (2 ^ 53 ≤ n.natAbs → 2 ^ 53 ≤ v.natAbs) := by
  by_cases h1 : n.natAbs < 2 ^ 53
  · exact ⟨n, fl_small n h1, Iff.rfl, fun _ => rfl, fun h => by omega⟩
  · obtain ⟨v, h2, h3, h4⟩ := fl_big n (by omega) h
    exact ⟨v, h2, h4, fun h => absurd h h1, fun _ => h3⟩

section
variable (P : Program) (w : World) (a : Addr) (m : Mode)
theorem run_store_complex (k : FloatKind) (x y : Nat) : (store a (.complex k x y) m).run P w = stored P w a (.complex k x y) m := run_store P w a _ m rfl
theorem run_store_float (k : FloatKind) (x : Nat) : (store a (.float k x) m).run P w = stored P w a (.float k x) m := run_store P w a _ m rfl
end

end Go.Proofs.YtbjibkjenleloaaGreatDoor

end
