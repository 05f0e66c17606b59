/- Parts of a proof about the given program, in build order: WlkK, WlkL, WlkM, WlkN. No condition. -/
import Derived.Test.YtbjibkjenleloaaGreatDoorMg10
section
namespace Go.Proofs.YtbjibkjenleloaaGreatDoor
set_option linter.unusedVariables false
set_option linter.unusedSimpArgs false
open Go.RowKit
attribute [local go_sem ↓] Go.wp_at_zero Go.wp_at_succ

theorem gen_w {P S : World → Prop} (w : World) (hs : S w) (h : ∀ w, S w → P w) : P w := h w hs
set_option maxRecDepth 100000 in
set_option maxHeartbeats 8000000 in
theorem pass1c {w : World} {fresh L : List En} {wh : Int → Bool} {follow : Bool} {p : Nat} {fv : Value} {T0 : List ByteArray} {dir0 : Bool} {links0 : Int} {J : Nat → Act → World → Prop} {Q : Exit → Act → World → Prop} {a : Act} {w1 : World} {r o h x gs : Nat} {dir : Bool} {links : Int} {A : List Nd} {y : Nd} {ga ca : Nat} {s : ByteArray} {T : List ByteArray} {ta : Option Addr} {tc : Nat} {U : List Ky} {ua : Option Addr} {uc : Nat} {e : En} {B n : Nat} (K : Code) (hc : CAt w B p n L wh) (hf : Rd w fv fresh.length (ecs fresh)) (hQ : FinQ Q fresh L wh follow w T0 dir0 links0)
    (hF : Fst a r o h x gs p fv follow dir links A ga ca T ta tc) (HI : Hid (SI w w1 r o h x gs p fv A y ga ca T ta tc U ua uc ⟨y.id, s⟩ e)) (HW : Hid (∀ z, Wk fresh L wh follow A y (s :: T) dir links U z → Wk fresh L wh follow [] rootNd T0 dir0 links0 [] z)) (hk : y.kind = 1) (hd1 : dotT s = false) (hd2 : dot2T s = false)
    (hK : ∀ (a : Act) (w2 : World) (x' : En), knW fresh L wh ⟨y.id, s⟩ = some x' → Fst a r o h x gs p fv follow dir links A ga ca T ta tc → Hid (SI w w2 r o h x gs p fv A y ga ca T ta tc U ua uc ⟨y.id, s⟩ x') → K.wp Tryz.prog (jumpM J Q) a w2) : (cutN 1 (sndN 5 (wRest 1)) K).wp Tryz.prog (jumpM J Q) a w1 := by
  conv => pattern (sndN 5 (wRest 1)); whnf
  simp only [cutN]
  have HKK := hid hK
  have HD := hid (And.intro hk (And.intro hd1 hd2))
  obtain ⟨u, rfl⟩ := hF.open
  have hkc := known_any w1 B p n L fresh wh ⟨y.id, s⟩ gs fv (hc.below HI.out.below) HI.out.src (hf.below HI.out.below)
  have bh := blk2 HI.out.hh
  cases hkn : knW fresh L wh ⟨y.id, s⟩ with
  | none =>
    rw [hkn] at hkc
    simp only [Option.getD_none, Option.isSome_none, En.v, zeroE] at hkc
    have HKN := hid hkc
    have HKE := hid hkn
    clear hF hK hk hd1 hd2 hkc hkn hc hf
    refine wp_seq_k fun K0 hK0 => ?_
    refine wp_seq_k fun K1 hK1 => ?_
    have HK0 := hid hK0
    have HK1 := hid hK1
    clear hK0 hK1
    go_wp2_with fail
    refine HKN.out.mono ?_; rintro e2 w2 ⟨rfl, hb2⟩
    have HS2 := hid (HI.out.alloc hb2)
    have bx := blk7 HS2.out.hx
    clear hb2 bh
    go_wp2_with fail
    (try simp only [Exit.then])
    refine HK1.out _ _ ?_
    refine gen_w (P := fun w' => Code.wp _ _ _ _ w') (S := fun w3 => SI w w3 r o h x gs p fv A y ga ca T ta tc U ua uc ⟨y.id, s⟩ zeroE) _ (HS2.out.setx zeroE) ?_
    intro w3 hs3
    have HS3 := hid hs3
    clear hs3 HS2 bx HKK HK0 HK1 HKN
    have bo := blk9 HS3.out.ho
    have br := blk9 HS3.out.hr
    have bh := blk2 HS3.out.hh
    have hro := HS3.out.hro
    have hor : o ≠ r := fun e1 => hro e1.symm
    have hoh := heap_ty HS3.out.ho HS3.out.hh (by decide)
    have hho : h ≠ o := fun e1 => hoh e1.symm
    go_wp2_with fail
    go_region
    refine gen_w (P := fun w' => Exit.then _ _ _ _ w') (S := fun w4 => Chg (fun j => j = o) w3 w4 ∧ w4.heap[o]? = some (.cells #[.bool true, .int .i64 y.id, .string s, .int .i64 0, .int .i64 0, .int .i64 0, .int .i64 0, .string { data := #[] }, .slice ua U.length uc] 176 (0, 0))) _ ⟨?_, ?_⟩ ?_
    · show Chg _ w3 (((w3.setCell ⟨o, 0, none⟩ (.bool true)).setCell ⟨o, 1, none⟩ (.int .i64 y.id)).setCell ⟨o, 2, none⟩ (.string s)).drew
      refine Chg.drew ?_
      iterate 3 refine Chg.set1 ?_ _ _ rfl
      exact Chg.refl _ _
    · show (((w3.setCell ⟨o, 0, none⟩ (.bool true)).setCell ⟨o, 1, none⟩ (.int .i64 y.id)).setCell ⟨o, 2, none⟩ (.string s)).heap[o]? = _
      have h9 := heap_set (heap_set (heap_set HS3.out.ho 0 (.bool true)) 1 (.int .i64 y.id)) 2 (.string s)
      simp only [List.setIfInBounds_toArray, List.set_cons_zero, List.set_cons_succ] at h9
      exact h9
    rintro w4 ⟨hc4, ho4⟩
    have HC4 := hid hc4
    clear bo br bh hc4
    have bo := blk9 ho4
    have br := blk9 (heap_chg HC4.out HS3.out.hr HS3.out.hro)
    clear ho4
    go_wp2_with fail
    (try simp only [Exit.inBlock, Exit.then])
    show Q .ret _ _
    refine hQ _ _ r ⟨true, ⟨y.id, s⟩, 0, nd0, U⟩ ua uc ?_ rfl ?_ ?_ ?_ ?_
    · rfl
    · refine (SI.ret9 HS3.out ?_ (.bool true) (.int .i64 y.id) (.string s) (.int .i64 0) (.int .i64 0) (.int .i64 0) (.int .i64 0) (.string ByteArray.empty) (.slice ua U.length uc)).1; exact HC4.out
    · exact HW.out _ (.need _ _ _ _ _ _ _ HD.out.1 HD.out.2.1 HD.out.2.2 HKE.out)
    · refine (SI.ret9 HS3.out ?_ (.bool true) (.int .i64 y.id) (.string s) (.int .i64 0) (.int .i64 0) (.int .i64 0) (.int .i64 0) (.string ByteArray.empty) (.slice ua U.length uc)).2.1; exact HC4.out
    · refine (SI.ret9 HS3.out ?_ (.bool true) (.int .i64 y.id) (.string s) (.int .i64 0) (.int .i64 0) (.int .i64 0) (.int .i64 0) (.string ByteArray.empty) (.slice ua U.length uc)).2.2; exact HC4.out
  | some x' =>
    rw [hkn] at hkc
    simp only [Option.getD_some, Option.isSome_some, En.v] at hkc
    have HKN := hid hkc
    have HKE := hid hkn
    clear hF hK hk hd1 hd2 hkc hkn hc hf
    go_wp2_with fail
    refine HKN.out.mono ?_; rintro e2 w2 ⟨rfl, hb2⟩
    have HS2 := hid (HI.out.alloc hb2)
    have bx := blk7 HS2.out.hx
    clear hb2 bh
    go_wp2_with fail
    refine HKK.out _ _ x' HKE.out ?_ (hid (HS2.out.setx x'))
    exact ⟨⟨rfl, rfl⟩, rfl, rfl, rfl, rfl, rfl, rfl, rfl, rfl, rfl, rfl, rfl, rfl⟩

end Go.Proofs.YtbjibkjenleloaaGreatDoor

end

section
namespace Go.Proofs.YtbjibkjenleloaaGreatDoor
set_option linter.unusedVariables false
set_option linter.unusedSimpArgs false
open Go.RowKit
attribute [local go_sem ↓] Go.wp_at_zero Go.wp_at_succ

set_option maxRecDepth 100000 in
set_option maxHeartbeats 8000000 in
theorem pass1d {w : World} {fresh L : List En} {wh : Int → Bool} {follow : Bool} {p : Nat} {fv : Value} {T0 : List ByteArray} {dir0 : Bool} {links0 : Int} {J : Nat → Act → World → Prop} {Q : Exit → Act → World → Prop} {a : Act} {w1 : World} {r o h x gs : Nat} {dir : Bool} {links : Int} {A : List Nd} {y : Nd} {ga ca : Nat} {s : ByteArray} {T : List ByteArray} {ta : Option Addr} {tc : Nat} {U : List Ky} {ua : Option Addr} {uc : Nat} {e : En} {x' : En} {m0 : Nat} (K : Code) (hQ : FinQ Q fresh L wh follow w T0 dir0 links0)
    (hF : Fst a r o h x gs p fv follow dir links A ga ca T ta tc) (HI : Hid (SI w w1 r o h x gs p fv A y ga ca T ta tc U ua uc ⟨y.id, s⟩ x')) (HW : Hid (∀ z, Wk fresh L wh follow A y (s :: T) dir links U z → Wk fresh L wh follow [] rootNd T0 dir0 links0 [] z)) (hl1 : 0 ≤ links) (hl2 : links ≤ 8) (hb1 : T.length + 1 + 200 * links.toNat ≤ 10000) (hb2 : A.length + T.length + 1 + 200 * links.toNat ≤ 10000) (hb3 : U.length + T.length + 1 + 200 * links.toNat ≤ 10000) (hm : 1 + links.toNat * 100000 + (T.length + 1) ≤ m0) (hk : y.kind = 1) (hd1 : dotT s = false) (hd2 : dot2T s = false) (hkn : knW fresh L wh ⟨y.id, s⟩ = some x') (h1 : ∀ a w2, Jst fresh L wh follow w p fv T0 dir0 links0 1 a w2 → muW 1 a w2 < m0 → J 1 a w2)
    (hK : ∀ (a : Act) (w2 : World) (ua : Option Addr) (uc : Nat), Fst a r o h x gs p fv follow dir links A ga ca T ta tc → Hid (SI w w2 r o h x gs p fv A y ga ca T ta tc (U ++ [⟨y.id, s⟩]) ua uc ⟨y.id, s⟩ x') → x'.neg = false → (x'.node.kind != 3 || (T.isEmpty && !dir && !follow)) = false → K.wp Tryz.prog (jumpM J Q) a w2) : (cutN 2 (sndN 6 (wRest 1)) K).wp Tryz.prog (jumpM J Q) a w1 := by
  conv => pattern (sndN 6 (wRest 1)); whnf
  simp only [cutN]
  have HKK := hid hK
  have HH1 := hid h1
  have HM := hid hm
  have HB := hid (And.intro hb1 (And.intro hb2 hb3))
  have HD := hid (And.intro hk (And.intro hd1 hd2))
  have HKE := hid hkn
  obtain ⟨u, rfl⟩ := hF.open
  obtain ⟨i2, hi2, p2, q2, r2⟩ := info_parts infoKy
  have HI2 := hid hi2
  obtain ⟨i4, hi4, p4, q4, r4⟩ := info_parts infoNd
  have HI4 := hid hi4
  have bh := blk2 HI.out.hh
  have bo := blk9 HI.out.ho
  clear hF hK h1 hm hb1 hb2 hb3 hk hd1 hd2 hkn hi2 hi4
  refine wp_seq_k fun K0 hK0 => ?_
  have HK0 := hid hK0
  clear hK0
  go_wp2_with (at_builtin; (refine wpList_append_rd rfl _ _ 48 rfl w.heap.size 53 i2 _ 2 24 Tryz.underlying48 HI2.out p2 q2 r2 rfl (by decide) (.slice ua U.length uc) U.length (kyc U) rfl (own_alloc HI.out.used _) (.slice (some ⟨w1.heap.size, 0, none⟩) 1 1) 1 [.int .i64 y.id, .string s] rfl (rd_blk (heap_new w1 (.cells #[.int .i64 y.id, .string s] 53)) (by unfold maxLen; omega)) rfl (by intro u hu; simp at hu; rcases hu with rfl | rfl <;> rfl) (by unfold maxLen; have := HB.out; omega) (by have := HB.out; omega) (by simp; have := HI.out.below.size; omega) ?_; intro a2 c2 w2 hown2 hgrow2 hat2; (have HO2 := hid (HI.out.use hgrow2 hown2 hat2)); (have bo2 := blk9 (heap_grown hgrow2 (heap_old HI.out.ho _) (Ne.symm (own_ne HI.out.used HI.out.ho (by decide))))); clear hown2 hgrow2 hat2))
  (try simp only [Exit.then])
  refine HK0.out _ _ ?_
  refine gen_w (P := fun w' => Code.wp _ _ _ _ w') (S := fun w3 => SI w w3 r o h x gs p fv A y ga ca T ta tc (U ++ [⟨y.id, s⟩]) a2 c2 ⟨y.id, s⟩ x') _ HO2.out ?_
  intro w3 hs3
  obtain ⟨U2, hU2⟩ : ∃ U2, U2 = U ++ [⟨y.id, s⟩] := ⟨_, rfl⟩
  have hul : U.length + 1 = U2.length := by rw [hU2]; simp
  rw [← hU2] at hs3
  rw [hul]
  have HU2 := hid hU2
  have HS3 := hid hs3
  clear hs3 hU2 hul HO2 bo2 bo bh HK0
  have bo := blk9 HS3.out.ho
  have br := blk9 HS3.out.hr
  have bx := blk7 HS3.out.hx
  have hro := HS3.out.hro
  have hor : o ≠ r := fun e1 => hro e1.symm
  cases hn : x'.neg with
  | true =>
    rw [hn] at bx
    have HN := hid hn
    clear hn
    go_wp2_with fail
    (try simp only [Exit.inBlock, Exit.then])
    show Q .ret _ _
    refine hQ _ _ r ⟨false, ky0, 40, nd0, U2⟩ a2 c2 ?_ rfl ?_ ?_ ?_ ?_
    · rfl
    · refine (SI.ret9 HS3.out ?_ (.bool false) (.int .i64 0) (.string ByteArray.empty) (.int .i64 40) (.int .i64 0) (.int .i64 0) (.int .i64 0) (.string ByteArray.empty) (.slice a2 U2.length c2)).1; (iterate 1 refine Chg.set1 ?_ _ _ rfl); exact Chg.refl _ _
    · exact HW.out _ (by rw [HU2.out]; exact .neg _ _ _ _ _ _ _ x' HD.out.1 HD.out.2.1 HD.out.2.2 HKE.out HN.out)
    · refine (SI.ret9 HS3.out ?_ (.bool false) (.int .i64 0) (.string ByteArray.empty) (.int .i64 40) (.int .i64 0) (.int .i64 0) (.int .i64 0) (.string ByteArray.empty) (.slice a2 U2.length c2)).2.1; (iterate 1 refine Chg.set1 ?_ _ _ rfl); exact Chg.refl _ _
    · refine (SI.ret9 HS3.out ?_ (.bool false) (.int .i64 0) (.string ByteArray.empty) (.int .i64 40) (.int .i64 0) (.int .i64 0) (.int .i64 0) (.string ByteArray.empty) (.slice a2 U2.length c2)).2.2; (iterate 1 refine Chg.set1 ?_ _ _ rfl); exact Chg.refl _ _
  | false =>
    rw [hn] at bx
    have HN := hid hn
    clear hn
    by_cases hk3 : x'.node.kind = 3
    · have hk4 : (x'.node.kind != 3) = false := by simp [hk3]
      cases T with
      | cons s2 T2 =>
        have HCO := hid (show (x'.node.kind != 3 || ((s2 :: T2).isEmpty && !dir && !follow)) = false by simp [hk3])
        have hz1 : (((T2.length + 1 : Nat) : Int) == 0) = false := by simp; omega
        have hz2 : ((T2.length : Int) + 1 == 0) = false := by simp; omega
        simp only [List.length_cons]
        clear hk3
        go_wp2_with fail
        refine HKK.out _ _ a2 c2 ?_ (by rw [← HU2.out]; exact HS3) HN.out HCO.out
        exact ⟨⟨rfl, rfl⟩, rfl, rfl, rfl, rfl, rfl, rfl, rfl, rfl, rfl, rfl, rfl, rfl⟩
      | nil =>
        cases dir with
        | true =>
          have HCO := hid (show (x'.node.kind != 3 || (([] : List ByteArray).isEmpty && !true && !follow)) = false by simp [hk3])
          clear hk3
          go_wp2_with fail
          refine HKK.out _ _ a2 c2 ?_ (by rw [← HU2.out]; exact HS3) HN.out HCO.out
          exact ⟨⟨rfl, rfl⟩, rfl, rfl, rfl, rfl, rfl, rfl, rfl, rfl, rfl, rfl, rfl, rfl⟩
        | false =>
          cases follow with
          | true =>
            have HCO := hid (show (x'.node.kind != 3 || (([] : List ByteArray).isEmpty && !false && !true)) = false by simp [hk3])
            clear hk3
            go_wp2_with fail
            refine HKK.out _ _ a2 c2 ?_ (by rw [← HU2.out]; exact HS3) HN.out HCO.out
            exact ⟨⟨rfl, rfl⟩, rfl, rfl, rfl, rfl, rfl, rfl, rfl, rfl, rfl, rfl, rfl, rfl⟩
          | false =>
            have HCO := hid (show (x'.node.kind != 3 || (([] : List ByteArray).isEmpty && !false && !false)) = true by simp [hk3])
            clear hk3
            go_wp2_with (at_builtin; refine wpList_append_rd rfl _ _ 206 rfl w.heap.size 40 i4 _ 4 40 Tryz.underlying206 HI4.out p4 q4 r4 rfl (by decide) (.slice (some ⟨ga, 0, none⟩) (A.length + 1) ca) (A.length + 1) (ncs (A ++ [y])) rfl (own_alloc HS3.out.row _) (.slice (some ⟨w3.heap.size, 0, none⟩) 1 1) 1 [.int .i64 x'.node.id, .int .i64 x'.node.kind, .int .i64 x'.node.mode, .string x'.node.target] rfl (rd_blk (heap_new w3 (.cells #[.int .i64 x'.node.id, .int .i64 x'.node.kind, .int .i64 x'.node.mode, .string x'.node.target] 40)) (by unfold maxLen; omega)) rfl (by intro u hu; simp at hu; rcases hu with rfl | rfl | rfl | rfl <;> rfl) (by unfold maxLen; have := HB.out; omega) (by have := HB.out; omega) (by simp; have := HS3.out.below.size; omega) ?_; intro a4 c4 w4 hown4 hgrow4 hat4; (have HP := hid (HS3.out.push hgrow4 hown4)); clear hown4 hgrow4 hat4)
            obtain ⟨ga2, rfl, hs5⟩ := HP.out
            have HS5 := hid hs5
            clear hs5 HP
            go_wp2_with fail
            refine wp_goto ?_
            refine HH1.out _ _ ?_ ?_
            · exact ⟨.inr rfl, r, o, h, x, gs, false, links, A ++ [y], x'.node, ga2, c4, [], ta, tc, U2, a2, c2, ⟨y.id, s⟩, x', ⟨rfl, rfl⟩, ⟨rfl, rfl, rfl, rfl, rfl, rfl, rfl, rfl, (by show Value.slice _ _ _ = _; rw [List.length_append]; rfl), rfl, rfl, rfl⟩, (fun h => absurd h (by decide)), HS5, hl1, hl2, by have := HB.out; omega, by have := HB.out; rw [List.length_append]; simp only [List.length_singleton]; omega, by have := HB.out; rw [HU2.out, List.length_append]; simp only [List.length_singleton]; omega, hid (fun z hz => HW.out z (.go _ _ _ _ _ _ _ x' _ HD.out.1 HD.out.2.1 HD.out.2.2 HKE.out HN.out HCO.out (by rw [← HU2.out]; exact hz)))⟩
            · show 1 + links.toNat * 100000 + 0 < m0
              have := HM.out; omega
    · have hk4 : (x'.node.kind != 3) = true := by simp [hk3]
      have HCO := hid (show (x'.node.kind != 3 || (T.isEmpty && !dir && !follow)) = true by simp [hk3])
      clear hk3
      go_wp2_with (at_builtin; refine wpList_append_rd rfl _ _ 206 rfl w.heap.size 40 i4 _ 4 40 Tryz.underlying206 HI4.out p4 q4 r4 rfl (by decide) (.slice (some ⟨ga, 0, none⟩) (A.length + 1) ca) (A.length + 1) (ncs (A ++ [y])) rfl (own_alloc HS3.out.row _) (.slice (some ⟨w3.heap.size, 0, none⟩) 1 1) 1 [.int .i64 x'.node.id, .int .i64 x'.node.kind, .int .i64 x'.node.mode, .string x'.node.target] rfl (rd_blk (heap_new w3 (.cells #[.int .i64 x'.node.id, .int .i64 x'.node.kind, .int .i64 x'.node.mode, .string x'.node.target] 40)) (by unfold maxLen; omega)) rfl (by intro u hu; simp at hu; rcases hu with rfl | rfl | rfl | rfl <;> rfl) (by unfold maxLen; have := HB.out; omega) (by have := HB.out; omega) (by simp; have := HS3.out.below.size; omega) ?_; intro a4 c4 w4 hown4 hgrow4 hat4; (have HP := hid (HS3.out.push hgrow4 hown4)); clear hown4 hgrow4 hat4)
      obtain ⟨ga2, rfl, hs5⟩ := HP.out
      have HS5 := hid hs5
      clear hs5 HP
      go_wp2_with fail
      refine wp_goto ?_
      refine HH1.out _ _ ?_ ?_
      · exact ⟨.inr rfl, r, o, h, x, gs, dir, links, A ++ [y], x'.node, ga2, c4, T, ta, tc, U2, a2, c2, ⟨y.id, s⟩, x', ⟨rfl, rfl⟩, ⟨rfl, rfl, rfl, rfl, rfl, rfl, rfl, rfl, (by show Value.slice _ _ _ = _; rw [List.length_append]; rfl), rfl, rfl, rfl⟩, (fun h => absurd h (by decide)), HS5, hl1, hl2, by have := HB.out; omega, by have := HB.out; rw [List.length_append]; simp only [List.length_singleton]; omega, by have := HB.out; rw [HU2.out, List.length_append]; simp only [List.length_singleton]; omega, hid (fun z hz => HW.out z (.go _ _ _ _ _ _ _ x' _ HD.out.1 HD.out.2.1 HD.out.2.2 HKE.out HN.out HCO.out (by rw [← HU2.out]; exact hz)))⟩
      · show 1 + links.toNat * 100000 + T.length < m0
        have := HM.out; omega

end Go.Proofs.YtbjibkjenleloaaGreatDoor

end

section
namespace Go.Proofs.YtbjibkjenleloaaGreatDoor
set_option linter.unusedVariables false
set_option linter.unusedSimpArgs false
open Go.RowKit
attribute [local go_sem ↓] Go.wp_at_zero Go.wp_at_succ

theorem SI.seto {w w' : World} {r o h x gs p : Nat} {fv : Value} {A : List Nd} {y : Nd} {ga ca : Nat} {T : List ByteArray} {ta : Option Addr} {tc : Nat} {U : List Ky} {ua : Option Addr} {uc : Nat} {k : Ky} {e : En} (s : SI w w' r o h x gs p fv A y ga ca T ta tc U ua uc k e) : SI w (w'.setCell ⟨o, 3, none⟩ (.int .i64 0)) r o h x gs p fv A y ga ca T ta tc U ua uc k e := by
  have hc : Chg (fun j => j = o) w' (w'.setCell ⟨o, 3, none⟩ (.int .i64 0)) := (Chg.refl _ _).setCell _ _ (.inl rfl)
  have h9 := heap_set s.ho 3 (.int .i64 0)
  simp only [List.setIfInBounds_toArray, List.set_cons_zero, List.set_cons_succ] at h9
  exact s.upd hc (fun j hj => by subst hj; exact s.lo.2.1) s.hro (fun e1 => s.srct.ne s.ho (by decide) (by rw [e1]; rfl)) (fun j hj e1 => s.todot.ne s.ho (by decide) (by rw [hj, e1])) h9
    (heap_chg hc s.hh (heap_ty s.hh s.ho (by decide))) (heap_chg hc s.hx (heap_ty s.hx s.ho (by decide)))
    (ownsRow_chg s.row fun j hj hl => hc.block j hl fun e1 => by subst e1; exact own_ne s.row s.ho (by decide) hj)
    (ownsRow_chg s.used fun j hj hl => hc.block j hl fun e1 => by subst e1; exact own_ne s.used s.ho (by decide) hj) s.usedh
theorem tgt_small {s : ByteArray} (h : tgtErr s = 0) : (stepsL s).length ≤ 97 := by
  have h2 := steps_le s
  have h3 : s.size ≤ 96 := by
    unfold tgtErr at h
    by_cases hb : 96 < s.size
    · rw [if_pos hb] at h; exact absurd h (by decide)
    · omega
  omega
set_option maxRecDepth 100000 in
set_option maxHeartbeats 8000000 in
theorem pass1e {w : World} {fresh L : List En} {wh : Int → Bool} {follow : Bool} {p : Nat} {fv : Value} {T0 : List ByteArray} {dir0 : Bool} {links0 : Int} {J : Nat → Act → World → Prop} {Q : Exit → Act → World → Prop} {a : Act} {w1 : World} {r o h x gs : Nat} {dir : Bool} {links : Int} {A : List Nd} {y : Nd} {ga ca : Nat} {s : ByteArray} {T : List ByteArray} {ta : Option Addr} {tc : Nat} {U : List Ky} {ua : Option Addr} {uc : Nat} {e : En} {U0 : List Ky} {x' : En} {m0 : Nat} (hQ : FinQ Q fresh L wh follow w T0 dir0 links0)
    (hF : Fst a r o h x gs p fv follow dir links A ga ca T ta tc) (HI : Hid (SI w w1 r o h x gs p fv A y ga ca T ta tc U ua uc ⟨y.id, s⟩ x')) (hU : U = U0 ++ [⟨y.id, s⟩]) (HW : Hid (∀ z, Wk fresh L wh follow A y (s :: T) dir links U0 z → Wk fresh L wh follow [] rootNd T0 dir0 links0 [] z)) (hl1 : 0 ≤ links) (hl2 : links ≤ 8) (hb1 : T.length + 1 + 200 * links.toNat ≤ 10000) (hb2 : A.length + T.length + 1 + 200 * links.toNat ≤ 10000) (hb3 : U0.length + T.length + 1 + 200 * links.toNat ≤ 10000) (hm : 1 + links.toNat * 100000 + (T.length + 1) ≤ m0) (hk : y.kind = 1) (hd1 : dotT s = false) (hd2 : dot2T s = false) (hkn : knW fresh L wh ⟨y.id, s⟩ = some x') (hn : x'.neg = false) (hco : (x'.node.kind != 3 || (T.isEmpty && !dir && !follow)) = false) (h1 : ∀ a w2, Jst fresh L wh follow w p fv T0 dir0 links0 1 a w2 → muW 1 a w2 < m0 → J 1 a w2) : (sndN 8 (wRest 1)).wp Tryz.prog (jumpM J Q) a w1 := by
  conv => pattern (sndN 8 (wRest 1)); whnf
  have HH1 := hid h1
  have HM := hid hm
  have HB := hid (And.intro hb1 (And.intro hb2 hb3))
  have HD := hid (And.intro hk (And.intro hd1 hd2))
  have HKE := hid hkn
  have HN := hid hn
  have HCO := hid hco
  have HU := hid hU
  obtain ⟨u, rfl⟩ := hF.open
  have bo := blk9 HI.out.ho
  have br := blk9 HI.out.hr
  have bx := blk7 HI.out.hx
  have hro := HI.out.hro
  have hor : o ≠ r := fun e1 => hro e1.symm
  clear hF h1 hm hb1 hb2 hb3 hk hd1 hd2 hkn hn hco hU
  have hw1 : IntKind.i64.wrap (links - 1) = links - 1 := IntWalk.i64_in _ (by omega)
  by_cases hl : links ≤ 0
  · have HL := hid hl
    have hlz : links = 0 := by omega
    have hlt : (decide (links - 1 < 0)) = true := by simp; omega
    have HLZ := hid hlz
    clear hl hlz
    go_wp2_with fail
    (try simp only [Exit.inBlock, Exit.then])
    show Q .ret _ _
    refine hQ _ _ r ⟨false, ky0, 49, nd0, U⟩ ua uc ?_ rfl ?_ ?_ ?_ ?_
    · rfl
    · refine (SI.ret9 HI.out ?_ (.bool false) (.int .i64 0) (.string ByteArray.empty) (.int .i64 49) (.int .i64 0) (.int .i64 0) (.int .i64 0) (.string ByteArray.empty) (.slice ua U.length uc)).1; (iterate 1 refine Chg.set1 ?_ _ _ rfl); exact Chg.refl _ _
    · exact HW.out _ (by rw [HU.out]; exact .loop _ _ _ _ _ _ _ x' HD.out.1 HD.out.2.1 HD.out.2.2 HKE.out HN.out HCO.out HL.out)
    · refine (SI.ret9 HI.out ?_ (.bool false) (.int .i64 0) (.string ByteArray.empty) (.int .i64 49) (.int .i64 0) (.int .i64 0) (.int .i64 0) (.string ByteArray.empty) (.slice ua U.length uc)).2.1; (iterate 1 refine Chg.set1 ?_ _ _ rfl); exact Chg.refl _ _
    · refine (SI.ret9 HI.out ?_ (.bool false) (.int .i64 0) (.string ByteArray.empty) (.int .i64 49) (.int .i64 0) (.int .i64 0) (.int .i64 0) (.string ByteArray.empty) (.slice ua U.length uc)).2.2; (iterate 1 refine Chg.set1 ?_ _ _ rfl); exact Chg.refl _ _
  · have HL := hid hl
    have hlt : (decide (links - 1 < 0)) = false := by simp; omega
    have hlp : (links - 1).toNat + 1 = links.toNat := by omega
    have HLP := hid hlp
    clear hl hlp
    go_wp2_with fail
    refine (met_any _ _ _ T dir x'.node.target HI.out.todo (by have := HB.out; omega)).mono ?_; rintro e2 w2 ⟨hc2, hb2⟩
    have HS2 := hid (HI.out.alloc hb2)
    clear bo br bx
    have bo := blk9 HS2.out.ho
    have br := blk9 HS2.out.hr
    clear hb2
    rcases hc2.out with ⟨ht, rfl⟩ | ⟨ht, a3, c3, ho3, hcc⟩
    · have HT := hid ht
      have t1 : (tgtErr x'.node.target == 0) = false := by simp [ht]
      clear ht hc2
      go_wp2_with fail
      (try simp only [Exit.inBlock, Exit.then])
      show Q .ret _ _
      refine hQ _ _ r ⟨false, ky0, tgtErr x'.node.target, nd0, U⟩ ua uc ?_ rfl ?_ ?_ ?_ ?_
      · rfl
      · refine (SI.ret9 HS2.out ?_ (.bool false) (.int .i64 0) (.string ByteArray.empty) (.int .i64 (tgtErr x'.node.target)) (.int .i64 0) (.int .i64 0) (.int .i64 0) (.string ByteArray.empty) (.slice ua U.length uc)).1; (iterate 1 refine Chg.set1 ?_ _ _ rfl); exact Chg.refl _ _
      · exact HW.out _ (by rw [HU.out]; exact .bad _ _ _ _ _ _ _ x' HD.out.1 HD.out.2.1 HD.out.2.2 HKE.out HN.out HCO.out (by have := HL.out; omega) HT.out)
      · refine (SI.ret9 HS2.out ?_ (.bool false) (.int .i64 0) (.string ByteArray.empty) (.int .i64 (tgtErr x'.node.target)) (.int .i64 0) (.int .i64 0) (.int .i64 0) (.string ByteArray.empty) (.slice ua U.length uc)).2.1; (iterate 1 refine Chg.set1 ?_ _ _ rfl); exact Chg.refl _ _
      · refine (SI.ret9 HS2.out ?_ (.bool false) (.int .i64 0) (.string ByteArray.empty) (.int .i64 (tgtErr x'.node.target)) (.int .i64 0) (.int .i64 0) (.int .i64 0) (.string ByteArray.empty) (.slice ua U.length uc)).2.2; (iterate 1 refine Chg.set1 ?_ _ _ rfl); exact Chg.refl _ _
    · have HT := hid ht
      have HLN := hid (tgt_small ht)
      have HS3 := hid (HS2.out.todos (Rd.own ho3) (TyB.own ho3))
      clear ht hc2 ho3
      rcases hcc with ⟨hsl, rfl⟩ | ⟨hsl, g, rfl, hg⟩
      · have HSL := hid hsl
        clear hsl
        go_wp2_with fail
        refine wp_goto ?_
        refine HH1.out _ _ ?_ ?_
        · exact ⟨.inr rfl, r, o, h, x, gs, _, links - 1, A, y, ga, ca, stepsL x'.node.target ++ T, a3, c3, U, ua, uc, ⟨y.id, s⟩, x', ⟨rfl, rfl⟩, ⟨rfl, rfl, rfl, rfl, rfl, rfl, (by show Value.slice _ _ _ = _; rw [List.length_append]), rfl, rfl, rfl, rfl, rfl⟩, (fun h => absurd h (by decide)), hid HS3.out.seto, by have := HL.out; omega, by omega, by have := HB.out; have := HLN.out; have := HLP.out; rw [List.length_append]; omega, by have := HB.out; have := HLN.out; have := HLP.out; rw [List.length_append]; omega, by have h9 := congrArg List.length HU.out; rw [List.length_append] at h9; simp only [List.length_singleton] at h9; have := HB.out; have := HLN.out; have := HLP.out; rw [List.length_append]; omega, hid (fun z hz => HW.out z (.link _ _ _ _ _ _ _ x' _ HD.out.1 HD.out.2.1 HD.out.2.2 HKE.out HN.out HCO.out (by have := HL.out; omega) HT.out HSL.out (by rw [← HU.out]; exact hz)))⟩
        · show 1 + (links - 1).toNat * 100000 + ((stepsL x'.node.target).length + T.length) < m0
          have := HM.out; have := HLN.out; have := HLP.out; omega
      · have HSL := hid hsl
        have HS4 := hid (HS3.out.place (A' := []) (y' := rootNd) (ownsRow_mono hg HI.out.below.size))
        clear hsl hg
        go_wp2_with fail
        refine wp_goto ?_
        refine HH1.out _ _ ?_ ?_
        · exact ⟨.inr rfl, r, o, h, x, gs, _, links - 1, [], rootNd, g, 1, stepsL x'.node.target ++ T, a3, c3, U, ua, uc, ⟨y.id, s⟩, x', ⟨rfl, rfl⟩, ⟨rfl, rfl, rfl, rfl, rfl, rfl, (by show Value.slice _ _ _ = _; rw [List.length_append]), rfl, rfl, rfl, rfl, rfl⟩, (fun h => absurd h (by decide)), hid HS4.out.seto, by have := HL.out; omega, by omega, by have := HB.out; have := HLN.out; have := HLP.out; rw [List.length_append]; omega, by have := HB.out; have := HLN.out; have := HLP.out; rw [List.length_append]; simp only [List.length_nil]; omega, by have h9 := congrArg List.length HU.out; rw [List.length_append] at h9; simp only [List.length_singleton] at h9; have := HB.out; have := HLN.out; have := HLP.out; rw [List.length_append]; omega, hid (fun z hz => HW.out z (.linkRoot _ _ _ _ _ _ _ x' _ HD.out.1 HD.out.2.1 HD.out.2.2 HKE.out HN.out HCO.out (by have := HL.out; omega) HT.out HSL.out (by rw [← HU.out]; exact hz)))⟩
        · show 1 + (links - 1).toNat * 100000 + ((stepsL x'.node.target).length + T.length) < m0
          have := HM.out; have := HLN.out; have := HLP.out; omega

end Go.Proofs.YtbjibkjenleloaaGreatDoor

end

section
namespace Go.Proofs.YtbjibkjenleloaaGreatDoor
set_option linter.unusedVariables false
set_option linter.unusedSimpArgs false
open Go.RowKit
attribute [local go_sem ↓] Go.wp_at_zero Go.wp_at_succ

def Ow.cv (z : Ow) (ua : Option Addr) (uc : Nat) : Value := .agg #[.bool z.need, .int .i64 z.key.dir, .string z.key.name, .int .i64 z.err, .int .i64 z.node.id, .int .i64 z.node.kind, .int .i64 z.node.mode, .string z.node.target, .slice ua z.used.length uc]
def stepsPost (w : World) (fresh L : List En) (wh : Int → Bool) (follow : Bool) (T0 : List ByteArray) (dir0 : Bool) (links0 : Int) (e : Ending) (w' : World) : Prop :=
  ∃ z ua uc, e = .returned (z.cv ua uc) ∧ Wk fresh L wh follow [] rootNd T0 dir0 links0 [] z ∧ w'.ownsRow w.heap.size 53 2 (.slice ua z.used.length uc) z.used.length (kyc z.used) ∧ Below w.heap.size w w'
theorem pass1 {w : World} {fresh L : List En} {wh : Int → Bool} {follow : Bool} {p : Nat} {fv : Value} {T0 : List ByteArray} {dir0 : Bool} {links0 : Int} {J : Nat → Act → World → Prop} {Q : Exit → Act → World → Prop} {a : Act} {w1 : World} {m0 B n : Nat} (hc : CAt w B p n L wh) (hf : Rd w fv fresh.length (ecs fresh)) (hQ : FinQ Q fresh L wh follow w T0 dir0 links0) (hj : Jst fresh L wh follow w p fv T0 dir0 links0 1 a w1) (hm : m0 = muW 1 a w1)
    (h0 : ∀ a w2, Jst fresh L wh follow w p fv T0 dir0 links0 0 a w2 → J 0 a w2) (h1 : ∀ a w2, Jst fresh L wh follow w p fv T0 dir0 links0 1 a w2 → muW 1 a w2 < m0 → J 1 a w2) : (wRest 1).wp Tryz.prog (jumpM J Q) a w1 :=
  pass1a (sndN 2 (wRest 1)) hj hm hQ h0 fun a w2 r o h x gs dir links A y ga ca s T ta tc U ua uc k e hF HI hk hl1 hl2 b1 b2 b3 bm HW =>
    pass1b (sndN 5 (wRest 1)) hF HI hl1 hl2 b1 b2 b3 bm HW hk h1 fun a w2 ta tc hF HI d1 d2 =>
      pass1c (sndN 6 (wRest 1)) hc hf hQ hF HI HW hk d1 d2 fun a w2 x' hkn hF HI =>
        pass1d (e := e) (sndN 8 (wRest 1)) hQ hF HI HW hl1 hl2 b1 b2 b3 bm hk d1 d2 hkn h1 fun a w2 ua uc hF HI hn hco =>
          pass1e (e := e) hQ hF HI rfl HW hl1 hl2 b1 b2 b3 bm hk d1 d2 hkn hn hco h1
theorem finQ_steps (w : World) (fresh L : List En) (wh : Int → Bool) (follow : Bool) (T0 : List ByteArray) (dir0 : Bool) (links0 : Int) :
    FinQ (bodyPost Tryz.prog Tryz.f116 (stepsPost w fresh L wh follow T0 dir0 links0)) fresh L wh follow w T0 dir0 links0 := by
  intro a w3 r z ua uc h12 hd hr hwk hown hb
  have br := blk9 hr
  have h12' : a.tmps[12]?.getD undef = .pointer (some ⟨r, 0, none⟩) := by simpa using h12
  refine bodyPost_ret (v := z.cv ua uc) ?_ hd ⟨z, ua, uc, rfl, hwk, hown, hb⟩
  clear hwk hown hb hd
  simp [results, Tryz.results116, h12', go_sem, br, Ow.cv]
set_option maxRecDepth 100000 in
set_option maxHeartbeats 8000000 in
theorem steps_any (w : World) (B p n : Nat) (L fresh : List En) (wh : Int → Bool) (fv sv : Value) (T0 : List ByteArray) (dir0 follow : Bool) (links0 : Int) (hc : CAt w B p n L wh) (hf : Rd w fv fresh.length (ecs fresh)) (hs : Rd w sv T0.length (srow T0)) (hT : T0.length ≤ 200) (hl0 : 0 ≤ links0) (hl8 : links0 ≤ 8) :
    Calls Tryz.prog 116 #[.pointer (some ⟨p, 0, none⟩), fv, sv, .bool dir0, .bool follow, .int .i64 links0] w (stepsPost w fresh L wh follow T0 dir0 links0) := by
  have HC := hid hc
  have HF := hid hf
  have HS := hid hs
  have hc' := hc
  have hf' := hf
  clear hc hf hs
  have hmx : max links0 0 = links0 := by omega
  have hmn : min links0 8 = links0 := by omega
  go_enter Tryz.func116, Tryz.ntmps116
  go_wp2_with fail
  refine wp_scope_two (r0 := ?r0) (r1 := ?r1) (Jst fresh L wh follow w p fv T0 dir0 links0) muW (fun l a w1 h => h.1) ?h0 ?h1 ?f ?p0 ?p1
  case h0 => exact rfl
  case h1 => exact rfl
  case f =>
    intro hpass
    have hr0 := heap_new w (.cells #[.bool false, .int .i64 0, .string { data := #[] }, .int .i64 0, .int .i64 0, .int .i64 0, .int .i64 0, .string { data := #[] }, .slice none 0 0] 176)
    have HR0 := hid hr0
    have HP := hid hpass
    clear hr0 hpass
    go_wp2_with fail
    refine (clone_strs sv T0 _ (HS.out.below (bl1 w (.cells #[.bool false, .int .i64 0, .string { data := #[] }, .int .i64 0, .int .i64 0, .int .i64 0, .int .i64 0, .string { data := #[] }, .slice none 0 0] 176))) (by omega)).mono ?_; rintro e w2 ⟨ta, tc, rfl, ho2, hb2⟩
    have HB2 := hid ((bl1 w (.cells #[.bool false, .int .i64 0, .string { data := #[] }, .int .i64 0, .int .i64 0, .int .i64 0, .int .i64 0, .string { data := #[] }, .slice none 0 0] 176)).trans (hb2.mono (by simp)))
    have HO2 := hid ho2
    have HR2 := hid (heap_below hb2 HR0.out (by simp))
    clear ho2 hb2
    go_wp2_with fail
    refine (root_any _).mono ?_; rintro e w4 ⟨rfl, ho4, hb4⟩
    have HSRC := hid (heap_new w2 (.cells #[.iface 201 fv, .iface 84 (.pointer (some ⟨p, 0, none⟩)), .iface 203 (.agg #[.pointer (some ⟨p, 0, none⟩)])] 223))
    have HW3 := hid (show (w2.alloc (.cells #[.iface 201 fv, .iface 84 (.pointer (some ⟨p, 0, none⟩)), .iface 203 (.agg #[.pointer (some ⟨p, 0, none⟩)])] 223)).heap.size = w2.heap.size + 1 by simp)
    have HB4 := hid (HB2.out.trans (((bl1 w2 (.cells #[.iface 201 fv, .iface 84 (.pointer (some ⟨p, 0, none⟩)), .iface 203 (.agg #[.pointer (some ⟨p, 0, none⟩)])] 223)).trans (hb4.mono (by simp))).mono HB2.out.size))
    have HO4 := hid ho4
    have HQ4 := hid hb4
    clear ho4 hb4
    go_wp2_with fail
    go_step3
    simp only [Exit.then]
    go_step
    refine HP.out _ _ ?_
    refine ⟨.inr rfl, w.heap.size, w4.heap.size, w4.heap.size + 1, w4.heap.size + 1 + 1, w2.heap.size, dir0, links0, [], rootNd, _, 1, T0, ta, tc, [], none, 0, ⟨0, ByteArray.empty⟩, zeroE, ⟨rfl, rfl⟩, ⟨rfl, rfl, rfl, rfl, rfl, rfl, rfl, rfl, rfl, rfl, rfl, rfl⟩, (fun h => absurd h (by decide)), hid ?_, hl0, hl8, by omega, ?_, ?_, hid (fun z hz => hz)⟩
    · have z3 := HW3.out
      have s4 := HB4.out.size
      have s2 := HB2.out.size
      have h3 := HQ4.out.size
      rw [z3] at h3
      have ho4' := HO4.out
      rw [z3] at ho4'
      have bb := bl3 w4 (.cells #[.bool false, .int .i64 0, .string { data := #[] }, .int .i64 0, .int .i64 0, .int .i64 0, .int .i64 0, .string { data := #[] }, .slice none 0 0] 176) (.cells #[.int .i64 0, .string { data := #[] }] 53) (.cells #[.int .i64 0, .string { data := #[] }, .bool false, .int .i64 0, .int .i64 0, .int .i64 0, .string { data := #[] }] 55)
      have hz1 : (w4.alloc (.cells #[.bool false, .int .i64 0, .string { data := #[] }, .int .i64 0, .int .i64 0, .int .i64 0, .int .i64 0, .string { data := #[] }, .slice none 0 0] 176)).heap.size = w4.heap.size + 1 := by simp
      have hz2 : ((w4.alloc (.cells #[.bool false, .int .i64 0, .string { data := #[] }, .int .i64 0, .int .i64 0, .int .i64 0, .int .i64 0, .string { data := #[] }, .slice none 0 0] 176)).alloc (.cells #[.int .i64 0, .string { data := #[] }] 53)).heap.size = w4.heap.size + 1 + 1 := by simp
      have e1 := heap_new (w4.alloc (.cells #[.bool false, .int .i64 0, .string { data := #[] }, .int .i64 0, .int .i64 0, .int .i64 0, .int .i64 0, .string { data := #[] }, .slice none 0 0] 176)) (.cells #[.int .i64 0, .string { data := #[] }] 53)
      have e2 := heap_new ((w4.alloc (.cells #[.bool false, .int .i64 0, .string { data := #[] }, .int .i64 0, .int .i64 0, .int .i64 0, .int .i64 0, .string { data := #[] }, .slice none 0 0] 176)).alloc (.cells #[.int .i64 0, .string { data := #[] }] 53)) (.cells #[.int .i64 0, .string { data := #[] }, .bool false, .int .i64 0, .int .i64 0, .int .i64 0, .string { data := #[] }] 55)
      rw [hz1] at e1
      rw [hz2] at e2
      have b24 : Below w2.heap.size w2 w4 := (bl1 w2 (.cells #[.iface 201 fv, .iface 84 (.pointer (some ⟨p, 0, none⟩)), .iface 203 (.agg #[.pointer (some ⟨p, 0, none⟩)])] 223)).trans (HQ4.out.mono (by simp))
      have hsr : w4.heap[w2.heap.size]? = _ := heap_below HQ4.out HSRC.out (by rw [z3]; omega)
      have htd : Rd w4 (.slice ta T0.length tc) T0.length (srow T0) := (Rd.own HO2.out).below b24
      refine ⟨HB4.out.trans (bb.mono s4), heap_below bb (heap_below b24 HR2.out (blk_lt HR2.out)) (by have := blk_lt HR2.out; omega), heap_old (heap_old (heap_new w4 (.cells #[.bool false, .int .i64 0, .string { data := #[] }, .int .i64 0, .int .i64 0, .int .i64 0, .int .i64 0, .string { data := #[] }, .slice none 0 0] 176)) _) _, heap_old e1 _, e2, (rd_blk (cs := srcs fv p) hsr (by simp [maxLen])).below bb,
        (TyB.chg (fun k hk => ?_) (Chg.below bb) (fun _ _ h => h)), own_below (ownsRow_mono ho4' (by omega)) bb, World.ownsRow_nil _ _ _ _, by simp, htd.below bb, (TyB.own (own_below (own_below HO2.out b24) bb)), by omega, by omega⟩
      simp only [Option.map_some, Option.some.injEq] at hk
      subst hk
      exact ⟨_, hsr⟩
    · simp; omega
    · simp; omega
  case p0 =>
    intro a w1 hj
    exact pass0 (finQ_steps _ _ _ _ _ _ _ _) hj
  case p1 =>
    intro a w1 hj
    exact pass1 hc' hf' (finQ_steps _ _ _ _ _ _ _ _) hj rfl (fun a w2 h => ⟨h, by simp [muW]; omega⟩) fun a w2 h hl => ⟨h, hl⟩
end Go.Proofs.YtbjibkjenleloaaGreatDoor

end
