import Derived.Test.YtmhogjecfgbchaaRefA
import Derived.Test.YtmhogjecfgbchaaPruneE
import Derived.BigRegion
namespace Go.Proofs.Ytmhogjecfgbchaa
set_option linter.unusedVariables false
set_option linter.unusedSimpArgs false
open Go.RowKit
attribute [local go_sem ↓] Go.wp_at_zero Go.wp_at_succ

/-! ### a cell, an element of a row of the call's own stored anew -/
theorem own_setc {w : World} {B e sz n g c : Nat} {xs : List Value} (h : w.ownsRow B e sz (.slice (some ⟨g, 0, none⟩) n c) n xs) (i : Nat) (u : Value) : (w.setCell ⟨g, i, none⟩ u).ownsRow B e sz (.slice (some ⟨g, 0, none⟩) n c) n (xs.set i u) := by
  refine ⟨by rw [List.length_set]; exact h.1, .inr ?_⟩
  rcases h.2 with ⟨hv, _⟩ | ⟨g', cap, cur, hv, hb, hg, h1, h2, h3, h4⟩
  · cases hv
  · simp only [Value.slice.injEq, Option.some.injEq, Addr.mk.injEq] at hv
    obtain ⟨⟨rfl, _⟩, _, rfl⟩ := hv
    refine ⟨g, c, _, rfl, hb, heap_set hg i u, h1, h2, by simp [h3], ?_⟩
    rw [← h4]; simp [List.take_set]
def set7at (w : World) (g o : Nat) (y : En) : World := ((((((w.setCell ⟨g, o, none⟩ (.int .i64 y.key.dir)).setCell ⟨g, o + 1, none⟩ (.string y.key.name)).setCell ⟨g, o + 2, none⟩ (.bool y.neg)).setCell ⟨g, o + 3, none⟩ (.int .i64 y.node.id)).setCell ⟨g, o + 4, none⟩ (.int .i64 y.node.kind)).setCell ⟨g, o + 5, none⟩ (.int .i64 y.node.mode)).setCell ⟨g, o + 6, none⟩ (.string y.node.target)
theorem set_mid (a b c : List Value) (i : Nat) (v : Value) (hi : i < b.length) : (a ++ (b ++ c)).set (a.length + i) v = a ++ (b.set i v ++ c) := by
  rw [List.set_append_right _ _ (by omega), Nat.add_sub_cancel_left, List.set_append_left _ _ hi]
theorem own_set7 {w : World} {B n g c k : Nat} {L : List En} {z : En} (y : En) (h : w.ownsRow B 30 7 (.slice (some ⟨g, 0, none⟩) n c) n (ecs L)) (hk : L[k]? = some z) : (set7at w g (k * 7) y).ownsRow B 30 7 (.slice (some ⟨g, 0, none⟩) n c) n (ecs (L.set k y)) := by
  obtain ⟨hlt, hz⟩ := List.getElem?_eq_some_iff.1 hk
  have hL : L = L.take k ++ z :: L.drop (k + 1) := by rw [← hz, ← List.drop_eq_getElem_cons hlt, List.take_append_drop]
  have hlen : (ecs (L.take k)).length = k * 7 := by rw [ecs_len, List.length_take]; omega
  have e0 : ecs L = ecs (L.take k) ++ (z.cells ++ ecs (L.drop (k + 1))) := by conv => lhs; rw [hL]
                                                                              simp [ecs]
  have e1 : ecs (L.set k y) = ecs (L.take k) ++ (y.cells ++ ecs (L.drop (k + 1))) := by rw [List.set_eq_take_append_cons_drop, if_pos hlt]; simp [ecs]
  have h7 := own_setc (own_setc (own_setc (own_setc (own_setc (own_setc (own_setc h (k * 7) (.int .i64 y.key.dir)) (k * 7 + 1) (.string y.key.name)) (k * 7 + 2) (.bool y.neg)) (k * 7 + 3) (.int .i64 y.node.id)) (k * 7 + 4) (.int .i64 y.node.kind)) (k * 7 + 5) (.int .i64 y.node.mode)) (k * 7 + 6) (.string y.node.target)
  have e2 : ((((((((ecs L).set (k * 7) (.int .i64 y.key.dir)).set (k * 7 + 1) (.string y.key.name)).set (k * 7 + 2) (.bool y.neg)).set (k * 7 + 3) (.int .i64 y.node.id)).set (k * 7 + 4) (.int .i64 y.node.kind)).set (k * 7 + 5) (.int .i64 y.node.mode)).set (k * 7 + 6) (.string y.node.target)) = ecs (L.set k y) := by
    rw [e0, e1, ← hlen]
    have s0 := fun b i v hi => set_mid (ecs (L.take k)) b (ecs (L.drop (k + 1))) i v hi
    rw [show (ecs (L.take k)).length = (ecs (L.take k)).length + 0 from rfl, s0 _ 0 _ (by simp [En.cells])]
    rw [s0 _ 1 _ (by simp [En.cells]), s0 _ 2 _ (by simp [En.cells]), s0 _ 3 _ (by simp [En.cells]), s0 _ 4 _ (by simp [En.cells]), s0 _ 5 _ (by simp [En.cells]), s0 _ 6 _ (by simp [En.cells])]
    simp [En.cells]
  rw [e2] at h7
  exact h7
theorem set7at_chg (w : World) (g o : Nat) (y : En) : Chg (fun k => k = g) w (set7at w g o y) :=
  (((((((Chg.refl (fun k => k = g) w).setCell ⟨g, o, none⟩ _ (.inl rfl)).setCell ⟨g, o + 1, none⟩ _ (.inl rfl)).setCell ⟨g, o + 2, none⟩ _ (.inl rfl)).setCell ⟨g, o + 3, none⟩ _ (.inl rfl)).setCell ⟨g, o + 4, none⟩ _ (.inl rfl)).setCell ⟨g, o + 5, none⟩ _ (.inl rfl)).setCell ⟨g, o + 6, none⟩ _ (.inl rfl)

/-! ### the order of keys -/
theorem lessK_iff (a b : Ky) : lessK a b = true ↔ a.dir < b.dir ∨ a.dir = b.dir ∧ nmLt a.name b.name = true := by simp [lessK]
theorem lessK_trans {a b c : Ky} (h1 : lessK a b = true) (h2 : lessK b c = true) : lessK a c = true := by
  rw [lessK_iff] at *
  rcases h1 with h1 | ⟨e1, h1⟩ <;> rcases h2 with h2 | ⟨e2, h2⟩
  · left; omega
  · left; omega
  · left; omega
  · right; exact ⟨e1.trans e2, nm_trans h1 h2⟩
theorem lessK_irrefl (a : Ky) : lessK a a = false := by
  cases h : lessK a a with
  | false => rfl
  | true => rw [lessK_iff] at h; rcases h with h | ⟨_, h⟩
            · omega
            · rw [nm_irrefl] at h; cases h
theorem lessK_asymm {a b : Ky} (h : lessK a b = true) : lessK b a = false := by
  cases h2 : lessK b a with
  | false => rfl
  | true => have := lessK_trans h h2; rw [lessK_irrefl] at this; cases this
theorem lessK_total {a b : Ky} (h1 : lessK a b = false) (h2 : lessK b a = false) : a = b := by
  have n1 : ¬ (a.dir < b.dir ∨ a.dir = b.dir ∧ nmLt a.name b.name = true) := fun h => by rw [(lessK_iff a b).2 h] at h1; cases h1
  have n2 : ¬ (b.dir < a.dir ∨ b.dir = a.dir ∧ nmLt b.name a.name = true) := fun h => by rw [(lessK_iff b a).2 h] at h2; cases h2
  have hd : a.dir = b.dir := by
    have : ¬ a.dir < b.dir := fun h => n1 (.inl h)
    have : ¬ b.dir < a.dir := fun h => n2 (.inl h)
    omega
  have h3 : nmLt a.name b.name = false := by cases h : nmLt a.name b.name with | false => rfl | true => exact absurd (.inr ⟨hd, h⟩) n1
  have h4 : nmLt b.name a.name = false := by cases h : nmLt b.name a.name with | false => rfl | true => exact absurd (.inr ⟨hd.symm, h⟩) n2
  have hn := nm_total h3 h4
  cases a; cases b; simp only at hd hn; rw [hd, hn]
/-- not greater -/
def RK (a b : En) : Prop := lessK b.key a.key = false
theorem RK.trans {a b c : En} (h1 : RK a b) (h2 : RK b c) : RK a c := by
  unfold RK at *
  cases h : lessK c.key a.key with
  | false => rfl
  | true =>
    cases h3 : lessK a.key b.key with
    | true => have := lessK_trans h h3; rw [h2] at this; cases this
    | false => have := lessK_total h3 h1; rw [← this] at h2; rw [h] at h2; cases h2

/-- x put in at k -/
def insAt (P : List En) (k : Nat) (x : En) : List En := P.take k ++ x :: P.drop k
theorem insAt_end (P : List En) (x : En) : insAt P P.length x = P ++ [x] := by simp [insAt]
theorem insAt_len {P : List En} {k : Nat} (x : En) (h : k ≤ P.length) : (insAt P k x).length = P.length + 1 := by simp [insAt]; omega
theorem insAt_at {P : List En} {k : Nat} {x : En} (h : k ≤ P.length) : (insAt P k x)[k]? = some x := by
  unfold insAt
  rw [List.getElem?_append_right (by simp; omega)]; simp [Nat.min_eq_left h]
theorem insAt_pre {P : List En} {k m : Nat} {x y : En} (h : k ≤ P.length) (hm : m < k) (hy : P[m]? = some y) : (insAt P k x)[m]? = some y := by
  unfold insAt
  rw [List.getElem?_append_left (by simp; omega), List.getElem?_take_of_lt hm, hy]
theorem insAt_swap {P : List En} {m : Nat} {x y : En} (hy : P[m]? = some y) : ((insAt P (m + 1) x).set (m + 1) y).set m x = insAt P m x := by
  obtain ⟨hlt, hz⟩ := List.getElem?_eq_some_iff.1 hy
  have e1 : insAt P (m + 1) x = P.take m ++ (y :: x :: P.drop (m + 1)) := by
    unfold insAt; rw [List.take_add_one, hy]; simp
  have e2 : insAt P m x = P.take m ++ (x :: y :: P.drop (m + 1)) := by
    unfold insAt; rw [List.drop_eq_getElem_cons hlt, hz]
  rw [e1, e2]
  have hl : (P.take m).length = m := by simp; omega
  rw [List.set_append_right _ _ (by omega), List.set_append_right _ _ (by omega), hl]
  simp
theorem insAt_perm (P : List En) (k : Nat) (x : En) : (insAt P k x).Perm (P ++ [x]) := by
  unfold insAt
  have h1 : (P.take k ++ x :: P.drop k).Perm (x :: (P.take k ++ P.drop k)) := List.perm_middle
  rw [List.take_append_drop] at h1
  exact h1.trans (List.perm_append_singleton x P).symm
theorem insAt_sorted {P : List En} {k : Nat} {x : En} (hk : k ≤ P.length) (hP : P.Pairwise RK) (hlo : ∀ m y, k = m + 1 → P[m]? = some y → lessK x.key y.key = false) (hhi : ∀ j y, k ≤ j → P[j]? = some y → lessK x.key y.key = true) : (insAt P k x).Pairwise RK := by
  unfold insAt
  rw [← List.take_append_drop k P, List.pairwise_append] at hP
  obtain ⟨p1, p2, p3⟩ := hP
  rw [List.pairwise_append, List.pairwise_cons]
  refine ⟨p1, ⟨fun y hy => ?_, p2⟩, fun a ha b hb => ?_⟩
  · obtain ⟨j, hj⟩ := List.mem_iff_getElem?.1 hy
    rw [List.getElem?_drop] at hj
    exact lessK_asymm (hhi _ y (by omega) hj)
  · rcases List.mem_cons.1 hb with rfl | hb
    · cases k with
      | zero => simp at ha
      | succ m =>
        have hm : m < P.length := by omega
        have h1 : RK P[m] b := hlo m P[m] rfl (List.getElem?_eq_getElem hm)
        have e : P.take (m + 1) = P.take m ++ [P[m]] := by rw [List.take_add_one, List.getElem?_eq_getElem hm]; rfl
        rw [e] at ha p1
        rcases List.mem_append.1 ha with ha | ha
        · have := (List.pairwise_append.1 p1).2.2 a ha P[m] (by simp)
          exact this.trans h1
        · simp at ha; subst ha; exact h1
    · exact p3 a ha b hb

set_option maxRecDepth 100000 in
set_option maxHeartbeats 4000000 in
theorem r_sorted (w : World) (M : List En) (a : Option Addr) (c : Nat) (h : Rd w (.slice a M.length c) M.length (ecs M)) (hn : M.length * 72 ≤ 140737488351232) :
    Calls Try.prog 77 #[.slice a M.length c] w fun r w' => ∃ (Q : List En) (a' : Option Addr) (c' : Nat), r = .returned (.slice a' Q.length c') ∧ Q.Perm M ∧ Q.Pairwise RK ∧ w'.ownsRow w.heap.size 30 7 (.slice a' Q.length c') Q.length (ecs Q) ∧ Below w.heap.size w w' := by
  have HR := hid h
  obtain ⟨i7, hi7, p7, q7, r7⟩ := info_parts infoEn
  have HI7 := hid hi7
  clear h hi7
  go_enter Try.func77, Try.ntmps77
  go_wp2_with fail
  go_loopw [3, 4] (fun v3 v4 wr => ∃ (i : Nat) (Q : List En) (a5 : Option Addr) (c5 : Nat), i ≤ M.length ∧ v4 = .int .i64 i ∧ v3 = .slice a5 Q.length c5 ∧ Hid (Q.Perm (M.take i)) ∧ Hid (Q.Pairwise RK) ∧ Hid (Below w.heap.size w wr) ∧ Hid (wr.ownsRow w.heap.size 30 7 (.slice a5 Q.length c5) Q.length (ecs Q))) (fun _ v4 _ => M.length - (intOf v4).toNat)
  case atStart => exact ⟨0, [], none, 0, Nat.zero_le _, rfl, rfl, hid (by simp), hid List.Pairwise.nil, hid (Below.refl _ _), hid (World.ownsRow_nil _ _ _ _)⟩
  case round =>
    obtain ⟨i, Q, a5, c5, hi, rfl, rfl, HP, HQ, HB, HO⟩ := hrel
    have hzz := HB.out.size
    have hQl : Q.length = (M.take i).length := HP.out.length_eq
    have hQi : Q.length ≤ i := by rw [hQl]; simp; omega
    clear hQl
    by_cases hlt : i < M.length
    · have hi0 : (0 : Int) ≤ (i : Int) := by omega
      have hi1 : (i : Int) < (M.length : Int) := by omega
      obtain ⟨b1, o1, rfl⟩ := ecs_loc HR.out (by omega)
      obtain ⟨x, hx⟩ : ∃ x, M[i]? = some x := ⟨_, List.getElem?_eq_getElem hlt⟩
      have P1 := ecs_cells (HR.out.below HB.out) hx
      have htk : M.take (i + 1) = M.take i ++ [x] := by rw [List.take_add_one, hx]; rfl
      have HTK := hid htk
      have hwq : IntKind.i64.wrap ((Q.length : Int) + 1 - 1) = (Q.length : Int) := by rw [IntWalk.i64_in _ (by omega)]; omega
      clear hx htk
      go_wp2_with (at_builtin; refine wpList_append_rd rfl _ _ 49 rfl w.heap.size 30 i7 _ 7 72 Try.underlying49 HI7.out p7 q7 r7 rfl (by decide) (.slice a5 Q.length c5) Q.length (ecs Q) rfl (own_alloc HO.out _) (.slice (some ⟨wr.heap.size, 0, none⟩) 1 1) 1 [.int .i64 x.key.dir, .string x.key.name, .bool x.neg, .int .i64 x.node.id, .int .i64 x.node.kind, .int .i64 x.node.mode, .string x.node.target] rfl (rd_blk (heap_new wr (.cells #[.int .i64 x.key.dir, .string x.key.name, .bool x.neg, .int .i64 x.node.id, .int .i64 x.node.kind, .int .i64 x.node.mode, .string x.node.target] 30)) (by unfold maxLen; omega)) rfl (En.one x) (by unfold maxLen; omega) (by omega) (Nat.le_trans hzz (by simp)) ?_; intro a6 c6 w6 hown6 hgrow6 hat6; (have HB6 := hid ((HB.out.alloc hzz (.cells #[.int .i64 x.key.dir, .string x.key.name, .bool x.neg, .int .i64 x.node.id, .int .i64 x.node.kind, .int .i64 x.node.mode, .string x.node.target] 30)).grown hgrow6 (Nat.le_trans hzz (by simp)) (fun k hk => (own_lt HO.out hk).1))); (have HO6 := hid hown6); clear hown6 hgrow6 hat6)
      have hrow : ecs Q ++ [.int .i64 x.key.dir, .string x.key.name, .bool x.neg, .int .i64 x.node.id, .int .i64 x.node.kind, .int .i64 x.node.mode, .string x.node.target] = ecs (insAt Q Q.length x) := by rw [insAt_end, ecs_snoc]; rfl
      rw [hrow] at HO6
      clear hrow
      obtain ⟨g, hag, hBg, hgz, hg1, hg2⟩ := own_loc HO6.out (by omega)
      subst hag
      clear hBg hgz P1
      go_loopw [5] (fun v5 wr => ∃ (k : Nat), k ≤ Q.length ∧ v5 = .int .i64 k ∧ Hid (∀ j y, k ≤ j → Q[j]? = some y → lessK x.key y.key = true) ∧ Hid (Below w.heap.size w wr) ∧ Hid (wr.ownsRow w.heap.size 30 7 (.slice (some ⟨g, 0, none⟩) (Q.length + 1) c6) (Q.length + 1) (ecs (insAt Q k x)))) (fun v5 _ => (intOf v5).toNat)
      case atStart => exact ⟨Q.length, Nat.le_refl _, rfl, hid (fun j y hj hy => by have := (List.getElem?_eq_some_iff.1 hy).1; omega), HB6, HO6⟩
      case round =>
        obtain ⟨k, hk, rfl, HH, HB7, HO7⟩ := hrel
        have hzz7 := HB7.out.size
        cases k with
        | zero =>
          go_wp2_with fail
          go_quiet (fail)
          go_wp2
          exact ⟨⟨i + 1, insAt Q 0 x, _, c6, by omega, by go_num, by rw [insAt_len x hk], hid (by rw [HTK.out]; exact (insAt_perm Q 0 x).trans (HP.out.append_right _)), hid (insAt_sorted hk HQ.out (fun m y h _ => by omega) HH.out), hid (below_drewN HB7.out _), hid (by rw [insAt_len x hk]; exact own_drewN HO7.out _)⟩, by simp [intOf]; omega⟩
        | succ m =>
          obtain ⟨y, hy⟩ : ∃ y, Q[m]? = some y := ⟨_, List.getElem?_eq_getElem (by omega)⟩
          have hm0 : (0 : Int) ≤ (m : Int) + 1 := by omega
          have hm1 : (m : Int) + 1 < (Q.length : Int) + 1 := by omega
          have hm2 : IntKind.i64.wrap ((m : Int) + 1 - 1) = (m : Int) := by rw [IntWalk.i64_in _ (by omega)]; omega
          have hm3 : (m : Int) < (Q.length : Int) + 1 := by omega
          have hm5 : IntKind.i64.wrap (m : Int) = (m : Int) := IntWalk.i64_in _ (by omega)
          have hm4 : (0 : Int) ≤ (m : Int) := by omega
          have t1 : decide ((m : Int) + 1 > 0) = true := decide_eq_true (by omega)
          have HY := hid hy
          have HX1 := hid (insAt_at (x := x) hk)
          have HY1 := hid (insAt_pre (x := x) hk (Nat.lt_succ_self m) hy)
          have c1 := ecs_at (Rd.own HO7.out) HX1.out
          have c2 := ecs_at (Rd.own HO7.out) HY1.out
          have KR : wr.cell? ⟨g, (m + 1) * 7, none⟩ = some (.int .i64 x.key.dir) ∧ wr.cell? ⟨g, (m + 1) * 7 + 1, none⟩ = some (.string x.key.name) ∧ wr.cell? ⟨g, m * 7, none⟩ = some (.int .i64 y.key.dir) ∧ wr.cell? ⟨g, m * 7 + 1, none⟩ = some (.string y.key.name) := And.intro4 c1.1 c1.2.1 c2.1 c2.2.1
          have KRd : wr.drew.cell? ⟨g, (m + 1) * 7, none⟩ = some (.int .i64 x.key.dir) ∧ wr.drew.cell? ⟨g, (m + 1) * 7 + 1, none⟩ = some (.string x.key.name) ∧ wr.drew.cell? ⟨g, m * 7, none⟩ = some (.int .i64 y.key.dir) ∧ wr.drew.cell? ⟨g, m * 7 + 1, none⟩ = some (.string y.key.name) := KR
          clear hy c1 c2
          cases hls : lessK x.key y.key with
          | false =>
            have HLS := hid hls
            have hlow : ∀ m' y', m + 1 = m' + 1 → Q[m']? = some y' → lessK x.key y'.key = false := fun m' y' h hy' => by
              obtain rfl : m = m' := by omega
              rw [HY.out] at hy'; cases hy'; exact hls
            clear hls
            go_wp2_with fail
            go_region_held3 (fun w' => w'.cell? ⟨g, (m + 1) * 7, none⟩ = some (.int .i64 x.key.dir) ∧ w'.cell? ⟨g, (m + 1) * 7 + 1, none⟩ = some (.string x.key.name) ∧ w'.cell? ⟨g, m * 7, none⟩ = some (.int .i64 y.key.dir) ∧ w'.cell? ⟨g, m * 7 + 1, none⟩ = some (.string y.key.name))
              (first | with_reducible exact KR | with_reducible exact KRd | with_reducible exact KS)
              (first | (go_at_call 96; refine (r_less _ x.key y.key).mono ?_; rintro r w8 ⟨rfl, hb8⟩; rw [HLS.out]; (have HO8 := hid (own_below (own_drew HO7.out) hb8)); (have c1 := ecs_at (Rd.own HO8.out) HX1.out); (have c2 := ecs_at (Rd.own HO8.out) HY1.out); (have KS : w8.cell? ⟨g, (m + 1) * 7, none⟩ = some (.int .i64 x.key.dir) ∧ w8.cell? ⟨g, (m + 1) * 7 + 1, none⟩ = some (.string x.key.name) ∧ w8.cell? ⟨g, m * 7, none⟩ = some (.int .i64 y.key.dir) ∧ w8.cell? ⟨g, m * 7 + 1, none⟩ = some (.string y.key.name) := And.intro4 c1.1 c1.2.1 c2.1 c2.2.1); (have HB8 := hid (HB7.out.drew.trans (hb8.mono HB7.out.size))); clear hb8 c1 c2))
            all_goals
              go_wp2
              exact ⟨⟨i + 1, insAt Q (m + 1) x, _, c6, by omega, by go_num, by rw [insAt_len x hk], hid (by rw [HTK.out]; exact (insAt_perm Q (m + 1) x).trans (HP.out.append_right _)), hid (insAt_sorted hk HQ.out hlow HH.out), HB8, hid (by rw [insAt_len x hk]; exact HO8.out)⟩, by simp [intOf]; omega⟩
          | true =>
            have HLS := hid hls
            clear hls
            go_wp2_with fail
            go_region_held3 (fun w' => w'.cell? ⟨g, (m + 1) * 7, none⟩ = some (.int .i64 x.key.dir) ∧ w'.cell? ⟨g, (m + 1) * 7 + 1, none⟩ = some (.string x.key.name) ∧ w'.cell? ⟨g, m * 7, none⟩ = some (.int .i64 y.key.dir) ∧ w'.cell? ⟨g, m * 7 + 1, none⟩ = some (.string y.key.name))
              (first | with_reducible exact KR | with_reducible exact KRd | with_reducible exact KS)
              (first | (go_at_call 96; refine (r_less _ x.key y.key).mono ?_; rintro r w8 ⟨rfl, hb8⟩; rw [HLS.out]; (have HO8 := hid (own_below (own_drew HO7.out) hb8)); (have c1 := ecs_at (Rd.own HO8.out) HX1.out); (have c2 := ecs_at (Rd.own HO8.out) HY1.out); (have KS : w8.cell? ⟨g, (m + 1) * 7, none⟩ = some (.int .i64 x.key.dir) ∧ w8.cell? ⟨g, (m + 1) * 7 + 1, none⟩ = some (.string x.key.name) ∧ w8.cell? ⟨g, m * 7, none⟩ = some (.int .i64 y.key.dir) ∧ w8.cell? ⟨g, m * 7 + 1, none⟩ = some (.string y.key.name) := And.intro4 c1.1 c1.2.1 c2.1 c2.2.1); (have HB8 := hid (HB7.out.drew.trans (hb8.mono HB7.out.size))); clear hb8 c1 c2))
            all_goals
              clear KR KRd KS
              obtain ⟨cur, hcur⟩ := own_type HO8.out rfl
              have hfz := fun i => blk_free hcur i
              have hmul : (m + 1) * 7 = m * 7 + 7 := by omega
              have c1 := ecs_at (Rd.own HO8.out) HX1.out
              have c2 := ecs_at (Rd.own HO8.out) HY1.out
              simp only [hmul, Nat.add_assoc, Nat.reduceAdd] at c1
              clear hcur
              go_wp2_with fail
              go_region
              all_goals
                go_wp2
                have hgl : w.heap.size ≤ g := (own_lt HO8.out rfl).1
                have o1 := own_set7 y HO8.out HX1.out
                rw [hmul] at o1
                have hy2 : ((insAt Q (m + 1) x).set (m + 1) y)[m]? = some y := by rw [List.getElem?_set_ne (by omega)]; exact HY1.out
                have o2 := own_set7 x o1 hy2
                rw [insAt_swap HY.out] at o2
                have s1 := (set7at_chg w8 g (m * 7 + 7) y).size
                have s2 := HB8.out.size
                have bb : Below w.heap.size w (set7at (set7at w8 g (m * 7 + 7) y) g (m * 7) x) := (HB8.out.trans ((set7at_chg w8 g (m * 7 + 7) y).toBelow s2 (fun i hi h => by omega))).trans ((set7at_chg _ g (m * 7) x).toBelow (Nat.le_trans s2 s1) (fun i hi h => by omega))
                have hh : ∀ j y', m ≤ j → Q[j]? = some y' → lessK x.key y'.key = true := fun j y' hj hy' => by
                  by_cases hjm : j = m
                  · subst hjm; rw [HY.out] at hy'; cases hy'; exact HLS.out
                  · exact HH.out j y' (by omega) hy'
                exact ⟨⟨m, by omega, rfl, hid hh, hid bb.drew, hid (own_drew o2)⟩, by simp [intOf]⟩
    · have hje : M.take i = M := List.take_of_length_le (by omega)
      rw [hje] at HP
      have hnn : M.length ≤ 9223372036854775807 := by omega
      go_wp2
      go_ret
      exact ⟨Q, a5, c5, rfl, HP.out, HQ.out, HO.out, HB.out⟩

end Go.Proofs.Ytmhogjecfgbchaa
