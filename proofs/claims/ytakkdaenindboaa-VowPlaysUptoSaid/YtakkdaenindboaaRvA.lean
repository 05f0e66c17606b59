import Derived.Test.YtakkdaenindboaaVowZ
namespace Go.Proofs.Ytakkdaenindboaa
set_option linter.unusedVariables false
set_option linter.unusedSimpArgs false
open Go.RowKit
attribute [local go_sem ↓] Go.wp_at_zero Go.wp_at_succ

theorem and4 {a b c d : Prop} (h1 : a) (h2 : b) (h3 : c) (h4 : d) : a ∧ b ∧ c ∧ d := ⟨h1, h2, h3, h4⟩
/-- x put in at k -/
def insAt (P : List Ky) (k : Nat) (x : Ky) : List Ky := P.take k ++ x :: P.drop k
theorem insAt_end (P : List Ky) (x : Ky) : insAt P P.length x = P ++ [x] := by simp [insAt]
theorem insAt_len {P : List Ky} {k : Nat} (x : Ky) (h : k ≤ P.length) : (insAt P k x).length = P.length + 1 := by simp [insAt]; omega
theorem insAt_at {P : List Ky} {k : Nat} {x : Ky} (h : k ≤ P.length) : (insAt P k x)[k]? = some x := by
  unfold insAt
  rw [List.getElem?_append_right (by simp; omega)]; simp [Nat.min_eq_left h]
theorem insAt_pre {P : List Ky} {k m : Nat} {x y : Ky} (h : k ≤ P.length) (hm : m < k) (hy : P[m]? = some y) : (insAt P k x)[m]? = some y := by
  unfold insAt
  rw [List.getElem?_append_left (by simp; omega), List.getElem?_take_of_lt hm, hy]
theorem insAt_swap {P : List Ky} {m : Nat} {x y : Ky} (hy : P[m]? = some y) : ((insAt P (m + 1) x).set (m + 1) y).set m x = insAt P m x := by
  obtain ⟨hlt, hz⟩ := List.getElem?_eq_some_iff.1 hy
  have e1 : insAt P (m + 1) x = P.take m ++ (y :: x :: P.drop (m + 1)) := by
    unfold insAt; rw [List.take_add_one, hy]; simp
  have e2 : insAt P m x = P.take m ++ (x :: y :: P.drop (m + 1)) := by
    unfold insAt; rw [List.drop_eq_getElem_cons hlt, hz]
  rw [e1, e2]
  have hl : (P.take m).length = m := by simp; omega
  rw [List.set_append_right _ _ (by omega), List.set_append_right _ _ (by omega), hl]
  simp
theorem insAt_mem {P : List Ky} {k : Nat} {x z : Ky} : z ∈ insAt P k x ↔ z ∈ P ∨ z = x := by
  unfold insAt
  rw [List.mem_append, List.mem_cons]
  conv => rhs; rw [← List.take_append_drop k P, List.mem_append]
  constructor
  · rintro (h | h | h)
    · exact .inl (.inl h)
    · exact .inr h
    · exact .inl (.inr h)
  · rintro ((h | h) | h)
    · exact .inl h
    · exact .inr (.inr h)
    · exact .inr (.inl h)
theorem insAt_sorted {P : List Ky} {k : Nat} {x : Ky} (hk : k ≤ P.length) (hP : P.Pairwise fun a b => lessK a b = true) (hlo : ∀ m y, k = m + 1 → P[m]? = some y → lessK y x = true) (hhi : ∀ j y, k ≤ j → P[j]? = some y → lessK x y = true) : (insAt P k x).Pairwise fun a b => lessK a b = true := by
  unfold insAt
  rw [← List.take_append_drop k P, List.pairwise_append] at hP
  obtain ⟨p1, p2, p3⟩ := hP
  rw [List.pairwise_append, List.pairwise_cons]
  refine ⟨p1, ⟨fun y hy => ?_, p2⟩, fun a ha b hb => ?_⟩
  · obtain ⟨j, hj⟩ := List.mem_iff_getElem?.1 hy
    rw [List.getElem?_drop] at hj
    exact hhi _ y (by omega) hj
  · rcases List.mem_cons.1 hb with rfl | hb
    · cases k with
      | zero => simp at ha
      | succ m =>
        have hm : m < P.length := by omega
        have h1 : lessK P[m] b = true := hlo m P[m] rfl (List.getElem?_eq_getElem hm)
        have e : P.take (m + 1) = P.take m ++ [P[m]] := by rw [List.take_add_one, List.getElem?_eq_getElem hm]; rfl
        rw [e] at ha p1
        rcases List.mem_append.1 ha with ha | ha
        · have := (List.pairwise_append.1 p1).2.2 a ha P[m] (by simp)
          exact lessK_trans this h1
        · simp at ha; subst ha; exact h1
    · exact p3 a ha b hb
theorem isSort_skip {Q M : List Ky} {i : Nat} {x : Ky} (hx : M[i]? = some x) (h : IsSort Q (M.take i)) (hm : x ∈ Q) : IsSort Q (M.take (i + 1)) := by
  refine ⟨h.1, fun z => ?_⟩
  rw [List.take_add_one, hx, h.2 z]
  simp only [Option.toList_some, List.mem_append, List.mem_singleton]
  exact ⟨.inl, fun h2 => h2.elim id fun e => by subst e; exact (h.2 _).1 hm⟩
theorem isSort_ins {Q M : List Ky} {i k : Nat} {x : Ky} (hx : M[i]? = some x) (h : IsSort Q (M.take i)) (hk : k ≤ Q.length) (hlo : ∀ m y, k = m + 1 → Q[m]? = some y → lessK y x = true) (hhi : ∀ j y, k ≤ j → Q[j]? = some y → lessK x y = true) : IsSort (insAt Q k x) (M.take (i + 1)) := by
  refine ⟨insAt_sorted hk h.1 hlo hhi, fun z => ?_⟩
  rw [insAt_mem, List.take_add_one, hx, h.2 z]
  simp only [Option.toList_some, List.mem_append, List.mem_singleton]

set_option maxRecDepth 100000 in
set_option maxHeartbeats 4000000 in
theorem r_sorted (w : World) (M : List Ky) (v : Value) (h : Rd w v M.length (kyc M)) (hn : M.length * 24 ≤ 140737488355328) :
    Calls Try.prog 58 #[v] w fun r w' => ∃ (a' : Option Addr) (c' : Nat), r = .returned (.slice a' (sortK M).length c') ∧ w'.ownsRow w.heap.size 37 2 (.slice a' (sortK M).length c') (sortK M).length (kyc (sortK M)) ∧ Below w.heap.size w w' := by
  obtain ⟨a, c, rfl, _, _⟩ := h.shape
  have HR := hid h
  obtain ⟨i2, hi2, p2, q2, r2⟩ := info_parts infoKy
  have HI2 := hid hi2
  clear h hi2
  go_enter Try.func58, Try.ntmps58
  go_wp2_with fail
  go_loopw [3, 4] (fun v3 v4 wr => ∃ (i : Nat) (Q : List Ky) (a5 : Option Addr) (c5 : Nat), i ≤ M.length ∧ v4 = .int .i64 i ∧ v3 = .slice a5 Q.length c5 ∧ Q.length ≤ i ∧ Hid (IsSort Q (M.take i)) ∧ Hid (Below w.heap.size w wr) ∧ Hid (wr.ownsRow w.heap.size 37 2 (.slice a5 Q.length c5) Q.length (kyc Q))) (fun _ v4 _ => M.length - (intOf v4).toNat)
  case atStart => exact ⟨0, [], none, 0, Nat.zero_le _, rfl, rfl, by simp, hid ⟨List.Pairwise.nil, by simp⟩, hid (Below.refl _ _), hid (World.ownsRow_nil _ _ _ _)⟩
  case round =>
    obtain ⟨i, Q, a5, c5, hi, rfl, rfl, hQi, HP, HB, HO⟩ := hrel
    obtain ⟨wo, hwo⟩ : ∃ wo, wo = wr := ⟨_, rfl⟩
    subst hwo
    have hzz := HB.out.size
    by_cases hlt : i < M.length
    · have hi0 : (0 : Int) ≤ (i : Int) := by omega
      have hi1 : (i : Int) < (M.length : Int) := by omega
      obtain ⟨b1, o1, rfl⟩ := ks_loc HR.out (by omega)
      obtain ⟨x, hx⟩ : ∃ x, M[i]? = some x := ⟨_, List.getElem?_eq_getElem hlt⟩
      have HX := hid hx
      have hwq : IntKind.i64.wrap ((Q.length : Int) + 1 - 1) = (Q.length : Int) := by rw [IntWalk.i64_in _ (by omega)]; omega
      clear hx
      go_wp2_with fail
      go_loopw [5, 6] (fun v5 v6 wr => ∃ (j : Nat), j ≤ Q.length ∧ v6 = .int .i64 j ∧ v5 = .bool (decide (x ∈ Q.take j)) ∧ Hid (Dr wo wr)) (fun _ v6 _ => Q.length - (intOf v6).toNat)
      case atStart => exact ⟨0, Nat.zero_le _, rfl, by simp, hid (Dr.refl _)⟩
      case round =>
        obtain ⟨j, hj, rfl, rfl, HDR⟩ := hrel
        by_cases hlj : j < Q.length
        · obtain ⟨y, hy⟩ : ∃ y, Q[j]? = some y := ⟨_, List.getElem?_eq_getElem hlj⟩
          obtain ⟨g5, hag, hBg, hgz, hg1, hg2⟩ := own_loc HO.out (by omega)
          subst hag
          have hj0 : (0 : Int) ≤ (j : Int) := by omega
          have hj1 : (j : Int) < (Q.length : Int) := by omega
          have c1 := ks_at HR.out (HB.out.trans ((HDR.out.below _).mono (Nat.le_refl _))) HX.out
          have c2 := ks_at (HDR.out.rd (Rd.own HO.out)) (Below.refl _ _) hy
          simp only [Nat.zero_add] at c2
          have HY := hid hy
          clear hBg hgz hg1 hg2 hy
          by_cases hm : x ∈ Q.take j
          · have HN := hid (show decide (x ∈ Q.take j) = decide (x ∈ Q.take (j + 1)) by rw [decide_eq_true hm, decide_eq_true (by rw [List.take_add_one]; exact List.mem_append_left _ hm)])
            rw [decide_eq_true hm] at HN ⊢
            clear hm
            go_wp2_with fail
            go_quiet (fail)
            go_wp2
            exact ⟨⟨j + 1, by omega, by go_num, by rw [← HN.out], hid (HDR.out.drewN _)⟩, by simp [intOf]; omega⟩
          · have heq := fun W => eqIn_key y.dir x.dir y.name x.name W
            obtain ⟨bb, hbb⟩ : ∃ bb, bb = decide ((⟨y.dir, y.name⟩ : Ky) = ⟨x.dir, x.name⟩) := ⟨_, rfl⟩
            have HN := hid (show bb = decide (x ∈ Q.take (j + 1)) by
              rw [hbb, List.take_add_one, HY.out]
              simp only [Option.toList_some, List.mem_append, List.mem_singleton, decide_eq_decide]
              exact ⟨fun h => .inr h.symm, fun h => h.elim (fun h => absurd h hm) fun h => h.symm⟩)
            rw [← hbb] at heq
            rw [decide_eq_false hm]
            clear hm hbb
            go_wp2_with fail
            go_quiet (fail)
            go_wp2
            exact ⟨⟨j + 1, by omega, by go_num, by rw [← HN.out], hid (HDR.out.drewN _)⟩, by simp [intOf]; omega⟩
        · rw [List.take_of_length_le (by omega)]
          have HBD := hid (HB.out.trans ((HDR.out.below _).mono (Nat.le_refl _)))
          have HOD := hid (show wr.ownsRow w.heap.size 37 2 (.slice a5 Q.length c5) Q.length (kyc Q) by obtain ⟨q, hq⟩ := HDR.out; rw [hq]; exact own_drewN HO.out q)
          have hzz5 := HBD.out.size
          by_cases hm : x ∈ Q
          · have HN := hid (isSort_skip HX.out HP.out hm)
            rw [decide_eq_true hm]
            clear hm
            go_wp2
            exact ⟨⟨i + 1, Q, a5, c5, by omega, by go_num, rfl, by omega, HN, HBD, HOD⟩, by simp [intOf]; omega⟩
          · have HNM := hid hm
            have P1 := ks_at HR.out HBD.out HX.out
            rw [decide_eq_false hm]
            clear hm
            obtain ⟨w5, hw5⟩ : ∃ w5, w5 = wr := ⟨_, rfl⟩
            subst hw5
            go_wp2_with (at_builtin; refine wpList_append_rd rfl _ _ 28 rfl w.heap.size 37 i2 _ 2 24 Try.underlying28 HI2.out p2 q2 r2 rfl (by decide) (.slice a5 Q.length c5) Q.length (kyc Q) rfl (own_alloc HOD.out _) (.slice (some ⟨w5.heap.size, 0, none⟩) 1 1) 1 [.int .i64 x.dir, .string x.name] rfl (rd_blk (heap_new w5 (.cells #[.int .i64 x.dir, .string x.name] 37)) (by unfold maxLen; omega)) rfl (Ky.one x) (by unfold maxLen; omega) (by omega) (Nat.le_trans hzz5 (by simp)) ?_; intro a6 c6 w6 hown6 hgrow6 hat6; (have HB6 := hid ((HBD.out.alloc hzz5 (.cells #[.int .i64 x.dir, .string x.name] 37)).grown hgrow6 (Nat.le_trans hzz5 (by simp)) (fun k hk => (own_lt HOD.out hk).1))); (have HO6 := hid hown6); clear hown6 hgrow6 hat6)
            have hrow : kyc Q ++ [.int .i64 x.dir, .string x.name] = kyc (insAt Q Q.length x) := by rw [insAt_end, kyc_snoc]
            rw [hrow] at HO6
            clear hrow
            obtain ⟨g, hag, hBg, hgz, hg1, hg2⟩ := own_loc HO6.out (by omega)
            subst hag
            clear hBg hgz P1
            go_loopw [7] (fun v5 wr => ∃ (k : Nat), k ≤ Q.length ∧ v5 = .int .i64 k ∧ Hid (∀ j y, k ≤ j → Q[j]? = some y → lessK x y = true) ∧ Hid (Below w.heap.size w wr) ∧ Hid (wr.ownsRow w.heap.size 37 2 (.slice (some ⟨g, 0, none⟩) (Q.length + 1) c6) (Q.length + 1) (kyc (insAt Q k x)))) (fun v5 _ => (intOf v5).toNat)
            case atStart => exact ⟨Q.length, Nat.le_refl _, rfl, hid (fun j y hj hy => by have := (List.getElem?_eq_some_iff.1 hy).1; omega), HB6, HO6⟩
            case round =>
              obtain ⟨k, hk, rfl, HH, HB7, HO7⟩ := hrel
              have hzz7 := HB7.out.size
              cases k with
              | zero =>
                go_wp2_with fail
                go_quiet (fail)
                go_wp2
                exact ⟨⟨i + 1, insAt Q 0 x, _, c6, by omega, by go_num, by rw [insAt_len x hk], by rw [insAt_len x hk]; omega, hid (isSort_ins HX.out HP.out hk (fun m y h _ => by omega) HH.out), hid (below_drewN HB7.out _), hid (by rw [insAt_len x hk]; exact own_drewN HO7.out _)⟩, by simp [intOf]; omega⟩
              | succ m =>
                obtain ⟨y, hy⟩ : ∃ y, Q[m]? = some y := ⟨_, List.getElem?_eq_getElem (by omega)⟩
                have hm0 : (0 : Int) ≤ (m : Int) + 1 := by omega
                have hm1 : (m : Int) + 1 < (Q.length : Int) + 1 := by omega
                have hm2 : IntKind.i64.wrap ((m : Int) + 1 - 1) = (m : Int) := by rw [IntWalk.i64_in _ (by omega)]; omega
                have hm3 : (m : Int) < (Q.length : Int) + 1 := by omega
                have hm5 : IntKind.i64.wrap (m : Int) = (m : Int) := IntWalk.i64_in _ (by omega)
                have hm4 : (0 : Int) ≤ (m : Int) := by omega
                have t1 : decide ((m : Int) + 1 > 0) = true := decide_eq_true (by omega)
                have HY := hid hy
                have HX1 := hid (insAt_at (x := x) hk)
                have HY1 := hid (insAt_pre (x := x) hk (Nat.lt_succ_self m) hy)
                have c1 := keys_at (Rd.own HO7.out) HX1.out
                have c2 := keys_at (Rd.own HO7.out) HY1.out
                have KR : wr.cell? ⟨g, (m + 1) * 2, none⟩ = some (.int .i64 x.dir) ∧ wr.cell? ⟨g, (m + 1) * 2 + 1, none⟩ = some (.string x.name) ∧ wr.cell? ⟨g, m * 2, none⟩ = some (.int .i64 y.dir) ∧ wr.cell? ⟨g, m * 2 + 1, none⟩ = some (.string y.name) := and4 c1.1 c1.2 c2.1 c2.2
                have KRd : wr.drew.cell? ⟨g, (m + 1) * 2, none⟩ = some (.int .i64 x.dir) ∧ wr.drew.cell? ⟨g, (m + 1) * 2 + 1, none⟩ = some (.string x.name) ∧ wr.drew.cell? ⟨g, m * 2, none⟩ = some (.int .i64 y.dir) ∧ wr.drew.cell? ⟨g, m * 2 + 1, none⟩ = some (.string y.name) := KR
                clear hy c1 c2
                cases hls : lessK x y with
                | false =>
                  have HLS := hid hls
                  have HLOW := hid (show ∀ m' y', m + 1 = m' + 1 → Q[m']? = some y' → lessK y' x = true from fun m' y' h hy' => by
                    obtain rfl : m = m' := by omega
                    rw [HY.out] at hy'; cases hy'
                    cases h2 : lessK y x with
                    | true => rfl
                    | false => exact absurd (by rw [lessK_total hls h2]; exact List.mem_of_getElem? HY.out) HNM.out)
                  clear hls
                  go_wp2_with fail
                  go_region_held3 (fun w' => w'.cell? ⟨g, (m + 1) * 2, none⟩ = some (.int .i64 x.dir) ∧ w'.cell? ⟨g, (m + 1) * 2 + 1, none⟩ = some (.string x.name) ∧ w'.cell? ⟨g, m * 2, none⟩ = some (.int .i64 y.dir) ∧ w'.cell? ⟨g, m * 2 + 1, none⟩ = some (.string y.name))
                    (first | with_reducible exact KR | with_reducible exact KRd | with_reducible exact KS)
                    (first | (go_at_call 68; refine (r_less _ x y).mono ?_; rintro r w8 ⟨rfl, hb8⟩; rw [HLS.out]; (have HO8 := hid (own_below (own_drew HO7.out) hb8)); (have c1 := keys_at (Rd.own HO8.out) HX1.out); (have c2 := keys_at (Rd.own HO8.out) HY1.out); (have KS : w8.cell? ⟨g, (m + 1) * 2, none⟩ = some (.int .i64 x.dir) ∧ w8.cell? ⟨g, (m + 1) * 2 + 1, none⟩ = some (.string x.name) ∧ w8.cell? ⟨g, m * 2, none⟩ = some (.int .i64 y.dir) ∧ w8.cell? ⟨g, m * 2 + 1, none⟩ = some (.string y.name) := and4 c1.1 c1.2 c2.1 c2.2); (have HB8 := hid (HB7.out.drew.trans (hb8.mono HB7.out.size))); clear hb8 c1 c2))
                  all_goals
                    go_wp2
                    exact ⟨⟨i + 1, insAt Q (m + 1) x, _, c6, by omega, by go_num, by rw [insAt_len x hk], by rw [insAt_len x hk]; omega, hid (isSort_ins HX.out HP.out hk HLOW.out HH.out), HB8, hid (by rw [insAt_len x hk]; exact HO8.out)⟩, by simp [intOf]; omega⟩
                | true =>
                  have HLS := hid hls
                  clear hls
                  go_wp2_with fail
                  go_region_held3 (fun w' => w'.cell? ⟨g, (m + 1) * 2, none⟩ = some (.int .i64 x.dir) ∧ w'.cell? ⟨g, (m + 1) * 2 + 1, none⟩ = some (.string x.name) ∧ w'.cell? ⟨g, m * 2, none⟩ = some (.int .i64 y.dir) ∧ w'.cell? ⟨g, m * 2 + 1, none⟩ = some (.string y.name))
                    (first | with_reducible exact KR | with_reducible exact KRd | with_reducible exact KS)
                    (first | (go_at_call 68; refine (r_less _ x y).mono ?_; rintro r w8 ⟨rfl, hb8⟩; rw [HLS.out]; (have HO8 := hid (own_below (own_drew HO7.out) hb8)); (have c1 := keys_at (Rd.own HO8.out) HX1.out); (have c2 := keys_at (Rd.own HO8.out) HY1.out); (have KS : w8.cell? ⟨g, (m + 1) * 2, none⟩ = some (.int .i64 x.dir) ∧ w8.cell? ⟨g, (m + 1) * 2 + 1, none⟩ = some (.string x.name) ∧ w8.cell? ⟨g, m * 2, none⟩ = some (.int .i64 y.dir) ∧ w8.cell? ⟨g, m * 2 + 1, none⟩ = some (.string y.name) := and4 c1.1 c1.2 c2.1 c2.2); (have HB8 := hid (HB7.out.drew.trans (hb8.mono HB7.out.size))); clear hb8 c1 c2))
                  all_goals
                    clear KR KRd KS
                    obtain ⟨cur, hcur⟩ := own_type HO8.out rfl
                    have hfz := fun i => blk_free hcur i
                    have hmul : (m + 1) * 2 = m * 2 + 2 := by omega
                    have c1 := keys_at (Rd.own HO8.out) HX1.out
                    have c2 := keys_at (Rd.own HO8.out) HY1.out
                    simp only [hmul, Nat.add_assoc, Nat.reduceAdd] at c1
                    clear hcur
                    go_wp2_with fail
                    go_region
                    all_goals
                      go_wp2
                      have hgl : w.heap.size ≤ g := (own_lt HO8.out rfl).1
                      have o1 := own_set2 (m + 1) y HO8.out
                      have o2 := own_set2 m x o1
                      rw [hmul] at o2
                      rw [insAt_swap HY.out] at o2
                      have s1 := (set2at_chg w8 g (m * 2 + 2) y).size
                      have s2 := HB8.out.size
                      have bb : Below w.heap.size w (set2at (set2at w8 g (m * 2 + 2) y) g (m * 2) x) := (HB8.out.trans ((set2at_chg w8 g (m * 2 + 2) y).toBelow s2 (fun i hi h => by omega))).trans ((set2at_chg _ g (m * 2) x).toBelow (Nat.le_trans s2 s1) (fun i hi h => by omega))
                      have hh : ∀ j y', m ≤ j → Q[j]? = some y' → lessK x y' = true := fun j y' hj hy' => by
                        by_cases hjm : j = m
                        · subst hjm; rw [HY.out] at hy'; cases hy'; exact HLS.out
                        · exact HH.out j y' (by omega) hy'
                      exact ⟨⟨m, by omega, rfl, hid hh, hid bb.drew, hid (own_drew o2)⟩, by simp [intOf]⟩
    · have hQS : Q = sortK M := isSort_uniq (ks := M) (by have := HP.out; rwa [List.take_of_length_le (by omega)] at this) (sortK_is M)
      have HQS := hid hQS
      have hnn : M.length ≤ 9223372036854775807 := by omega
      clear hQS
      go_wp2
      go_ret
      rw [← HQS.out]
      exact ⟨a5, c5, rfl, HO.out, HB.out⟩

end Go.Proofs.Ytakkdaenindboaa
