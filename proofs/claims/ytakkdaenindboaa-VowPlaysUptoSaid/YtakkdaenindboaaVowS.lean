import Derived.Test.YtakkdaenindboaaVowR
namespace Go.Proofs.Ytakkdaenindboaa
set_option linter.unusedVariables false
set_option linter.unusedSimpArgs false
open Go.RowKit
attribute [local go_sem ↓] Go.wp_at_zero Go.wp_at_succ
attribute [local go_sem] run_store_complex run_store_float

theorem relL_mem (ks : List Ky) (k x : Ky) : x ∈ relL ks k ↔ x ∈ ks ∧ x ≠ k := by simp [relL]
theorem relAll_mem : ∀ (told ks : List Ky) (x : Ky), x ∈ relAll ks told ↔ x ∈ ks ∧ x ∉ told
  | [], ks, x => by simp [relAll]
  | k :: told, ks, x => by
    have ih := relAll_mem told (relL ks k) x
    rw [show relAll ks (k :: told) = relAll (relL ks k) told from rfl, ih, relL_mem]
    simp only [List.mem_cons, not_or]
    exact ⟨fun ⟨⟨a, b⟩, c⟩ => ⟨a, b, c⟩, fun ⟨a, b, c⟩ => ⟨⟨a, b⟩, c⟩⟩
theorem grant_room {t : Ts} {k : Ky} {ver : Int} (h : (t.ks.length : Int) + 1 ≤ t.P) : grantT t k ver = ({ t with ks := relL t.ks k ++ [k] }, []) := by
  have h1 : (relL t.ks k).length ≤ t.ks.length := List.length_filter_le _ _
  unfold grantT
  rw [if_pos (by rw [List.length_append]; simp; omega)]
theorem tellB_congr {ks ls : List Ky} (h : ∀ x, x ∈ ks ↔ x ∈ ls) (k : Ky) : tellB ks k = tellB ls k := by
  simp only [tellB, h]

/-- the promises of the first i keys -/
def StG (ks K : List Ky) (i : Nat) : Prop := ks.length ≤ i ∧ ∀ x, x ∈ ks ↔ x ∈ K.take i
theorem stG_succ {ks K : List Ky} {i : Nat} {x : Ky} (h : StG ks K i) (hx : K[i]? = some x) : StG (relL ks x ++ [x]) K (i + 1) := by
  have h1 : (relL ks x).length ≤ ks.length := List.length_filter_le _ _
  refine ⟨by rw [List.length_append]; simp; have := h.1; omega, fun y => ?_⟩
  rw [List.mem_append, relL_mem, h.2, List.take_add_one, hx, List.mem_append]
  simp only [List.mem_singleton, Option.toList_some]
  by_cases hy : y = x <;> simp [hy]

theorem any_snoc {p : Ky → Bool} {L : List Ky} {k : Nat} {x : Ky} (hx : L[k]? = some x) : (L.take (k + 1)).any p = ((L.take k).any p || p x) := by
  rw [List.take_add_one, hx, List.any_append]; simp
theorem keepA {W w w' : World} {l1 l2 l3 : Addr} {u1 u2 u3 : Value} (h : Below W.heap.size W w ∧ w.cell? l1 = some u1 ∧ w.cell? l2 = some u2 ∧ w.cell? l3 = some u3) (hb : Below w.heap.size w w') :
    Below W.heap.size W w' ∧ w'.cell? l1 = some u1 ∧ w'.cell? l2 = some u2 ∧ w'.cell? l3 = some u3 :=
  ⟨h.1.trans (hb.mono h.1.size), below_cell hb (Nat.le_refl _) h.2.1, below_cell hb (Nat.le_refl _) h.2.2.1, below_cell hb (Nat.le_refl _) h.2.2.2⟩
theorem keepB {W w w' : World} {l1 l2 : Addr} {u1 u2 : Value} (h : Below W.heap.size W w ∧ w.cell? l1 = some u1 ∧ w.cell? l2 = some u2) (hb : Below w.heap.size w w') :
    Below W.heap.size W w' ∧ w'.cell? l1 = some u1 ∧ w'.cell? l2 = some u2 :=
  ⟨h.1.trans (hb.mono h.1.size), below_cell hb (Nat.le_refl _) h.2.1, below_cell hb (Nat.le_refl _) h.2.2⟩
theorem touch_none {K ks touch : List Ky} {e n P Q ver : Int} {qs : List Bp} (h : touch.filter (tellB ks) = []) : touchT ⟨e, n, P, Q, ks, qs⟩ touch ver = (⟨e, n, P, Q, ks, qs⟩, []) := by
  unfold touchT; rw [if_pos h]
theorem touch_some {ks touch T : List Ky} {e n P Q ver : Int} (h : touch.filter (tellB ks) = T) (h0 : T ≠ []) (hn : n < 1099511627776) (hQ : 0 < Q) :
    touchT ⟨e, n, P, Q, ks, []⟩ touch ver = (⟨e, n + 1, P, Q, relAll ks T, [⟨e, n + 1, ver, false, sortK T⟩]⟩, [⟨e, n + 1, ver, false, sortK T⟩]) := by
  subst h
  unfold touchT
  rw [if_neg h0, brkT_add (t := ⟨e, n, P, Q, relAll ks (touch.filter (tellB ks)), []⟩) hn (by show ¬ Q ≤ (([] : List Bp).length : Int); simp; omega)]
  rfl

set_option maxRecDepth 100000 in
set_option maxHeartbeats 16000000 in
theorem vowTouches_walk (ka : Option Addr) (kc : Nat) (keys : List Ky) (ta : Option Addr) (tc : Nat) (touch : List Ky) (ver : Int) (w : World) (hk : Rd w (.slice ka keys.length kc) keys.length (kyc keys)) (hkl : keys.length * 24 ≤ 140737488351232)
    (ht : Rd w (.slice ta touch.length tc) touch.length (kyc touch)) (htl : touch.length * 24 ≤ 140737488351232) :
    Calls Try.prog 4 #[.slice ka keys.length kc, .slice ta touch.length tc, .int .i64 ver] w fun e w' => e = .returned (.bool true) ∧ Below w.heap.size w w' := by
  have HK := hid hk
  have HT := hid ht
  obtain ⟨K, hKe⟩ : ∃ K, K = keys.take 32 := ⟨_, rfl⟩
  have hKl : K.length = min 32 keys.length := by rw [hKe, List.length_take]
  have hshape : keys.length ≤ kc := by
    rcases hk with ⟨h1, h2, _⟩ | ⟨ad, cap, h1, h2, _⟩
    · omega
    · simp only [Value.slice.injEq] at h1; omega
  have hkr : Rd w (.slice ka K.length kc) K.length (kyc K) := by
    rcases hk with ⟨h1, h2, h3⟩ | ⟨ad, cap, h1, h2, h3, h4⟩
    · have hk0 := List.eq_nil_of_length_eq_zero h2
      subst hk0
      have : K = [] := by rw [hKe]; rfl
      subst this
      exact .inl ⟨h1, rfl, rfl⟩
    · simp only [Value.slice.injEq] at h1
      obtain ⟨rfl, _, rfl⟩ := h1
      refine .inr ⟨ad, kc, rfl, by omega, h3, fun i c hc => h4 i c ?_⟩
      rw [hKe, show kyc (keys.take 32) = (kyc keys).take (32 * 2) from (flat_take Ky.cells 2 (fun _ => rfl) keys 32).symm, List.getElem?_take] at hc
      split at hc
      · exact hc
      · cases hc
  have HKR := hid hkr
  obtain ⟨m, hm⟩ : ∃ m, m = K.length := ⟨_, rfl⟩
  have hm32 : m ≤ 32 := by omega
  have HM := hid hm
  have hcase : (keys.length ≤ 32 ∧ m = keys.length) ∨ (32 < keys.length ∧ m = 32) := by omega
  rw [← hm] at hkr HKR
  clear hk ht hkr hm hKl
  have HKE := hid hKe
  have HCASE := hid hcase
  clear hKe hcase
  go_enter Try.func4, Try.ntmps4
  go_wp2_with fail
  refine (v_new_yes _ 2 32 16 ⟨⟨by decide, by decide⟩, ⟨by decide, by decide⟩, by decide, by decide⟩).mono ?_
  rintro e w1 ⟨rfl, hv1, hb1⟩
  have HS1 := hid (show VS w w1 (fun k => k = w.heap.size) w.heap.size ⟨2, 0, 32, 16, [], []⟩ from ⟨hv1, fun k hk => by omega, hb1⟩)
  clear hv1 hb1
  go_upto_if 26 with (fail)
  go_cut [0] (fun v0 W => v0 = .slice ka m kc ∧ W = w1)
  case first =>
    rcases HCASE.out with ⟨h1, h2⟩ | ⟨h1, h2⟩
    · have hl : ¬ (keys.length : Int) > 32 := by omega
      go_wp2
      go_meet
      case rel => exact ⟨by rw [h2], rfl⟩
    · have hl : (keys.length : Int) > 32 := by omega
      have hc1 : (32 : Int) ≤ (kc : Int) := by omega
      go_wp2
      go_meet
      case rel => exact ⟨by rw [h2], rfl⟩
  case rest =>
    obtain ⟨rfl, rfl⟩ := hcut
    go_wp2_with fail
    go_loopw [9] (fun v9 wr => ∃ (i : Nat) (F : Nat → Prop) (ks : List Ky), i ≤ m ∧ v9 = .int .i64 i ∧ Hid (VS w wr F w.heap.size ⟨2, 0, 32, 16, ks, []⟩) ∧ Hid (StG ks K i)) (fun v9 _ => m - (intOf v9).toNat)
    case atStart => exact ⟨0, _, [], by omega, rfl, HS1, hid ⟨by simp, by simp⟩⟩
    case round =>
      obtain ⟨i, F, ks, hi, rfl, HV, HG⟩ := hrel
      by_cases hlt : i < m
      · have hlK : i < K.length := by rw [← HM.out]; exact hlt
        obtain ⟨b, off, rfl⟩ := ks_loc HKR.out (by omega)
        obtain ⟨x, hx⟩ : ∃ x, K[i]? = some x := ⟨_, List.getElem?_eq_getElem hlK⟩
        have c1 := ks_at HKR.out HV.out.below hx
        have HX := hid hx
        have hi0 : (0 : Int) ≤ (i : Int) := by omega
        have hi1 : (i : Int) < (m : Int) := by omega
        clear hx hlK
        go_wp2_with fail
        refine (t_grant _ F _ _ x.dir x.name ver HV.out.v).mono ?_
        rintro e w2 hp
        obtain ⟨F2, a2, c2, R2, rfl, hs2, hR2, hB2, hO2, hC2, hF2⟩ := HV.out.brk hp
        have hgr := grant_room (t := ⟨2, 0, 32, 16, ks, []⟩) (k := ⟨x.dir, x.name⟩) (ver := ver) (by show (ks.length : Int) + 1 ≤ 32; have := HG.out.1; omega)
        rw [hgr] at hs2 hR2
        have hRn : R2 = [] := by simpa using hR2
        subst hRn
        have z1 : (((0 : Nat) : Int) == 0) = true := by decide
        have HS := hid hs2
        have HG2 := hid (stG_succ HG.out HX.out)
        clear hp hs2 hR2 hB2 hO2 hC2 hF2 hgr c1
        go_wp2
        exact ⟨⟨i + 1, F2, _, by omega, by go_num, HS, HG2⟩, by simp [intOf]; omega⟩
      · have HKS := hid (show ∀ y, y ∈ ks ↔ y ∈ K by
          have := HG.out.2
          have him : i = m := by omega
          rw [List.take_of_length_le (by rw [← HM.out]; omega)] at this
          exact this)
        obtain ⟨wo, hwo⟩ : ∃ wo, wo = wr := ⟨_, rfl⟩
        subst hwo
        clear HG
        go_wp2_with fail
        refine (copyKeys_any (.slice ta touch.length tc) touch _ (HT.out.below HV.out.below) htl).mono ?_
        rintro e w3 ⟨ca, cc, rfl, ho3, hb3⟩
        have HV3 := hid (HV.out.alloc hb3)
        have HO3 := hid (Rd.own ho3)
        clear ho3 hb3
        go_wp2_with fail
        refine (t_touch _ F _ _ _ touch ver HV3.out.v HO3.out (by omega)).mono ?_
        rintro e w4 hp
        obtain ⟨F4, a4, c4, R4, rfl, hs4, hR4, hB4, hO4, hC4, hF4⟩ := HV3.out.brk hp
        obtain ⟨T, hT⟩ : ∃ T, T = touch.filter (tellB K) := ⟨_, rfl⟩
        have htt : touch.filter (tellB ks) = T := by rw [hT]; exact List.filter_congr fun y _ => tellB_congr HKS.out y
        have HTD := hid hT
        clear hT
        by_cases hT0 : T = []
        · rw [touch_none (K := K) (htt.trans hT0)] at hs4 hR4
          have hRn : R4 = [] := by simpa using hR4
          subst hRn
          have HV4 := hid hs4
          have HNO := hid (show ∀ y, y ∈ touch → tellB K y = false from fun y hy => by
            cases hty : tellB K y with
            | false => rfl
            | true => have : y ∈ T := by rw [HTD.out]; exact List.mem_filter.2 ⟨hy, hty⟩
                      rw [hT0] at this; cases this)
          have z1 : (((0 : Nat) : Int) == 1) = false := by decide
          clear hp hs4 hR4 hB4 hO4 hC4 hF4 htt
          go_wp2_with fail
          go_loopw [11, 12] (fun v11 v12 wr => ∃ (i : Nat), i ≤ touch.length ∧ v12 = .int .i64 i ∧ v11 = .bool false ∧ Hid (VS w wr F4 w.heap.size ⟨2, 0, 32, 16, ks, []⟩)) (fun _ v12 _ => touch.length - (intOf v12).toNat)
          case atStart => exact ⟨0, by omega, rfl, rfl, HV4⟩
          case round =>
            obtain ⟨j, hj, rfl, rfl, HV5⟩ := hrel
            by_cases hlt2 : j < touch.length
            · obtain ⟨b, off, rfl⟩ := ks_loc HT.out (by omega)
              obtain ⟨x, hx⟩ : ∃ x, touch[j]? = some x := ⟨_, List.getElem?_eq_getElem hlt2⟩
              have c2 := ks_at HT.out HV5.out.below hx
              have HX := hid hx
              have htx := HNO.out x (List.mem_of_getElem? hx)
              have hxn : x ∉ K := by intro h; simp [tellB, h] at htx
              have hdn : (⟨x.dir, ByteArray.empty⟩ : Ky) ∉ K := by intro h; simp [tellB, h] at htx
              have HXN := hid hxn
              have HDN := hid hdn
              have hi0 : (0 : Int) ≤ (j : Int) := by omega
              have hi1 : (j : Int) < (touch.length : Int) := by omega
              clear hx htx hxn hdn
              go_wp2_with fail
              refine (in_key (.slice ka m kc) K x.dir x.name _ (by rw [← HM.out]; exact HKR.out.below HV5.out.below)).mono ?_
              rintro e w6 ⟨rfl, hb6⟩
              rw [show decide ((⟨x.dir, x.name⟩ : Ky) ∈ K) = false from decide_eq_false HXN.out]
              have HV6 := hid (HV5.out.alloc hb6)
              have c3 := ks_at HT.out HV6.out.below HX.out
              clear hb6
              go_wp2_with fail
              refine (in_key (.slice ka m kc) K x.dir _ _ (by rw [← HM.out]; exact HKR.out.below HV6.out.below)).mono ?_
              rintro e w7 ⟨rfl, hb7⟩
              rw [show decide ((⟨x.dir, { data := #[] }⟩ : Ky) ∈ K) = false from decide_eq_false HDN.out]
              have HV7 := hid (HV6.out.alloc hb7)
              have c4 := ks_at HT.out HV7.out.below HX.out
              clear hb7
              go_wp2_with fail
              have hS0 : Below w7.heap.size w7 w7.drew ∧ w7.drew.cell? ⟨b, off + j * 2, none⟩ = some (.int .i64 x.dir) ∧ w7.drew.cell? ⟨b, off + j * 2 + 1, none⟩ = some (.string x.name) := ⟨(Below.refl _ _).drew, c4.1, c4.2⟩
              refine held_start (fun w' => Below w7.heap.size w7 w' ∧ w'.cell? ⟨b, off + j * 2, none⟩ = some (.int .i64 x.dir) ∧ w'.cell? ⟨b, off + j * 2 + 1, none⟩ = some (.string x.name)) (by kernel_rfl) ?_ (fun hHeld => ?_)
              · first | exact hS0 | exact hSA | exact hSB | exact hSC
              refine held_take 0 rfl (by kernel_rfl) (by kernel_rfl) (by kernel_rfl) (fun _ _ _ h => h) hHeld (by rfl) (v := ?_) ?_ ?_
              rotate_left
              · intro w hSw; (try dsimp only at hSw); (try go_simp); (try with_reducible rfl)
              try simp only [Act.put, List.setIfInBounds_toArray, List.set_cons_zero, List.set_cons_succ]
              refine held_take 1 rfl (by kernel_rfl) (by kernel_rfl) (by kernel_rfl) (fun _ _ _ h => h) hHeld (by rfl) (v := ?_) ?_ ?_
              rotate_left
              · intro w hSw; (try dsimp only at hSw); (try go_simp); (try with_reducible rfl)
              try simp only [Act.put, List.setIfInBounds_toArray, List.set_cons_zero, List.set_cons_succ]
              refine held_skip 2 rfl (by kernel_rfl) (by kernel_rfl) (by kernel_rfl) (fun _ _ _ h => h) hHeld (by rfl) ?_
              try simp only [Act.put, List.setIfInBounds_toArray, List.set_cons_zero, List.set_cons_succ]
              refine held_skip 3 rfl (by kernel_rfl) (by kernel_rfl) (by kernel_rfl) (fun _ _ _ h => h) hHeld (by rfl) ?_
              try simp only [Act.put, List.setIfInBounds_toArray, List.set_cons_zero, List.set_cons_succ]
              refine held_skip 4 rfl (by kernel_rfl) (by kernel_rfl) (by kernel_rfl) (fun _ _ _ h => h) hHeld (by rfl) ?_
              try simp only [Act.put, List.setIfInBounds_toArray, List.set_cons_zero, List.set_cons_succ]
              refine held_skip 5 rfl (by kernel_rfl) (by kernel_rfl) (by kernel_rfl) (fun _ _ _ h => h) hHeld (by rfl) ?_
              try simp only [Act.put, List.setIfInBounds_toArray, List.set_cons_zero, List.set_cons_succ]
              refine held_skip 6 rfl (by kernel_rfl) (by kernel_rfl) (by kernel_rfl) (fun _ _ _ h => h) hHeld (by rfl) ?_
              try simp only [Act.put, List.setIfInBounds_toArray, List.set_cons_zero, List.set_cons_succ]
              refine held_skip 7 rfl (by kernel_rfl) (by kernel_rfl) (by kernel_rfl) (fun _ _ _ h => h) hHeld (by rfl) ?_
              try simp only [Act.put, List.setIfInBounds_toArray, List.set_cons_zero, List.set_cons_succ]
              refine held_skip 8 rfl (by kernel_rfl) (by kernel_rfl) (by kernel_rfl) (fun _ _ _ h => h) hHeld (by rfl) ?_
              try simp only [Act.put, List.setIfInBounds_toArray, List.set_cons_zero, List.set_cons_succ]
              refine held_skip 9 rfl (by kernel_rfl) (by kernel_rfl) (by kernel_rfl) (fun _ _ _ h => h) hHeld (by rfl) ?_
              try simp only [Act.put, List.setIfInBounds_toArray, List.set_cons_zero, List.set_cons_succ]
              refine held_skip 10 rfl (by kernel_rfl) (by kernel_rfl) (by kernel_rfl) (fun _ _ _ h => h) hHeld (by rfl) ?_
              try simp only [Act.put, List.setIfInBounds_toArray, List.set_cons_zero, List.set_cons_succ]
              refine held_skip 11 rfl (by kernel_rfl) (by kernel_rfl) (by kernel_rfl) (fun _ _ _ h => h) hHeld (by rfl) ?_
              try simp only [Act.put, List.setIfInBounds_toArray, List.set_cons_zero, List.set_cons_succ]
              refine held_skip 12 rfl (by kernel_rfl) (by kernel_rfl) (by kernel_rfl) (fun _ _ _ h => h) hHeld (by rfl) ?_
              try simp only [Act.put, List.setIfInBounds_toArray, List.set_cons_zero, List.set_cons_succ]
              refine held_skip 13 rfl (by kernel_rfl) (by kernel_rfl) (by kernel_rfl) (fun _ _ _ h => h) hHeld (by rfl) ?_
              try simp only [Act.put, List.setIfInBounds_toArray, List.set_cons_zero, List.set_cons_succ]
              refine held_skip 14 rfl (by kernel_rfl) (by kernel_rfl) (by kernel_rfl) (fun _ _ _ h => h) hHeld (by rfl) ?_
              try simp only [Act.put, List.setIfInBounds_toArray, List.set_cons_zero, List.set_cons_succ]
              refine held_skip 15 rfl (by kernel_rfl) (by kernel_rfl) (by kernel_rfl) (fun _ _ _ h => h) hHeld (by rfl) ?_
              try simp only [Act.put, List.setIfInBounds_toArray, List.set_cons_zero, List.set_cons_succ]
              refine held_skip 16 rfl (by kernel_rfl) (by kernel_rfl) (by kernel_rfl) (fun _ _ _ h => h) hHeld (by rfl) ?_
              try simp only [Act.put, List.setIfInBounds_toArray, List.set_cons_zero, List.set_cons_succ]
              refine held_take 17 rfl (by kernel_rfl) (by kernel_rfl) (by kernel_rfl) (fun _ _ _ h => h) hHeld (by rfl) (v := ?_) ?_ ?_
              rotate_left
              · intro w hSw; (try dsimp only at hSw); (try go_simp); (try with_reducible rfl)
              try simp only [Act.put, List.setIfInBounds_toArray, List.set_cons_zero, List.set_cons_succ]
              refine held_take 18 rfl (by kernel_rfl) (by kernel_rfl) (by kernel_rfl) (fun _ _ _ h => h) hHeld (by rfl) (v := ?_) ?_ ?_
              rotate_left
              · intro w hSw; (try dsimp only at hSw); (try go_simp); (try with_reducible rfl)
              try simp only [Act.put, List.setIfInBounds_toArray, List.set_cons_zero, List.set_cons_succ]
              refine held_take 19 rfl (by kernel_rfl) (by kernel_rfl) (by kernel_rfl) (fun _ _ _ h => h) hHeld (by rfl) (v := ?_) ?_ ?_
              rotate_left
              · intro w hSw; (try dsimp only at hSw); (try go_simp); (try with_reducible rfl)
              try simp only [Act.put, List.setIfInBounds_toArray, List.set_cons_zero, List.set_cons_succ]
              refine held_take 20 rfl (by kernel_rfl) (by kernel_rfl) (by kernel_rfl) (fun _ _ _ h => h) hHeld (by rfl) (v := ?_) ?_ ?_
              rotate_left
              · intro w hSw; (try dsimp only at hSw); (try go_simp); (try with_reducible rfl)
              try simp only [Act.put, List.setIfInBounds_toArray, List.set_cons_zero, List.set_cons_succ]
              refine held_take 21 rfl (by kernel_rfl) (by kernel_rfl) (by kernel_rfl) (fun _ _ _ h => h) hHeld (by rfl) (v := ?_) ?_ ?_
              rotate_left
              · intro w hSw; (try dsimp only at hSw); (try go_simp); (try with_reducible rfl)
              try simp only [Act.put, List.setIfInBounds_toArray, List.set_cons_zero, List.set_cons_succ]
              refine held_take 22 rfl (by kernel_rfl) (by kernel_rfl) (by kernel_rfl) (fun _ _ _ h => h) hHeld (by rfl) (v := ?_) ?_ ?_
              rotate_left
              · intro w hSw; (try dsimp only at hSw); (try go_simp); (try with_reducible rfl)
              try simp only [Act.put, List.setIfInBounds_toArray, List.set_cons_zero, List.set_cons_succ]
              refine held_take 23 rfl (by kernel_rfl) (by kernel_rfl) (by kernel_rfl) (fun _ _ _ h => h) hHeld (by rfl) (v := ?_) ?_ ?_
              rotate_left
              · intro w hSw; (try dsimp only at hSw); (try go_simp); (try with_reducible rfl)
              try simp only [Act.put, List.setIfInBounds_toArray, List.set_cons_zero, List.set_cons_succ]
              refine held_take 24 rfl (by kernel_rfl) (by kernel_rfl) (by kernel_rfl) (fun _ _ _ h => h) hHeld (by rfl) (v := ?_) ?_ ?_
              rotate_left
              · intro w hSw; (try dsimp only at hSw); (try go_simp); (try with_reducible rfl)
              try simp only [Act.put, List.setIfInBounds_toArray, List.set_cons_zero, List.set_cons_succ]
              refine held_take 25 rfl (by kernel_rfl) (by kernel_rfl) (by kernel_rfl) (fun _ _ _ h => h) hHeld (by rfl) (v := ?_) ?_ ?_
              rotate_left
              · intro w hSw; (try dsimp only at hSw); (try go_simp); (try with_reducible rfl)
              try simp only [Act.put, List.setIfInBounds_toArray, List.set_cons_zero, List.set_cons_succ]
              refine held_take 26 rfl (by kernel_rfl) (by kernel_rfl) (by kernel_rfl) (fun _ _ _ h => h) hHeld (by rfl) (v := ?_) ?_ ?_
              rotate_left
              · intro w hSw; (try dsimp only at hSw); (try go_simp); (try with_reducible rfl)
              try simp only [Act.put, List.setIfInBounds_toArray, List.set_cons_zero, List.set_cons_succ]
              refine held_skip 27 rfl (by kernel_rfl) (by kernel_rfl) (by kernel_rfl) (fun _ _ _ h => h) hHeld (by rfl) ?_
              try simp only [Act.put, List.setIfInBounds_toArray, List.set_cons_zero, List.set_cons_succ]
              refine held_skip 28 rfl (by kernel_rfl) (by kernel_rfl) (by kernel_rfl) (fun _ _ _ h => h) hHeld (by rfl) ?_
              try simp only [Act.put, List.setIfInBounds_toArray, List.set_cons_zero, List.set_cons_succ]
              refine held_skip 29 rfl (by kernel_rfl) (by kernel_rfl) (by kernel_rfl) (fun _ _ _ h => h) hHeld (by rfl) ?_
              try simp only [Act.put, List.setIfInBounds_toArray, List.set_cons_zero, List.set_cons_succ]
              refine held_skip 30 rfl (by kernel_rfl) (by kernel_rfl) (by kernel_rfl) (fun _ _ _ h => h) hHeld (by rfl) ?_
              try simp only [Act.put, List.setIfInBounds_toArray, List.set_cons_zero, List.set_cons_succ]
              refine held_skip 31 rfl (by kernel_rfl) (by kernel_rfl) (by kernel_rfl) (fun _ _ _ h => h) hHeld (by rfl) ?_
              try simp only [Act.put, List.setIfInBounds_toArray, List.set_cons_zero, List.set_cons_succ]
              refine held_skip 32 rfl (by kernel_rfl) (by kernel_rfl) (by kernel_rfl) (fun _ _ _ h => h) hHeld (by rfl) ?_
              try simp only [Act.put, List.setIfInBounds_toArray, List.set_cons_zero, List.set_cons_succ]
              refine held_skip 33 rfl (by kernel_rfl) (by kernel_rfl) (by kernel_rfl) (fun _ _ _ h => h) hHeld (by rfl) ?_
              try simp only [Act.put, List.setIfInBounds_toArray, List.set_cons_zero, List.set_cons_succ]
              refine held_skip 34 rfl (by kernel_rfl) (by kernel_rfl) (by kernel_rfl) (fun _ _ _ h => h) hHeld (by rfl) ?_
              try simp only [Act.put, List.setIfInBounds_toArray, List.set_cons_zero, List.set_cons_succ]
              refine held_skip 35 rfl (by kernel_rfl) (by kernel_rfl) (by kernel_rfl) (fun _ _ _ h => h) hHeld (by rfl) ?_
              try simp only [Act.put, List.setIfInBounds_toArray, List.set_cons_zero, List.set_cons_succ]
              refine held_take 36 rfl (by kernel_rfl) (by kernel_rfl) (by kernel_rfl) (fun _ _ _ h => h) hHeld (by rfl) (v := ?_) ?_ ?_
              rotate_left
              · intro w hSw; (try dsimp only at hSw); (try go_simp); (try with_reducible rfl)
              try simp only [Act.put, List.setIfInBounds_toArray, List.set_cons_zero, List.set_cons_succ]
              refine held_take 37 rfl (by kernel_rfl) (by kernel_rfl) (by kernel_rfl) (fun _ _ _ h => h) hHeld (by rfl) (v := ?_) ?_ ?_
              rotate_left
              · intro w hSw; (try dsimp only at hSw); (try go_simp); (try with_reducible rfl)
              try simp only [Act.put, List.setIfInBounds_toArray, List.set_cons_zero, List.set_cons_succ]
              refine held_take 38 rfl (by kernel_rfl) (by kernel_rfl) (by kernel_rfl) (fun _ _ _ h => h) hHeld (by rfl) (v := ?_) ?_ ?_
              rotate_left
              · intro w hSw; (try dsimp only at hSw); (try go_simp); (try with_reducible rfl)
              try simp only [Act.put, List.setIfInBounds_toArray, List.set_cons_zero, List.set_cons_succ]
              refine held_take 39 rfl (by kernel_rfl) (by kernel_rfl) (by kernel_rfl) (fun _ _ _ h => h) hHeld (by rfl) (v := ?_) ?_ ?_
              rotate_left
              · intro w hSw; (try dsimp only at hSw); (try go_simp); (try with_reducible rfl)
              try simp only [Act.put, List.setIfInBounds_toArray, List.set_cons_zero, List.set_cons_succ]
              refine held_take 40 rfl (by kernel_rfl) (by kernel_rfl) (by kernel_rfl) (fun _ _ _ h => h) hHeld (by rfl) (v := ?_) ?_ ?_
              rotate_left
              · intro w hSw; (try dsimp only at hSw); (try go_simp); (try with_reducible rfl)
              try simp only [Act.put, List.setIfInBounds_toArray, List.set_cons_zero, List.set_cons_succ]
              refine held_take 41 rfl (by kernel_rfl) (by kernel_rfl) (by kernel_rfl) (fun _ _ _ h => h) hHeld (by rfl) (v := ?_) ?_ ?_
              rotate_left
              · intro w hSw; (try dsimp only at hSw); (try go_simp); (try with_reducible rfl)
              try simp only [Act.put, List.setIfInBounds_toArray, List.set_cons_zero, List.set_cons_succ]
              refine held_take 42 rfl (by kernel_rfl) (by kernel_rfl) (by kernel_rfl) (fun _ _ _ h => h) hHeld (by rfl) (v := ?_) ?_ ?_
              rotate_left
              · intro w hSw; (try dsimp only at hSw); (try go_simp); (try with_reducible rfl)
              try simp only [Act.put, List.setIfInBounds_toArray, List.set_cons_zero, List.set_cons_succ]
              refine held_take 43 rfl (by kernel_rfl) (by kernel_rfl) (by kernel_rfl) (fun _ _ _ h => h) hHeld (by rfl) (v := ?_) ?_ ?_
              rotate_left
              · intro w hSw; (try dsimp only at hSw); (try go_simp); (try with_reducible rfl)
              try simp only [Act.put, List.setIfInBounds_toArray, List.set_cons_zero, List.set_cons_succ]
              refine held_step 44 rfl (by kernel_rfl) (by rfl) (fun Kx hK => ?_)
              go_simp
              go_at_call 18; refine (in_key (.slice ka m kc) K x.dir x.name _ (by rw [← HM.out]; exact HKR.out.below (HV7.out.below.trans (hHeld.1.mono HV7.out.sz)))).mono ?_; rintro e wk ⟨rfl, hbk⟩; rw [show decide ((⟨x.dir, x.name⟩ : Ky) ∈ K) = false from decide_eq_false HXN.out]; have hSB := keepB hHeld hbk
              refine hK.out _ _ ?_ (fun hHeld2 => ?_)
              · (try dsimp only); first | exact hS0 | exact hSA | exact hSB | exact hSC
              clear hK Kx hHeld
              have hHeld := hHeld2
              clear hHeld2
              try simp only [Act.put, List.setIfInBounds_toArray, List.set_cons_zero, List.set_cons_succ]
              refine held_take 45 rfl (by kernel_rfl) (by kernel_rfl) (by kernel_rfl) (fun _ _ _ h => h) hHeld (by rfl) (v := ?_) ?_ ?_
              rotate_left
              · intro w hSw; (try dsimp only at hSw); (try go_simp); (try with_reducible rfl)
              try simp only [Act.put, List.setIfInBounds_toArray, List.set_cons_zero, List.set_cons_succ]
              refine held_skip 46 rfl (by kernel_rfl) (by kernel_rfl) (by kernel_rfl) (fun _ _ _ h => h) hHeld (by rfl) ?_
              try simp only [Act.put, List.setIfInBounds_toArray, List.set_cons_zero, List.set_cons_succ]
              refine held_skip 47 rfl (by kernel_rfl) (by kernel_rfl) (by kernel_rfl) (fun _ _ _ h => h) hHeld (by rfl) ?_
              try simp only [Act.put, List.setIfInBounds_toArray, List.set_cons_zero, List.set_cons_succ]
              refine held_skip 48 rfl (by kernel_rfl) (by kernel_rfl) (by kernel_rfl) (fun _ _ _ h => h) hHeld (by rfl) ?_
              try simp only [Act.put, List.setIfInBounds_toArray, List.set_cons_zero, List.set_cons_succ]
              refine held_skip 49 rfl (by kernel_rfl) (by kernel_rfl) (by kernel_rfl) (fun _ _ _ h => h) hHeld (by rfl) ?_
              try simp only [Act.put, List.setIfInBounds_toArray, List.set_cons_zero, List.set_cons_succ]
              refine held_skip 50 rfl (by kernel_rfl) (by kernel_rfl) (by kernel_rfl) (fun _ _ _ h => h) hHeld (by rfl) ?_
              try simp only [Act.put, List.setIfInBounds_toArray, List.set_cons_zero, List.set_cons_succ]
              refine held_skip 51 rfl (by kernel_rfl) (by kernel_rfl) (by kernel_rfl) (fun _ _ _ h => h) hHeld (by rfl) ?_
              try simp only [Act.put, List.setIfInBounds_toArray, List.set_cons_zero, List.set_cons_succ]
              refine held_take 52 rfl (by kernel_rfl) (by kernel_rfl) (by kernel_rfl) (fun _ _ _ h => h) hHeld (by rfl) (v := ?_) ?_ ?_
              rotate_left
              · intro w hSw; (try dsimp only at hSw); (try go_simp); (try with_reducible rfl)
              try simp only [Act.put, List.setIfInBounds_toArray, List.set_cons_zero, List.set_cons_succ]
              refine held_take 53 rfl (by kernel_rfl) (by kernel_rfl) (by kernel_rfl) (fun _ _ _ h => h) hHeld (by rfl) (v := ?_) ?_ ?_
              rotate_left
              · intro w hSw; (try dsimp only at hSw); (try go_simp); (try with_reducible rfl)
              try simp only [Act.put, List.setIfInBounds_toArray, List.set_cons_zero, List.set_cons_succ]
              refine wpAnyH_done (by kernel_rfl) ?_ _
              have HV9 := hid (HV7.out.alloc hHeld.1)
              clear hHeld hS0 c2 c3 c4
              go_wp2
              exact ⟨⟨j + 1, by omega, by go_num, rfl, HV9⟩, by simp [intOf]; omega⟩
            · obtain ⟨w8, hw8⟩ : ∃ w8, w8 = wr := ⟨_, rfl⟩
              subst hw8
              go_wp2_with fail
              refine (v_awake _).mono ?_; rintro e w9 ⟨rfl, hb9⟩
              have HB9 := hid (HV5.out.below.trans (hb9.mono HV5.out.sz))
              clear hb9
              go_wp2
              go_ret
              exact ⟨rfl, HB9.out⟩
        · rw [touch_some htt hT0 (by decide) (by decide)] at hs4 hR4
          obtain ⟨g, kb, kd, rfl, rfl, hgz, p0, p1, p2, p3, q4⟩ := one_brk hB4 hR4
          have HV4 := hid hs4
          have HP3 := hid p3
          have HQ4 := hid (Rd.own q4)
          have HGZ := hid hgz
          have HTM := hid (show ∀ y, y ∈ touch → (y ∈ sortK T ↔ tellB K y = true) from fun y hy => by
            rw [(sortK_is T).2, HTD.out, List.mem_filter]; exact ⟨fun h => h.2, fun h => ⟨hy, h⟩⟩)
          have HREL := hid (show ∀ y, y ∈ touch → tellB K y = true → y ∉ relAll ks T from fun y hy ht h => by
            rw [relAll_mem] at h
            exact h.2 (by rw [HTD.out]; exact List.mem_filter.2 ⟨hy, ht⟩))
          have HEX := hid (show touch.any (tellB K) = true by
            cases hq : touch.any (tellB K) with
            | true => rfl
            | false =>
              exfalso
              refine hT0 ?_
              rw [HTD.out, List.filter_eq_nil_iff]
              intro y hy
              rw [List.any_eq_false] at hq
              exact hq y hy)
          have z1 : (((1 : Nat) : Int) == 1) = true := by decide
          clear hp hs4 hR4 hB4 hO4 hC4 hF4 htt p0 p1 p2 p3 q4 hgz
          go_wp2_with fail
          go_loopw [11, 12] (fun v11 v12 wr => ∃ (i : Nat) (sm : Bool), i ≤ touch.length ∧ v12 = .int .i64 i ∧ v11 = .bool sm ∧ Hid (sm = (touch.take i).any (tellB K)) ∧ Hid (VS w wr F4 w.heap.size ⟨2, 0 + 1, 32, 16, relAll ks T, [⟨2, 0 + 1, ver, false, sortK T⟩]⟩) ∧ Hid (Below w4.heap.size w4 wr)) (fun _ v12 _ => touch.length - (intOf v12).toNat)
          case atStart => exact ⟨0, false, by omega, rfl, rfl, hid rfl, HV4, hid (Below.refl _ _)⟩
          case round =>
            obtain ⟨j, sm, hj, rfl, rfl, HSM, HV5, HB5⟩ := hrel
            by_cases hlt2 : j < touch.length
            · obtain ⟨b, off, rfl⟩ := ks_loc HT.out (by omega)
              obtain ⟨x, hx⟩ : ∃ x, touch[j]? = some x := ⟨_, List.getElem?_eq_getElem hlt2⟩
              have c2 := ks_at HT.out HV5.out.below hx
              have HX := hid hx
              have hxt : x ∈ touch := List.mem_of_getElem? hx
              have HXT := hid hxt
              have HAS := hid (any_snoc (p := tellB K) hx)
              have hi0 : (0 : Int) ≤ (j : Int) := by omega
              have hi1 : (j : Int) < (touch.length : Int) := by omega
              clear hx hxt
              by_cases hxk : x ∈ K
              · have HXK := hid hxk
                have HTB := hid (show tellB K x = true by simp [tellB, hxk])
                have HHR := hid (HREL.out x HXT.out HTB.out)
                have HSX := hid ((HTM.out x HXT.out).2 HTB.out)
                clear hxk
                go_wp2_with fail
                refine (in_key (.slice ka m kc) K x.dir x.name _ (by rw [← HM.out]; exact HKR.out.below HV5.out.below)).mono ?_
                rintro e w6 ⟨rfl, hb6⟩
                rw [show decide ((⟨x.dir, x.name⟩ : Ky) ∈ K) = true from decide_eq_true HXK.out]
                have HV6 := hid (HV5.out.alloc hb6)
                have c3 := ks_at HT.out HV6.out.below HX.out
                have HB6 := hid (HB5.out.trans (hb6.mono HB5.out.size))
                clear hb6
                cases sm with
                | false =>
                  go_wp2_with fail
                  have hS0 : Below w6.heap.size w6 w6.drew ∧ w6.drew.cell? ⟨b, off + j * 2, none⟩ = some (.int .i64 x.dir) ∧ w6.drew.cell? ⟨b, off + j * 2 + 1, none⟩ = some (.string x.name) ∧ w6.drew.cell? ⟨g, 3, none⟩ = some (.slice kb (sortK T).length kd) := ⟨(Below.refl _ _).drew, c3.1, c3.2, below_cell HB6.out (Nat.le_refl _) HP3.out⟩
                  refine held_start (fun w' => Below w6.heap.size w6 w' ∧ w'.cell? ⟨b, off + j * 2, none⟩ = some (.int .i64 x.dir) ∧ w'.cell? ⟨b, off + j * 2 + 1, none⟩ = some (.string x.name) ∧ w'.cell? ⟨g, 3, none⟩ = some (.slice kb (sortK T).length kd)) (by kernel_rfl) ?_ (fun hHeld => ?_)
                  · first | exact hS0 | exact hSA | exact hSB | exact hSC
                  refine held_take 0 rfl (by kernel_rfl) (by kernel_rfl) (by kernel_rfl) (fun _ _ _ h => h) hHeld (by rfl) (v := ?_) ?_ ?_
                  rotate_left
                  · intro w hSw; (try dsimp only at hSw); (try go_simp); (try with_reducible rfl)
                  try simp only [Act.put, List.setIfInBounds_toArray, List.set_cons_zero, List.set_cons_succ]
                  refine held_take 1 rfl (by kernel_rfl) (by kernel_rfl) (by kernel_rfl) (fun _ _ _ h => h) hHeld (by rfl) (v := ?_) ?_ ?_
                  rotate_left
                  · intro w hSw; (try dsimp only at hSw); (try go_simp); (try with_reducible rfl)
                  try simp only [Act.put, List.setIfInBounds_toArray, List.set_cons_zero, List.set_cons_succ]
                  refine held_take 2 rfl (by kernel_rfl) (by kernel_rfl) (by kernel_rfl) (fun _ _ _ h => h) hHeld (by rfl) (v := ?_) ?_ ?_
                  rotate_left
                  · intro w hSw; (try dsimp only at hSw); (try go_simp); (try with_reducible rfl)
                  try simp only [Act.put, List.setIfInBounds_toArray, List.set_cons_zero, List.set_cons_succ]
                  refine held_take 3 rfl (by kernel_rfl) (by kernel_rfl) (by kernel_rfl) (fun _ _ _ h => h) hHeld (by rfl) (v := ?_) ?_ ?_
                  rotate_left
                  · intro w hSw; (try dsimp only at hSw); (try go_simp); (try with_reducible rfl)
                  try simp only [Act.put, List.setIfInBounds_toArray, List.set_cons_zero, List.set_cons_succ]
                  refine held_take 4 rfl (by kernel_rfl) (by kernel_rfl) (by kernel_rfl) (fun _ _ _ h => h) hHeld (by rfl) (v := ?_) ?_ ?_
                  rotate_left
                  · intro w hSw; (try dsimp only at hSw); (try go_simp); (try with_reducible rfl)
                  try simp only [Act.put, List.setIfInBounds_toArray, List.set_cons_zero, List.set_cons_succ]
                  refine held_take 5 rfl (by kernel_rfl) (by kernel_rfl) (by kernel_rfl) (fun _ _ _ h => h) hHeld (by rfl) (v := ?_) ?_ ?_
                  rotate_left
                  · intro w hSw; (try dsimp only at hSw); (try go_simp); (try with_reducible rfl)
                  try simp only [Act.put, List.setIfInBounds_toArray, List.set_cons_zero, List.set_cons_succ]
                  refine held_take 6 rfl (by kernel_rfl) (by kernel_rfl) (by kernel_rfl) (fun _ _ _ h => h) hHeld (by rfl) (v := ?_) ?_ ?_
                  rotate_left
                  · intro w hSw; (try dsimp only at hSw); (try go_simp); (try with_reducible rfl)
                  try simp only [Act.put, List.setIfInBounds_toArray, List.set_cons_zero, List.set_cons_succ]
                  refine held_take 7 rfl (by kernel_rfl) (by kernel_rfl) (by kernel_rfl) (fun _ _ _ h => h) hHeld (by rfl) (v := ?_) ?_ ?_
                  rotate_left
                  · intro w hSw; (try dsimp only at hSw); (try go_simp); (try with_reducible rfl)
                  try simp only [Act.put, List.setIfInBounds_toArray, List.set_cons_zero, List.set_cons_succ]
                  refine held_take 8 rfl (by kernel_rfl) (by kernel_rfl) (by kernel_rfl) (fun _ _ _ h => h) hHeld (by rfl) (v := ?_) ?_ ?_
                  rotate_left
                  · intro w hSw; (try dsimp only at hSw); (try go_simp); (try with_reducible rfl)
                  try simp only [Act.put, List.setIfInBounds_toArray, List.set_cons_zero, List.set_cons_succ]
                  refine held_take 9 rfl (by kernel_rfl) (by kernel_rfl) (by kernel_rfl) (fun _ _ _ h => h) hHeld (by rfl) (v := ?_) ?_ ?_
                  rotate_left
                  · intro w hSw; (try dsimp only at hSw); (try go_simp); (try with_reducible rfl)
                  try simp only [Act.put, List.setIfInBounds_toArray, List.set_cons_zero, List.set_cons_succ]
                  refine held_take 10 rfl (by kernel_rfl) (by kernel_rfl) (by kernel_rfl) (fun _ _ _ h => h) hHeld (by rfl) (v := ?_) ?_ ?_
                  rotate_left
                  · intro w hSw; (try dsimp only at hSw); (try go_simp); (try with_reducible rfl)
                  try simp only [Act.put, List.setIfInBounds_toArray, List.set_cons_zero, List.set_cons_succ]
                  refine held_take 11 rfl (by kernel_rfl) (by kernel_rfl) (by kernel_rfl) (fun _ _ _ h => h) hHeld (by rfl) (v := ?_) ?_ ?_
                  rotate_left
                  · intro w hSw; (try dsimp only at hSw); (try go_simp); (try with_reducible rfl)
                  try simp only [Act.put, List.setIfInBounds_toArray, List.set_cons_zero, List.set_cons_succ]
                  refine held_take 12 rfl (by kernel_rfl) (by kernel_rfl) (by kernel_rfl) (fun _ _ _ h => h) hHeld (by rfl) (v := ?_) ?_ ?_
                  rotate_left
                  · intro w hSw; (try dsimp only at hSw); (try go_simp); (try with_reducible rfl)
                  try simp only [Act.put, List.setIfInBounds_toArray, List.set_cons_zero, List.set_cons_succ]
                  refine held_take 13 rfl (by kernel_rfl) (by kernel_rfl) (by kernel_rfl) (fun _ _ _ h => h) hHeld (by rfl) (v := ?_) ?_ ?_
                  rotate_left
                  · intro w hSw; (try dsimp only at hSw); (try go_simp); (try with_reducible rfl)
                  try simp only [Act.put, List.setIfInBounds_toArray, List.set_cons_zero, List.set_cons_succ]
                  refine held_step 14 rfl (by kernel_rfl) (by rfl) (fun Kx hK => ?_)
                  go_simp
                  go_at_call 18; refine (in_key (.slice kb (sortK T).length kd) (sortK T) x.dir x.name _ (HQ4.out.below (HB6.out.trans (hHeld.1.mono HB6.out.size)))).mono ?_; rintro e wb ⟨rfl, hbb⟩; rw [show decide ((⟨x.dir, x.name⟩ : Ky) ∈ sortK T) = true from decide_eq_true HSX.out]; have hSA := keepA hHeld hbb
                  refine hK.out _ _ ?_ (fun hHeld2 => ?_)
                  · (try dsimp only); first | exact hS0 | exact hSA | exact hSB | exact hSC
                  clear hK Kx hHeld
                  have hHeld := hHeld2
                  clear hHeld2
                  try simp only [Act.put, List.setIfInBounds_toArray, List.set_cons_zero, List.set_cons_succ]
                  refine held_take 15 rfl (by kernel_rfl) (by kernel_rfl) (by kernel_rfl) (fun _ _ _ h => h) hHeld (by rfl) (v := ?_) ?_ ?_
                  rotate_left
                  · intro w hSw; (try dsimp only at hSw); (try go_simp); (try with_reducible rfl)
                  try simp only [Act.put, List.setIfInBounds_toArray, List.set_cons_zero, List.set_cons_succ]
                  refine held_take 16 rfl (by kernel_rfl) (by kernel_rfl) (by kernel_rfl) (fun _ _ _ h => h) hHeld (by rfl) (v := ?_) ?_ ?_
                  rotate_left
                  · intro w hSw; (try dsimp only at hSw); (try go_simp); (try with_reducible rfl)
                  try simp only [Act.put, List.setIfInBounds_toArray, List.set_cons_zero, List.set_cons_succ]
                  refine held_take 17 rfl (by kernel_rfl) (by kernel_rfl) (by kernel_rfl) (fun _ _ _ h => h) hHeld (by rfl) (v := ?_) ?_ ?_
                  rotate_left
                  · intro w hSw; (try dsimp only at hSw); (try go_simp); (try with_reducible rfl)
                  try simp only [Act.put, List.setIfInBounds_toArray, List.set_cons_zero, List.set_cons_succ]
                  refine held_take 18 rfl (by kernel_rfl) (by kernel_rfl) (by kernel_rfl) (fun _ _ _ h => h) hHeld (by rfl) (v := ?_) ?_ ?_
                  rotate_left
                  · intro w hSw; (try dsimp only at hSw); (try go_simp); (try with_reducible rfl)
                  try simp only [Act.put, List.setIfInBounds_toArray, List.set_cons_zero, List.set_cons_succ]
                  refine held_take 19 rfl (by kernel_rfl) (by kernel_rfl) (by kernel_rfl) (fun _ _ _ h => h) hHeld (by rfl) (v := ?_) ?_ ?_
                  rotate_left
                  · intro w hSw; (try dsimp only at hSw); (try go_simp); (try with_reducible rfl)
                  try simp only [Act.put, List.setIfInBounds_toArray, List.set_cons_zero, List.set_cons_succ]
                  refine held_take 20 rfl (by kernel_rfl) (by kernel_rfl) (by kernel_rfl) (fun _ _ _ h => h) hHeld (by rfl) (v := ?_) ?_ ?_
                  rotate_left
                  · intro w hSw; (try dsimp only at hSw); (try go_simp); (try with_reducible rfl)
                  try simp only [Act.put, List.setIfInBounds_toArray, List.set_cons_zero, List.set_cons_succ]
                  refine held_take 21 rfl (by kernel_rfl) (by kernel_rfl) (by kernel_rfl) (fun _ _ _ h => h) hHeld (by rfl) (v := ?_) ?_ ?_
                  rotate_left
                  · intro w hSw; (try dsimp only at hSw); (try go_simp); (try with_reducible rfl)
                  try simp only [Act.put, List.setIfInBounds_toArray, List.set_cons_zero, List.set_cons_succ]
                  refine held_skip 22 rfl (by kernel_rfl) (by kernel_rfl) (by kernel_rfl) (fun _ _ _ h => h) hHeld (by rfl) ?_
                  try simp only [Act.put, List.setIfInBounds_toArray, List.set_cons_zero, List.set_cons_succ]
                  refine held_skip 23 rfl (by kernel_rfl) (by kernel_rfl) (by kernel_rfl) (fun _ _ _ h => h) hHeld (by rfl) ?_
                  try simp only [Act.put, List.setIfInBounds_toArray, List.set_cons_zero, List.set_cons_succ]
                  refine held_skip 24 rfl (by kernel_rfl) (by kernel_rfl) (by kernel_rfl) (fun _ _ _ h => h) hHeld (by rfl) ?_
                  try simp only [Act.put, List.setIfInBounds_toArray, List.set_cons_zero, List.set_cons_succ]
                  refine held_take 25 rfl (by kernel_rfl) (by kernel_rfl) (by kernel_rfl) (fun _ _ _ h => h) hHeld (by rfl) (v := ?_) ?_ ?_
                  rotate_left
                  · intro w hSw; (try dsimp only at hSw); (try go_simp); (try with_reducible rfl)
                  try simp only [Act.put, List.setIfInBounds_toArray, List.set_cons_zero, List.set_cons_succ]
                  refine held_take 26 rfl (by kernel_rfl) (by kernel_rfl) (by kernel_rfl) (fun _ _ _ h => h) hHeld (by rfl) (v := ?_) ?_ ?_
                  rotate_left
                  · intro w hSw; (try dsimp only at hSw); (try go_simp); (try with_reducible rfl)
                  try simp only [Act.put, List.setIfInBounds_toArray, List.set_cons_zero, List.set_cons_succ]
                  refine held_skip 27 rfl (by kernel_rfl) (by kernel_rfl) (by kernel_rfl) (fun _ _ _ h => h) hHeld (by rfl) ?_
                  try simp only [Act.put, List.setIfInBounds_toArray, List.set_cons_zero, List.set_cons_succ]
                  refine held_skip 28 rfl (by kernel_rfl) (by kernel_rfl) (by kernel_rfl) (fun _ _ _ h => h) hHeld (by rfl) ?_
                  try simp only [Act.put, List.setIfInBounds_toArray, List.set_cons_zero, List.set_cons_succ]
                  refine held_skip 29 rfl (by kernel_rfl) (by kernel_rfl) (by kernel_rfl) (fun _ _ _ h => h) hHeld (by rfl) ?_
                  try simp only [Act.put, List.setIfInBounds_toArray, List.set_cons_zero, List.set_cons_succ]
                  refine held_skip 30 rfl (by kernel_rfl) (by kernel_rfl) (by kernel_rfl) (fun _ _ _ h => h) hHeld (by rfl) ?_
                  try simp only [Act.put, List.setIfInBounds_toArray, List.set_cons_zero, List.set_cons_succ]
                  refine held_skip 31 rfl (by kernel_rfl) (by kernel_rfl) (by kernel_rfl) (fun _ _ _ h => h) hHeld (by rfl) ?_
                  try simp only [Act.put, List.setIfInBounds_toArray, List.set_cons_zero, List.set_cons_succ]
                  refine held_skip 32 rfl (by kernel_rfl) (by kernel_rfl) (by kernel_rfl) (fun _ _ _ h => h) hHeld (by rfl) ?_
                  try simp only [Act.put, List.setIfInBounds_toArray, List.set_cons_zero, List.set_cons_succ]
                  refine held_skip 33 rfl (by kernel_rfl) (by kernel_rfl) (by kernel_rfl) (fun _ _ _ h => h) hHeld (by rfl) ?_
                  try simp only [Act.put, List.setIfInBounds_toArray, List.set_cons_zero, List.set_cons_succ]
                  refine held_skip 34 rfl (by kernel_rfl) (by kernel_rfl) (by kernel_rfl) (fun _ _ _ h => h) hHeld (by rfl) ?_
                  try simp only [Act.put, List.setIfInBounds_toArray, List.set_cons_zero, List.set_cons_succ]
                  refine held_skip 35 rfl (by kernel_rfl) (by kernel_rfl) (by kernel_rfl) (fun _ _ _ h => h) hHeld (by rfl) ?_
                  try simp only [Act.put, List.setIfInBounds_toArray, List.set_cons_zero, List.set_cons_succ]
                  refine held_take 36 rfl (by kernel_rfl) (by kernel_rfl) (by kernel_rfl) (fun _ _ _ h => h) hHeld (by rfl) (v := ?_) ?_ ?_
                  rotate_left
                  · intro w hSw; (try dsimp only at hSw); (try go_simp); (try with_reducible rfl)
                  try simp only [Act.put, List.setIfInBounds_toArray, List.set_cons_zero, List.set_cons_succ]
                  refine held_take 37 rfl (by kernel_rfl) (by kernel_rfl) (by kernel_rfl) (fun _ _ _ h => h) hHeld (by rfl) (v := ?_) ?_ ?_
                  rotate_left
                  · intro w hSw; (try dsimp only at hSw); (try go_simp); (try with_reducible rfl)
                  try simp only [Act.put, List.setIfInBounds_toArray, List.set_cons_zero, List.set_cons_succ]
                  refine held_take 38 rfl (by kernel_rfl) (by kernel_rfl) (by kernel_rfl) (fun _ _ _ h => h) hHeld (by rfl) (v := ?_) ?_ ?_
                  rotate_left
                  · intro w hSw; (try dsimp only at hSw); (try go_simp); (try with_reducible rfl)
                  try simp only [Act.put, List.setIfInBounds_toArray, List.set_cons_zero, List.set_cons_succ]
                  refine held_take 39 rfl (by kernel_rfl) (by kernel_rfl) (by kernel_rfl) (fun _ _ _ h => h) hHeld (by rfl) (v := ?_) ?_ ?_
                  rotate_left
                  · intro w hSw; (try dsimp only at hSw); (try go_simp); (try with_reducible rfl)
                  try simp only [Act.put, List.setIfInBounds_toArray, List.set_cons_zero, List.set_cons_succ]
                  refine held_take 40 rfl (by kernel_rfl) (by kernel_rfl) (by kernel_rfl) (fun _ _ _ h => h) hHeld (by rfl) (v := ?_) ?_ ?_
                  rotate_left
                  · intro w hSw; (try dsimp only at hSw); (try go_simp); (try with_reducible rfl)
                  try simp only [Act.put, List.setIfInBounds_toArray, List.set_cons_zero, List.set_cons_succ]
                  refine held_take 41 rfl (by kernel_rfl) (by kernel_rfl) (by kernel_rfl) (fun _ _ _ h => h) hHeld (by rfl) (v := ?_) ?_ ?_
                  rotate_left
                  · intro w hSw; (try dsimp only at hSw); (try go_simp); (try with_reducible rfl)
                  try simp only [Act.put, List.setIfInBounds_toArray, List.set_cons_zero, List.set_cons_succ]
                  refine held_take 42 rfl (by kernel_rfl) (by kernel_rfl) (by kernel_rfl) (fun _ _ _ h => h) hHeld (by rfl) (v := ?_) ?_ ?_
                  rotate_left
                  · intro w hSw; (try dsimp only at hSw); (try go_simp); (try with_reducible rfl)
                  try simp only [Act.put, List.setIfInBounds_toArray, List.set_cons_zero, List.set_cons_succ]
                  refine held_take 43 rfl (by kernel_rfl) (by kernel_rfl) (by kernel_rfl) (fun _ _ _ h => h) hHeld (by rfl) (v := ?_) ?_ ?_
                  rotate_left
                  · intro w hSw; (try dsimp only at hSw); (try go_simp); (try with_reducible rfl)
                  try simp only [Act.put, List.setIfInBounds_toArray, List.set_cons_zero, List.set_cons_succ]
                  refine held_step 44 rfl (by kernel_rfl) (by rfl) (fun Kx hK => ?_)
                  go_simp
                  go_at_call 18; refine (in_key (.slice ka m kc) K x.dir x.name _ (by rw [← HM.out]; exact HKR.out.below (HV6.out.below.trans (hHeld.1.mono HV6.out.sz)))).mono ?_; rintro e wk ⟨rfl, hbk⟩; rw [show decide ((⟨x.dir, x.name⟩ : Ky) ∈ K) = true from decide_eq_true HXK.out]; have hSB := keepA hHeld hbk
                  refine hK.out _ _ ?_ (fun hHeld2 => ?_)
                  · (try dsimp only); first | exact hS0 | exact hSA | exact hSB | exact hSC
                  clear hK Kx hHeld
                  have hHeld := hHeld2
                  clear hHeld2
                  try simp only [Act.put, List.setIfInBounds_toArray, List.set_cons_zero, List.set_cons_succ]
                  refine held_take 45 rfl (by kernel_rfl) (by kernel_rfl) (by kernel_rfl) (fun _ _ _ h => h) hHeld (by rfl) (v := ?_) ?_ ?_
                  rotate_left
                  · intro w hSw; (try dsimp only at hSw); (try go_simp); (try with_reducible rfl)
                  try simp only [Act.put, List.setIfInBounds_toArray, List.set_cons_zero, List.set_cons_succ]
                  refine held_take 46 rfl (by kernel_rfl) (by kernel_rfl) (by kernel_rfl) (fun _ _ _ h => h) hHeld (by rfl) (v := ?_) ?_ ?_
                  rotate_left
                  · intro w hSw; (try dsimp only at hSw); (try go_simp); (try with_reducible rfl)
                  try simp only [Act.put, List.setIfInBounds_toArray, List.set_cons_zero, List.set_cons_succ]
                  refine held_take 47 rfl (by kernel_rfl) (by kernel_rfl) (by kernel_rfl) (fun _ _ _ h => h) hHeld (by rfl) (v := ?_) ?_ ?_
                  rotate_left
                  · intro w hSw; (try dsimp only at hSw); (try go_simp); (try with_reducible rfl)
                  try simp only [Act.put, List.setIfInBounds_toArray, List.set_cons_zero, List.set_cons_succ]
                  refine held_take 48 rfl (by kernel_rfl) (by kernel_rfl) (by kernel_rfl) (fun _ _ _ h => h) hHeld (by rfl) (v := ?_) ?_ ?_
                  rotate_left
                  · intro w hSw; (try dsimp only at hSw); (try go_simp); (try with_reducible rfl)
                  try simp only [Act.put, List.setIfInBounds_toArray, List.set_cons_zero, List.set_cons_succ]
                  refine held_take 49 rfl (by kernel_rfl) (by kernel_rfl) (by kernel_rfl) (fun _ _ _ h => h) hHeld (by rfl) (v := ?_) ?_ ?_
                  rotate_left
                  · intro w hSw; (try dsimp only at hSw); (try go_simp); (try with_reducible rfl)
                  try simp only [Act.put, List.setIfInBounds_toArray, List.set_cons_zero, List.set_cons_succ]
                  refine held_take 50 rfl (by kernel_rfl) (by kernel_rfl) (by kernel_rfl) (fun _ _ _ h => h) hHeld (by rfl) (v := ?_) ?_ ?_
                  rotate_left
                  · intro w hSw; (try dsimp only at hSw); (try go_simp); (try with_reducible rfl)
                  try simp only [Act.put, List.setIfInBounds_toArray, List.set_cons_zero, List.set_cons_succ]
                  refine held_step 51 rfl (by kernel_rfl) (by rfl) (fun Kx hK => ?_)
                  go_simp
                  go_at_call 19; refine (v_holds _ F4 _ _ x.dir x.name (HV6.out.v.below hHeld.1)).mono ?_; rintro e wh ⟨rfl, hbh⟩; rw [show decide ((⟨x.dir, x.name⟩ : Ky) ∈ relAll ks T) = false from decide_eq_false HHR.out]; have hSC := keepA hHeld hbh
                  refine hK.out _ _ ?_ (fun hHeld2 => ?_)
                  · (try dsimp only); first | exact hS0 | exact hSA | exact hSB | exact hSC
                  clear hK Kx hHeld
                  have hHeld := hHeld2
                  clear hHeld2
                  try simp only [Act.put, List.setIfInBounds_toArray, List.set_cons_zero, List.set_cons_succ]
                  refine held_take 52 rfl (by kernel_rfl) (by kernel_rfl) (by kernel_rfl) (fun _ _ _ h => h) hHeld (by rfl) (v := ?_) ?_ ?_
                  rotate_left
                  · intro w hSw; (try dsimp only at hSw); (try go_simp); (try with_reducible rfl)
                  try simp only [Act.put, List.setIfInBounds_toArray, List.set_cons_zero, List.set_cons_succ]
                  refine held_take 53 rfl (by kernel_rfl) (by kernel_rfl) (by kernel_rfl) (fun _ _ _ h => h) hHeld (by rfl) (v := ?_) ?_ ?_
                  rotate_left
                  · intro w hSw; (try dsimp only at hSw); (try go_simp); (try with_reducible rfl)
                  try simp only [Act.put, List.setIfInBounds_toArray, List.set_cons_zero, List.set_cons_succ]
                  refine wpAnyH_done (by kernel_rfl) ?_ _
                  have HV9 := hid (HV6.out.alloc hHeld.1)
                  have HB9 := hid (HB6.out.trans (hHeld.1.mono HB6.out.size))
                  clear hHeld hS0
                  go_wp2
                  exact ⟨⟨j + 1, _, by omega, by go_num, rfl, hid (by rw [HAS.out, ← HSM.out, HTB.out]; rfl), HV9, HB9⟩, by simp [intOf]; omega⟩
                | true =>
                  go_wp2_with fail
                  have hS0 : Below w6.heap.size w6 w6.drew ∧ w6.drew.cell? ⟨b, off + j * 2, none⟩ = some (.int .i64 x.dir) ∧ w6.drew.cell? ⟨b, off + j * 2 + 1, none⟩ = some (.string x.name) ∧ w6.drew.cell? ⟨g, 3, none⟩ = some (.slice kb (sortK T).length kd) := ⟨(Below.refl _ _).drew, c3.1, c3.2, below_cell HB6.out (Nat.le_refl _) HP3.out⟩
                  refine held_start (fun w' => Below w6.heap.size w6 w' ∧ w'.cell? ⟨b, off + j * 2, none⟩ = some (.int .i64 x.dir) ∧ w'.cell? ⟨b, off + j * 2 + 1, none⟩ = some (.string x.name) ∧ w'.cell? ⟨g, 3, none⟩ = some (.slice kb (sortK T).length kd)) (by kernel_rfl) ?_ (fun hHeld => ?_)
                  · first | exact hS0 | exact hSA | exact hSB | exact hSC
                  refine held_take 0 rfl (by kernel_rfl) (by kernel_rfl) (by kernel_rfl) (fun _ _ _ h => h) hHeld (by rfl) (v := ?_) ?_ ?_
                  rotate_left
                  · intro w hSw; (try dsimp only at hSw); (try go_simp); (try with_reducible rfl)
                  try simp only [Act.put, List.setIfInBounds_toArray, List.set_cons_zero, List.set_cons_succ]
                  refine held_take 1 rfl (by kernel_rfl) (by kernel_rfl) (by kernel_rfl) (fun _ _ _ h => h) hHeld (by rfl) (v := ?_) ?_ ?_
                  rotate_left
                  · intro w hSw; (try dsimp only at hSw); (try go_simp); (try with_reducible rfl)
                  try simp only [Act.put, List.setIfInBounds_toArray, List.set_cons_zero, List.set_cons_succ]
                  refine held_take 2 rfl (by kernel_rfl) (by kernel_rfl) (by kernel_rfl) (fun _ _ _ h => h) hHeld (by rfl) (v := ?_) ?_ ?_
                  rotate_left
                  · intro w hSw; (try dsimp only at hSw); (try go_simp); (try with_reducible rfl)
                  try simp only [Act.put, List.setIfInBounds_toArray, List.set_cons_zero, List.set_cons_succ]
                  refine held_take 3 rfl (by kernel_rfl) (by kernel_rfl) (by kernel_rfl) (fun _ _ _ h => h) hHeld (by rfl) (v := ?_) ?_ ?_
                  rotate_left
                  · intro w hSw; (try dsimp only at hSw); (try go_simp); (try with_reducible rfl)
                  try simp only [Act.put, List.setIfInBounds_toArray, List.set_cons_zero, List.set_cons_succ]
                  refine held_take 4 rfl (by kernel_rfl) (by kernel_rfl) (by kernel_rfl) (fun _ _ _ h => h) hHeld (by rfl) (v := ?_) ?_ ?_
                  rotate_left
                  · intro w hSw; (try dsimp only at hSw); (try go_simp); (try with_reducible rfl)
                  try simp only [Act.put, List.setIfInBounds_toArray, List.set_cons_zero, List.set_cons_succ]
                  refine held_take 5 rfl (by kernel_rfl) (by kernel_rfl) (by kernel_rfl) (fun _ _ _ h => h) hHeld (by rfl) (v := ?_) ?_ ?_
                  rotate_left
                  · intro w hSw; (try dsimp only at hSw); (try go_simp); (try with_reducible rfl)
                  try simp only [Act.put, List.setIfInBounds_toArray, List.set_cons_zero, List.set_cons_succ]
                  refine held_take 6 rfl (by kernel_rfl) (by kernel_rfl) (by kernel_rfl) (fun _ _ _ h => h) hHeld (by rfl) (v := ?_) ?_ ?_
                  rotate_left
                  · intro w hSw; (try dsimp only at hSw); (try go_simp); (try with_reducible rfl)
                  try simp only [Act.put, List.setIfInBounds_toArray, List.set_cons_zero, List.set_cons_succ]
                  refine held_take 7 rfl (by kernel_rfl) (by kernel_rfl) (by kernel_rfl) (fun _ _ _ h => h) hHeld (by rfl) (v := ?_) ?_ ?_
                  rotate_left
                  · intro w hSw; (try dsimp only at hSw); (try go_simp); (try with_reducible rfl)
                  try simp only [Act.put, List.setIfInBounds_toArray, List.set_cons_zero, List.set_cons_succ]
                  refine held_take 8 rfl (by kernel_rfl) (by kernel_rfl) (by kernel_rfl) (fun _ _ _ h => h) hHeld (by rfl) (v := ?_) ?_ ?_
                  rotate_left
                  · intro w hSw; (try dsimp only at hSw); (try go_simp); (try with_reducible rfl)
                  try simp only [Act.put, List.setIfInBounds_toArray, List.set_cons_zero, List.set_cons_succ]
                  refine held_take 9 rfl (by kernel_rfl) (by kernel_rfl) (by kernel_rfl) (fun _ _ _ h => h) hHeld (by rfl) (v := ?_) ?_ ?_
                  rotate_left
                  · intro w hSw; (try dsimp only at hSw); (try go_simp); (try with_reducible rfl)
                  try simp only [Act.put, List.setIfInBounds_toArray, List.set_cons_zero, List.set_cons_succ]
                  refine held_take 10 rfl (by kernel_rfl) (by kernel_rfl) (by kernel_rfl) (fun _ _ _ h => h) hHeld (by rfl) (v := ?_) ?_ ?_
                  rotate_left
                  · intro w hSw; (try dsimp only at hSw); (try go_simp); (try with_reducible rfl)
                  try simp only [Act.put, List.setIfInBounds_toArray, List.set_cons_zero, List.set_cons_succ]
                  refine held_take 11 rfl (by kernel_rfl) (by kernel_rfl) (by kernel_rfl) (fun _ _ _ h => h) hHeld (by rfl) (v := ?_) ?_ ?_
                  rotate_left
                  · intro w hSw; (try dsimp only at hSw); (try go_simp); (try with_reducible rfl)
                  try simp only [Act.put, List.setIfInBounds_toArray, List.set_cons_zero, List.set_cons_succ]
                  refine held_take 12 rfl (by kernel_rfl) (by kernel_rfl) (by kernel_rfl) (fun _ _ _ h => h) hHeld (by rfl) (v := ?_) ?_ ?_
                  rotate_left
                  · intro w hSw; (try dsimp only at hSw); (try go_simp); (try with_reducible rfl)
                  try simp only [Act.put, List.setIfInBounds_toArray, List.set_cons_zero, List.set_cons_succ]
                  refine held_take 13 rfl (by kernel_rfl) (by kernel_rfl) (by kernel_rfl) (fun _ _ _ h => h) hHeld (by rfl) (v := ?_) ?_ ?_
                  rotate_left
                  · intro w hSw; (try dsimp only at hSw); (try go_simp); (try with_reducible rfl)
                  try simp only [Act.put, List.setIfInBounds_toArray, List.set_cons_zero, List.set_cons_succ]
                  refine held_step 14 rfl (by kernel_rfl) (by rfl) (fun Kx hK => ?_)
                  go_simp
                  go_at_call 18; refine (in_key (.slice kb (sortK T).length kd) (sortK T) x.dir x.name _ (HQ4.out.below (HB6.out.trans (hHeld.1.mono HB6.out.size)))).mono ?_; rintro e wb ⟨rfl, hbb⟩; rw [show decide ((⟨x.dir, x.name⟩ : Ky) ∈ sortK T) = true from decide_eq_true HSX.out]; have hSA := keepA hHeld hbb
                  refine hK.out _ _ ?_ (fun hHeld2 => ?_)
                  · (try dsimp only); first | exact hS0 | exact hSA | exact hSB | exact hSC
                  clear hK Kx hHeld
                  have hHeld := hHeld2
                  clear hHeld2
                  try simp only [Act.put, List.setIfInBounds_toArray, List.set_cons_zero, List.set_cons_succ]
                  refine held_take 15 rfl (by kernel_rfl) (by kernel_rfl) (by kernel_rfl) (fun _ _ _ h => h) hHeld (by rfl) (v := ?_) ?_ ?_
                  rotate_left
                  · intro w hSw; (try dsimp only at hSw); (try go_simp); (try with_reducible rfl)
                  try simp only [Act.put, List.setIfInBounds_toArray, List.set_cons_zero, List.set_cons_succ]
                  refine held_take 16 rfl (by kernel_rfl) (by kernel_rfl) (by kernel_rfl) (fun _ _ _ h => h) hHeld (by rfl) (v := ?_) ?_ ?_
                  rotate_left
                  · intro w hSw; (try dsimp only at hSw); (try go_simp); (try with_reducible rfl)
                  try simp only [Act.put, List.setIfInBounds_toArray, List.set_cons_zero, List.set_cons_succ]
                  refine held_take 17 rfl (by kernel_rfl) (by kernel_rfl) (by kernel_rfl) (fun _ _ _ h => h) hHeld (by rfl) (v := ?_) ?_ ?_
                  rotate_left
                  · intro w hSw; (try dsimp only at hSw); (try go_simp); (try with_reducible rfl)
                  try simp only [Act.put, List.setIfInBounds_toArray, List.set_cons_zero, List.set_cons_succ]
                  refine held_take 18 rfl (by kernel_rfl) (by kernel_rfl) (by kernel_rfl) (fun _ _ _ h => h) hHeld (by rfl) (v := ?_) ?_ ?_
                  rotate_left
                  · intro w hSw; (try dsimp only at hSw); (try go_simp); (try with_reducible rfl)
                  try simp only [Act.put, List.setIfInBounds_toArray, List.set_cons_zero, List.set_cons_succ]
                  refine held_take 19 rfl (by kernel_rfl) (by kernel_rfl) (by kernel_rfl) (fun _ _ _ h => h) hHeld (by rfl) (v := ?_) ?_ ?_
                  rotate_left
                  · intro w hSw; (try dsimp only at hSw); (try go_simp); (try with_reducible rfl)
                  try simp only [Act.put, List.setIfInBounds_toArray, List.set_cons_zero, List.set_cons_succ]
                  refine held_take 20 rfl (by kernel_rfl) (by kernel_rfl) (by kernel_rfl) (fun _ _ _ h => h) hHeld (by rfl) (v := ?_) ?_ ?_
                  rotate_left
                  · intro w hSw; (try dsimp only at hSw); (try go_simp); (try with_reducible rfl)
                  try simp only [Act.put, List.setIfInBounds_toArray, List.set_cons_zero, List.set_cons_succ]
                  refine held_take 21 rfl (by kernel_rfl) (by kernel_rfl) (by kernel_rfl) (fun _ _ _ h => h) hHeld (by rfl) (v := ?_) ?_ ?_
                  rotate_left
                  · intro w hSw; (try dsimp only at hSw); (try go_simp); (try with_reducible rfl)
                  try simp only [Act.put, List.setIfInBounds_toArray, List.set_cons_zero, List.set_cons_succ]
                  refine held_skip 22 rfl (by kernel_rfl) (by kernel_rfl) (by kernel_rfl) (fun _ _ _ h => h) hHeld (by rfl) ?_
                  try simp only [Act.put, List.setIfInBounds_toArray, List.set_cons_zero, List.set_cons_succ]
                  refine held_skip 23 rfl (by kernel_rfl) (by kernel_rfl) (by kernel_rfl) (fun _ _ _ h => h) hHeld (by rfl) ?_
                  try simp only [Act.put, List.setIfInBounds_toArray, List.set_cons_zero, List.set_cons_succ]
                  refine held_skip 24 rfl (by kernel_rfl) (by kernel_rfl) (by kernel_rfl) (fun _ _ _ h => h) hHeld (by rfl) ?_
                  try simp only [Act.put, List.setIfInBounds_toArray, List.set_cons_zero, List.set_cons_succ]
                  refine held_take 25 rfl (by kernel_rfl) (by kernel_rfl) (by kernel_rfl) (fun _ _ _ h => h) hHeld (by rfl) (v := ?_) ?_ ?_
                  rotate_left
                  · intro w hSw; (try dsimp only at hSw); (try go_simp); (try with_reducible rfl)
                  try simp only [Act.put, List.setIfInBounds_toArray, List.set_cons_zero, List.set_cons_succ]
                  refine held_take 26 rfl (by kernel_rfl) (by kernel_rfl) (by kernel_rfl) (fun _ _ _ h => h) hHeld (by rfl) (v := ?_) ?_ ?_
                  rotate_left
                  · intro w hSw; (try dsimp only at hSw); (try go_simp); (try with_reducible rfl)
                  try simp only [Act.put, List.setIfInBounds_toArray, List.set_cons_zero, List.set_cons_succ]
                  refine held_skip 27 rfl (by kernel_rfl) (by kernel_rfl) (by kernel_rfl) (fun _ _ _ h => h) hHeld (by rfl) ?_
                  try simp only [Act.put, List.setIfInBounds_toArray, List.set_cons_zero, List.set_cons_succ]
                  refine held_skip 28 rfl (by kernel_rfl) (by kernel_rfl) (by kernel_rfl) (fun _ _ _ h => h) hHeld (by rfl) ?_
                  try simp only [Act.put, List.setIfInBounds_toArray, List.set_cons_zero, List.set_cons_succ]
                  refine held_skip 29 rfl (by kernel_rfl) (by kernel_rfl) (by kernel_rfl) (fun _ _ _ h => h) hHeld (by rfl) ?_
                  try simp only [Act.put, List.setIfInBounds_toArray, List.set_cons_zero, List.set_cons_succ]
                  refine held_skip 30 rfl (by kernel_rfl) (by kernel_rfl) (by kernel_rfl) (fun _ _ _ h => h) hHeld (by rfl) ?_
                  try simp only [Act.put, List.setIfInBounds_toArray, List.set_cons_zero, List.set_cons_succ]
                  refine held_skip 31 rfl (by kernel_rfl) (by kernel_rfl) (by kernel_rfl) (fun _ _ _ h => h) hHeld (by rfl) ?_
                  try simp only [Act.put, List.setIfInBounds_toArray, List.set_cons_zero, List.set_cons_succ]
                  refine held_skip 32 rfl (by kernel_rfl) (by kernel_rfl) (by kernel_rfl) (fun _ _ _ h => h) hHeld (by rfl) ?_
                  try simp only [Act.put, List.setIfInBounds_toArray, List.set_cons_zero, List.set_cons_succ]
                  refine held_skip 33 rfl (by kernel_rfl) (by kernel_rfl) (by kernel_rfl) (fun _ _ _ h => h) hHeld (by rfl) ?_
                  try simp only [Act.put, List.setIfInBounds_toArray, List.set_cons_zero, List.set_cons_succ]
                  refine held_skip 34 rfl (by kernel_rfl) (by kernel_rfl) (by kernel_rfl) (fun _ _ _ h => h) hHeld (by rfl) ?_
                  try simp only [Act.put, List.setIfInBounds_toArray, List.set_cons_zero, List.set_cons_succ]
                  refine held_skip 35 rfl (by kernel_rfl) (by kernel_rfl) (by kernel_rfl) (fun _ _ _ h => h) hHeld (by rfl) ?_
                  try simp only [Act.put, List.setIfInBounds_toArray, List.set_cons_zero, List.set_cons_succ]
                  refine held_take 36 rfl (by kernel_rfl) (by kernel_rfl) (by kernel_rfl) (fun _ _ _ h => h) hHeld (by rfl) (v := ?_) ?_ ?_
                  rotate_left
                  · intro w hSw; (try dsimp only at hSw); (try go_simp); (try with_reducible rfl)
                  try simp only [Act.put, List.setIfInBounds_toArray, List.set_cons_zero, List.set_cons_succ]
                  refine held_take 37 rfl (by kernel_rfl) (by kernel_rfl) (by kernel_rfl) (fun _ _ _ h => h) hHeld (by rfl) (v := ?_) ?_ ?_
                  rotate_left
                  · intro w hSw; (try dsimp only at hSw); (try go_simp); (try with_reducible rfl)
                  try simp only [Act.put, List.setIfInBounds_toArray, List.set_cons_zero, List.set_cons_succ]
                  refine held_take 38 rfl (by kernel_rfl) (by kernel_rfl) (by kernel_rfl) (fun _ _ _ h => h) hHeld (by rfl) (v := ?_) ?_ ?_
                  rotate_left
                  · intro w hSw; (try dsimp only at hSw); (try go_simp); (try with_reducible rfl)
                  try simp only [Act.put, List.setIfInBounds_toArray, List.set_cons_zero, List.set_cons_succ]
                  refine held_take 39 rfl (by kernel_rfl) (by kernel_rfl) (by kernel_rfl) (fun _ _ _ h => h) hHeld (by rfl) (v := ?_) ?_ ?_
                  rotate_left
                  · intro w hSw; (try dsimp only at hSw); (try go_simp); (try with_reducible rfl)
                  try simp only [Act.put, List.setIfInBounds_toArray, List.set_cons_zero, List.set_cons_succ]
                  refine held_take 40 rfl (by kernel_rfl) (by kernel_rfl) (by kernel_rfl) (fun _ _ _ h => h) hHeld (by rfl) (v := ?_) ?_ ?_
                  rotate_left
                  · intro w hSw; (try dsimp only at hSw); (try go_simp); (try with_reducible rfl)
                  try simp only [Act.put, List.setIfInBounds_toArray, List.set_cons_zero, List.set_cons_succ]
                  refine held_take 41 rfl (by kernel_rfl) (by kernel_rfl) (by kernel_rfl) (fun _ _ _ h => h) hHeld (by rfl) (v := ?_) ?_ ?_
                  rotate_left
                  · intro w hSw; (try dsimp only at hSw); (try go_simp); (try with_reducible rfl)
                  try simp only [Act.put, List.setIfInBounds_toArray, List.set_cons_zero, List.set_cons_succ]
                  refine held_take 42 rfl (by kernel_rfl) (by kernel_rfl) (by kernel_rfl) (fun _ _ _ h => h) hHeld (by rfl) (v := ?_) ?_ ?_
                  rotate_left
                  · intro w hSw; (try dsimp only at hSw); (try go_simp); (try with_reducible rfl)
                  try simp only [Act.put, List.setIfInBounds_toArray, List.set_cons_zero, List.set_cons_succ]
                  refine held_take 43 rfl (by kernel_rfl) (by kernel_rfl) (by kernel_rfl) (fun _ _ _ h => h) hHeld (by rfl) (v := ?_) ?_ ?_
                  rotate_left
                  · intro w hSw; (try dsimp only at hSw); (try go_simp); (try with_reducible rfl)
                  try simp only [Act.put, List.setIfInBounds_toArray, List.set_cons_zero, List.set_cons_succ]
                  refine held_step 44 rfl (by kernel_rfl) (by rfl) (fun Kx hK => ?_)
                  go_simp
                  go_at_call 18; refine (in_key (.slice ka m kc) K x.dir x.name _ (by rw [← HM.out]; exact HKR.out.below (HV6.out.below.trans (hHeld.1.mono HV6.out.sz)))).mono ?_; rintro e wk ⟨rfl, hbk⟩; rw [show decide ((⟨x.dir, x.name⟩ : Ky) ∈ K) = true from decide_eq_true HXK.out]; have hSB := keepA hHeld hbk
                  refine hK.out _ _ ?_ (fun hHeld2 => ?_)
                  · (try dsimp only); first | exact hS0 | exact hSA | exact hSB | exact hSC
                  clear hK Kx hHeld
                  have hHeld := hHeld2
                  clear hHeld2
                  try simp only [Act.put, List.setIfInBounds_toArray, List.set_cons_zero, List.set_cons_succ]
                  refine held_take 45 rfl (by kernel_rfl) (by kernel_rfl) (by kernel_rfl) (fun _ _ _ h => h) hHeld (by rfl) (v := ?_) ?_ ?_
                  rotate_left
                  · intro w hSw; (try dsimp only at hSw); (try go_simp); (try with_reducible rfl)
                  try simp only [Act.put, List.setIfInBounds_toArray, List.set_cons_zero, List.set_cons_succ]
                  refine held_take 46 rfl (by kernel_rfl) (by kernel_rfl) (by kernel_rfl) (fun _ _ _ h => h) hHeld (by rfl) (v := ?_) ?_ ?_
                  rotate_left
                  · intro w hSw; (try dsimp only at hSw); (try go_simp); (try with_reducible rfl)
                  try simp only [Act.put, List.setIfInBounds_toArray, List.set_cons_zero, List.set_cons_succ]
                  refine held_take 47 rfl (by kernel_rfl) (by kernel_rfl) (by kernel_rfl) (fun _ _ _ h => h) hHeld (by rfl) (v := ?_) ?_ ?_
                  rotate_left
                  · intro w hSw; (try dsimp only at hSw); (try go_simp); (try with_reducible rfl)
                  try simp only [Act.put, List.setIfInBounds_toArray, List.set_cons_zero, List.set_cons_succ]
                  refine held_take 48 rfl (by kernel_rfl) (by kernel_rfl) (by kernel_rfl) (fun _ _ _ h => h) hHeld (by rfl) (v := ?_) ?_ ?_
                  rotate_left
                  · intro w hSw; (try dsimp only at hSw); (try go_simp); (try with_reducible rfl)
                  try simp only [Act.put, List.setIfInBounds_toArray, List.set_cons_zero, List.set_cons_succ]
                  refine held_take 49 rfl (by kernel_rfl) (by kernel_rfl) (by kernel_rfl) (fun _ _ _ h => h) hHeld (by rfl) (v := ?_) ?_ ?_
                  rotate_left
                  · intro w hSw; (try dsimp only at hSw); (try go_simp); (try with_reducible rfl)
                  try simp only [Act.put, List.setIfInBounds_toArray, List.set_cons_zero, List.set_cons_succ]
                  refine held_take 50 rfl (by kernel_rfl) (by kernel_rfl) (by kernel_rfl) (fun _ _ _ h => h) hHeld (by rfl) (v := ?_) ?_ ?_
                  rotate_left
                  · intro w hSw; (try dsimp only at hSw); (try go_simp); (try with_reducible rfl)
                  try simp only [Act.put, List.setIfInBounds_toArray, List.set_cons_zero, List.set_cons_succ]
                  refine held_step 51 rfl (by kernel_rfl) (by rfl) (fun Kx hK => ?_)
                  go_simp
                  go_at_call 19; refine (v_holds _ F4 _ _ x.dir x.name (HV6.out.v.below hHeld.1)).mono ?_; rintro e wh ⟨rfl, hbh⟩; rw [show decide ((⟨x.dir, x.name⟩ : Ky) ∈ relAll ks T) = false from decide_eq_false HHR.out]; have hSC := keepA hHeld hbh
                  refine hK.out _ _ ?_ (fun hHeld2 => ?_)
                  · (try dsimp only); first | exact hS0 | exact hSA | exact hSB | exact hSC
                  clear hK Kx hHeld
                  have hHeld := hHeld2
                  clear hHeld2
                  try simp only [Act.put, List.setIfInBounds_toArray, List.set_cons_zero, List.set_cons_succ]
                  refine held_take 52 rfl (by kernel_rfl) (by kernel_rfl) (by kernel_rfl) (fun _ _ _ h => h) hHeld (by rfl) (v := ?_) ?_ ?_
                  rotate_left
                  · intro w hSw; (try dsimp only at hSw); (try go_simp); (try with_reducible rfl)
                  try simp only [Act.put, List.setIfInBounds_toArray, List.set_cons_zero, List.set_cons_succ]
                  refine held_take 53 rfl (by kernel_rfl) (by kernel_rfl) (by kernel_rfl) (fun _ _ _ h => h) hHeld (by rfl) (v := ?_) ?_ ?_
                  rotate_left
                  · intro w hSw; (try dsimp only at hSw); (try go_simp); (try with_reducible rfl)
                  try simp only [Act.put, List.setIfInBounds_toArray, List.set_cons_zero, List.set_cons_succ]
                  refine wpAnyH_done (by kernel_rfl) ?_ _
                  have HV9 := hid (HV6.out.alloc hHeld.1)
                  have HB9 := hid (HB6.out.trans (hHeld.1.mono HB6.out.size))
                  clear hHeld hS0
                  go_wp2
                  exact ⟨⟨j + 1, _, by omega, by go_num, rfl, hid (by rw [HAS.out, ← HSM.out, HTB.out]; rfl), HV9, HB9⟩, by simp [intOf]; omega⟩
              · have HXK := hid hxk
                clear hxk
                by_cases hdk : (⟨x.dir, ByteArray.empty⟩ : Ky) ∈ K
                · have HDK := hid hdk
                  have HTB := hid (show tellB K x = true by simp [tellB, hdk])
                  have HSX := hid ((HTM.out x HXT.out).2 HTB.out)
                  clear hdk
                  go_wp2_with fail
                  refine (in_key (.slice ka m kc) K x.dir x.name _ (by rw [← HM.out]; exact HKR.out.below HV5.out.below)).mono ?_
                  rintro e w6 ⟨rfl, hb6⟩
                  rw [show decide ((⟨x.dir, x.name⟩ : Ky) ∈ K) = false from decide_eq_false HXK.out]
                  have HV6 := hid (HV5.out.alloc hb6)
                  have c3 := ks_at HT.out HV6.out.below HX.out
                  have HB6 := hid (HB5.out.trans (hb6.mono HB5.out.size))
                  clear hb6
                  go_wp2_with fail
                  refine (in_key (.slice ka m kc) K x.dir _ _ (by rw [← HM.out]; exact HKR.out.below HV6.out.below)).mono ?_
                  rintro e w7 ⟨rfl, hb7⟩
                  rw [show decide ((⟨x.dir, { data := #[] }⟩ : Ky) ∈ K) = true from decide_eq_true HDK.out]
                  have HV7 := hid (HV6.out.alloc hb7)
                  have c4 := ks_at HT.out HV7.out.below HX.out
                  have HB7 := hid (HB6.out.trans (hb7.mono HB6.out.size))
                  clear hb7
                  cases sm with
                  | false =>
                    go_wp2_with fail
                    have hS0 : Below w7.heap.size w7 w7.drew ∧ w7.drew.cell? ⟨b, off + j * 2, none⟩ = some (.int .i64 x.dir) ∧ w7.drew.cell? ⟨b, off + j * 2 + 1, none⟩ = some (.string x.name) ∧ w7.drew.cell? ⟨g, 3, none⟩ = some (.slice kb (sortK T).length kd) := ⟨(Below.refl _ _).drew, c4.1, c4.2, below_cell HB7.out (Nat.le_refl _) HP3.out⟩
                    refine held_start (fun w' => Below w7.heap.size w7 w' ∧ w'.cell? ⟨b, off + j * 2, none⟩ = some (.int .i64 x.dir) ∧ w'.cell? ⟨b, off + j * 2 + 1, none⟩ = some (.string x.name) ∧ w'.cell? ⟨g, 3, none⟩ = some (.slice kb (sortK T).length kd)) (by kernel_rfl) ?_ (fun hHeld => ?_)
                    · first | exact hS0 | exact hSA | exact hSB | exact hSC
                    refine held_take 0 rfl (by kernel_rfl) (by kernel_rfl) (by kernel_rfl) (fun _ _ _ h => h) hHeld (by rfl) (v := ?_) ?_ ?_
                    rotate_left
                    · intro w hSw; (try dsimp only at hSw); (try go_simp); (try with_reducible rfl)
                    try simp only [Act.put, List.setIfInBounds_toArray, List.set_cons_zero, List.set_cons_succ]
                    refine held_take 1 rfl (by kernel_rfl) (by kernel_rfl) (by kernel_rfl) (fun _ _ _ h => h) hHeld (by rfl) (v := ?_) ?_ ?_
                    rotate_left
                    · intro w hSw; (try dsimp only at hSw); (try go_simp); (try with_reducible rfl)
                    try simp only [Act.put, List.setIfInBounds_toArray, List.set_cons_zero, List.set_cons_succ]
                    refine held_take 2 rfl (by kernel_rfl) (by kernel_rfl) (by kernel_rfl) (fun _ _ _ h => h) hHeld (by rfl) (v := ?_) ?_ ?_
                    rotate_left
                    · intro w hSw; (try dsimp only at hSw); (try go_simp); (try with_reducible rfl)
                    try simp only [Act.put, List.setIfInBounds_toArray, List.set_cons_zero, List.set_cons_succ]
                    refine held_take 3 rfl (by kernel_rfl) (by kernel_rfl) (by kernel_rfl) (fun _ _ _ h => h) hHeld (by rfl) (v := ?_) ?_ ?_
                    rotate_left
                    · intro w hSw; (try dsimp only at hSw); (try go_simp); (try with_reducible rfl)
                    try simp only [Act.put, List.setIfInBounds_toArray, List.set_cons_zero, List.set_cons_succ]
                    refine held_take 4 rfl (by kernel_rfl) (by kernel_rfl) (by kernel_rfl) (fun _ _ _ h => h) hHeld (by rfl) (v := ?_) ?_ ?_
                    rotate_left
                    · intro w hSw; (try dsimp only at hSw); (try go_simp); (try with_reducible rfl)
                    try simp only [Act.put, List.setIfInBounds_toArray, List.set_cons_zero, List.set_cons_succ]
                    refine held_take 5 rfl (by kernel_rfl) (by kernel_rfl) (by kernel_rfl) (fun _ _ _ h => h) hHeld (by rfl) (v := ?_) ?_ ?_
                    rotate_left
                    · intro w hSw; (try dsimp only at hSw); (try go_simp); (try with_reducible rfl)
                    try simp only [Act.put, List.setIfInBounds_toArray, List.set_cons_zero, List.set_cons_succ]
                    refine held_take 6 rfl (by kernel_rfl) (by kernel_rfl) (by kernel_rfl) (fun _ _ _ h => h) hHeld (by rfl) (v := ?_) ?_ ?_
                    rotate_left
                    · intro w hSw; (try dsimp only at hSw); (try go_simp); (try with_reducible rfl)
                    try simp only [Act.put, List.setIfInBounds_toArray, List.set_cons_zero, List.set_cons_succ]
                    refine held_take 7 rfl (by kernel_rfl) (by kernel_rfl) (by kernel_rfl) (fun _ _ _ h => h) hHeld (by rfl) (v := ?_) ?_ ?_
                    rotate_left
                    · intro w hSw; (try dsimp only at hSw); (try go_simp); (try with_reducible rfl)
                    try simp only [Act.put, List.setIfInBounds_toArray, List.set_cons_zero, List.set_cons_succ]
                    refine held_take 8 rfl (by kernel_rfl) (by kernel_rfl) (by kernel_rfl) (fun _ _ _ h => h) hHeld (by rfl) (v := ?_) ?_ ?_
                    rotate_left
                    · intro w hSw; (try dsimp only at hSw); (try go_simp); (try with_reducible rfl)
                    try simp only [Act.put, List.setIfInBounds_toArray, List.set_cons_zero, List.set_cons_succ]
                    refine held_take 9 rfl (by kernel_rfl) (by kernel_rfl) (by kernel_rfl) (fun _ _ _ h => h) hHeld (by rfl) (v := ?_) ?_ ?_
                    rotate_left
                    · intro w hSw; (try dsimp only at hSw); (try go_simp); (try with_reducible rfl)
                    try simp only [Act.put, List.setIfInBounds_toArray, List.set_cons_zero, List.set_cons_succ]
                    refine held_take 10 rfl (by kernel_rfl) (by kernel_rfl) (by kernel_rfl) (fun _ _ _ h => h) hHeld (by rfl) (v := ?_) ?_ ?_
                    rotate_left
                    · intro w hSw; (try dsimp only at hSw); (try go_simp); (try with_reducible rfl)
                    try simp only [Act.put, List.setIfInBounds_toArray, List.set_cons_zero, List.set_cons_succ]
                    refine held_take 11 rfl (by kernel_rfl) (by kernel_rfl) (by kernel_rfl) (fun _ _ _ h => h) hHeld (by rfl) (v := ?_) ?_ ?_
                    rotate_left
                    · intro w hSw; (try dsimp only at hSw); (try go_simp); (try with_reducible rfl)
                    try simp only [Act.put, List.setIfInBounds_toArray, List.set_cons_zero, List.set_cons_succ]
                    refine held_take 12 rfl (by kernel_rfl) (by kernel_rfl) (by kernel_rfl) (fun _ _ _ h => h) hHeld (by rfl) (v := ?_) ?_ ?_
                    rotate_left
                    · intro w hSw; (try dsimp only at hSw); (try go_simp); (try with_reducible rfl)
                    try simp only [Act.put, List.setIfInBounds_toArray, List.set_cons_zero, List.set_cons_succ]
                    refine held_take 13 rfl (by kernel_rfl) (by kernel_rfl) (by kernel_rfl) (fun _ _ _ h => h) hHeld (by rfl) (v := ?_) ?_ ?_
                    rotate_left
                    · intro w hSw; (try dsimp only at hSw); (try go_simp); (try with_reducible rfl)
                    try simp only [Act.put, List.setIfInBounds_toArray, List.set_cons_zero, List.set_cons_succ]
                    refine held_step 14 rfl (by kernel_rfl) (by rfl) (fun Kx hK => ?_)
                    go_simp
                    go_at_call 18; refine (in_key (.slice kb (sortK T).length kd) (sortK T) x.dir x.name _ (HQ4.out.below (HB7.out.trans (hHeld.1.mono HB7.out.size)))).mono ?_; rintro e wb ⟨rfl, hbb⟩; rw [show decide ((⟨x.dir, x.name⟩ : Ky) ∈ sortK T) = true from decide_eq_true HSX.out]; have hSA := keepA hHeld hbb
                    refine hK.out _ _ ?_ (fun hHeld2 => ?_)
                    · (try dsimp only); first | exact hS0 | exact hSA | exact hSB | exact hSC
                    clear hK Kx hHeld
                    have hHeld := hHeld2
                    clear hHeld2
                    try simp only [Act.put, List.setIfInBounds_toArray, List.set_cons_zero, List.set_cons_succ]
                    refine held_take 15 rfl (by kernel_rfl) (by kernel_rfl) (by kernel_rfl) (fun _ _ _ h => h) hHeld (by rfl) (v := ?_) ?_ ?_
                    rotate_left
                    · intro w hSw; (try dsimp only at hSw); (try go_simp); (try with_reducible rfl)
                    try simp only [Act.put, List.setIfInBounds_toArray, List.set_cons_zero, List.set_cons_succ]
                    refine held_take 16 rfl (by kernel_rfl) (by kernel_rfl) (by kernel_rfl) (fun _ _ _ h => h) hHeld (by rfl) (v := ?_) ?_ ?_
                    rotate_left
                    · intro w hSw; (try dsimp only at hSw); (try go_simp); (try with_reducible rfl)
                    try simp only [Act.put, List.setIfInBounds_toArray, List.set_cons_zero, List.set_cons_succ]
                    refine held_take 17 rfl (by kernel_rfl) (by kernel_rfl) (by kernel_rfl) (fun _ _ _ h => h) hHeld (by rfl) (v := ?_) ?_ ?_
                    rotate_left
                    · intro w hSw; (try dsimp only at hSw); (try go_simp); (try with_reducible rfl)
                    try simp only [Act.put, List.setIfInBounds_toArray, List.set_cons_zero, List.set_cons_succ]
                    refine held_take 18 rfl (by kernel_rfl) (by kernel_rfl) (by kernel_rfl) (fun _ _ _ h => h) hHeld (by rfl) (v := ?_) ?_ ?_
                    rotate_left
                    · intro w hSw; (try dsimp only at hSw); (try go_simp); (try with_reducible rfl)
                    try simp only [Act.put, List.setIfInBounds_toArray, List.set_cons_zero, List.set_cons_succ]
                    refine held_take 19 rfl (by kernel_rfl) (by kernel_rfl) (by kernel_rfl) (fun _ _ _ h => h) hHeld (by rfl) (v := ?_) ?_ ?_
                    rotate_left
                    · intro w hSw; (try dsimp only at hSw); (try go_simp); (try with_reducible rfl)
                    try simp only [Act.put, List.setIfInBounds_toArray, List.set_cons_zero, List.set_cons_succ]
                    refine held_take 20 rfl (by kernel_rfl) (by kernel_rfl) (by kernel_rfl) (fun _ _ _ h => h) hHeld (by rfl) (v := ?_) ?_ ?_
                    rotate_left
                    · intro w hSw; (try dsimp only at hSw); (try go_simp); (try with_reducible rfl)
                    try simp only [Act.put, List.setIfInBounds_toArray, List.set_cons_zero, List.set_cons_succ]
                    refine held_take 21 rfl (by kernel_rfl) (by kernel_rfl) (by kernel_rfl) (fun _ _ _ h => h) hHeld (by rfl) (v := ?_) ?_ ?_
                    rotate_left
                    · intro w hSw; (try dsimp only at hSw); (try go_simp); (try with_reducible rfl)
                    try simp only [Act.put, List.setIfInBounds_toArray, List.set_cons_zero, List.set_cons_succ]
                    refine held_skip 22 rfl (by kernel_rfl) (by kernel_rfl) (by kernel_rfl) (fun _ _ _ h => h) hHeld (by rfl) ?_
                    try simp only [Act.put, List.setIfInBounds_toArray, List.set_cons_zero, List.set_cons_succ]
                    refine held_skip 23 rfl (by kernel_rfl) (by kernel_rfl) (by kernel_rfl) (fun _ _ _ h => h) hHeld (by rfl) ?_
                    try simp only [Act.put, List.setIfInBounds_toArray, List.set_cons_zero, List.set_cons_succ]
                    refine held_skip 24 rfl (by kernel_rfl) (by kernel_rfl) (by kernel_rfl) (fun _ _ _ h => h) hHeld (by rfl) ?_
                    try simp only [Act.put, List.setIfInBounds_toArray, List.set_cons_zero, List.set_cons_succ]
                    refine held_take 25 rfl (by kernel_rfl) (by kernel_rfl) (by kernel_rfl) (fun _ _ _ h => h) hHeld (by rfl) (v := ?_) ?_ ?_
                    rotate_left
                    · intro w hSw; (try dsimp only at hSw); (try go_simp); (try with_reducible rfl)
                    try simp only [Act.put, List.setIfInBounds_toArray, List.set_cons_zero, List.set_cons_succ]
                    refine held_take 26 rfl (by kernel_rfl) (by kernel_rfl) (by kernel_rfl) (fun _ _ _ h => h) hHeld (by rfl) (v := ?_) ?_ ?_
                    rotate_left
                    · intro w hSw; (try dsimp only at hSw); (try go_simp); (try with_reducible rfl)
                    try simp only [Act.put, List.setIfInBounds_toArray, List.set_cons_zero, List.set_cons_succ]
                    refine held_skip 27 rfl (by kernel_rfl) (by kernel_rfl) (by kernel_rfl) (fun _ _ _ h => h) hHeld (by rfl) ?_
                    try simp only [Act.put, List.setIfInBounds_toArray, List.set_cons_zero, List.set_cons_succ]
                    refine held_skip 28 rfl (by kernel_rfl) (by kernel_rfl) (by kernel_rfl) (fun _ _ _ h => h) hHeld (by rfl) ?_
                    try simp only [Act.put, List.setIfInBounds_toArray, List.set_cons_zero, List.set_cons_succ]
                    refine held_skip 29 rfl (by kernel_rfl) (by kernel_rfl) (by kernel_rfl) (fun _ _ _ h => h) hHeld (by rfl) ?_
                    try simp only [Act.put, List.setIfInBounds_toArray, List.set_cons_zero, List.set_cons_succ]
                    refine held_skip 30 rfl (by kernel_rfl) (by kernel_rfl) (by kernel_rfl) (fun _ _ _ h => h) hHeld (by rfl) ?_
                    try simp only [Act.put, List.setIfInBounds_toArray, List.set_cons_zero, List.set_cons_succ]
                    refine held_skip 31 rfl (by kernel_rfl) (by kernel_rfl) (by kernel_rfl) (fun _ _ _ h => h) hHeld (by rfl) ?_
                    try simp only [Act.put, List.setIfInBounds_toArray, List.set_cons_zero, List.set_cons_succ]
                    refine held_skip 32 rfl (by kernel_rfl) (by kernel_rfl) (by kernel_rfl) (fun _ _ _ h => h) hHeld (by rfl) ?_
                    try simp only [Act.put, List.setIfInBounds_toArray, List.set_cons_zero, List.set_cons_succ]
                    refine held_skip 33 rfl (by kernel_rfl) (by kernel_rfl) (by kernel_rfl) (fun _ _ _ h => h) hHeld (by rfl) ?_
                    try simp only [Act.put, List.setIfInBounds_toArray, List.set_cons_zero, List.set_cons_succ]
                    refine held_skip 34 rfl (by kernel_rfl) (by kernel_rfl) (by kernel_rfl) (fun _ _ _ h => h) hHeld (by rfl) ?_
                    try simp only [Act.put, List.setIfInBounds_toArray, List.set_cons_zero, List.set_cons_succ]
                    refine held_skip 35 rfl (by kernel_rfl) (by kernel_rfl) (by kernel_rfl) (fun _ _ _ h => h) hHeld (by rfl) ?_
                    try simp only [Act.put, List.setIfInBounds_toArray, List.set_cons_zero, List.set_cons_succ]
                    refine held_take 36 rfl (by kernel_rfl) (by kernel_rfl) (by kernel_rfl) (fun _ _ _ h => h) hHeld (by rfl) (v := ?_) ?_ ?_
                    rotate_left
                    · intro w hSw; (try dsimp only at hSw); (try go_simp); (try with_reducible rfl)
                    try simp only [Act.put, List.setIfInBounds_toArray, List.set_cons_zero, List.set_cons_succ]
                    refine held_take 37 rfl (by kernel_rfl) (by kernel_rfl) (by kernel_rfl) (fun _ _ _ h => h) hHeld (by rfl) (v := ?_) ?_ ?_
                    rotate_left
                    · intro w hSw; (try dsimp only at hSw); (try go_simp); (try with_reducible rfl)
                    try simp only [Act.put, List.setIfInBounds_toArray, List.set_cons_zero, List.set_cons_succ]
                    refine held_take 38 rfl (by kernel_rfl) (by kernel_rfl) (by kernel_rfl) (fun _ _ _ h => h) hHeld (by rfl) (v := ?_) ?_ ?_
                    rotate_left
                    · intro w hSw; (try dsimp only at hSw); (try go_simp); (try with_reducible rfl)
                    try simp only [Act.put, List.setIfInBounds_toArray, List.set_cons_zero, List.set_cons_succ]
                    refine held_take 39 rfl (by kernel_rfl) (by kernel_rfl) (by kernel_rfl) (fun _ _ _ h => h) hHeld (by rfl) (v := ?_) ?_ ?_
                    rotate_left
                    · intro w hSw; (try dsimp only at hSw); (try go_simp); (try with_reducible rfl)
                    try simp only [Act.put, List.setIfInBounds_toArray, List.set_cons_zero, List.set_cons_succ]
                    refine held_take 40 rfl (by kernel_rfl) (by kernel_rfl) (by kernel_rfl) (fun _ _ _ h => h) hHeld (by rfl) (v := ?_) ?_ ?_
                    rotate_left
                    · intro w hSw; (try dsimp only at hSw); (try go_simp); (try with_reducible rfl)
                    try simp only [Act.put, List.setIfInBounds_toArray, List.set_cons_zero, List.set_cons_succ]
                    refine held_take 41 rfl (by kernel_rfl) (by kernel_rfl) (by kernel_rfl) (fun _ _ _ h => h) hHeld (by rfl) (v := ?_) ?_ ?_
                    rotate_left
                    · intro w hSw; (try dsimp only at hSw); (try go_simp); (try with_reducible rfl)
                    try simp only [Act.put, List.setIfInBounds_toArray, List.set_cons_zero, List.set_cons_succ]
                    refine held_take 42 rfl (by kernel_rfl) (by kernel_rfl) (by kernel_rfl) (fun _ _ _ h => h) hHeld (by rfl) (v := ?_) ?_ ?_
                    rotate_left
                    · intro w hSw; (try dsimp only at hSw); (try go_simp); (try with_reducible rfl)
                    try simp only [Act.put, List.setIfInBounds_toArray, List.set_cons_zero, List.set_cons_succ]
                    refine held_take 43 rfl (by kernel_rfl) (by kernel_rfl) (by kernel_rfl) (fun _ _ _ h => h) hHeld (by rfl) (v := ?_) ?_ ?_
                    rotate_left
                    · intro w hSw; (try dsimp only at hSw); (try go_simp); (try with_reducible rfl)
                    try simp only [Act.put, List.setIfInBounds_toArray, List.set_cons_zero, List.set_cons_succ]
                    refine held_step 44 rfl (by kernel_rfl) (by rfl) (fun Kx hK => ?_)
                    go_simp
                    go_at_call 18; refine (in_key (.slice ka m kc) K x.dir x.name _ (by rw [← HM.out]; exact HKR.out.below (HV7.out.below.trans (hHeld.1.mono HV7.out.sz)))).mono ?_; rintro e wk ⟨rfl, hbk⟩; rw [show decide ((⟨x.dir, x.name⟩ : Ky) ∈ K) = false from decide_eq_false HXK.out]; have hSB := keepA hHeld hbk
                    refine hK.out _ _ ?_ (fun hHeld2 => ?_)
                    · (try dsimp only); first | exact hS0 | exact hSA | exact hSB | exact hSC
                    clear hK Kx hHeld
                    have hHeld := hHeld2
                    clear hHeld2
                    try simp only [Act.put, List.setIfInBounds_toArray, List.set_cons_zero, List.set_cons_succ]
                    refine held_take 45 rfl (by kernel_rfl) (by kernel_rfl) (by kernel_rfl) (fun _ _ _ h => h) hHeld (by rfl) (v := ?_) ?_ ?_
                    rotate_left
                    · intro w hSw; (try dsimp only at hSw); (try go_simp); (try with_reducible rfl)
                    try simp only [Act.put, List.setIfInBounds_toArray, List.set_cons_zero, List.set_cons_succ]
                    refine held_skip 46 rfl (by kernel_rfl) (by kernel_rfl) (by kernel_rfl) (fun _ _ _ h => h) hHeld (by rfl) ?_
                    try simp only [Act.put, List.setIfInBounds_toArray, List.set_cons_zero, List.set_cons_succ]
                    refine held_skip 47 rfl (by kernel_rfl) (by kernel_rfl) (by kernel_rfl) (fun _ _ _ h => h) hHeld (by rfl) ?_
                    try simp only [Act.put, List.setIfInBounds_toArray, List.set_cons_zero, List.set_cons_succ]
                    refine held_skip 48 rfl (by kernel_rfl) (by kernel_rfl) (by kernel_rfl) (fun _ _ _ h => h) hHeld (by rfl) ?_
                    try simp only [Act.put, List.setIfInBounds_toArray, List.set_cons_zero, List.set_cons_succ]
                    refine held_skip 49 rfl (by kernel_rfl) (by kernel_rfl) (by kernel_rfl) (fun _ _ _ h => h) hHeld (by rfl) ?_
                    try simp only [Act.put, List.setIfInBounds_toArray, List.set_cons_zero, List.set_cons_succ]
                    refine held_skip 50 rfl (by kernel_rfl) (by kernel_rfl) (by kernel_rfl) (fun _ _ _ h => h) hHeld (by rfl) ?_
                    try simp only [Act.put, List.setIfInBounds_toArray, List.set_cons_zero, List.set_cons_succ]
                    refine held_skip 51 rfl (by kernel_rfl) (by kernel_rfl) (by kernel_rfl) (fun _ _ _ h => h) hHeld (by rfl) ?_
                    try simp only [Act.put, List.setIfInBounds_toArray, List.set_cons_zero, List.set_cons_succ]
                    refine held_take 52 rfl (by kernel_rfl) (by kernel_rfl) (by kernel_rfl) (fun _ _ _ h => h) hHeld (by rfl) (v := ?_) ?_ ?_
                    rotate_left
                    · intro w hSw; (try dsimp only at hSw); (try go_simp); (try with_reducible rfl)
                    try simp only [Act.put, List.setIfInBounds_toArray, List.set_cons_zero, List.set_cons_succ]
                    refine held_take 53 rfl (by kernel_rfl) (by kernel_rfl) (by kernel_rfl) (fun _ _ _ h => h) hHeld (by rfl) (v := ?_) ?_ ?_
                    rotate_left
                    · intro w hSw; (try dsimp only at hSw); (try go_simp); (try with_reducible rfl)
                    try simp only [Act.put, List.setIfInBounds_toArray, List.set_cons_zero, List.set_cons_succ]
                    refine wpAnyH_done (by kernel_rfl) ?_ _
                    have HV9 := hid (HV7.out.alloc hHeld.1)
                    have HB9 := hid (HB7.out.trans (hHeld.1.mono HB7.out.size))
                    clear hHeld hS0
                    go_wp2
                    exact ⟨⟨j + 1, _, by omega, by go_num, rfl, hid (by rw [HAS.out, ← HSM.out, HTB.out]; rfl), HV9, HB9⟩, by simp [intOf]; omega⟩
                  | true =>
                    go_wp2_with fail
                    have hS0 : Below w7.heap.size w7 w7.drew ∧ w7.drew.cell? ⟨b, off + j * 2, none⟩ = some (.int .i64 x.dir) ∧ w7.drew.cell? ⟨b, off + j * 2 + 1, none⟩ = some (.string x.name) ∧ w7.drew.cell? ⟨g, 3, none⟩ = some (.slice kb (sortK T).length kd) := ⟨(Below.refl _ _).drew, c4.1, c4.2, below_cell HB7.out (Nat.le_refl _) HP3.out⟩
                    refine held_start (fun w' => Below w7.heap.size w7 w' ∧ w'.cell? ⟨b, off + j * 2, none⟩ = some (.int .i64 x.dir) ∧ w'.cell? ⟨b, off + j * 2 + 1, none⟩ = some (.string x.name) ∧ w'.cell? ⟨g, 3, none⟩ = some (.slice kb (sortK T).length kd)) (by kernel_rfl) ?_ (fun hHeld => ?_)
                    · first | exact hS0 | exact hSA | exact hSB | exact hSC
                    refine held_take 0 rfl (by kernel_rfl) (by kernel_rfl) (by kernel_rfl) (fun _ _ _ h => h) hHeld (by rfl) (v := ?_) ?_ ?_
                    rotate_left
                    · intro w hSw; (try dsimp only at hSw); (try go_simp); (try with_reducible rfl)
                    try simp only [Act.put, List.setIfInBounds_toArray, List.set_cons_zero, List.set_cons_succ]
                    refine held_take 1 rfl (by kernel_rfl) (by kernel_rfl) (by kernel_rfl) (fun _ _ _ h => h) hHeld (by rfl) (v := ?_) ?_ ?_
                    rotate_left
                    · intro w hSw; (try dsimp only at hSw); (try go_simp); (try with_reducible rfl)
                    try simp only [Act.put, List.setIfInBounds_toArray, List.set_cons_zero, List.set_cons_succ]
                    refine held_take 2 rfl (by kernel_rfl) (by kernel_rfl) (by kernel_rfl) (fun _ _ _ h => h) hHeld (by rfl) (v := ?_) ?_ ?_
                    rotate_left
                    · intro w hSw; (try dsimp only at hSw); (try go_simp); (try with_reducible rfl)
                    try simp only [Act.put, List.setIfInBounds_toArray, List.set_cons_zero, List.set_cons_succ]
                    refine held_take 3 rfl (by kernel_rfl) (by kernel_rfl) (by kernel_rfl) (fun _ _ _ h => h) hHeld (by rfl) (v := ?_) ?_ ?_
                    rotate_left
                    · intro w hSw; (try dsimp only at hSw); (try go_simp); (try with_reducible rfl)
                    try simp only [Act.put, List.setIfInBounds_toArray, List.set_cons_zero, List.set_cons_succ]
                    refine held_take 4 rfl (by kernel_rfl) (by kernel_rfl) (by kernel_rfl) (fun _ _ _ h => h) hHeld (by rfl) (v := ?_) ?_ ?_
                    rotate_left
                    · intro w hSw; (try dsimp only at hSw); (try go_simp); (try with_reducible rfl)
                    try simp only [Act.put, List.setIfInBounds_toArray, List.set_cons_zero, List.set_cons_succ]
                    refine held_take 5 rfl (by kernel_rfl) (by kernel_rfl) (by kernel_rfl) (fun _ _ _ h => h) hHeld (by rfl) (v := ?_) ?_ ?_
                    rotate_left
                    · intro w hSw; (try dsimp only at hSw); (try go_simp); (try with_reducible rfl)
                    try simp only [Act.put, List.setIfInBounds_toArray, List.set_cons_zero, List.set_cons_succ]
                    refine held_take 6 rfl (by kernel_rfl) (by kernel_rfl) (by kernel_rfl) (fun _ _ _ h => h) hHeld (by rfl) (v := ?_) ?_ ?_
                    rotate_left
                    · intro w hSw; (try dsimp only at hSw); (try go_simp); (try with_reducible rfl)
                    try simp only [Act.put, List.setIfInBounds_toArray, List.set_cons_zero, List.set_cons_succ]
                    refine held_take 7 rfl (by kernel_rfl) (by kernel_rfl) (by kernel_rfl) (fun _ _ _ h => h) hHeld (by rfl) (v := ?_) ?_ ?_
                    rotate_left
                    · intro w hSw; (try dsimp only at hSw); (try go_simp); (try with_reducible rfl)
                    try simp only [Act.put, List.setIfInBounds_toArray, List.set_cons_zero, List.set_cons_succ]
                    refine held_take 8 rfl (by kernel_rfl) (by kernel_rfl) (by kernel_rfl) (fun _ _ _ h => h) hHeld (by rfl) (v := ?_) ?_ ?_
                    rotate_left
                    · intro w hSw; (try dsimp only at hSw); (try go_simp); (try with_reducible rfl)
                    try simp only [Act.put, List.setIfInBounds_toArray, List.set_cons_zero, List.set_cons_succ]
                    refine held_take 9 rfl (by kernel_rfl) (by kernel_rfl) (by kernel_rfl) (fun _ _ _ h => h) hHeld (by rfl) (v := ?_) ?_ ?_
                    rotate_left
                    · intro w hSw; (try dsimp only at hSw); (try go_simp); (try with_reducible rfl)
                    try simp only [Act.put, List.setIfInBounds_toArray, List.set_cons_zero, List.set_cons_succ]
                    refine held_take 10 rfl (by kernel_rfl) (by kernel_rfl) (by kernel_rfl) (fun _ _ _ h => h) hHeld (by rfl) (v := ?_) ?_ ?_
                    rotate_left
                    · intro w hSw; (try dsimp only at hSw); (try go_simp); (try with_reducible rfl)
                    try simp only [Act.put, List.setIfInBounds_toArray, List.set_cons_zero, List.set_cons_succ]
                    refine held_take 11 rfl (by kernel_rfl) (by kernel_rfl) (by kernel_rfl) (fun _ _ _ h => h) hHeld (by rfl) (v := ?_) ?_ ?_
                    rotate_left
                    · intro w hSw; (try dsimp only at hSw); (try go_simp); (try with_reducible rfl)
                    try simp only [Act.put, List.setIfInBounds_toArray, List.set_cons_zero, List.set_cons_succ]
                    refine held_take 12 rfl (by kernel_rfl) (by kernel_rfl) (by kernel_rfl) (fun _ _ _ h => h) hHeld (by rfl) (v := ?_) ?_ ?_
                    rotate_left
                    · intro w hSw; (try dsimp only at hSw); (try go_simp); (try with_reducible rfl)
                    try simp only [Act.put, List.setIfInBounds_toArray, List.set_cons_zero, List.set_cons_succ]
                    refine held_take 13 rfl (by kernel_rfl) (by kernel_rfl) (by kernel_rfl) (fun _ _ _ h => h) hHeld (by rfl) (v := ?_) ?_ ?_
                    rotate_left
                    · intro w hSw; (try dsimp only at hSw); (try go_simp); (try with_reducible rfl)
                    try simp only [Act.put, List.setIfInBounds_toArray, List.set_cons_zero, List.set_cons_succ]
                    refine held_step 14 rfl (by kernel_rfl) (by rfl) (fun Kx hK => ?_)
                    go_simp
                    go_at_call 18; refine (in_key (.slice kb (sortK T).length kd) (sortK T) x.dir x.name _ (HQ4.out.below (HB7.out.trans (hHeld.1.mono HB7.out.size)))).mono ?_; rintro e wb ⟨rfl, hbb⟩; rw [show decide ((⟨x.dir, x.name⟩ : Ky) ∈ sortK T) = true from decide_eq_true HSX.out]; have hSA := keepA hHeld hbb
                    refine hK.out _ _ ?_ (fun hHeld2 => ?_)
                    · (try dsimp only); first | exact hS0 | exact hSA | exact hSB | exact hSC
                    clear hK Kx hHeld
                    have hHeld := hHeld2
                    clear hHeld2
                    try simp only [Act.put, List.setIfInBounds_toArray, List.set_cons_zero, List.set_cons_succ]
                    refine held_take 15 rfl (by kernel_rfl) (by kernel_rfl) (by kernel_rfl) (fun _ _ _ h => h) hHeld (by rfl) (v := ?_) ?_ ?_
                    rotate_left
                    · intro w hSw; (try dsimp only at hSw); (try go_simp); (try with_reducible rfl)
                    try simp only [Act.put, List.setIfInBounds_toArray, List.set_cons_zero, List.set_cons_succ]
                    refine held_take 16 rfl (by kernel_rfl) (by kernel_rfl) (by kernel_rfl) (fun _ _ _ h => h) hHeld (by rfl) (v := ?_) ?_ ?_
                    rotate_left
                    · intro w hSw; (try dsimp only at hSw); (try go_simp); (try with_reducible rfl)
                    try simp only [Act.put, List.setIfInBounds_toArray, List.set_cons_zero, List.set_cons_succ]
                    refine held_take 17 rfl (by kernel_rfl) (by kernel_rfl) (by kernel_rfl) (fun _ _ _ h => h) hHeld (by rfl) (v := ?_) ?_ ?_
                    rotate_left
                    · intro w hSw; (try dsimp only at hSw); (try go_simp); (try with_reducible rfl)
                    try simp only [Act.put, List.setIfInBounds_toArray, List.set_cons_zero, List.set_cons_succ]
                    refine held_take 18 rfl (by kernel_rfl) (by kernel_rfl) (by kernel_rfl) (fun _ _ _ h => h) hHeld (by rfl) (v := ?_) ?_ ?_
                    rotate_left
                    · intro w hSw; (try dsimp only at hSw); (try go_simp); (try with_reducible rfl)
                    try simp only [Act.put, List.setIfInBounds_toArray, List.set_cons_zero, List.set_cons_succ]
                    refine held_take 19 rfl (by kernel_rfl) (by kernel_rfl) (by kernel_rfl) (fun _ _ _ h => h) hHeld (by rfl) (v := ?_) ?_ ?_
                    rotate_left
                    · intro w hSw; (try dsimp only at hSw); (try go_simp); (try with_reducible rfl)
                    try simp only [Act.put, List.setIfInBounds_toArray, List.set_cons_zero, List.set_cons_succ]
                    refine held_take 20 rfl (by kernel_rfl) (by kernel_rfl) (by kernel_rfl) (fun _ _ _ h => h) hHeld (by rfl) (v := ?_) ?_ ?_
                    rotate_left
                    · intro w hSw; (try dsimp only at hSw); (try go_simp); (try with_reducible rfl)
                    try simp only [Act.put, List.setIfInBounds_toArray, List.set_cons_zero, List.set_cons_succ]
                    refine held_take 21 rfl (by kernel_rfl) (by kernel_rfl) (by kernel_rfl) (fun _ _ _ h => h) hHeld (by rfl) (v := ?_) ?_ ?_
                    rotate_left
                    · intro w hSw; (try dsimp only at hSw); (try go_simp); (try with_reducible rfl)
                    try simp only [Act.put, List.setIfInBounds_toArray, List.set_cons_zero, List.set_cons_succ]
                    refine held_skip 22 rfl (by kernel_rfl) (by kernel_rfl) (by kernel_rfl) (fun _ _ _ h => h) hHeld (by rfl) ?_
                    try simp only [Act.put, List.setIfInBounds_toArray, List.set_cons_zero, List.set_cons_succ]
                    refine held_skip 23 rfl (by kernel_rfl) (by kernel_rfl) (by kernel_rfl) (fun _ _ _ h => h) hHeld (by rfl) ?_
                    try simp only [Act.put, List.setIfInBounds_toArray, List.set_cons_zero, List.set_cons_succ]
                    refine held_skip 24 rfl (by kernel_rfl) (by kernel_rfl) (by kernel_rfl) (fun _ _ _ h => h) hHeld (by rfl) ?_
                    try simp only [Act.put, List.setIfInBounds_toArray, List.set_cons_zero, List.set_cons_succ]
                    refine held_take 25 rfl (by kernel_rfl) (by kernel_rfl) (by kernel_rfl) (fun _ _ _ h => h) hHeld (by rfl) (v := ?_) ?_ ?_
                    rotate_left
                    · intro w hSw; (try dsimp only at hSw); (try go_simp); (try with_reducible rfl)
                    try simp only [Act.put, List.setIfInBounds_toArray, List.set_cons_zero, List.set_cons_succ]
                    refine held_take 26 rfl (by kernel_rfl) (by kernel_rfl) (by kernel_rfl) (fun _ _ _ h => h) hHeld (by rfl) (v := ?_) ?_ ?_
                    rotate_left
                    · intro w hSw; (try dsimp only at hSw); (try go_simp); (try with_reducible rfl)
                    try simp only [Act.put, List.setIfInBounds_toArray, List.set_cons_zero, List.set_cons_succ]
                    refine held_skip 27 rfl (by kernel_rfl) (by kernel_rfl) (by kernel_rfl) (fun _ _ _ h => h) hHeld (by rfl) ?_
                    try simp only [Act.put, List.setIfInBounds_toArray, List.set_cons_zero, List.set_cons_succ]
                    refine held_skip 28 rfl (by kernel_rfl) (by kernel_rfl) (by kernel_rfl) (fun _ _ _ h => h) hHeld (by rfl) ?_
                    try simp only [Act.put, List.setIfInBounds_toArray, List.set_cons_zero, List.set_cons_succ]
                    refine held_skip 29 rfl (by kernel_rfl) (by kernel_rfl) (by kernel_rfl) (fun _ _ _ h => h) hHeld (by rfl) ?_
                    try simp only [Act.put, List.setIfInBounds_toArray, List.set_cons_zero, List.set_cons_succ]
                    refine held_skip 30 rfl (by kernel_rfl) (by kernel_rfl) (by kernel_rfl) (fun _ _ _ h => h) hHeld (by rfl) ?_
                    try simp only [Act.put, List.setIfInBounds_toArray, List.set_cons_zero, List.set_cons_succ]
                    refine held_skip 31 rfl (by kernel_rfl) (by kernel_rfl) (by kernel_rfl) (fun _ _ _ h => h) hHeld (by rfl) ?_
                    try simp only [Act.put, List.setIfInBounds_toArray, List.set_cons_zero, List.set_cons_succ]
                    refine held_skip 32 rfl (by kernel_rfl) (by kernel_rfl) (by kernel_rfl) (fun _ _ _ h => h) hHeld (by rfl) ?_
                    try simp only [Act.put, List.setIfInBounds_toArray, List.set_cons_zero, List.set_cons_succ]
                    refine held_skip 33 rfl (by kernel_rfl) (by kernel_rfl) (by kernel_rfl) (fun _ _ _ h => h) hHeld (by rfl) ?_
                    try simp only [Act.put, List.setIfInBounds_toArray, List.set_cons_zero, List.set_cons_succ]
                    refine held_skip 34 rfl (by kernel_rfl) (by kernel_rfl) (by kernel_rfl) (fun _ _ _ h => h) hHeld (by rfl) ?_
                    try simp only [Act.put, List.setIfInBounds_toArray, List.set_cons_zero, List.set_cons_succ]
                    refine held_skip 35 rfl (by kernel_rfl) (by kernel_rfl) (by kernel_rfl) (fun _ _ _ h => h) hHeld (by rfl) ?_
                    try simp only [Act.put, List.setIfInBounds_toArray, List.set_cons_zero, List.set_cons_succ]
                    refine held_take 36 rfl (by kernel_rfl) (by kernel_rfl) (by kernel_rfl) (fun _ _ _ h => h) hHeld (by rfl) (v := ?_) ?_ ?_
                    rotate_left
                    · intro w hSw; (try dsimp only at hSw); (try go_simp); (try with_reducible rfl)
                    try simp only [Act.put, List.setIfInBounds_toArray, List.set_cons_zero, List.set_cons_succ]
                    refine held_take 37 rfl (by kernel_rfl) (by kernel_rfl) (by kernel_rfl) (fun _ _ _ h => h) hHeld (by rfl) (v := ?_) ?_ ?_
                    rotate_left
                    · intro w hSw; (try dsimp only at hSw); (try go_simp); (try with_reducible rfl)
                    try simp only [Act.put, List.setIfInBounds_toArray, List.set_cons_zero, List.set_cons_succ]
                    refine held_take 38 rfl (by kernel_rfl) (by kernel_rfl) (by kernel_rfl) (fun _ _ _ h => h) hHeld (by rfl) (v := ?_) ?_ ?_
                    rotate_left
                    · intro w hSw; (try dsimp only at hSw); (try go_simp); (try with_reducible rfl)
                    try simp only [Act.put, List.setIfInBounds_toArray, List.set_cons_zero, List.set_cons_succ]
                    refine held_take 39 rfl (by kernel_rfl) (by kernel_rfl) (by kernel_rfl) (fun _ _ _ h => h) hHeld (by rfl) (v := ?_) ?_ ?_
                    rotate_left
                    · intro w hSw; (try dsimp only at hSw); (try go_simp); (try with_reducible rfl)
                    try simp only [Act.put, List.setIfInBounds_toArray, List.set_cons_zero, List.set_cons_succ]
                    refine held_take 40 rfl (by kernel_rfl) (by kernel_rfl) (by kernel_rfl) (fun _ _ _ h => h) hHeld (by rfl) (v := ?_) ?_ ?_
                    rotate_left
                    · intro w hSw; (try dsimp only at hSw); (try go_simp); (try with_reducible rfl)
                    try simp only [Act.put, List.setIfInBounds_toArray, List.set_cons_zero, List.set_cons_succ]
                    refine held_take 41 rfl (by kernel_rfl) (by kernel_rfl) (by kernel_rfl) (fun _ _ _ h => h) hHeld (by rfl) (v := ?_) ?_ ?_
                    rotate_left
                    · intro w hSw; (try dsimp only at hSw); (try go_simp); (try with_reducible rfl)
                    try simp only [Act.put, List.setIfInBounds_toArray, List.set_cons_zero, List.set_cons_succ]
                    refine held_take 42 rfl (by kernel_rfl) (by kernel_rfl) (by kernel_rfl) (fun _ _ _ h => h) hHeld (by rfl) (v := ?_) ?_ ?_
                    rotate_left
                    · intro w hSw; (try dsimp only at hSw); (try go_simp); (try with_reducible rfl)
                    try simp only [Act.put, List.setIfInBounds_toArray, List.set_cons_zero, List.set_cons_succ]
                    refine held_take 43 rfl (by kernel_rfl) (by kernel_rfl) (by kernel_rfl) (fun _ _ _ h => h) hHeld (by rfl) (v := ?_) ?_ ?_
                    rotate_left
                    · intro w hSw; (try dsimp only at hSw); (try go_simp); (try with_reducible rfl)
                    try simp only [Act.put, List.setIfInBounds_toArray, List.set_cons_zero, List.set_cons_succ]
                    refine held_step 44 rfl (by kernel_rfl) (by rfl) (fun Kx hK => ?_)
                    go_simp
                    go_at_call 18; refine (in_key (.slice ka m kc) K x.dir x.name _ (by rw [← HM.out]; exact HKR.out.below (HV7.out.below.trans (hHeld.1.mono HV7.out.sz)))).mono ?_; rintro e wk ⟨rfl, hbk⟩; rw [show decide ((⟨x.dir, x.name⟩ : Ky) ∈ K) = false from decide_eq_false HXK.out]; have hSB := keepA hHeld hbk
                    refine hK.out _ _ ?_ (fun hHeld2 => ?_)
                    · (try dsimp only); first | exact hS0 | exact hSA | exact hSB | exact hSC
                    clear hK Kx hHeld
                    have hHeld := hHeld2
                    clear hHeld2
                    try simp only [Act.put, List.setIfInBounds_toArray, List.set_cons_zero, List.set_cons_succ]
                    refine held_take 45 rfl (by kernel_rfl) (by kernel_rfl) (by kernel_rfl) (fun _ _ _ h => h) hHeld (by rfl) (v := ?_) ?_ ?_
                    rotate_left
                    · intro w hSw; (try dsimp only at hSw); (try go_simp); (try with_reducible rfl)
                    try simp only [Act.put, List.setIfInBounds_toArray, List.set_cons_zero, List.set_cons_succ]
                    refine held_skip 46 rfl (by kernel_rfl) (by kernel_rfl) (by kernel_rfl) (fun _ _ _ h => h) hHeld (by rfl) ?_
                    try simp only [Act.put, List.setIfInBounds_toArray, List.set_cons_zero, List.set_cons_succ]
                    refine held_skip 47 rfl (by kernel_rfl) (by kernel_rfl) (by kernel_rfl) (fun _ _ _ h => h) hHeld (by rfl) ?_
                    try simp only [Act.put, List.setIfInBounds_toArray, List.set_cons_zero, List.set_cons_succ]
                    refine held_skip 48 rfl (by kernel_rfl) (by kernel_rfl) (by kernel_rfl) (fun _ _ _ h => h) hHeld (by rfl) ?_
                    try simp only [Act.put, List.setIfInBounds_toArray, List.set_cons_zero, List.set_cons_succ]
                    refine held_skip 49 rfl (by kernel_rfl) (by kernel_rfl) (by kernel_rfl) (fun _ _ _ h => h) hHeld (by rfl) ?_
                    try simp only [Act.put, List.setIfInBounds_toArray, List.set_cons_zero, List.set_cons_succ]
                    refine held_skip 50 rfl (by kernel_rfl) (by kernel_rfl) (by kernel_rfl) (fun _ _ _ h => h) hHeld (by rfl) ?_
                    try simp only [Act.put, List.setIfInBounds_toArray, List.set_cons_zero, List.set_cons_succ]
                    refine held_skip 51 rfl (by kernel_rfl) (by kernel_rfl) (by kernel_rfl) (fun _ _ _ h => h) hHeld (by rfl) ?_
                    try simp only [Act.put, List.setIfInBounds_toArray, List.set_cons_zero, List.set_cons_succ]
                    refine held_take 52 rfl (by kernel_rfl) (by kernel_rfl) (by kernel_rfl) (fun _ _ _ h => h) hHeld (by rfl) (v := ?_) ?_ ?_
                    rotate_left
                    · intro w hSw; (try dsimp only at hSw); (try go_simp); (try with_reducible rfl)
                    try simp only [Act.put, List.setIfInBounds_toArray, List.set_cons_zero, List.set_cons_succ]
                    refine held_take 53 rfl (by kernel_rfl) (by kernel_rfl) (by kernel_rfl) (fun _ _ _ h => h) hHeld (by rfl) (v := ?_) ?_ ?_
                    rotate_left
                    · intro w hSw; (try dsimp only at hSw); (try go_simp); (try with_reducible rfl)
                    try simp only [Act.put, List.setIfInBounds_toArray, List.set_cons_zero, List.set_cons_succ]
                    refine wpAnyH_done (by kernel_rfl) ?_ _
                    have HV9 := hid (HV7.out.alloc hHeld.1)
                    have HB9 := hid (HB7.out.trans (hHeld.1.mono HB7.out.size))
                    clear hHeld hS0
                    go_wp2
                    exact ⟨⟨j + 1, _, by omega, by go_num, rfl, hid (by rw [HAS.out, ← HSM.out, HTB.out]; rfl), HV9, HB9⟩, by simp [intOf]; omega⟩
                · have HDK := hid hdk
                  have HTB := hid (show tellB K x = false by simp [tellB, hdk, HXK.out])
                  have HSX := hid (show x ∉ sortK T from fun h => by have := (HTM.out x HXT.out).1 h; rw [HTB.out] at this; cases this)
                  clear hdk
                  go_wp2_with fail
                  refine (in_key (.slice ka m kc) K x.dir x.name _ (by rw [← HM.out]; exact HKR.out.below HV5.out.below)).mono ?_
                  rintro e w6 ⟨rfl, hb6⟩
                  rw [show decide ((⟨x.dir, x.name⟩ : Ky) ∈ K) = false from decide_eq_false HXK.out]
                  have HV6 := hid (HV5.out.alloc hb6)
                  have c3 := ks_at HT.out HV6.out.below HX.out
                  have HB6 := hid (HB5.out.trans (hb6.mono HB5.out.size))
                  clear hb6
                  go_wp2_with fail
                  refine (in_key (.slice ka m kc) K x.dir _ _ (by rw [← HM.out]; exact HKR.out.below HV6.out.below)).mono ?_
                  rintro e w7 ⟨rfl, hb7⟩
                  rw [show decide ((⟨x.dir, { data := #[] }⟩ : Ky) ∈ K) = false from decide_eq_false HDK.out]
                  have HV7 := hid (HV6.out.alloc hb7)
                  have c4 := ks_at HT.out HV7.out.below HX.out
                  have HB7 := hid (HB6.out.trans (hb7.mono HB6.out.size))
                  clear hb7
                  cases sm with
                  | false =>
                    go_wp2_with fail
                    have hS0 : Below w7.heap.size w7 w7.drew ∧ w7.drew.cell? ⟨b, off + j * 2, none⟩ = some (.int .i64 x.dir) ∧ w7.drew.cell? ⟨b, off + j * 2 + 1, none⟩ = some (.string x.name) ∧ w7.drew.cell? ⟨g, 3, none⟩ = some (.slice kb (sortK T).length kd) := ⟨(Below.refl _ _).drew, c4.1, c4.2, below_cell HB7.out (Nat.le_refl _) HP3.out⟩
                    refine held_start (fun w' => Below w7.heap.size w7 w' ∧ w'.cell? ⟨b, off + j * 2, none⟩ = some (.int .i64 x.dir) ∧ w'.cell? ⟨b, off + j * 2 + 1, none⟩ = some (.string x.name) ∧ w'.cell? ⟨g, 3, none⟩ = some (.slice kb (sortK T).length kd)) (by kernel_rfl) ?_ (fun hHeld => ?_)
                    · first | exact hS0 | exact hSA | exact hSB | exact hSC
                    refine held_take 0 rfl (by kernel_rfl) (by kernel_rfl) (by kernel_rfl) (fun _ _ _ h => h) hHeld (by rfl) (v := ?_) ?_ ?_
                    rotate_left
                    · intro w hSw; (try dsimp only at hSw); (try go_simp); (try with_reducible rfl)
                    try simp only [Act.put, List.setIfInBounds_toArray, List.set_cons_zero, List.set_cons_succ]
                    refine held_take 1 rfl (by kernel_rfl) (by kernel_rfl) (by kernel_rfl) (fun _ _ _ h => h) hHeld (by rfl) (v := ?_) ?_ ?_
                    rotate_left
                    · intro w hSw; (try dsimp only at hSw); (try go_simp); (try with_reducible rfl)
                    try simp only [Act.put, List.setIfInBounds_toArray, List.set_cons_zero, List.set_cons_succ]
                    refine held_skip 2 rfl (by kernel_rfl) (by kernel_rfl) (by kernel_rfl) (fun _ _ _ h => h) hHeld (by rfl) ?_
                    try simp only [Act.put, List.setIfInBounds_toArray, List.set_cons_zero, List.set_cons_succ]
                    refine held_skip 3 rfl (by kernel_rfl) (by kernel_rfl) (by kernel_rfl) (fun _ _ _ h => h) hHeld (by rfl) ?_
                    try simp only [Act.put, List.setIfInBounds_toArray, List.set_cons_zero, List.set_cons_succ]
                    refine held_skip 4 rfl (by kernel_rfl) (by kernel_rfl) (by kernel_rfl) (fun _ _ _ h => h) hHeld (by rfl) ?_
                    try simp only [Act.put, List.setIfInBounds_toArray, List.set_cons_zero, List.set_cons_succ]
                    refine held_skip 5 rfl (by kernel_rfl) (by kernel_rfl) (by kernel_rfl) (fun _ _ _ h => h) hHeld (by rfl) ?_
                    try simp only [Act.put, List.setIfInBounds_toArray, List.set_cons_zero, List.set_cons_succ]
                    refine held_skip 6 rfl (by kernel_rfl) (by kernel_rfl) (by kernel_rfl) (fun _ _ _ h => h) hHeld (by rfl) ?_
                    try simp only [Act.put, List.setIfInBounds_toArray, List.set_cons_zero, List.set_cons_succ]
                    refine held_skip 7 rfl (by kernel_rfl) (by kernel_rfl) (by kernel_rfl) (fun _ _ _ h => h) hHeld (by rfl) ?_
                    try simp only [Act.put, List.setIfInBounds_toArray, List.set_cons_zero, List.set_cons_succ]
                    refine held_skip 8 rfl (by kernel_rfl) (by kernel_rfl) (by kernel_rfl) (fun _ _ _ h => h) hHeld (by rfl) ?_
                    try simp only [Act.put, List.setIfInBounds_toArray, List.set_cons_zero, List.set_cons_succ]
                    refine held_skip 9 rfl (by kernel_rfl) (by kernel_rfl) (by kernel_rfl) (fun _ _ _ h => h) hHeld (by rfl) ?_
                    try simp only [Act.put, List.setIfInBounds_toArray, List.set_cons_zero, List.set_cons_succ]
                    refine held_skip 10 rfl (by kernel_rfl) (by kernel_rfl) (by kernel_rfl) (fun _ _ _ h => h) hHeld (by rfl) ?_
                    try simp only [Act.put, List.setIfInBounds_toArray, List.set_cons_zero, List.set_cons_succ]
                    refine held_skip 11 rfl (by kernel_rfl) (by kernel_rfl) (by kernel_rfl) (fun _ _ _ h => h) hHeld (by rfl) ?_
                    try simp only [Act.put, List.setIfInBounds_toArray, List.set_cons_zero, List.set_cons_succ]
                    refine held_skip 12 rfl (by kernel_rfl) (by kernel_rfl) (by kernel_rfl) (fun _ _ _ h => h) hHeld (by rfl) ?_
                    try simp only [Act.put, List.setIfInBounds_toArray, List.set_cons_zero, List.set_cons_succ]
                    refine held_skip 13 rfl (by kernel_rfl) (by kernel_rfl) (by kernel_rfl) (fun _ _ _ h => h) hHeld (by rfl) ?_
                    try simp only [Act.put, List.setIfInBounds_toArray, List.set_cons_zero, List.set_cons_succ]
                    refine held_skip 14 rfl (by kernel_rfl) (by kernel_rfl) (by kernel_rfl) (fun _ _ _ h => h) hHeld (by rfl) ?_
                    try simp only [Act.put, List.setIfInBounds_toArray, List.set_cons_zero, List.set_cons_succ]
                    refine held_skip 15 rfl (by kernel_rfl) (by kernel_rfl) (by kernel_rfl) (fun _ _ _ h => h) hHeld (by rfl) ?_
                    try simp only [Act.put, List.setIfInBounds_toArray, List.set_cons_zero, List.set_cons_succ]
                    refine held_skip 16 rfl (by kernel_rfl) (by kernel_rfl) (by kernel_rfl) (fun _ _ _ h => h) hHeld (by rfl) ?_
                    try simp only [Act.put, List.setIfInBounds_toArray, List.set_cons_zero, List.set_cons_succ]
                    refine held_take 17 rfl (by kernel_rfl) (by kernel_rfl) (by kernel_rfl) (fun _ _ _ h => h) hHeld (by rfl) (v := ?_) ?_ ?_
                    rotate_left
                    · intro w hSw; (try dsimp only at hSw); (try go_simp); (try with_reducible rfl)
                    try simp only [Act.put, List.setIfInBounds_toArray, List.set_cons_zero, List.set_cons_succ]
                    refine held_take 18 rfl (by kernel_rfl) (by kernel_rfl) (by kernel_rfl) (fun _ _ _ h => h) hHeld (by rfl) (v := ?_) ?_ ?_
                    rotate_left
                    · intro w hSw; (try dsimp only at hSw); (try go_simp); (try with_reducible rfl)
                    try simp only [Act.put, List.setIfInBounds_toArray, List.set_cons_zero, List.set_cons_succ]
                    refine held_take 19 rfl (by kernel_rfl) (by kernel_rfl) (by kernel_rfl) (fun _ _ _ h => h) hHeld (by rfl) (v := ?_) ?_ ?_
                    rotate_left
                    · intro w hSw; (try dsimp only at hSw); (try go_simp); (try with_reducible rfl)
                    try simp only [Act.put, List.setIfInBounds_toArray, List.set_cons_zero, List.set_cons_succ]
                    refine held_take 20 rfl (by kernel_rfl) (by kernel_rfl) (by kernel_rfl) (fun _ _ _ h => h) hHeld (by rfl) (v := ?_) ?_ ?_
                    rotate_left
                    · intro w hSw; (try dsimp only at hSw); (try go_simp); (try with_reducible rfl)
                    try simp only [Act.put, List.setIfInBounds_toArray, List.set_cons_zero, List.set_cons_succ]
                    refine held_take 21 rfl (by kernel_rfl) (by kernel_rfl) (by kernel_rfl) (fun _ _ _ h => h) hHeld (by rfl) (v := ?_) ?_ ?_
                    rotate_left
                    · intro w hSw; (try dsimp only at hSw); (try go_simp); (try with_reducible rfl)
                    try simp only [Act.put, List.setIfInBounds_toArray, List.set_cons_zero, List.set_cons_succ]
                    refine held_take 22 rfl (by kernel_rfl) (by kernel_rfl) (by kernel_rfl) (fun _ _ _ h => h) hHeld (by rfl) (v := ?_) ?_ ?_
                    rotate_left
                    · intro w hSw; (try dsimp only at hSw); (try go_simp); (try with_reducible rfl)
                    try simp only [Act.put, List.setIfInBounds_toArray, List.set_cons_zero, List.set_cons_succ]
                    refine held_take 23 rfl (by kernel_rfl) (by kernel_rfl) (by kernel_rfl) (fun _ _ _ h => h) hHeld (by rfl) (v := ?_) ?_ ?_
                    rotate_left
                    · intro w hSw; (try dsimp only at hSw); (try go_simp); (try with_reducible rfl)
                    try simp only [Act.put, List.setIfInBounds_toArray, List.set_cons_zero, List.set_cons_succ]
                    refine held_take 24 rfl (by kernel_rfl) (by kernel_rfl) (by kernel_rfl) (fun _ _ _ h => h) hHeld (by rfl) (v := ?_) ?_ ?_
                    rotate_left
                    · intro w hSw; (try dsimp only at hSw); (try go_simp); (try with_reducible rfl)
                    try simp only [Act.put, List.setIfInBounds_toArray, List.set_cons_zero, List.set_cons_succ]
                    refine held_take 25 rfl (by kernel_rfl) (by kernel_rfl) (by kernel_rfl) (fun _ _ _ h => h) hHeld (by rfl) (v := ?_) ?_ ?_
                    rotate_left
                    · intro w hSw; (try dsimp only at hSw); (try go_simp); (try with_reducible rfl)
                    try simp only [Act.put, List.setIfInBounds_toArray, List.set_cons_zero, List.set_cons_succ]
                    refine held_take 26 rfl (by kernel_rfl) (by kernel_rfl) (by kernel_rfl) (fun _ _ _ h => h) hHeld (by rfl) (v := ?_) ?_ ?_
                    rotate_left
                    · intro w hSw; (try dsimp only at hSw); (try go_simp); (try with_reducible rfl)
                    try simp only [Act.put, List.setIfInBounds_toArray, List.set_cons_zero, List.set_cons_succ]
                    refine held_take 27 rfl (by kernel_rfl) (by kernel_rfl) (by kernel_rfl) (fun _ _ _ h => h) hHeld (by rfl) (v := ?_) ?_ ?_
                    rotate_left
                    · intro w hSw; (try dsimp only at hSw); (try go_simp); (try with_reducible rfl)
                    try simp only [Act.put, List.setIfInBounds_toArray, List.set_cons_zero, List.set_cons_succ]
                    refine held_take 28 rfl (by kernel_rfl) (by kernel_rfl) (by kernel_rfl) (fun _ _ _ h => h) hHeld (by rfl) (v := ?_) ?_ ?_
                    rotate_left
                    · intro w hSw; (try dsimp only at hSw); (try go_simp); (try with_reducible rfl)
                    try simp only [Act.put, List.setIfInBounds_toArray, List.set_cons_zero, List.set_cons_succ]
                    refine held_take 29 rfl (by kernel_rfl) (by kernel_rfl) (by kernel_rfl) (fun _ _ _ h => h) hHeld (by rfl) (v := ?_) ?_ ?_
                    rotate_left
                    · intro w hSw; (try dsimp only at hSw); (try go_simp); (try with_reducible rfl)
                    try simp only [Act.put, List.setIfInBounds_toArray, List.set_cons_zero, List.set_cons_succ]
                    refine held_take 30 rfl (by kernel_rfl) (by kernel_rfl) (by kernel_rfl) (fun _ _ _ h => h) hHeld (by rfl) (v := ?_) ?_ ?_
                    rotate_left
                    · intro w hSw; (try dsimp only at hSw); (try go_simp); (try with_reducible rfl)
                    try simp only [Act.put, List.setIfInBounds_toArray, List.set_cons_zero, List.set_cons_succ]
                    refine held_take 31 rfl (by kernel_rfl) (by kernel_rfl) (by kernel_rfl) (fun _ _ _ h => h) hHeld (by rfl) (v := ?_) ?_ ?_
                    rotate_left
                    · intro w hSw; (try dsimp only at hSw); (try go_simp); (try with_reducible rfl)
                    try simp only [Act.put, List.setIfInBounds_toArray, List.set_cons_zero, List.set_cons_succ]
                    refine held_take 32 rfl (by kernel_rfl) (by kernel_rfl) (by kernel_rfl) (fun _ _ _ h => h) hHeld (by rfl) (v := ?_) ?_ ?_
                    rotate_left
                    · intro w hSw; (try dsimp only at hSw); (try go_simp); (try with_reducible rfl)
                    try simp only [Act.put, List.setIfInBounds_toArray, List.set_cons_zero, List.set_cons_succ]
                    refine held_take 33 rfl (by kernel_rfl) (by kernel_rfl) (by kernel_rfl) (fun _ _ _ h => h) hHeld (by rfl) (v := ?_) ?_ ?_
                    rotate_left
                    · intro w hSw; (try dsimp only at hSw); (try go_simp); (try with_reducible rfl)
                    try simp only [Act.put, List.setIfInBounds_toArray, List.set_cons_zero, List.set_cons_succ]
                    refine held_take 34 rfl (by kernel_rfl) (by kernel_rfl) (by kernel_rfl) (fun _ _ _ h => h) hHeld (by rfl) (v := ?_) ?_ ?_
                    rotate_left
                    · intro w hSw; (try dsimp only at hSw); (try go_simp); (try with_reducible rfl)
                    try simp only [Act.put, List.setIfInBounds_toArray, List.set_cons_zero, List.set_cons_succ]
                    refine held_step 35 rfl (by kernel_rfl) (by rfl) (fun Kx hK => ?_)
                    go_simp
                    go_at_call 18; refine (in_key (.slice kb (sortK T).length kd) (sortK T) x.dir x.name _ (HQ4.out.below (HB7.out.trans (hHeld.1.mono HB7.out.size)))).mono ?_; rintro e wb ⟨rfl, hbb⟩; rw [show decide ((⟨x.dir, x.name⟩ : Ky) ∈ sortK T) = false from decide_eq_false HSX.out]; have hSA := keepA hHeld hbb
                    refine hK.out _ _ ?_ (fun hHeld2 => ?_)
                    · (try dsimp only); first | exact hS0 | exact hSA | exact hSB | exact hSC
                    clear hK Kx hHeld
                    have hHeld := hHeld2
                    clear hHeld2
                    try simp only [Act.put, List.setIfInBounds_toArray, List.set_cons_zero, List.set_cons_succ]
                    refine held_take 36 rfl (by kernel_rfl) (by kernel_rfl) (by kernel_rfl) (fun _ _ _ h => h) hHeld (by rfl) (v := ?_) ?_ ?_
                    rotate_left
                    · intro w hSw; (try dsimp only at hSw); (try go_simp); (try with_reducible rfl)
                    try simp only [Act.put, List.setIfInBounds_toArray, List.set_cons_zero, List.set_cons_succ]
                    refine held_take 37 rfl (by kernel_rfl) (by kernel_rfl) (by kernel_rfl) (fun _ _ _ h => h) hHeld (by rfl) (v := ?_) ?_ ?_
                    rotate_left
                    · intro w hSw; (try dsimp only at hSw); (try go_simp); (try with_reducible rfl)
                    try simp only [Act.put, List.setIfInBounds_toArray, List.set_cons_zero, List.set_cons_succ]
                    refine held_take 38 rfl (by kernel_rfl) (by kernel_rfl) (by kernel_rfl) (fun _ _ _ h => h) hHeld (by rfl) (v := ?_) ?_ ?_
                    rotate_left
                    · intro w hSw; (try dsimp only at hSw); (try go_simp); (try with_reducible rfl)
                    try simp only [Act.put, List.setIfInBounds_toArray, List.set_cons_zero, List.set_cons_succ]
                    refine held_take 39 rfl (by kernel_rfl) (by kernel_rfl) (by kernel_rfl) (fun _ _ _ h => h) hHeld (by rfl) (v := ?_) ?_ ?_
                    rotate_left
                    · intro w hSw; (try dsimp only at hSw); (try go_simp); (try with_reducible rfl)
                    try simp only [Act.put, List.setIfInBounds_toArray, List.set_cons_zero, List.set_cons_succ]
                    refine held_take 40 rfl (by kernel_rfl) (by kernel_rfl) (by kernel_rfl) (fun _ _ _ h => h) hHeld (by rfl) (v := ?_) ?_ ?_
                    rotate_left
                    · intro w hSw; (try dsimp only at hSw); (try go_simp); (try with_reducible rfl)
                    try simp only [Act.put, List.setIfInBounds_toArray, List.set_cons_zero, List.set_cons_succ]
                    refine held_take 41 rfl (by kernel_rfl) (by kernel_rfl) (by kernel_rfl) (fun _ _ _ h => h) hHeld (by rfl) (v := ?_) ?_ ?_
                    rotate_left
                    · intro w hSw; (try dsimp only at hSw); (try go_simp); (try with_reducible rfl)
                    try simp only [Act.put, List.setIfInBounds_toArray, List.set_cons_zero, List.set_cons_succ]
                    refine held_take 42 rfl (by kernel_rfl) (by kernel_rfl) (by kernel_rfl) (fun _ _ _ h => h) hHeld (by rfl) (v := ?_) ?_ ?_
                    rotate_left
                    · intro w hSw; (try dsimp only at hSw); (try go_simp); (try with_reducible rfl)
                    try simp only [Act.put, List.setIfInBounds_toArray, List.set_cons_zero, List.set_cons_succ]
                    refine held_take 43 rfl (by kernel_rfl) (by kernel_rfl) (by kernel_rfl) (fun _ _ _ h => h) hHeld (by rfl) (v := ?_) ?_ ?_
                    rotate_left
                    · intro w hSw; (try dsimp only at hSw); (try go_simp); (try with_reducible rfl)
                    try simp only [Act.put, List.setIfInBounds_toArray, List.set_cons_zero, List.set_cons_succ]
                    refine held_step 44 rfl (by kernel_rfl) (by rfl) (fun Kx hK => ?_)
                    go_simp
                    go_at_call 18; refine (in_key (.slice ka m kc) K x.dir x.name _ (by rw [← HM.out]; exact HKR.out.below (HV7.out.below.trans (hHeld.1.mono HV7.out.sz)))).mono ?_; rintro e wk ⟨rfl, hbk⟩; rw [show decide ((⟨x.dir, x.name⟩ : Ky) ∈ K) = false from decide_eq_false HXK.out]; have hSB := keepA hHeld hbk
                    refine hK.out _ _ ?_ (fun hHeld2 => ?_)
                    · (try dsimp only); first | exact hS0 | exact hSA | exact hSB | exact hSC
                    clear hK Kx hHeld
                    have hHeld := hHeld2
                    clear hHeld2
                    try simp only [Act.put, List.setIfInBounds_toArray, List.set_cons_zero, List.set_cons_succ]
                    refine held_take 45 rfl (by kernel_rfl) (by kernel_rfl) (by kernel_rfl) (fun _ _ _ h => h) hHeld (by rfl) (v := ?_) ?_ ?_
                    rotate_left
                    · intro w hSw; (try dsimp only at hSw); (try go_simp); (try with_reducible rfl)
                    try simp only [Act.put, List.setIfInBounds_toArray, List.set_cons_zero, List.set_cons_succ]
                    refine held_skip 46 rfl (by kernel_rfl) (by kernel_rfl) (by kernel_rfl) (fun _ _ _ h => h) hHeld (by rfl) ?_
                    try simp only [Act.put, List.setIfInBounds_toArray, List.set_cons_zero, List.set_cons_succ]
                    refine held_skip 47 rfl (by kernel_rfl) (by kernel_rfl) (by kernel_rfl) (fun _ _ _ h => h) hHeld (by rfl) ?_
                    try simp only [Act.put, List.setIfInBounds_toArray, List.set_cons_zero, List.set_cons_succ]
                    refine held_skip 48 rfl (by kernel_rfl) (by kernel_rfl) (by kernel_rfl) (fun _ _ _ h => h) hHeld (by rfl) ?_
                    try simp only [Act.put, List.setIfInBounds_toArray, List.set_cons_zero, List.set_cons_succ]
                    refine held_skip 49 rfl (by kernel_rfl) (by kernel_rfl) (by kernel_rfl) (fun _ _ _ h => h) hHeld (by rfl) ?_
                    try simp only [Act.put, List.setIfInBounds_toArray, List.set_cons_zero, List.set_cons_succ]
                    refine held_skip 50 rfl (by kernel_rfl) (by kernel_rfl) (by kernel_rfl) (fun _ _ _ h => h) hHeld (by rfl) ?_
                    try simp only [Act.put, List.setIfInBounds_toArray, List.set_cons_zero, List.set_cons_succ]
                    refine held_skip 51 rfl (by kernel_rfl) (by kernel_rfl) (by kernel_rfl) (fun _ _ _ h => h) hHeld (by rfl) ?_
                    try simp only [Act.put, List.setIfInBounds_toArray, List.set_cons_zero, List.set_cons_succ]
                    refine held_take 52 rfl (by kernel_rfl) (by kernel_rfl) (by kernel_rfl) (fun _ _ _ h => h) hHeld (by rfl) (v := ?_) ?_ ?_
                    rotate_left
                    · intro w hSw; (try dsimp only at hSw); (try go_simp); (try with_reducible rfl)
                    try simp only [Act.put, List.setIfInBounds_toArray, List.set_cons_zero, List.set_cons_succ]
                    refine held_take 53 rfl (by kernel_rfl) (by kernel_rfl) (by kernel_rfl) (fun _ _ _ h => h) hHeld (by rfl) (v := ?_) ?_ ?_
                    rotate_left
                    · intro w hSw; (try dsimp only at hSw); (try go_simp); (try with_reducible rfl)
                    try simp only [Act.put, List.setIfInBounds_toArray, List.set_cons_zero, List.set_cons_succ]
                    refine wpAnyH_done (by kernel_rfl) ?_ _
                    have HV9 := hid (HV7.out.alloc hHeld.1)
                    have HB9 := hid (HB7.out.trans (hHeld.1.mono HB7.out.size))
                    clear hHeld hS0
                    go_wp2
                    exact ⟨⟨j + 1, _, by omega, by go_num, rfl, hid (by rw [HAS.out, ← HSM.out, HTB.out]; rfl), HV9, HB9⟩, by simp [intOf]; omega⟩
                  | true =>
                    go_wp2_with fail
                    have hS0 : Below w7.heap.size w7 w7.drew ∧ w7.drew.cell? ⟨b, off + j * 2, none⟩ = some (.int .i64 x.dir) ∧ w7.drew.cell? ⟨b, off + j * 2 + 1, none⟩ = some (.string x.name) ∧ w7.drew.cell? ⟨g, 3, none⟩ = some (.slice kb (sortK T).length kd) := ⟨(Below.refl _ _).drew, c4.1, c4.2, below_cell HB7.out (Nat.le_refl _) HP3.out⟩
                    refine held_start (fun w' => Below w7.heap.size w7 w' ∧ w'.cell? ⟨b, off + j * 2, none⟩ = some (.int .i64 x.dir) ∧ w'.cell? ⟨b, off + j * 2 + 1, none⟩ = some (.string x.name) ∧ w'.cell? ⟨g, 3, none⟩ = some (.slice kb (sortK T).length kd)) (by kernel_rfl) ?_ (fun hHeld => ?_)
                    · first | exact hS0 | exact hSA | exact hSB | exact hSC
                    refine held_take 0 rfl (by kernel_rfl) (by kernel_rfl) (by kernel_rfl) (fun _ _ _ h => h) hHeld (by rfl) (v := ?_) ?_ ?_
                    rotate_left
                    · intro w hSw; (try dsimp only at hSw); (try go_simp); (try with_reducible rfl)
                    try simp only [Act.put, List.setIfInBounds_toArray, List.set_cons_zero, List.set_cons_succ]
                    refine held_take 1 rfl (by kernel_rfl) (by kernel_rfl) (by kernel_rfl) (fun _ _ _ h => h) hHeld (by rfl) (v := ?_) ?_ ?_
                    rotate_left
                    · intro w hSw; (try dsimp only at hSw); (try go_simp); (try with_reducible rfl)
                    try simp only [Act.put, List.setIfInBounds_toArray, List.set_cons_zero, List.set_cons_succ]
                    refine held_skip 2 rfl (by kernel_rfl) (by kernel_rfl) (by kernel_rfl) (fun _ _ _ h => h) hHeld (by rfl) ?_
                    try simp only [Act.put, List.setIfInBounds_toArray, List.set_cons_zero, List.set_cons_succ]
                    refine held_skip 3 rfl (by kernel_rfl) (by kernel_rfl) (by kernel_rfl) (fun _ _ _ h => h) hHeld (by rfl) ?_
                    try simp only [Act.put, List.setIfInBounds_toArray, List.set_cons_zero, List.set_cons_succ]
                    refine held_skip 4 rfl (by kernel_rfl) (by kernel_rfl) (by kernel_rfl) (fun _ _ _ h => h) hHeld (by rfl) ?_
                    try simp only [Act.put, List.setIfInBounds_toArray, List.set_cons_zero, List.set_cons_succ]
                    refine held_skip 5 rfl (by kernel_rfl) (by kernel_rfl) (by kernel_rfl) (fun _ _ _ h => h) hHeld (by rfl) ?_
                    try simp only [Act.put, List.setIfInBounds_toArray, List.set_cons_zero, List.set_cons_succ]
                    refine held_skip 6 rfl (by kernel_rfl) (by kernel_rfl) (by kernel_rfl) (fun _ _ _ h => h) hHeld (by rfl) ?_
                    try simp only [Act.put, List.setIfInBounds_toArray, List.set_cons_zero, List.set_cons_succ]
                    refine held_skip 7 rfl (by kernel_rfl) (by kernel_rfl) (by kernel_rfl) (fun _ _ _ h => h) hHeld (by rfl) ?_
                    try simp only [Act.put, List.setIfInBounds_toArray, List.set_cons_zero, List.set_cons_succ]
                    refine held_skip 8 rfl (by kernel_rfl) (by kernel_rfl) (by kernel_rfl) (fun _ _ _ h => h) hHeld (by rfl) ?_
                    try simp only [Act.put, List.setIfInBounds_toArray, List.set_cons_zero, List.set_cons_succ]
                    refine held_skip 9 rfl (by kernel_rfl) (by kernel_rfl) (by kernel_rfl) (fun _ _ _ h => h) hHeld (by rfl) ?_
                    try simp only [Act.put, List.setIfInBounds_toArray, List.set_cons_zero, List.set_cons_succ]
                    refine held_skip 10 rfl (by kernel_rfl) (by kernel_rfl) (by kernel_rfl) (fun _ _ _ h => h) hHeld (by rfl) ?_
                    try simp only [Act.put, List.setIfInBounds_toArray, List.set_cons_zero, List.set_cons_succ]
                    refine held_skip 11 rfl (by kernel_rfl) (by kernel_rfl) (by kernel_rfl) (fun _ _ _ h => h) hHeld (by rfl) ?_
                    try simp only [Act.put, List.setIfInBounds_toArray, List.set_cons_zero, List.set_cons_succ]
                    refine held_skip 12 rfl (by kernel_rfl) (by kernel_rfl) (by kernel_rfl) (fun _ _ _ h => h) hHeld (by rfl) ?_
                    try simp only [Act.put, List.setIfInBounds_toArray, List.set_cons_zero, List.set_cons_succ]
                    refine held_skip 13 rfl (by kernel_rfl) (by kernel_rfl) (by kernel_rfl) (fun _ _ _ h => h) hHeld (by rfl) ?_
                    try simp only [Act.put, List.setIfInBounds_toArray, List.set_cons_zero, List.set_cons_succ]
                    refine held_skip 14 rfl (by kernel_rfl) (by kernel_rfl) (by kernel_rfl) (fun _ _ _ h => h) hHeld (by rfl) ?_
                    try simp only [Act.put, List.setIfInBounds_toArray, List.set_cons_zero, List.set_cons_succ]
                    refine held_skip 15 rfl (by kernel_rfl) (by kernel_rfl) (by kernel_rfl) (fun _ _ _ h => h) hHeld (by rfl) ?_
                    try simp only [Act.put, List.setIfInBounds_toArray, List.set_cons_zero, List.set_cons_succ]
                    refine held_skip 16 rfl (by kernel_rfl) (by kernel_rfl) (by kernel_rfl) (fun _ _ _ h => h) hHeld (by rfl) ?_
                    try simp only [Act.put, List.setIfInBounds_toArray, List.set_cons_zero, List.set_cons_succ]
                    refine held_take 17 rfl (by kernel_rfl) (by kernel_rfl) (by kernel_rfl) (fun _ _ _ h => h) hHeld (by rfl) (v := ?_) ?_ ?_
                    rotate_left
                    · intro w hSw; (try dsimp only at hSw); (try go_simp); (try with_reducible rfl)
                    try simp only [Act.put, List.setIfInBounds_toArray, List.set_cons_zero, List.set_cons_succ]
                    refine held_take 18 rfl (by kernel_rfl) (by kernel_rfl) (by kernel_rfl) (fun _ _ _ h => h) hHeld (by rfl) (v := ?_) ?_ ?_
                    rotate_left
                    · intro w hSw; (try dsimp only at hSw); (try go_simp); (try with_reducible rfl)
                    try simp only [Act.put, List.setIfInBounds_toArray, List.set_cons_zero, List.set_cons_succ]
                    refine held_take 19 rfl (by kernel_rfl) (by kernel_rfl) (by kernel_rfl) (fun _ _ _ h => h) hHeld (by rfl) (v := ?_) ?_ ?_
                    rotate_left
                    · intro w hSw; (try dsimp only at hSw); (try go_simp); (try with_reducible rfl)
                    try simp only [Act.put, List.setIfInBounds_toArray, List.set_cons_zero, List.set_cons_succ]
                    refine held_take 20 rfl (by kernel_rfl) (by kernel_rfl) (by kernel_rfl) (fun _ _ _ h => h) hHeld (by rfl) (v := ?_) ?_ ?_
                    rotate_left
                    · intro w hSw; (try dsimp only at hSw); (try go_simp); (try with_reducible rfl)
                    try simp only [Act.put, List.setIfInBounds_toArray, List.set_cons_zero, List.set_cons_succ]
                    refine held_take 21 rfl (by kernel_rfl) (by kernel_rfl) (by kernel_rfl) (fun _ _ _ h => h) hHeld (by rfl) (v := ?_) ?_ ?_
                    rotate_left
                    · intro w hSw; (try dsimp only at hSw); (try go_simp); (try with_reducible rfl)
                    try simp only [Act.put, List.setIfInBounds_toArray, List.set_cons_zero, List.set_cons_succ]
                    refine held_take 22 rfl (by kernel_rfl) (by kernel_rfl) (by kernel_rfl) (fun _ _ _ h => h) hHeld (by rfl) (v := ?_) ?_ ?_
                    rotate_left
                    · intro w hSw; (try dsimp only at hSw); (try go_simp); (try with_reducible rfl)
                    try simp only [Act.put, List.setIfInBounds_toArray, List.set_cons_zero, List.set_cons_succ]
                    refine held_take 23 rfl (by kernel_rfl) (by kernel_rfl) (by kernel_rfl) (fun _ _ _ h => h) hHeld (by rfl) (v := ?_) ?_ ?_
                    rotate_left
                    · intro w hSw; (try dsimp only at hSw); (try go_simp); (try with_reducible rfl)
                    try simp only [Act.put, List.setIfInBounds_toArray, List.set_cons_zero, List.set_cons_succ]
                    refine held_take 24 rfl (by kernel_rfl) (by kernel_rfl) (by kernel_rfl) (fun _ _ _ h => h) hHeld (by rfl) (v := ?_) ?_ ?_
                    rotate_left
                    · intro w hSw; (try dsimp only at hSw); (try go_simp); (try with_reducible rfl)
                    try simp only [Act.put, List.setIfInBounds_toArray, List.set_cons_zero, List.set_cons_succ]
                    refine held_take 25 rfl (by kernel_rfl) (by kernel_rfl) (by kernel_rfl) (fun _ _ _ h => h) hHeld (by rfl) (v := ?_) ?_ ?_
                    rotate_left
                    · intro w hSw; (try dsimp only at hSw); (try go_simp); (try with_reducible rfl)
                    try simp only [Act.put, List.setIfInBounds_toArray, List.set_cons_zero, List.set_cons_succ]
                    refine held_take 26 rfl (by kernel_rfl) (by kernel_rfl) (by kernel_rfl) (fun _ _ _ h => h) hHeld (by rfl) (v := ?_) ?_ ?_
                    rotate_left
                    · intro w hSw; (try dsimp only at hSw); (try go_simp); (try with_reducible rfl)
                    try simp only [Act.put, List.setIfInBounds_toArray, List.set_cons_zero, List.set_cons_succ]
                    refine held_take 27 rfl (by kernel_rfl) (by kernel_rfl) (by kernel_rfl) (fun _ _ _ h => h) hHeld (by rfl) (v := ?_) ?_ ?_
                    rotate_left
                    · intro w hSw; (try dsimp only at hSw); (try go_simp); (try with_reducible rfl)
                    try simp only [Act.put, List.setIfInBounds_toArray, List.set_cons_zero, List.set_cons_succ]
                    refine held_take 28 rfl (by kernel_rfl) (by kernel_rfl) (by kernel_rfl) (fun _ _ _ h => h) hHeld (by rfl) (v := ?_) ?_ ?_
                    rotate_left
                    · intro w hSw; (try dsimp only at hSw); (try go_simp); (try with_reducible rfl)
                    try simp only [Act.put, List.setIfInBounds_toArray, List.set_cons_zero, List.set_cons_succ]
                    refine held_take 29 rfl (by kernel_rfl) (by kernel_rfl) (by kernel_rfl) (fun _ _ _ h => h) hHeld (by rfl) (v := ?_) ?_ ?_
                    rotate_left
                    · intro w hSw; (try dsimp only at hSw); (try go_simp); (try with_reducible rfl)
                    try simp only [Act.put, List.setIfInBounds_toArray, List.set_cons_zero, List.set_cons_succ]
                    refine held_take 30 rfl (by kernel_rfl) (by kernel_rfl) (by kernel_rfl) (fun _ _ _ h => h) hHeld (by rfl) (v := ?_) ?_ ?_
                    rotate_left
                    · intro w hSw; (try dsimp only at hSw); (try go_simp); (try with_reducible rfl)
                    try simp only [Act.put, List.setIfInBounds_toArray, List.set_cons_zero, List.set_cons_succ]
                    refine held_take 31 rfl (by kernel_rfl) (by kernel_rfl) (by kernel_rfl) (fun _ _ _ h => h) hHeld (by rfl) (v := ?_) ?_ ?_
                    rotate_left
                    · intro w hSw; (try dsimp only at hSw); (try go_simp); (try with_reducible rfl)
                    try simp only [Act.put, List.setIfInBounds_toArray, List.set_cons_zero, List.set_cons_succ]
                    refine held_take 32 rfl (by kernel_rfl) (by kernel_rfl) (by kernel_rfl) (fun _ _ _ h => h) hHeld (by rfl) (v := ?_) ?_ ?_
                    rotate_left
                    · intro w hSw; (try dsimp only at hSw); (try go_simp); (try with_reducible rfl)
                    try simp only [Act.put, List.setIfInBounds_toArray, List.set_cons_zero, List.set_cons_succ]
                    refine held_take 33 rfl (by kernel_rfl) (by kernel_rfl) (by kernel_rfl) (fun _ _ _ h => h) hHeld (by rfl) (v := ?_) ?_ ?_
                    rotate_left
                    · intro w hSw; (try dsimp only at hSw); (try go_simp); (try with_reducible rfl)
                    try simp only [Act.put, List.setIfInBounds_toArray, List.set_cons_zero, List.set_cons_succ]
                    refine held_take 34 rfl (by kernel_rfl) (by kernel_rfl) (by kernel_rfl) (fun _ _ _ h => h) hHeld (by rfl) (v := ?_) ?_ ?_
                    rotate_left
                    · intro w hSw; (try dsimp only at hSw); (try go_simp); (try with_reducible rfl)
                    try simp only [Act.put, List.setIfInBounds_toArray, List.set_cons_zero, List.set_cons_succ]
                    refine held_step 35 rfl (by kernel_rfl) (by rfl) (fun Kx hK => ?_)
                    go_simp
                    go_at_call 18; refine (in_key (.slice kb (sortK T).length kd) (sortK T) x.dir x.name _ (HQ4.out.below (HB7.out.trans (hHeld.1.mono HB7.out.size)))).mono ?_; rintro e wb ⟨rfl, hbb⟩; rw [show decide ((⟨x.dir, x.name⟩ : Ky) ∈ sortK T) = false from decide_eq_false HSX.out]; have hSA := keepA hHeld hbb
                    refine hK.out _ _ ?_ (fun hHeld2 => ?_)
                    · (try dsimp only); first | exact hS0 | exact hSA | exact hSB | exact hSC
                    clear hK Kx hHeld
                    have hHeld := hHeld2
                    clear hHeld2
                    try simp only [Act.put, List.setIfInBounds_toArray, List.set_cons_zero, List.set_cons_succ]
                    refine held_take 36 rfl (by kernel_rfl) (by kernel_rfl) (by kernel_rfl) (fun _ _ _ h => h) hHeld (by rfl) (v := ?_) ?_ ?_
                    rotate_left
                    · intro w hSw; (try dsimp only at hSw); (try go_simp); (try with_reducible rfl)
                    try simp only [Act.put, List.setIfInBounds_toArray, List.set_cons_zero, List.set_cons_succ]
                    refine held_take 37 rfl (by kernel_rfl) (by kernel_rfl) (by kernel_rfl) (fun _ _ _ h => h) hHeld (by rfl) (v := ?_) ?_ ?_
                    rotate_left
                    · intro w hSw; (try dsimp only at hSw); (try go_simp); (try with_reducible rfl)
                    try simp only [Act.put, List.setIfInBounds_toArray, List.set_cons_zero, List.set_cons_succ]
                    refine held_take 38 rfl (by kernel_rfl) (by kernel_rfl) (by kernel_rfl) (fun _ _ _ h => h) hHeld (by rfl) (v := ?_) ?_ ?_
                    rotate_left
                    · intro w hSw; (try dsimp only at hSw); (try go_simp); (try with_reducible rfl)
                    try simp only [Act.put, List.setIfInBounds_toArray, List.set_cons_zero, List.set_cons_succ]
                    refine held_take 39 rfl (by kernel_rfl) (by kernel_rfl) (by kernel_rfl) (fun _ _ _ h => h) hHeld (by rfl) (v := ?_) ?_ ?_
                    rotate_left
                    · intro w hSw; (try dsimp only at hSw); (try go_simp); (try with_reducible rfl)
                    try simp only [Act.put, List.setIfInBounds_toArray, List.set_cons_zero, List.set_cons_succ]
                    refine held_take 40 rfl (by kernel_rfl) (by kernel_rfl) (by kernel_rfl) (fun _ _ _ h => h) hHeld (by rfl) (v := ?_) ?_ ?_
                    rotate_left
                    · intro w hSw; (try dsimp only at hSw); (try go_simp); (try with_reducible rfl)
                    try simp only [Act.put, List.setIfInBounds_toArray, List.set_cons_zero, List.set_cons_succ]
                    refine held_take 41 rfl (by kernel_rfl) (by kernel_rfl) (by kernel_rfl) (fun _ _ _ h => h) hHeld (by rfl) (v := ?_) ?_ ?_
                    rotate_left
                    · intro w hSw; (try dsimp only at hSw); (try go_simp); (try with_reducible rfl)
                    try simp only [Act.put, List.setIfInBounds_toArray, List.set_cons_zero, List.set_cons_succ]
                    refine held_take 42 rfl (by kernel_rfl) (by kernel_rfl) (by kernel_rfl) (fun _ _ _ h => h) hHeld (by rfl) (v := ?_) ?_ ?_
                    rotate_left
                    · intro w hSw; (try dsimp only at hSw); (try go_simp); (try with_reducible rfl)
                    try simp only [Act.put, List.setIfInBounds_toArray, List.set_cons_zero, List.set_cons_succ]
                    refine held_take 43 rfl (by kernel_rfl) (by kernel_rfl) (by kernel_rfl) (fun _ _ _ h => h) hHeld (by rfl) (v := ?_) ?_ ?_
                    rotate_left
                    · intro w hSw; (try dsimp only at hSw); (try go_simp); (try with_reducible rfl)
                    try simp only [Act.put, List.setIfInBounds_toArray, List.set_cons_zero, List.set_cons_succ]
                    refine held_step 44 rfl (by kernel_rfl) (by rfl) (fun Kx hK => ?_)
                    go_simp
                    go_at_call 18; refine (in_key (.slice ka m kc) K x.dir x.name _ (by rw [← HM.out]; exact HKR.out.below (HV7.out.below.trans (hHeld.1.mono HV7.out.sz)))).mono ?_; rintro e wk ⟨rfl, hbk⟩; rw [show decide ((⟨x.dir, x.name⟩ : Ky) ∈ K) = false from decide_eq_false HXK.out]; have hSB := keepA hHeld hbk
                    refine hK.out _ _ ?_ (fun hHeld2 => ?_)
                    · (try dsimp only); first | exact hS0 | exact hSA | exact hSB | exact hSC
                    clear hK Kx hHeld
                    have hHeld := hHeld2
                    clear hHeld2
                    try simp only [Act.put, List.setIfInBounds_toArray, List.set_cons_zero, List.set_cons_succ]
                    refine held_take 45 rfl (by kernel_rfl) (by kernel_rfl) (by kernel_rfl) (fun _ _ _ h => h) hHeld (by rfl) (v := ?_) ?_ ?_
                    rotate_left
                    · intro w hSw; (try dsimp only at hSw); (try go_simp); (try with_reducible rfl)
                    try simp only [Act.put, List.setIfInBounds_toArray, List.set_cons_zero, List.set_cons_succ]
                    refine held_skip 46 rfl (by kernel_rfl) (by kernel_rfl) (by kernel_rfl) (fun _ _ _ h => h) hHeld (by rfl) ?_
                    try simp only [Act.put, List.setIfInBounds_toArray, List.set_cons_zero, List.set_cons_succ]
                    refine held_skip 47 rfl (by kernel_rfl) (by kernel_rfl) (by kernel_rfl) (fun _ _ _ h => h) hHeld (by rfl) ?_
                    try simp only [Act.put, List.setIfInBounds_toArray, List.set_cons_zero, List.set_cons_succ]
                    refine held_skip 48 rfl (by kernel_rfl) (by kernel_rfl) (by kernel_rfl) (fun _ _ _ h => h) hHeld (by rfl) ?_
                    try simp only [Act.put, List.setIfInBounds_toArray, List.set_cons_zero, List.set_cons_succ]
                    refine held_skip 49 rfl (by kernel_rfl) (by kernel_rfl) (by kernel_rfl) (fun _ _ _ h => h) hHeld (by rfl) ?_
                    try simp only [Act.put, List.setIfInBounds_toArray, List.set_cons_zero, List.set_cons_succ]
                    refine held_skip 50 rfl (by kernel_rfl) (by kernel_rfl) (by kernel_rfl) (fun _ _ _ h => h) hHeld (by rfl) ?_
                    try simp only [Act.put, List.setIfInBounds_toArray, List.set_cons_zero, List.set_cons_succ]
                    refine held_skip 51 rfl (by kernel_rfl) (by kernel_rfl) (by kernel_rfl) (fun _ _ _ h => h) hHeld (by rfl) ?_
                    try simp only [Act.put, List.setIfInBounds_toArray, List.set_cons_zero, List.set_cons_succ]
                    refine held_take 52 rfl (by kernel_rfl) (by kernel_rfl) (by kernel_rfl) (fun _ _ _ h => h) hHeld (by rfl) (v := ?_) ?_ ?_
                    rotate_left
                    · intro w hSw; (try dsimp only at hSw); (try go_simp); (try with_reducible rfl)
                    try simp only [Act.put, List.setIfInBounds_toArray, List.set_cons_zero, List.set_cons_succ]
                    refine held_take 53 rfl (by kernel_rfl) (by kernel_rfl) (by kernel_rfl) (fun _ _ _ h => h) hHeld (by rfl) (v := ?_) ?_ ?_
                    rotate_left
                    · intro w hSw; (try dsimp only at hSw); (try go_simp); (try with_reducible rfl)
                    try simp only [Act.put, List.setIfInBounds_toArray, List.set_cons_zero, List.set_cons_succ]
                    refine wpAnyH_done (by kernel_rfl) ?_ _
                    have HV9 := hid (HV7.out.alloc hHeld.1)
                    have HB9 := hid (HB7.out.trans (hHeld.1.mono HB7.out.size))
                    clear hHeld hS0
                    go_wp2
                    exact ⟨⟨j + 1, _, by omega, by go_num, rfl, hid (by rw [HAS.out, ← HSM.out, HTB.out]; rfl), HV9, HB9⟩, by simp [intOf]; omega⟩
            · have hsm : sm = true := by
                rw [HSM.out, List.take_of_length_le (by omega)]; exact HEX.out
              subst hsm
              obtain ⟨w8, hw8⟩ : ∃ w8, w8 = wr := ⟨_, rfl⟩
              subst hw8
              go_wp2_with fail
              refine (v_awake _).mono ?_; rintro e w9 ⟨rfl, hb9⟩
              have HB9 := hid (HV5.out.below.trans (hb9.mono HV5.out.sz))
              clear hb9
              go_wp2
              go_ret
              exact ⟨rfl, HB9.out⟩

end Go.Proofs.Ytakkdaenindboaa
