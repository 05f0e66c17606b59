import Derived.Test.YtakkdaenindboaaLibC
import Derived.Test.YtakkdaenindboaaVowA
import Derived.Test.YtakkdaenindboaaMarkC
namespace Go.Proofs.Ytakkdaenindboaa
set_option linter.unusedVariables false
set_option linter.unusedSimpArgs false
open Go.RowKit
attribute [local go_sem ↓] Go.wp_at_zero Go.wp_at_succ
attribute [local go_sem] run_store_complex run_store_float

/-- a break -/
structure Bk where
  ep : Int
  n : Int
  ver : Int
  all : Bool
  a : Option Addr
  c : Nat
  ks : List Ky
def Bk.v (x : Bk) : Value := .slice x.a x.ks.length x.c
def Bk.cells (x : Bk) : List Value := [.complex .f64 (fl x.ep) (fl x.n), .int .i64 x.ver, .bool x.all, .slice x.a x.ks.length x.c]
def bkc (L : List Bk) : List Value := L.flatMap Bk.cells
theorem bkc_len (L : List Bk) : (bkc L).length = L.length * 4 := flatMap_len (f := Bk.cells) (sz := 4) (fun _ => rfl) L
theorem bkc_append (L M : List Bk) : bkc (L ++ M) = bkc L ++ bkc M := by simp [bkc]
theorem bkc_one (L : List Bk) : ∀ u ∈ bkc L, u.oneCell' = true := by
  intro u hu
  simp only [bkc, List.mem_flatMap, Bk.cells] at hu
  obtain ⟨x, _, hx⟩ := hu
  simp at hx
  rcases hx with rfl | rfl | rfl | rfl <;> rfl
theorem infoBk : (Try.prog.info? 41).map (fun i => (i.zero, i.size, i.bytes)) = some (some (.agg #[.complex .f64 0 0, .int .i64 0, .bool false, .slice none 0 0]), 4, 56) := by kernel_rfl
theorem bks_at {w wr : World} {b off n c m : Nat} {L : List Bk} (h : Rd w (.slice (some ⟨b, off, none⟩) n c) m (bkc L)) (hb : Below w.heap.size w wr) {k : Nat} {x : Bk} (hx : L[k]? = some x) :
    wr.cell? ⟨b, off + k * 4, none⟩ = some (.complex .f64 (fl x.ep) (fl x.n)) ∧ wr.cell? ⟨b, off + k * 4 + 1, none⟩ = some (.int .i64 x.ver) ∧ wr.cell? ⟨b, off + k * 4 + 2, none⟩ = some (.bool x.all) ∧ wr.cell? ⟨b, off + k * 4 + 3, none⟩ = some (.slice x.a x.ks.length x.c) := by
  have h2 : ∀ (j : Nat) (v : Value), x.cells[j]? = some v → wr.cell? ⟨b, off + (k * 4 + j), none⟩ = some v := fun j v hj => h.cellB hb (flatMap_at (f := Bk.cells) (sz := 4) (fun _ => rfl) hx hj)
  exact ⟨h2 0 _ rfl, h2 1 _ rfl, h2 2 _ rfl, h2 3 _ rfl⟩

theorem ky_set : ∀ (X : List Ky) (k : Nat) (y : Ky), k < X.length → ((kyc X).set (k * 2) (.int .i64 y.dir)).set (k * 2 + 1) (.string y.name) = kyc (X.set k y)
  | [], k, y, h => by simp at h
  | x :: X, 0, y, h => by simp [kyc, Ky.cells]
  | x :: X, k + 1, y, h => by
    have ih := ky_set X k y (by simpa using h)
    have e : (k + 1) * 2 = k * 2 + 1 + 1 := by omega
    simp only [kyc, List.flatMap_cons, Ky.cells, List.cons_append, List.nil_append, e, List.set_cons_succ] at ih ⊢
    rw [ih]
theorem bk_set : ∀ (X : List Bk) (k : Nat) (y : Bk), k < X.length → ((((bkc X).set (k * 4) (.complex .f64 (fl y.ep) (fl y.n))).set (k * 4 + 1) (.int .i64 y.ver)).set (k * 4 + 2) (.bool y.all)).set (k * 4 + 3) (.slice y.a y.ks.length y.c) = bkc (X.set k y)
  | [], k, y, h => by simp at h
  | x :: X, 0, y, h => by simp [bkc, Bk.cells]
  | x :: X, k + 1, y, h => by
    have ih := bk_set X k y (by simpa using h)
    have e : (k + 1) * 4 = k * 4 + 1 + 1 + 1 + 1 := by omega
    simp only [bkc, List.flatMap_cons, Bk.cells, List.cons_append, List.nil_append, e, List.set_cons_succ, Nat.add_right_comm _ 1 2, Nat.add_right_comm _ 1 3] at ih ⊢
    rw [ih]

theorem flat_take {α : Type} (f : α → List Value) (sz : Nat) (hf : ∀ x, (f x).length = sz) (X : List α) (m : Nat) : (X.flatMap f).take (m * sz) = (X.take m).flatMap f := by
  induction X generalizing m with
  | nil => simp
  | cons x X ih =>
    cases m with
    | zero => simp
    | succ m =>
      rw [List.flatMap_cons, List.take_succ_cons, List.flatMap_cons, ← ih m, List.take_append, hf, Nat.add_mul, Nat.one_mul, Nat.add_sub_cancel, List.take_of_length_le (by rw [hf]; omega)]

theorem filter_snoc_no {α : Type} {p : α → Bool} {L : List α} {k : Nat} {x : α} (hx : L[k]? = some x) (hp : p x = false) : (L.take (k + 1)).filter p = (L.take k).filter p := by
  rw [List.take_add_one, hx]; simp [hp]
theorem filter_snoc_yes {α : Type} {p : α → Bool} {L : List α} {k : Nat} {x : α} (hx : L[k]? = some x) (hp : p x = true) : (L.take (k + 1)).filter p = (L.take k).filter p ++ [x] := by
  rw [List.take_add_one, hx]; simp [hp]
theorem filter_take_le {α : Type} (p : α → Bool) (L : List α) (k : Nat) : ((L.take k).filter p).length ≤ k := by
  have := List.length_filter_le p (L.take k)
  rw [List.length_take] at this; omega
theorem take_set_snoc {α : Type} {X : List α} {m : Nat} {x : α} (hm : m < X.length) : (X.set m x).take (m + 1) = X.take m ++ [x] := by
  rw [List.take_add_one, List.take_set_of_le (Nat.le_refl _), List.getElem?_set_self hm]; rfl
theorem drop_set_lt {α : Type} {X : List α} {m j : Nat} {x : α} (h : m < j) : (X.set m x).drop j = X.drop j := List.drop_set_of_lt h


set_option maxHeartbeats 1000000 in
theorem indexFunc_key (v : Value) (L : List Ky) (del : Ky → Bool) (q : Nat) (bx : Obj) (w : World) (hv : Rd w v L.length (kyc L)) (hq : w.heap[q]? = some bx)
    (hcl : ∀ (x : Ky) (W : World), x ∈ L → W.heap[q]? = some bx → Calls Try.prog 52 #[.agg #[.int .i64 x.dir, .string x.name], .pointer (some ⟨q, 0, none⟩)] W fun e w' => e = .returned (.bool (del x)) ∧ Below W.heap.size W w') :
    Calls Try.prog 60 #[v, .func (.func 52) #[] #[.pointer (some ⟨q, 0, none⟩)]] w fun e w' => (∃ k : Nat, k < L.length ∧ e = .returned (.int .i64 k) ∧ Hid ((L.take k).filter (fun x => !del x) = L.take k) ∧ Hid (∀ x, L[k]? = some x → del x = true) ∧ Below w.heap.size w w') ∨ (e = .returned (.int .i64 (-1)) ∧ Hid (L.filter (fun x => !del x) = L) ∧ Below w.heap.size w w') := by
  have hlen := hv.len
  unfold maxLen at hlen
  obtain ⟨a, c, rfl, _, _⟩ := hv.shape
  have HV := hid hv
  have HQ := hid hq
  have HC := hid hcl
  clear hv hq hcl
  go_enter Try.func60, Try.ntmps60
  go_wp2_with fail
  go_loopw [8] (fun v8 wr => ∃ k : Nat, k ≤ L.length ∧ v8 = .int .i64 k ∧ Hid ((L.take k).filter (fun x => !del x) = L.take k) ∧ Hid (Below w.heap.size w wr)) (fun v8 _ => L.length - (intOf v8).toNat)
  case atStart => exact ⟨0, Nat.zero_le _, rfl, hid (by simp), hid (Below.refl _ _)⟩
  case round =>
    obtain ⟨k, hk, rfl, HT, HB⟩ := hrel
    by_cases hlt : k < L.length
    · obtain ⟨b, off, rfl⟩ : ∃ b off, a = some ⟨b, off, none⟩ := by
        obtain ⟨b, off, cap, hv', _⟩ := HV.out.form (by rw [kyc_len]; omega)
        simp only [Value.slice.injEq] at hv'
        exact ⟨b, off, hv'.1⟩
      obtain ⟨x, hx⟩ : ∃ x, L[k]? = some x := ⟨_, List.getElem?_eq_getElem hlt⟩
      have c1 := ks_at HV.out HB.out hx
      have HX := hid hx
      have hm := List.mem_of_getElem? hx
      have HM := hid hm
      have HQr := hid (heap_below HB.out HQ.out (blk_lt HQ.out))
      have hk0 : (0 : Int) ≤ (k : Int) := by omega
      have hk1 : (k : Int) < (L.length : Int) := by omega
      clear hx hm
      cases hd : del x with
      | true =>
        have HD := hid hd
        clear hd
        go_wp2_with (go_at_call 52; refine (HC.out x _ HM.out HQr.out).mono ?_; rintro e w1 ⟨rfl, hb1⟩; rw [HD.out])
        go_ret
        exact .inl ⟨k, hlt, rfl, HT, hid (fun y hy => by rw [HX.out] at hy; cases hy; exact HD.out), HB.out.trans (hb1.mono HB.out.size)⟩
      | false =>
        have HD := hid hd
        have HN := hid (show (L.take (k + 1)).filter (fun x => !del x) = L.take (k + 1) by rw [filter_snoc_yes HX.out (by simp [hd]), HT.out, List.take_add_one, HX.out]; rfl)
        clear hd
        go_wp2_with (go_at_call 52; refine (HC.out x _ HM.out HQr.out).mono ?_; rintro e w1 ⟨rfl, hb1⟩; rw [HD.out])
        exact ⟨⟨k + 1, by omega, by go_num, HN, hid (HB.out.trans (hb1.mono HB.out.size))⟩, by simp [intOf]; omega⟩
    · have HE := hid (show L.filter (fun x => !del x) = L by have := HT.out; rwa [List.take_of_length_le (by omega)] at this)
      go_wp2
      go_ret
      exact .inr ⟨rfl, HE, HB.out⟩

set_option maxHeartbeats 2000000 in
theorem deleteFunc_key (B : Nat) (a : Option Addr) (c : Nat) (L : List Ky) (del : Ky → Bool) (q : Nat) (bx : Obj) (w : World) (hv : w.ownsRow B 37 2 (.slice a L.length c) L.length (kyc L)) (hq : w.heap[q]? = some bx) (hqa : a.map (·.block) ≠ some q) (hBw : B ≤ w.heap.size)
    (hcl : ∀ (x : Ky) (W : World), x ∈ L → W.heap[q]? = some bx → Calls Try.prog 52 #[.agg #[.int .i64 x.dir, .string x.name], .pointer (some ⟨q, 0, none⟩)] W fun e w' => e = .returned (.bool (del x)) ∧ Below W.heap.size W w') :
    Calls Try.prog 51 #[.slice a L.length c, .func (.func 52) #[] #[.pointer (some ⟨q, 0, none⟩)]] w fun e w' => ∃ M, M = L.filter (fun x => !del x) ∧ e = .returned (.slice a M.length c) ∧ Hid (w'.ownsRow B 37 2 (.slice a M.length c) M.length (kyc M)) ∧ Chg (fun k => a.map (·.block) = some k) w w' := by
  have hlen := (Rd.own hv).len
  have HV := hid hv
  have HQ := hid hq
  have HC := hid hcl
  clear hv hq hcl
  unfold maxLen at hlen
  go_enter Try.func51, Try.ntmps51
  go_wp2_with fail
  refine (indexFunc_key _ L del q bx _ (Rd.own HV.out) HQ.out HC.out).mono ?_
  rintro e w1 (⟨k0, hk0, rfl, HT0, HD0, hb1⟩ | ⟨rfl, HE, hb1⟩)
  · obtain ⟨g, rfl, hBg, hgz, hc1, hc2⟩ := own_loc HV.out (by omega)
    unfold maxLen at hc2
    have hqg : ¬ g = q := fun e => hqa (by rw [e]; rfl)
    have HV1 := hid (own_below HV.out hb1)
    have HQ1 := hid (heap_below hb1 HQ.out (blk_lt HQ.out))
    have HB1 := hid (show Chg (fun k => k = g) w w1 from Chg.mono (Chg.below hb1) (fun _ _ h => h.elim))
    have hne : ((k0 : Int) == -1) = false := by rw [beq_eq_false_iff_ne]; omega
    obtain ⟨D, hD⟩ : ∃ D : Ky → Bool, D = fun x => !del x := ⟨_, rfl⟩
    rw [← hD] at HT0
    have HDD := hid hD
    clear hb1 hD
    obtain ⟨x0, hx0⟩ : ∃ x, L[k0]? = some x := ⟨_, List.getElem?_eq_getElem hk0⟩
    have hst : ((L.take (k0 + 1)).filter D) = L.take k0 := by
      rw [filter_snoc_no hx0 (by rw [HDD.out]; simp [HD0.out x0 hx0]), HT0.out]
    have HST := hid hst
    have hk0' : ((L.take (k0 + 1)).filter D).length = k0 := by rw [hst, List.length_take]; omega
    have HK0 := hid hk0'
    clear hst hx0 hk0'
    go_wp2_with fail
    go_loopw [5, 6, 7] (fun v5 v6 v7 wr => ∃ (j m : Nat) (X : List Ky), j ≤ L.length ∧ m < j ∧ v5 = .int .i64 m ∧ v6 = .int .i64 j ∧ Hid (X.length = L.length) ∧ Hid (m = ((L.take j).filter D).length) ∧ Hid (X.take m = (L.take j).filter D) ∧ Hid (X.drop j = L.drop j) ∧
      Hid (wr.ownsRow B 37 2 (.slice (some ⟨g, 0, none⟩) L.length c) L.length (kyc X)) ∧ Hid (Chg (fun k => k = g) w wr)) (fun _ v6 _ _ => L.length - (intOf v6).toNat)
    case atStart => exact ⟨k0 + 1, k0, L, by omega, by omega, rfl, by go_num, hid rfl, hid HK0.out.symm, hid (by rw [HST.out]), hid rfl, HV1, HB1⟩
    case round =>
      obtain ⟨j, m, X, hj, hmj, rfl, rfl, HXL, HM, HTK, HDR, HO, HCH⟩ := hrel
      have hsz := HCH.out.size
      by_cases hlt : j < L.length
      · obtain ⟨x, hx⟩ : ∃ x, L[j]? = some x := ⟨_, List.getElem?_eq_getElem hlt⟩
        have hxX : X[j]? = some x := by
          have h1 : (X.drop j)[0]? = (L.drop j)[0]? := by rw [HDR.out]
          simpa [List.getElem?_drop, hx] using h1
        have c1 := ks_at (Rd.own HO.out) (Below.refl _ _) hxX
        simp only [Nat.zero_add] at c1
        have HX := hid hx
        have hmm := List.mem_of_getElem? hx
        have HMM := hid hmm
        have HQr := hid (heap_old (heap_chg HCH.out HQ.out (fun e => hqg e.symm)) (.cells #[.int .i64 x.dir, .string x.name] 37))
        have HBX := hid (heap_new wr (.cells #[.int .i64 x.dir, .string x.name] 37))
        have bbx := blk2 HBX.out
        have hj0 : (0 : Int) ≤ (j : Int) := by omega
        have hj1 : (j : Int) < (L.length : Int) := by omega
        have hm0 : (0 : Int) ≤ (m : Int) := by omega
        have hm1 : (m : Int) < (L.length : Int) := by omega
        clear hx hxX hmm
        cases hd : del x with
        | true =>
          have HD := hid hd
          have HN := hid (filter_snoc_no (p := D) HX.out (by rw [HDD.out]; simp [hd]))
          clear hd
          go_wp2_with (go_at_call 52; refine (HC.out x _ HMM.out HQr.out).mono ?_; rintro e w2 ⟨rfl, hb2⟩; rw [HD.out])
          refine ⟨⟨j + 1, m, X, by omega, by omega, rfl, by go_num, HXL, hid (by rw [HN.out]; exact HM.out), hid (by rw [HN.out]; exact HTK.out), hid (by rw [← List.drop_drop, HDR.out, List.drop_drop]), ?_, ?_⟩, by simp [intOf]; omega⟩
          · exact hid (own_below (own_alloc HO.out _) hb2)
          · exact hid ((HCH.out.alloc _).trans (Chg.below hb2) (fun _ _ h => h) (fun _ _ h => h.elim))
        | false =>
          have HD := hid hd
          have HN := hid (filter_snoc_yes (p := D) HX.out (by rw [HDD.out]; simp [hd]))
          obtain ⟨cur, hcur⟩ := own_type HO.out rfl
          have HCUR := hid hcur
          have hglt := blk_lt hcur
          clear hd hcur
          go_wp2_with (go_at_call 52; refine (HC.out x _ HMM.out HQr.out).mono ?_; rintro e w2 ⟨rfl, hb2⟩; rw [HD.out]; (have K2 := hid (heap_below hb2 HBX.out (by simp))); (have b2 := blk2 K2.out); (have G2 := hid (heap_below hb2 (heap_old HCUR.out _) (by simp; omega))); (have hfz := fun i => blk_free G2.out i); (have O2 := hid (own_below (own_alloc HO.out (.cells #[.int .i64 x.dir, .string x.name] 37)) hb2)); (have CH2 := hid ((HCH.out.alloc (.cells #[.int .i64 x.dir, .string x.name] 37)).trans (Chg.below hb2) (fun _ _ h => h) (fun _ _ h => h.elim))); (obtain ⟨d0, d1⟩ : ∃ d0 d1 : True, True := ⟨trivial, trivial, trivial⟩); (have hcs := fun (i : Nat) (hi : i < L.length * 2) => (Rd.own O2.out).at i _ (List.getElem?_eq_getElem (show i < (kyc X).length by rw [kyc_len, HXL.out]; exact hi))); (have e0 := hcs (m * 2) (by omega)); simp only [Nat.zero_add] at e0; (have e1 := hcs (m * 2 + 1) (by omega)); simp only [Nat.zero_add] at e1)
          have o3 := own_setc (own_setc (O2.out) (m * 2) (.int .i64 x.dir)) (m * 2 + 1) (.string x.name)
          rw [ky_set X m x (by have := HXL.out; omega)] at o3
          refine ⟨⟨j + 1, m + 1, X.set m x, by omega, by omega, by go_num, by go_num, hid (by rw [List.length_set]; exact HXL.out), hid ?_, hid ?_, hid ?_, hid o3, hid ?_⟩, by simp [intOf]; omega⟩
          · rw [HN.out, List.length_append, ← HM.out]; rfl
          · rw [take_set_snoc (by have := HXL.out; omega), HN.out, HTK.out]
          · rw [drop_set_lt (by omega), ← List.drop_drop, HDR.out, List.drop_drop]
          · exact (Chg.setCell ((Chg.setCell (CH2.out) ⟨g, m * 2, none⟩ (.int .i64 x.dir) (.inl rfl))) ⟨g, m * 2 + 1, none⟩ (.string x.name) (.inl rfl))
      · have hjL : j = L.length := by omega
        have HF := hid (show X.take m = L.filter D by rw [HTK.out, List.take_of_length_le (by omega)])
        have hmL : m < L.length := by omega
        have hm1 : (m : Int) ≤ (L.length : Int) := by omega
        have hm2 : (m : Int) ≤ (c : Int) := by omega
        have hm3 : (L.length : Int) ≤ (c : Int) := by omega
        have hcm : ¬ c = m := by omega
        have hm0 : (0 : Int) ≤ (m : Int) := by omega
        go_wp2_with (refine wpList_clear_own rfl (.tmp 38) 28 rfl 37 _ 2 Try.underlying28 Try.zeroValue37 rfl (by decide) B g L.length c m (kyc X) HO.out (by omega) _ _ _ rfl rfl (fun _ => rfl) ?_; intro w5 HO5 HCH5)
        go_ret
        have hMl : (L.filter D).length = m := by rw [← HF.out, List.length_take]; have := HXL.out; omega
        refine ⟨L.filter D, by rw [HDD.out], by rw [hMl]; rfl, hid ?_, ?_⟩
        · rw [hMl, ← HF.out]
          have h5 := HO5.out
          rw [show (kyc X).take (m * 2) = kyc (X.take m) from flat_take Ky.cells 2 (fun _ => rfl) _ _] at h5
          exact h5
        · have h6 := HCH.out.trans HCH5 (H := fun k => k = g) (fun _ _ h => h) (fun _ _ h => h)
          exact h6.mono (fun i _ hi => by subst hi; rfl)
  · have HV1 := hid (own_below HV.out hb1)
    go_wp2
    go_ret
    exact ⟨L, HE.out.symm, rfl, HV1, Chg.mono (Chg.below hb1) (fun _ _ h => h.elim)⟩

set_option maxHeartbeats 1000000 in
theorem indexFunc_brk (v : Value) (L : List Bk) (del : Bk → Bool) (q : Nat) (bx : Obj) (w : World) (hv : Rd w v L.length (bkc L)) (hq : w.heap[q]? = some bx)
    (hcl : ∀ (x : Bk) (W : World), x ∈ L → W.heap[q]? = some bx → Calls Try.prog 44 #[.agg #[.complex .f64 (fl x.ep) (fl x.n), .int .i64 x.ver, .bool x.all, .slice x.a x.ks.length x.c], .pointer (some ⟨q, 0, none⟩)] W fun e w' => e = .returned (.bool (del x)) ∧ Below W.heap.size W w') :
    Calls Try.prog 56 #[v, .func (.func 44) #[] #[.pointer (some ⟨q, 0, none⟩)]] w fun e w' => (∃ k : Nat, k < L.length ∧ e = .returned (.int .i64 k) ∧ Hid ((L.take k).filter (fun x => !del x) = L.take k) ∧ Hid (∀ x, L[k]? = some x → del x = true) ∧ Below w.heap.size w w') ∨ (e = .returned (.int .i64 (-1)) ∧ Hid (L.filter (fun x => !del x) = L) ∧ Below w.heap.size w w') := by
  have hlen := hv.len
  unfold maxLen at hlen
  obtain ⟨a, c, rfl, _, _⟩ := hv.shape
  have HV := hid hv
  have HQ := hid hq
  have HC := hid hcl
  clear hv hq hcl
  go_enter Try.func56, Try.ntmps56
  go_wp2_with fail
  go_loopw [8] (fun v8 wr => ∃ k : Nat, k ≤ L.length ∧ v8 = .int .i64 k ∧ Hid ((L.take k).filter (fun x => !del x) = L.take k) ∧ Hid (Below w.heap.size w wr)) (fun v8 _ => L.length - (intOf v8).toNat)
  case atStart => exact ⟨0, Nat.zero_le _, rfl, hid (by simp), hid (Below.refl _ _)⟩
  case round =>
    obtain ⟨k, hk, rfl, HT, HB⟩ := hrel
    by_cases hlt : k < L.length
    · obtain ⟨b, off, rfl⟩ : ∃ b off, a = some ⟨b, off, none⟩ := by
        obtain ⟨b, off, cap, hv', _⟩ := HV.out.form (by rw [bkc_len]; omega)
        simp only [Value.slice.injEq] at hv'
        exact ⟨b, off, hv'.1⟩
      obtain ⟨x, hx⟩ : ∃ x, L[k]? = some x := ⟨_, List.getElem?_eq_getElem hlt⟩
      have c1 := bks_at HV.out HB.out hx
      have HX := hid hx
      have hm := List.mem_of_getElem? hx
      have HM := hid hm
      have HQr := hid (heap_below HB.out HQ.out (blk_lt HQ.out))
      have hk0 : (0 : Int) ≤ (k : Int) := by omega
      have hk1 : (k : Int) < (L.length : Int) := by omega
      clear hx hm
      cases hd : del x with
      | true =>
        have HD := hid hd
        clear hd
        go_wp2_with (go_at_call 44; refine (HC.out x _ HM.out HQr.out).mono ?_; rintro e w1 ⟨rfl, hb1⟩; rw [HD.out])
        go_ret
        exact .inl ⟨k, hlt, rfl, HT, hid (fun y hy => by rw [HX.out] at hy; cases hy; exact HD.out), HB.out.trans (hb1.mono HB.out.size)⟩
      | false =>
        have HD := hid hd
        have HN := hid (show (L.take (k + 1)).filter (fun x => !del x) = L.take (k + 1) by rw [filter_snoc_yes HX.out (by simp [hd]), HT.out, List.take_add_one, HX.out]; rfl)
        clear hd
        go_wp2_with (go_at_call 44; refine (HC.out x _ HM.out HQr.out).mono ?_; rintro e w1 ⟨rfl, hb1⟩; rw [HD.out])
        exact ⟨⟨k + 1, by omega, by go_num, HN, hid (HB.out.trans (hb1.mono HB.out.size))⟩, by simp [intOf]; omega⟩
    · have HE := hid (show L.filter (fun x => !del x) = L by have := HT.out; rwa [List.take_of_length_le (by omega)] at this)
      go_wp2
      go_ret
      exact .inr ⟨rfl, HE, HB.out⟩

set_option maxHeartbeats 2000000 in
theorem deleteFunc_brk (B : Nat) (a : Option Addr) (c : Nat) (L : List Bk) (del : Bk → Bool) (q : Nat) (bx : Obj) (w : World) (hv : w.ownsRow B 41 4 (.slice a L.length c) L.length (bkc L)) (hq : w.heap[q]? = some bx) (hqa : a.map (·.block) ≠ some q) (hBw : B ≤ w.heap.size)
    (hcl : ∀ (x : Bk) (W : World), x ∈ L → W.heap[q]? = some bx → Calls Try.prog 44 #[.agg #[.complex .f64 (fl x.ep) (fl x.n), .int .i64 x.ver, .bool x.all, .slice x.a x.ks.length x.c], .pointer (some ⟨q, 0, none⟩)] W fun e w' => e = .returned (.bool (del x)) ∧ Below W.heap.size W w') :
    Calls Try.prog 43 #[.slice a L.length c, .func (.func 44) #[] #[.pointer (some ⟨q, 0, none⟩)]] w fun e w' => ∃ M, M = L.filter (fun x => !del x) ∧ e = .returned (.slice a M.length c) ∧ Hid (w'.ownsRow B 41 4 (.slice a M.length c) M.length (bkc M)) ∧ Chg (fun k => a.map (·.block) = some k) w w' := by
  have hlen := (Rd.own hv).len
  have HV := hid hv
  have HQ := hid hq
  have HC := hid hcl
  clear hv hq hcl
  unfold maxLen at hlen
  go_enter Try.func43, Try.ntmps43
  go_wp2_with fail
  refine (indexFunc_brk _ L del q bx _ (Rd.own HV.out) HQ.out HC.out).mono ?_
  rintro e w1 (⟨k0, hk0, rfl, HT0, HD0, hb1⟩ | ⟨rfl, HE, hb1⟩)
  · obtain ⟨g, rfl, hBg, hgz, hc1, hc2⟩ := own_loc HV.out (by omega)
    unfold maxLen at hc2
    have hqg : ¬ g = q := fun e => hqa (by rw [e]; rfl)
    have HV1 := hid (own_below HV.out hb1)
    have HQ1 := hid (heap_below hb1 HQ.out (blk_lt HQ.out))
    have HB1 := hid (show Chg (fun k => k = g) w w1 from Chg.mono (Chg.below hb1) (fun _ _ h => h.elim))
    have hne : ((k0 : Int) == -1) = false := by rw [beq_eq_false_iff_ne]; omega
    obtain ⟨D, hD⟩ : ∃ D : Bk → Bool, D = fun x => !del x := ⟨_, rfl⟩
    rw [← hD] at HT0
    have HDD := hid hD
    clear hb1 hD
    obtain ⟨x0, hx0⟩ : ∃ x, L[k0]? = some x := ⟨_, List.getElem?_eq_getElem hk0⟩
    have hst : ((L.take (k0 + 1)).filter D) = L.take k0 := by
      rw [filter_snoc_no hx0 (by rw [HDD.out]; simp [HD0.out x0 hx0]), HT0.out]
    have HST := hid hst
    have hk0' : ((L.take (k0 + 1)).filter D).length = k0 := by rw [hst, List.length_take]; omega
    have HK0 := hid hk0'
    clear hst hx0 hk0'
    go_wp2_with fail
    go_loopw [5, 6, 7] (fun v5 v6 v7 wr => ∃ (j m : Nat) (X : List Bk), j ≤ L.length ∧ m < j ∧ v5 = .int .i64 m ∧ v6 = .int .i64 j ∧ Hid (X.length = L.length) ∧ Hid (m = ((L.take j).filter D).length) ∧ Hid (X.take m = (L.take j).filter D) ∧ Hid (X.drop j = L.drop j) ∧
      Hid (wr.ownsRow B 41 4 (.slice (some ⟨g, 0, none⟩) L.length c) L.length (bkc X)) ∧ Hid (Chg (fun k => k = g) w wr)) (fun _ v6 _ _ => L.length - (intOf v6).toNat)
    case atStart => exact ⟨k0 + 1, k0, L, by omega, by omega, rfl, by go_num, hid rfl, hid HK0.out.symm, hid (by rw [HST.out]), hid rfl, HV1, HB1⟩
    case round =>
      obtain ⟨j, m, X, hj, hmj, rfl, rfl, HXL, HM, HTK, HDR, HO, HCH⟩ := hrel
      have hsz := HCH.out.size
      by_cases hlt : j < L.length
      · obtain ⟨x, hx⟩ : ∃ x, L[j]? = some x := ⟨_, List.getElem?_eq_getElem hlt⟩
        have hxX : X[j]? = some x := by
          have h1 : (X.drop j)[0]? = (L.drop j)[0]? := by rw [HDR.out]
          simpa [List.getElem?_drop, hx] using h1
        have c1 := bks_at (Rd.own HO.out) (Below.refl _ _) hxX
        simp only [Nat.zero_add] at c1
        have HX := hid hx
        have hmm := List.mem_of_getElem? hx
        have HMM := hid hmm
        have HQr := hid (heap_old (heap_chg HCH.out HQ.out (fun e => hqg e.symm)) (.cells #[.complex .f64 (fl x.ep) (fl x.n), .int .i64 x.ver, .bool x.all, .slice x.a x.ks.length x.c] 41))
        have HBX := hid (heap_new wr (.cells #[.complex .f64 (fl x.ep) (fl x.n), .int .i64 x.ver, .bool x.all, .slice x.a x.ks.length x.c] 41))
        have bbx := blk4 HBX.out
        have hj0 : (0 : Int) ≤ (j : Int) := by omega
        have hj1 : (j : Int) < (L.length : Int) := by omega
        have hm0 : (0 : Int) ≤ (m : Int) := by omega
        have hm1 : (m : Int) < (L.length : Int) := by omega
        clear hx hxX hmm
        cases hd : del x with
        | true =>
          have HD := hid hd
          have HN := hid (filter_snoc_no (p := D) HX.out (by rw [HDD.out]; simp [hd]))
          clear hd
          go_wp2_with (go_at_call 44; refine (HC.out x _ HMM.out HQr.out).mono ?_; rintro e w2 ⟨rfl, hb2⟩; rw [HD.out])
          refine ⟨⟨j + 1, m, X, by omega, by omega, rfl, by go_num, HXL, hid (by rw [HN.out]; exact HM.out), hid (by rw [HN.out]; exact HTK.out), hid (by rw [← List.drop_drop, HDR.out, List.drop_drop]), ?_, ?_⟩, by simp [intOf]; omega⟩
          · exact hid (own_below (own_alloc HO.out _) hb2)
          · exact hid ((HCH.out.alloc _).trans (Chg.below hb2) (fun _ _ h => h) (fun _ _ h => h.elim))
        | false =>
          have HD := hid hd
          have HN := hid (filter_snoc_yes (p := D) HX.out (by rw [HDD.out]; simp [hd]))
          obtain ⟨cur, hcur⟩ := own_type HO.out rfl
          have HCUR := hid hcur
          have hglt := blk_lt hcur
          clear hd hcur
          go_wp2_with (go_at_call 44; refine (HC.out x _ HMM.out HQr.out).mono ?_; rintro e w2 ⟨rfl, hb2⟩; rw [HD.out]; (have K2 := hid (heap_below hb2 HBX.out (by simp))); (have b2 := blk4 K2.out); (have G2 := hid (heap_below hb2 (heap_old HCUR.out _) (by simp; omega))); (have hfz := fun i => blk_free G2.out i); (have O2 := hid (own_below (own_alloc HO.out (.cells #[.complex .f64 (fl x.ep) (fl x.n), .int .i64 x.ver, .bool x.all, .slice x.a x.ks.length x.c] 41)) hb2)); (have CH2 := hid ((HCH.out.alloc (.cells #[.complex .f64 (fl x.ep) (fl x.n), .int .i64 x.ver, .bool x.all, .slice x.a x.ks.length x.c] 41)).trans (Chg.below hb2) (fun _ _ h => h) (fun _ _ h => h.elim))); (obtain ⟨d0, d1⟩ : ∃ d0 d1 : True, True := ⟨trivial, trivial, trivial⟩); (have hcs := fun (i : Nat) (hi : i < L.length * 4) => (Rd.own O2.out).at i _ (List.getElem?_eq_getElem (show i < (bkc X).length by rw [bkc_len, HXL.out]; exact hi))); (have e0 := hcs (m * 4) (by omega)); simp only [Nat.zero_add] at e0; (have e1 := hcs (m * 4 + 1) (by omega)); simp only [Nat.zero_add] at e1; (have e2 := hcs (m * 4 + 2) (by omega)); simp only [Nat.zero_add] at e2; (have e3 := hcs (m * 4 + 3) (by omega)); simp only [Nat.zero_add] at e3)
          have o3 := own_setc (own_setc (own_setc (own_setc (O2.out) (m * 4) (.complex .f64 (fl x.ep) (fl x.n))) (m * 4 + 1) (.int .i64 x.ver)) (m * 4 + 2) (.bool x.all)) (m * 4 + 3) (.slice x.a x.ks.length x.c)
          rw [bk_set X m x (by have := HXL.out; omega)] at o3
          refine ⟨⟨j + 1, m + 1, X.set m x, by omega, by omega, by go_num, by go_num, hid (by rw [List.length_set]; exact HXL.out), hid ?_, hid ?_, hid ?_, hid o3, hid ?_⟩, by simp [intOf]; omega⟩
          · rw [HN.out, List.length_append, ← HM.out]; rfl
          · rw [take_set_snoc (by have := HXL.out; omega), HN.out, HTK.out]
          · rw [drop_set_lt (by omega), ← List.drop_drop, HDR.out, List.drop_drop]
          · exact (Chg.setCell ((Chg.setCell ((Chg.setCell ((Chg.setCell (CH2.out) ⟨g, m * 4, none⟩ (.complex .f64 (fl x.ep) (fl x.n)) (.inl rfl))) ⟨g, m * 4 + 1, none⟩ (.int .i64 x.ver) (.inl rfl))) ⟨g, m * 4 + 2, none⟩ (.bool x.all) (.inl rfl))) ⟨g, m * 4 + 3, none⟩ (.slice x.a x.ks.length x.c) (.inl rfl))
      · have hjL : j = L.length := by omega
        have HF := hid (show X.take m = L.filter D by rw [HTK.out, List.take_of_length_le (by omega)])
        have hmL : m < L.length := by omega
        have hm1 : (m : Int) ≤ (L.length : Int) := by omega
        have hm2 : (m : Int) ≤ (c : Int) := by omega
        have hm3 : (L.length : Int) ≤ (c : Int) := by omega
        have hcm : ¬ c = m := by omega
        have hm0 : (0 : Int) ≤ (m : Int) := by omega
        go_wp2_with (refine wpList_clear_own rfl (.tmp 38) 31 rfl 41 _ 4 Try.underlying31 Try.zeroValue41 rfl (by decide) B g L.length c m (bkc X) HO.out (by omega) _ _ _ rfl rfl (fun _ => rfl) ?_; intro w5 HO5 HCH5)
        go_ret
        have hMl : (L.filter D).length = m := by rw [← HF.out, List.length_take]; have := HXL.out; omega
        refine ⟨L.filter D, by rw [HDD.out], by rw [hMl]; rfl, hid ?_, ?_⟩
        · rw [hMl, ← HF.out]
          have h5 := HO5.out
          rw [show (bkc X).take (m * 4) = bkc (X.take m) from flat_take Bk.cells 4 (fun _ => rfl) _ _] at h5
          exact h5
        · have h6 := HCH.out.trans HCH5 (H := fun k => k = g) (fun _ _ h => h) (fun _ _ h => h)
          exact h6.mono (fun i _ hi => by subst hi; rfl)
  · have HV1 := hid (own_below HV.out hb1)
    go_wp2
    go_ret
    exact ⟨L, HE.out.symm, rfl, HV1, Chg.mono (Chg.below hb1) (fun _ _ h => h.elim)⟩

end Go.Proofs.Ytakkdaenindboaa
