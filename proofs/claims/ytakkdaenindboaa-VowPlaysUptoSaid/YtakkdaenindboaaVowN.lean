import Derived.Test.YtakkdaenindboaaVowM
namespace Go.Proofs.Ytakkdaenindboaa
set_option linter.unusedVariables false
set_option linter.unusedSimpArgs false
open Go.RowKit
attribute [local go_sem ↓] Go.wp_at_zero Go.wp_at_succ
attribute [local go_sem] run_store_complex run_store_float

def firstK (ks : List Ky) : Ky := ks.headD ⟨0, ByteArray.empty⟩

set_option maxHeartbeats 400000 in
theorem first_key (v : Value) (ks : List Ky) (w : World) (hv : Rd w v ks.length (kyc ks)) :
    Calls Try.prog 17 #[v] w fun e w' => e = .returned (.agg #[.int .i64 (firstK ks).dir, .string (firstK ks).name]) ∧ Below w.heap.size w w' := by
  obtain ⟨a, c, rfl, _, _⟩ := hv.shape
  have hn := hv.len
  unfold maxLen at hn
  cases ks with
  | nil =>
    clear hv
    go_enter Try.func17, Try.ntmps17
    go_wp2
    refine bodyPost_ret (v := .agg #[.int .i64 0, .string ByteArray.empty]) (by simp [results, Try.results17, go_sem]; rfl) rfl ⟨rfl, ?_⟩
    first | exact bl1 w _ | exact ((bl1 w _).setCell (by simp) _).setCell (by simp) _
  | cons x ks =>
    obtain ⟨b, off, rfl⟩ := ks_loc hv (by simp)
    have c1 := ks_at hv (bl1 w (.cells #[.int .i64 0, .string { data := #[] }] 37)) (k := 0) (x := x) rfl
    have hb : b < w.heap.size := by
      have := ks_at hv (Below.refl _ _) (k := 0) (x := x) rfl
      exact World.block_lt_of_cell? w _ this.1
    simp only [Nat.zero_mul, Nat.add_zero] at c1
    have hpos : ((0 : Nat) < (x :: ks).length) := by simp
    have hl1 : (0 : Int) < ((x :: ks).length : Int) := by simp
    have hn0 : (((x :: ks).length : Int) == 0) = false := by rw [beq_eq_false_iff_ne, List.length_cons]; omega
    have hn1 : ((x :: ks).length == 0) = false := by simp
    generalize (x :: ks).length = n at hn hl1 hn0 hn1 hpos ⊢
    clear hv
    go_enter Try.func17, Try.ntmps17
    go_wp2
    refine bodyPost_ret (v := .agg #[.int .i64 x.dir, .string x.name]) (by simp [results, Try.results17, go_sem]) rfl ⟨rfl, ?_⟩
    first | exact bl1 w _ | exact ((bl1 w _).setCell (by simp) _).setCell (by simp) _

set_option maxHeartbeats 1000000 in
theorem in_key (v : Value) (L : List Ky) (d : Int) (s : ByteArray) (w : World) (hv : Rd w v L.length (kyc L)) :
    Calls Try.prog 18 #[v, .agg #[.int .i64 d, .string s]] w fun e w' => e = .returned (.bool (decide ((⟨d, s⟩ : Ky) ∈ L))) ∧ Below w.heap.size w w' := by
  have hlen := hv.len
  unfold maxLen at hlen
  obtain ⟨a, c, rfl, _, _⟩ := hv.shape
  have HV := hid hv
  have bx := blk2 (heap_new w (.cells #[.int .i64 d, .string s] 37))
  have HBX := hid (heap_new w (.cells #[.int .i64 d, .string s] 37))
  clear hv
  go_enter Try.func18, Try.ntmps18
  go_wp2_with fail
  go_loopw [5] (fun v8 wr => ∃ k : Nat, k ≤ L.length ∧ v8 = .int .i64 k ∧ Hid (⟨d, s⟩ ∉ L.take k) ∧ Hid (Dr (w.alloc (.cells #[.int .i64 d, .string s] 37)) wr)) (fun v8 _ => L.length - (intOf v8).toNat)
  case atStart => exact ⟨0, Nat.zero_le _, rfl, hid (by simp), hid (Dr.refl _)⟩
  case round =>
    obtain ⟨k, hk, rfl, HT, HDR⟩ := hrel
    by_cases hlt : k < L.length
    · obtain ⟨b, off, rfl⟩ := ks_loc HV.out (by omega)
      obtain ⟨x, hx⟩ : ∃ x, L[k]? = some x := ⟨_, List.getElem?_eq_getElem hlt⟩
      have c1 := ks_at HV.out ((bl1 w (.cells #[.int .i64 d, .string s] 37)).trans ((HDR.out.below w.heap.size))) hx
      have q0 := HDR.out.cell (blk2 HBX.out).1
      have q1 := HDR.out.cell (blk2 HBX.out).2.1
      have heq := fun W => eqIn_key x.dir d x.name s W
      have HX := hid hx
      have hk0 : (0 : Int) ≤ (k : Int) := by omega
      have hk1 : (k : Int) < (L.length : Int) := by omega
      clear hx
      by_cases he : (⟨x.dir, x.name⟩ : Ky) = ⟨d, s⟩
      · have HE := hid (decide_eq_true (show (⟨d, s⟩ : Ky) ∈ L by rw [← he]; exact List.mem_of_getElem? HX.out))
        simp only [decide_eq_true he] at heq
        clear he
        go_wp2_with fail
        go_quiet (fail)
        go_wp2
        go_ret
        exact ⟨by rw [HE.out]; rfl, below_drewN ((bl1 w _).trans (HDR.out.below _)) _⟩
      · have HE := hid (show (⟨d, s⟩ : Ky) ∉ L.take (k + 1) by
          rw [List.take_add_one, HX.out]; simp only [Option.toList_some, List.mem_append, List.mem_singleton, not_or]; exact ⟨HT.out, fun h => he h.symm⟩)
        simp only [decide_eq_false he] at heq
        clear he
        go_wp2_with fail
        go_quiet (fail)
        go_wp2
        exact ⟨⟨k + 1, by omega, by go_num, HE, hid (HDR.out.drewN _)⟩, by simp [intOf]; omega⟩
    · have HE := hid (decide_eq_false (show (⟨d, s⟩ : Ky) ∉ L by have := HT.out; rwa [List.take_of_length_le (by omega)] at this))
      go_wp2
      go_ret
      exact ⟨by rw [HE.out]; rfl, (bl1 w _).trans (HDR.out.below _)⟩

set_option maxHeartbeats 2000000 in
theorem same_keys_q (w : World) (L M : List Ky) (a1 a2 : Option Addr) (c1 c2 : Nat) (h1 : Rd w (.slice a1 L.length c1) L.length (kyc L)) (h2 : Rd w (.slice a2 M.length c2) M.length (kyc M)) (hLM : L = M) :
    Calls Try.prog 22 #[.slice a1 L.length c1, .slice a2 M.length c2] w fun e w' => e = .returned (.bool true) ∧ ∃ n, w' = w.drewN n := by
  subst hLM
  have H1 := hid h1
  have H2 := hid h2
  have hl1 := h1.len
  unfold maxLen at hl1
  clear h1 h2
  go_enter Try.func22, Try.ntmps22
  go_wp2_with fail
  go_loopw [5] (fun v wr => ∃ (i : Nat), i ≤ L.length ∧ v = .int .i64 i ∧ Hid (Dr w wr)) (fun v _ => L.length - (intOf v).toNat)
  case atStart => exact ⟨0, Nat.zero_le _, rfl, hid (Dr.refl _)⟩
  case round =>
    obtain ⟨i, hi, rfl, HB⟩ := hrel
    by_cases hlt : i < L.length
    · have hk0 : (0 : Int) ≤ (i : Int) := by omega
      have hk1 : (i : Int) < (L.length : Int) := by omega
      obtain ⟨b1, o1, rfl⟩ := ks_loc H1.out (by omega)
      obtain ⟨b2, o2, rfl⟩ := ks_loc H2.out (by omega)
      obtain ⟨x, hx⟩ : ∃ x, L[i]? = some x := ⟨_, List.getElem?_eq_getElem hlt⟩
      have P1 := ks_at H1.out (HB.out.below _) hx
      have P2 := ks_at H2.out (HB.out.below _) hx
      have heq := fun W => eqIn_key x.dir x.dir x.name x.name W
      simp only [decide_true] at heq
      clear hx
      go_wp2_with fail
      go_quiet (fail)
      go_wp2
      exact ⟨⟨i + 1, by omega, by go_num, hid (HB.out.drewN _)⟩, by simp [intOf]; omega⟩
    · go_wp2
      go_ret
      exact ⟨rfl, HB.out⟩

/-- breaks that may be read -/
structure BrAt (w : World) (v : Value) (R : List Bk) : Prop where
  row : Rd w v R.length (bkc R)
  each : ∀ x ∈ R, Rd w x.v x.ks.length (kyc x.ks)
theorem BrsAt.rd {w : World} {B : Nat} {a : Option Addr} {c : Nat} {R : List Bk} (h : BrsAt w B a c R) : BrAt w (.slice a R.length c) R :=
  ⟨Rd.own h.row, fun x hx => Rd.own (h.each x hx)⟩
theorem BrAt.below {w w' : World} {v : Value} {R : List Bk} (h : BrAt w v R) (hb : Below w.heap.size w w') : BrAt w' v R := ⟨h.row.below hb, fun x hx => (h.each x hx).below hb⟩

set_option maxHeartbeats 2000000 in
theorem same_brks (u v : Value) (R S : List Bk) (w : World) (hu : BrAt w u R) (hv : BrAt w v S) (he : R.map Bk.pl = S.map Bk.pl) (hm : ∀ x ∈ R, InM x.ep ∧ InM x.n) :
    Calls Try.prog 26 #[u, v] w fun e w' => e = .returned (.bool true) ∧ ∃ n, w' = w.drewN n := by
  have hl : R.length = S.length := by have := congrArg List.length he; simpa using this
  by_cases h0 : R.length = 0
  · obtain ⟨a1, c1, rfl, _, _⟩ := hu.row.shape
    obtain ⟨a2, c2, rfl, _, _⟩ := hv.row.shape
    have hb0 : S.length = 0 := by omega
    obtain rfl := List.eq_nil_of_length_eq_zero h0
    obtain rfl := List.eq_nil_of_length_eq_zero hb0
    clear hl h0 hb0 hu hv he hm
    go_enter Try.func26, Try.ntmps26
    go_wp2
    go_loop [5] (fun i => i = .int .i64 0) (fun _ => 0)
    case atStart => rfl
    case round =>
      obtain rfl := hrel
      go_wp2
      go_ret
      exact ⟨rfl, 0, rfl⟩
  · obtain ⟨b1, o1, c1, rfl, _, hc1, _, _⟩ := hu.row.form (by rw [bkc_len]; omega)
    obtain ⟨b2, o2, c2, rfl, _, hc2, _, _⟩ := hv.row.form (by rw [bkc_len]; omega)
    obtain ⟨n, hn⟩ : ∃ n, n = R.length := ⟨_, rfl⟩
    have hn2 : S.length = n := by omega
    have hmax : n ≤ 9223372036854775807 := by unfold maxLen at hc1; omega
    have hu' := hu.row
    have hv' := hv.row
    rw [← hn] at hu'
    rw [hn2] at hv'
    have EU := hid hu.each
    have EV := hid hv.each
    have EM := hid hm
    rw [hn2, ← hn]
    have E1 := hid hu'
    have E2 := hid hv'
    have HE := hid he
    have HN := hid hn
    have HN2 := hid hn2
    clear hn hn2 hl h0 hu hv he hu' hv' hm
    go_enter Try.func26, Try.ntmps26
    go_wp2
    go_loopw [5] (fun i wr => ∃ k : Nat, k ≤ n ∧ i = .int .i64 k ∧ Hid (Dr w wr)) (fun i _ => n - (intOf i).toNat)
    case atStart => exact ⟨0, Nat.zero_le _, rfl, hid (Dr.refl _)⟩
    case round =>
      obtain ⟨k, hk, rfl, HDR⟩ := hrel
      by_cases hlt : k < n
      · obtain ⟨x, hx⟩ : ∃ x, R[k]? = some x := ⟨_, List.getElem?_eq_getElem (by have := HN.out; omega)⟩
        obtain ⟨y, hy⟩ : ∃ y, S[k]? = some y := ⟨_, List.getElem?_eq_getElem (by have := HN2.out; omega)⟩
        have hxy : x.pl = y.pl := by
          have h3 : (R.map Bk.pl)[k]? = (S.map Bk.pl)[k]? := by rw [HE.out]
          rw [List.getElem?_map, List.getElem?_map, hx, hy] at h3
          simpa using h3
        have f1 := bks_at E1.out (HDR.out.below _) hx
        have f2 := bks_at E2.out (HDR.out.below _) hy
        have r1 := EU.out x (List.mem_of_getElem? hx)
        have r2 := EV.out y (List.mem_of_getElem? hy)
        have m1 := EM.out x (List.mem_of_getElem? hx)
        obtain ⟨xe, xn, xv, xl, xa, xc, xk⟩ := x
        obtain ⟨ye, yn, yv, yl, ya, yc, yk⟩ := y
        simp only [Bk.pl, Bp.mk.injEq] at hxy
        obtain ⟨rfl, rfl, rfl, rfl, rfl⟩ := hxy
        simp only [Bk.v] at r1 r2 f1 f2 m1
        have t1 : (FloatKind.f64.format.order (fl xe) (fl xe) == some .eq) = true := by rw [ord_M m1.1 m1.1, cmp_eq]; rfl
        have t2 : (FloatKind.f64.format.order (fl xn) (fl xn) == some .eq) = true := by rw [ord_M m1.2 m1.2, cmp_eq]; rfl
        have R1 := hid (HDR.out.rd r1)
        have R2 := hid (HDR.out.rd r2)
        have hk0 : (0 : Int) ≤ (k : Int) := by omega
        have hk1 : (k : Int) < (n : Int) := by omega
        clear hx hy r1 r2 m1
        go_wp2_with fail
        go_quiet ((go_at_call 22; exact Calls.quiet_of (same_keys_q _ xk xk _ _ _ _ (R1.out.drewN _) (R2.out.drewN _) rfl)))
        go_wp2
        exact ⟨⟨k + 1, by omega, by go_num, hid (HDR.out.drewN _)⟩, by simp [intOf]; omega⟩
      · go_wp2
        go_ret
        exact ⟨rfl, HDR.out⟩

end Go.Proofs.Ytakkdaenindboaa
