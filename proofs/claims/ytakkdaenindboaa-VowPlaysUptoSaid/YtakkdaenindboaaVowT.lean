import Derived.Test.YtakkdaenindboaaVowU
import Derived.Test.YtakkdaenindboaaVowQ
import Derived.Test.YtakkdaenindboaaLibG
namespace Go.Proofs.Ytakkdaenindboaa
set_option linter.unusedVariables false
set_option linter.unusedSimpArgs false
open Go.RowKit
attribute [local go_sem ↓] Go.wp_at_zero Go.wp_at_succ
attribute [local go_sem] run_store_complex run_store_float

/-- two tables that came behind w, apart from each other -/
structure V2 (w wr : World) (F : Nat → Prop) (p : Nat) (t : Ts) (G : Nat → Prop) (q : Nat) (u : Ts) : Prop where
  a : VS w wr F p t
  b : VS w wr G q u
  apart : ∀ k, F k → ¬ G k
section
variable {w wr w' : World} {F G : Nat → Prop} {p q : Nat} {t u : Ts}
theorem V2.alloc (h : V2 w wr F p t G q u) (hb : Below wr.heap.size wr w') : V2 w w' F p t G q u := ⟨h.a.alloc hb, h.b.alloc hb, h.apart⟩
theorem V2.flip (h : V2 w wr F p t G q u) : V2 w wr G q u F p t := ⟨h.b, h.a, fun k hg hf => h.apart k hf hg⟩
theorem V2.brk1 (h : V2 w wr F p t G q u) {r : Ts × List Bp} {e : Ending} (hp : BrkPost wr F p r e w') : ∃ (F' : Nat → Prop) (a : Option Addr) (c : Nat) (R : List Bk), e = .returned (.slice a R.length c) ∧ V2 w w' F' p r.1 G q u ∧ R.map Bk.pl = r.2 ∧ BrsAt w' wr.heap.size a c R ∧ BrsOut a R F' ∧ Chg F wr w' := by
  obtain ⟨F', a, c, R, he, hs, hR, hB, hO, hC, hF⟩ := h.a.brk hp
  refine ⟨F', a, c, R, he, ⟨hs, ⟨h.b.v.chg hC (fun k hg hf => h.apart k hf hg), h.b.lo, hs.below⟩, fun k hk hg => ?_⟩, hR, hB, hO, hC⟩
  rcases hF k hk with h1 | h1
  · exact h.apart k h1 hg
  · have := h.b.v.lt k hg; omega
theorem V2.brk2 (h : V2 w wr F p t G q u) {r : Ts × List Bp} {e : Ending} (hp : BrkPost wr G q r e w') : ∃ (G' : Nat → Prop) (a : Option Addr) (c : Nat) (R : List Bk), e = .returned (.slice a R.length c) ∧ V2 w w' F p t G' q r.1 ∧ R.map Bk.pl = r.2 ∧ BrsAt w' wr.heap.size a c R ∧ BrsOut a R G' ∧ Chg G wr w' := by
  obtain ⟨F', a, c, R, he, hs, r1⟩ := h.flip.brk1 hp
  exact ⟨F', a, c, R, he, hs.flip, r1⟩
end

/-- two tables that differ in their epochs alone -/
structure Sim (t u : Ts) : Prop where
  n : u.n = t.n
  P : u.P = t.P
  Q : u.Q = t.Q
  ks : u.ks = t.ks
  qs : u.qs.length = t.qs.length
theorem brk_sim {t u : Ts} (h : Sim t u) (K : List Ky) (ver : Int) : Sim (brkT t K ver).1 (brkT u K ver).1 ∧ (brkT u K ver).2.length = (brkT t K ver).2.length := by
  obtain ⟨h1, h2, h3, h4, h5⟩ := h
  by_cases hn : t.n < 1099511627776
  · by_cases hq : t.Q ≤ (t.qs.length : Int)
    · rw [brkT_all hn hq, brkT_all (by omega) (by omega)]
      exact ⟨⟨by show u.n + 1 = t.n + 1; omega, h2, h3, rfl, rfl⟩, rfl⟩
    · rw [brkT_add hn hq, brkT_add (by omega) (by omega)]
      exact ⟨⟨by show u.n + 1 = t.n + 1; omega, h2, h3, h4, by simp [h5]⟩, rfl⟩
  · rw [brkT_end hn, brkT_end (by omega)]
    exact ⟨⟨h1, h2, h3, rfl, rfl⟩, rfl⟩
theorem touch_sim {t u : Ts} (h : Sim t u) (K : List Ky) (ver : Int) : Sim (touchT t K ver).1 (touchT u K ver).1 ∧ (touchT u K ver).2.length = (touchT t K ver).2.length := by
  obtain ⟨e, n, P, Q, ks, qs⟩ := t
  obtain ⟨e', n', P', Q', ks', qs'⟩ := u
  obtain ⟨h1, h2, h3, h4, h5⟩ := h
  simp only at h1 h2 h3 h4 h5
  subst h1 h2 h3 h4
  unfold touchT
  by_cases hT : K.filter (tellB ks') = []
  · rw [if_pos hT, if_pos hT]; exact ⟨⟨rfl, rfl, rfl, rfl, h5⟩, rfl⟩
  · rw [if_neg hT, if_neg hT]; exact brk_sim (t := ⟨e, n', P', Q', relAll ks' (K.filter (tellB ks')), qs⟩) (u := ⟨e', n', P', Q', relAll ks' (K.filter (tellB ks')), qs'⟩) ⟨rfl, rfl, rfl, rfl, h5⟩ _ _
theorem grant_sim {t u : Ts} (h : Sim t u) (k : Ky) (ver : Int) : Sim (grantT t k ver).1 (grantT u k ver).1 ∧ (grantT u k ver).2.length = (grantT t k ver).2.length := by
  obtain ⟨e, n, P, Q, ks, qs⟩ := t
  obtain ⟨e', n', P', Q', ks', qs'⟩ := u
  obtain ⟨h1, h2, h3, h4, h5⟩ := h
  simp only at h1 h2 h3 h4 h5
  subst h1 h2 h3 h4
  unfold grantT
  simp only
  split
  · exact ⟨⟨rfl, rfl, rfl, rfl, h5⟩, rfl⟩
  · exact brk_sim (t := ⟨e, n', P', Q', _, qs⟩) (u := ⟨e', n', P', Q', _, qs'⟩) ⟨rfl, rfl, rfl, rfl, h5⟩ _ _

theorem map_len {R : List Bk} {L : List Bp} (h : R.map Bk.pl = L) : R.length = L.length := by rw [← h, List.length_map]

theorem below_drew1 (w : World) : Below w.heap.size w w.drew := (Below.refl _ _).drew
theorem scv2 {w wr : World} {b off sc : Nat} {S : List Vop} (h : ScrV w (.slice (some ⟨b, off, none⟩) S.length sc) S) (hb : Below w.heap.size w wr) {k : Nat} {x : Vop} (hx : S[k]? = some x) :
    wr.cell? ⟨b, off + k * 5 + 4, none⟩ = some (.slice x.a x.ks.length x.c) ∧ wr.cell? ⟨b, off + k * 5 + 1, none⟩ = some (.int .i64 x.ver) := by
  have := scrV_at h hb hx
  exact ⟨this.2.2.2.2, this.2.1⟩

set_option maxRecDepth 100000 in
set_option maxHeartbeats 16000000 in
theorem vowLate_walk (ep pr qu : Int) (sa : Option Addr) (sc : Nat) (S : List Vop) (w : World) (hS : ScrV w (.slice sa S.length sc) S) (hz : S.length * 56 ≤ 140737488351232) (hkz : ∀ x ∈ S, x.ks.length * 24 ≤ 140737488351232) :
    Calls Try.prog 5 #[.int .i64 ep, .int .i64 pr, .int .i64 qu, .slice sa S.length sc] w fun e w' => e = .returned (.bool true) ∧ Below w.heap.size w w' := by
  have HS := hid hS
  have HKZ := hid hkz
  clear hS hkz
  obtain ⟨P0, hP0⟩ : ∃ P0 : Int, pr % 9 = P0 := ⟨_, rfl⟩
  obtain ⟨Q0, hQ0⟩ : ∃ Q0 : Int, qu % 9 = Q0 := ⟨_, rfl⟩
  have hp1 : 0 ≤ P0 := by have := Int.emod_nonneg pr (show (9 : Int) ≠ 0 by omega); omega
  have hp2 : P0 < 9 := by have := Int.emod_lt_of_pos pr (show (0 : Int) < 9 by omega); omega
  have hq1 : 0 ≤ Q0 := by have := Int.emod_nonneg qu (show (9 : Int) ≠ 0 by omega); omega
  have hq2 : Q0 < 9 := by have := Int.emod_lt_of_pos qu (show (0 : Int) < 9 by omega); omega
  have HP0 := hid hP0
  have HQ0 := hid hQ0
  clear hP0 hQ0
  go_enter Try.func5, Try.ntmps5
  go_wp2_with fail
  refine (place_pos pr 9 _ (by omega) (by omega)).mono ?_; rintro e wx ⟨rfl, rfl⟩
  rw [HP0.out]
  go_wp2_with fail
  refine (place_pos qu 9 _ (by omega) (by omega)).mono ?_; rintro e wx ⟨rfl, rfl⟩
  rw [HQ0.out]
  go_wp2_with fail
  refine (v_new_yes _ 1099511627776 (1 + P0) (1 + Q0) ⟨⟨by decide, by decide⟩, ⟨by omega, by omega⟩, by omega, by omega⟩).mono ?_
  rintro e w1 ⟨rfl, hv1, hb1⟩
  have HS1 := hid (show VS w w1 (fun k => k = w.heap.size) w.heap.size ⟨1099511627776, 0, 1 + P0, 1 + Q0, [], []⟩ from ⟨hv1, fun k hk => by omega, hb1⟩)
  clear hv1 hb1
  go_wp2_with fail
  refine (v_mark _ _ _ _ HS1.out.v).mono ?_; rintro e wx ⟨rfl, rfl⟩
  go_wp2_with fail
  refine (law_mark _ _ _).mono ?_; rintro e wx ⟨rfl, rfl⟩
  have t1 := ord_M (a := 1099511627776) (b := 1099511627776) ⟨by decide, by decide⟩ ⟨by decide, by decide⟩
  have t2 := ord_M (a := 0) (b := 0) ⟨by decide, by decide⟩ ⟨by decide, by decide⟩
  rw [cmp_eq] at t1 t2
  go_wp2_with fail
  refine (place_pos pr 9 _ (by omega) (by omega)).mono ?_; rintro e wx ⟨rfl, rfl⟩
  rw [HP0.out]
  go_wp2_with fail
  refine (place_pos qu 9 _ (by omega) (by omega)).mono ?_; rintro e wx ⟨rfl, rfl⟩
  rw [HQ0.out]
  go_wp2_with fail
  by_cases hE : InM ep
  · refine (v_new_yes _ ep (1 + P0) (1 + Q0) ⟨hE, ⟨by omega, by omega⟩, by omega, by omega⟩).mono ?_
    rintro e w2 ⟨rfl, hv2, hb2⟩
    have HV := hid (show V2 w w2 (fun k => k = w.heap.size) w.heap.size ⟨1099511627776, 0, 1 + P0, 1 + Q0, [], []⟩ (fun k => k = w1.heap.size) w1.heap.size ⟨ep, 0, 1 + P0, 1 + Q0, [], []⟩ from
      ⟨HS1.out.alloc hb2, ⟨hv2, fun k hk => by have := HS1.out.sz; omega, HS1.out.below.trans (hb2.mono HS1.out.sz)⟩, fun k h1 h2 => by have := HS1.out.v.lt _ rfl; omega⟩)
    obtain ⟨q0, hq0⟩ : ∃ q0, q0 = w1.heap.size := ⟨_, rfl⟩
    rw [← hq0] at HV
    rw [← hq0]
    clear hv2 hb2 hq0 t1 t2
    go_wp2_with fail
    go_loopw [13] (fun v13 wr => ∃ (i : Nat) (F G : Nat → Prop) (t u : Ts), i ≤ S.length ∧ v13 = .int .i64 i ∧ Hid (V2 w wr F w.heap.size t G q0 u) ∧ Hid (Sim t u)) (fun v13 _ => S.length - (intOf v13).toNat)
    case atStart => exact ⟨0, _, _, _, _, by omega, rfl, HV, hid ⟨rfl, rfl, rfl, rfl, rfl⟩⟩
    case round =>
      obtain ⟨i, F, G, t, u, hi, rfl, HV, HSI⟩ := hrel
      by_cases hlt : i < S.length
      · obtain ⟨b, off, rfl⟩ := HS.out.loc (by omega)
        obtain ⟨x, hx⟩ : ∃ x, S[i]? = some x := ⟨_, List.getElem?_eq_getElem hlt⟩
        have hmem : x ∈ S := List.mem_of_getElem? hx
        have HX := hid hx
        have HKL := hid (HKZ.out x hmem)
        have HKR := hid (show Rd w (.slice x.a x.ks.length x.c) x.ks.length (kyc x.ks) from HS.out.each x hmem)
        have hi0 : (0 : Int) ≤ (i : Int) := by omega
        have hi1 : (i : Int) < (S.length : Int) := by omega
        clear hx hmem
        go_wp2_with fail
        have hV10 := HV.out.alloc (below_drew1 _)
        have hS0 := scv2 HS.out hV10.a.below HX.out
        refine held_start (fun w' => w'.cell? ⟨b, off + i * 5 + 4, none⟩ = some (.slice x.a x.ks.length x.c) ∧ w'.cell? ⟨b, off + i * 5 + 1, none⟩ = some (.int .i64 x.ver)) (by kernel_rfl) ?_ (fun hHeld => ?_)
        · first | exact hS0 | exact hSA1 | exact hSB1
        refine held_take 0 rfl (by kernel_rfl) (by kernel_rfl) (by kernel_rfl) (fun _ _ _ h => h) hHeld (by rfl) (v := ?_) ?_ ?_
        rotate_left
        · intro w hSw; (try dsimp only at hSw); (try go_simp); (try with_reducible rfl)
        try simp only [Act.put, List.setIfInBounds_toArray, List.set_cons_zero, List.set_cons_succ]
        refine held_take 1 rfl (by kernel_rfl) (by kernel_rfl) (by kernel_rfl) (fun _ _ _ h => h) hHeld (by rfl) (v := ?_) ?_ ?_
        rotate_left
        · intro w hSw; (try dsimp only at hSw); (try go_simp); (try with_reducible rfl)
        try simp only [Act.put, List.setIfInBounds_toArray, List.set_cons_zero, List.set_cons_succ]
        refine held_take 2 rfl (by kernel_rfl) (by kernel_rfl) (by kernel_rfl) (fun _ _ _ h => h) hHeld (by rfl) (v := ?_) ?_ ?_
        rotate_left
        · intro w hSw; (try dsimp only at hSw); (try go_simp); (try with_reducible rfl)
        try simp only [Act.put, List.setIfInBounds_toArray, List.set_cons_zero, List.set_cons_succ]
        refine held_take 3 rfl (by kernel_rfl) (by kernel_rfl) (by kernel_rfl) (fun _ _ _ h => h) hHeld (by rfl) (v := ?_) ?_ ?_
        rotate_left
        · intro w hSw; (try dsimp only at hSw); (try go_simp); (try with_reducible rfl)
        try simp only [Act.put, List.setIfInBounds_toArray, List.set_cons_zero, List.set_cons_succ]
        refine held_take 4 rfl (by kernel_rfl) (by kernel_rfl) (by kernel_rfl) (fun _ _ _ h => h) hHeld (by rfl) (v := ?_) ?_ ?_
        rotate_left
        · intro w hSw; (try dsimp only at hSw); (try go_simp); (try with_reducible rfl)
        try simp only [Act.put, List.setIfInBounds_toArray, List.set_cons_zero, List.set_cons_succ]
        refine held_take 5 rfl (by kernel_rfl) (by kernel_rfl) (by kernel_rfl) (fun _ _ _ h => h) hHeld (by rfl) (v := ?_) ?_ ?_
        rotate_left
        · intro w hSw; (try dsimp only at hSw); (try go_simp); (try with_reducible rfl)
        try simp only [Act.put, List.setIfInBounds_toArray, List.set_cons_zero, List.set_cons_succ]
        refine held_take 7 rfl (by kernel_rfl) (by kernel_rfl) (by kernel_rfl) (fun _ _ _ h => h) hHeld (by rfl) (v := ?_) ?_ ?_
        rotate_left
        · intro w hSw; (try dsimp only at hSw); (try go_simp); (try with_reducible rfl)
        try simp only [Act.put, List.setIfInBounds_toArray, List.set_cons_zero, List.set_cons_succ]
        refine held_take 8 rfl (by kernel_rfl) (by kernel_rfl) (by kernel_rfl) (fun _ _ _ h => h) hHeld (by rfl) (v := ?_) ?_ ?_
        rotate_left
        · intro w hSw; (try dsimp only at hSw); (try go_simp); (try with_reducible rfl)
        try simp only [Act.put, List.setIfInBounds_toArray, List.set_cons_zero, List.set_cons_succ]
        refine held_take 9 rfl (by kernel_rfl) (by kernel_rfl) (by kernel_rfl) (fun _ _ _ h => h) hHeld (by rfl) (v := ?_) ?_ ?_
        rotate_left
        · intro w hSw; (try dsimp only at hSw); (try go_simp); (try with_reducible rfl)
        try simp only [Act.put, List.setIfInBounds_toArray, List.set_cons_zero, List.set_cons_succ]
        refine held_take 10 rfl (by kernel_rfl) (by kernel_rfl) (by kernel_rfl) (fun _ _ _ h => h) hHeld (by rfl) (v := ?_) ?_ ?_
        rotate_left
        · intro w hSw; (try dsimp only at hSw); (try go_simp); (try with_reducible rfl)
        try simp only [Act.put, List.setIfInBounds_toArray, List.set_cons_zero, List.set_cons_succ]
        refine held_take 11 rfl (by kernel_rfl) (by kernel_rfl) (by kernel_rfl) (fun _ _ _ h => h) hHeld (by rfl) (v := ?_) ?_ ?_
        rotate_left
        · intro w hSw; (try dsimp only at hSw); (try go_simp); (try with_reducible rfl)
        try simp only [Act.put, List.setIfInBounds_toArray, List.set_cons_zero, List.set_cons_succ]
        refine held_step 6 rfl (by kernel_rfl) (by rfl) (fun Kx hK => ?_)
        go_simp
        go_at_call 15; refine (copyKeys_any (.slice x.a x.ks.length x.c) x.ks _ (HKR.out.below hV10.a.below) HKL.out).mono ?_; rintro e wc1 ⟨ca1, cc1, rfl, ho1, hb1⟩; have hV1a := hV10.alloc hb1; have hO1 := hid (Rd.own ho1); clear ho1 hb1; have hSA1 := scv2 HS.out hV1a.a.below HX.out
        refine hK.out _ _ ?_ (fun hHeld2 => ?_)
        · (try dsimp only); first | exact hS0 | exact hSA1 | exact hSB1
        clear hK Kx hHeld
        have hHeld := hHeld2
        clear hHeld2
        try simp only [Act.put, List.setIfInBounds_toArray, List.set_cons_zero, List.set_cons_succ]
        refine held_step 12 rfl (by kernel_rfl) (by rfl) (fun Kx hK => ?_)
        go_simp
        go_at_call 14; refine (t_touch _ _ _ _ _ x.ks x.ver hV1a.a.v hO1.out (by have := HKL.out; omega)).mono ?_; rintro e wd1 hp1; obtain ⟨F1, a1, c1, R1, rfl, hV1b, hR1, hB1, hO1', hC1⟩ := hV1a.brk1 hp1; clear hp1 hB1 hO1' hC1; have hSB1 := scv2 HS.out hV1b.a.below HX.out
        refine hK.out _ _ ?_ (fun hHeld2 => ?_)
        · (try dsimp only); first | exact hS0 | exact hSA1 | exact hSB1
        clear hK Kx hHeld
        have hHeld := hHeld2
        clear hHeld2
        try simp only [Act.put, List.setIfInBounds_toArray, List.set_cons_zero, List.set_cons_succ]
        refine held_take 13 rfl (by kernel_rfl) (by kernel_rfl) (by kernel_rfl) (fun _ _ _ h => h) hHeld (by rfl) (v := ?_) ?_ ?_
        rotate_left
        · intro w hSw; (try dsimp only at hSw); (try go_simp); (try with_reducible rfl)
        try simp only [Act.put, List.setIfInBounds_toArray, List.set_cons_zero, List.set_cons_succ]
        refine wpAnyH_done (by kernel_rfl) ?_ _
        clear hHeld
        go_wp2_with fail
        have hV20 := hV1b.alloc (below_drew1 _)
        have hS1 := scv2 HS.out hV20.a.below HX.out
        refine held_start (fun w' => w'.cell? ⟨b, off + i * 5 + 4, none⟩ = some (.slice x.a x.ks.length x.c) ∧ w'.cell? ⟨b, off + i * 5 + 1, none⟩ = some (.int .i64 x.ver)) (by kernel_rfl) ?_ (fun hHeld => ?_)
        · first | exact hS1 | exact hSA2 | exact hSB2
        refine held_take 0 rfl (by kernel_rfl) (by kernel_rfl) (by kernel_rfl) (fun _ _ _ h => h) hHeld (by rfl) (v := ?_) ?_ ?_
        rotate_left
        · intro w hSw; (try dsimp only at hSw); (try go_simp); (try with_reducible rfl)
        try simp only [Act.put, List.setIfInBounds_toArray, List.set_cons_zero, List.set_cons_succ]
        refine held_take 1 rfl (by kernel_rfl) (by kernel_rfl) (by kernel_rfl) (fun _ _ _ h => h) hHeld (by rfl) (v := ?_) ?_ ?_
        rotate_left
        · intro w hSw; (try dsimp only at hSw); (try go_simp); (try with_reducible rfl)
        try simp only [Act.put, List.setIfInBounds_toArray, List.set_cons_zero, List.set_cons_succ]
        refine held_take 2 rfl (by kernel_rfl) (by kernel_rfl) (by kernel_rfl) (fun _ _ _ h => h) hHeld (by rfl) (v := ?_) ?_ ?_
        rotate_left
        · intro w hSw; (try dsimp only at hSw); (try go_simp); (try with_reducible rfl)
        try simp only [Act.put, List.setIfInBounds_toArray, List.set_cons_zero, List.set_cons_succ]
        refine held_take 3 rfl (by kernel_rfl) (by kernel_rfl) (by kernel_rfl) (fun _ _ _ h => h) hHeld (by rfl) (v := ?_) ?_ ?_
        rotate_left
        · intro w hSw; (try dsimp only at hSw); (try go_simp); (try with_reducible rfl)
        try simp only [Act.put, List.setIfInBounds_toArray, List.set_cons_zero, List.set_cons_succ]
        refine held_take 4 rfl (by kernel_rfl) (by kernel_rfl) (by kernel_rfl) (fun _ _ _ h => h) hHeld (by rfl) (v := ?_) ?_ ?_
        rotate_left
        · intro w hSw; (try dsimp only at hSw); (try go_simp); (try with_reducible rfl)
        try simp only [Act.put, List.setIfInBounds_toArray, List.set_cons_zero, List.set_cons_succ]
        refine held_take 5 rfl (by kernel_rfl) (by kernel_rfl) (by kernel_rfl) (fun _ _ _ h => h) hHeld (by rfl) (v := ?_) ?_ ?_
        rotate_left
        · intro w hSw; (try dsimp only at hSw); (try go_simp); (try with_reducible rfl)
        try simp only [Act.put, List.setIfInBounds_toArray, List.set_cons_zero, List.set_cons_succ]
        refine held_take 7 rfl (by kernel_rfl) (by kernel_rfl) (by kernel_rfl) (fun _ _ _ h => h) hHeld (by rfl) (v := ?_) ?_ ?_
        rotate_left
        · intro w hSw; (try dsimp only at hSw); (try go_simp); (try with_reducible rfl)
        try simp only [Act.put, List.setIfInBounds_toArray, List.set_cons_zero, List.set_cons_succ]
        refine held_take 8 rfl (by kernel_rfl) (by kernel_rfl) (by kernel_rfl) (fun _ _ _ h => h) hHeld (by rfl) (v := ?_) ?_ ?_
        rotate_left
        · intro w hSw; (try dsimp only at hSw); (try go_simp); (try with_reducible rfl)
        try simp only [Act.put, List.setIfInBounds_toArray, List.set_cons_zero, List.set_cons_succ]
        refine held_take 9 rfl (by kernel_rfl) (by kernel_rfl) (by kernel_rfl) (fun _ _ _ h => h) hHeld (by rfl) (v := ?_) ?_ ?_
        rotate_left
        · intro w hSw; (try dsimp only at hSw); (try go_simp); (try with_reducible rfl)
        try simp only [Act.put, List.setIfInBounds_toArray, List.set_cons_zero, List.set_cons_succ]
        refine held_take 10 rfl (by kernel_rfl) (by kernel_rfl) (by kernel_rfl) (fun _ _ _ h => h) hHeld (by rfl) (v := ?_) ?_ ?_
        rotate_left
        · intro w hSw; (try dsimp only at hSw); (try go_simp); (try with_reducible rfl)
        try simp only [Act.put, List.setIfInBounds_toArray, List.set_cons_zero, List.set_cons_succ]
        refine held_take 11 rfl (by kernel_rfl) (by kernel_rfl) (by kernel_rfl) (fun _ _ _ h => h) hHeld (by rfl) (v := ?_) ?_ ?_
        rotate_left
        · intro w hSw; (try dsimp only at hSw); (try go_simp); (try with_reducible rfl)
        try simp only [Act.put, List.setIfInBounds_toArray, List.set_cons_zero, List.set_cons_succ]
        refine held_step 6 rfl (by kernel_rfl) (by rfl) (fun Kx hK => ?_)
        go_simp
        go_at_call 15; refine (copyKeys_any (.slice x.a x.ks.length x.c) x.ks _ (HKR.out.below hV20.a.below) HKL.out).mono ?_; rintro e wc2 ⟨ca2, cc2, rfl, ho2, hb2⟩; have hV2a := hV20.alloc hb2; have hO2 := hid (Rd.own ho2); clear ho2 hb2; have hSA2 := scv2 HS.out hV2a.a.below HX.out
        refine hK.out _ _ ?_ (fun hHeld2 => ?_)
        · (try dsimp only); first | exact hS1 | exact hSA2 | exact hSB2
        clear hK Kx hHeld
        have hHeld := hHeld2
        clear hHeld2
        try simp only [Act.put, List.setIfInBounds_toArray, List.set_cons_zero, List.set_cons_succ]
        refine held_step 12 rfl (by kernel_rfl) (by rfl) (fun Kx hK => ?_)
        go_simp
        go_at_call 14; refine (t_touch _ _ _ _ _ x.ks x.ver hV2a.b.v hO2.out (by have := HKL.out; omega)).mono ?_; rintro e wd2 hp2; obtain ⟨F2, a2, c2, R2, rfl, hV2b, hR2, hB2, hO2', hC2⟩ := hV2a.brk2 hp2; clear hp2 hB2 hO2' hC2; have hSB2 := scv2 HS.out hV2b.a.below HX.out
        refine hK.out _ _ ?_ (fun hHeld2 => ?_)
        · (try dsimp only); first | exact hS1 | exact hSA2 | exact hSB2
        clear hK Kx hHeld
        have hHeld := hHeld2
        clear hHeld2
        try simp only [Act.put, List.setIfInBounds_toArray, List.set_cons_zero, List.set_cons_succ]
        refine held_take 13 rfl (by kernel_rfl) (by kernel_rfl) (by kernel_rfl) (fun _ _ _ h => h) hHeld (by rfl) (v := ?_) ?_ ?_
        rotate_left
        · intro w hSw; (try dsimp only at hSw); (try go_simp); (try with_reducible rfl)
        try simp only [Act.put, List.setIfInBounds_toArray, List.set_cons_zero, List.set_cons_succ]
        refine wpAnyH_done (by kernel_rfl) ?_ _
        clear hHeld
        go_wp2_with fail
        have hV30 := hV2b.alloc (below_drew1 _)
        have hS2 := scv2 HS.out hV30.a.below HX.out
        refine held_start (fun w' => w'.cell? ⟨b, off + i * 5 + 4, none⟩ = some (.slice x.a x.ks.length x.c) ∧ w'.cell? ⟨b, off + i * 5 + 1, none⟩ = some (.int .i64 x.ver)) (by kernel_rfl) ?_ (fun hHeld => ?_)
        · first | exact hS2 | exact hSA3 | exact hSB3
        refine held_take 0 rfl (by kernel_rfl) (by kernel_rfl) (by kernel_rfl) (fun _ _ _ h => h) hHeld (by rfl) (v := ?_) ?_ ?_
        rotate_left
        · intro w hSw; (try dsimp only at hSw); (try go_simp); (try with_reducible rfl)
        try simp only [Act.put, List.setIfInBounds_toArray, List.set_cons_zero, List.set_cons_succ]
        refine held_take 1 rfl (by kernel_rfl) (by kernel_rfl) (by kernel_rfl) (fun _ _ _ h => h) hHeld (by rfl) (v := ?_) ?_ ?_
        rotate_left
        · intro w hSw; (try dsimp only at hSw); (try go_simp); (try with_reducible rfl)
        try simp only [Act.put, List.setIfInBounds_toArray, List.set_cons_zero, List.set_cons_succ]
        refine held_take 2 rfl (by kernel_rfl) (by kernel_rfl) (by kernel_rfl) (fun _ _ _ h => h) hHeld (by rfl) (v := ?_) ?_ ?_
        rotate_left
        · intro w hSw; (try dsimp only at hSw); (try go_simp); (try with_reducible rfl)
        try simp only [Act.put, List.setIfInBounds_toArray, List.set_cons_zero, List.set_cons_succ]
        refine held_take 3 rfl (by kernel_rfl) (by kernel_rfl) (by kernel_rfl) (fun _ _ _ h => h) hHeld (by rfl) (v := ?_) ?_ ?_
        rotate_left
        · intro w hSw; (try dsimp only at hSw); (try go_simp); (try with_reducible rfl)
        try simp only [Act.put, List.setIfInBounds_toArray, List.set_cons_zero, List.set_cons_succ]
        refine held_take 4 rfl (by kernel_rfl) (by kernel_rfl) (by kernel_rfl) (fun _ _ _ h => h) hHeld (by rfl) (v := ?_) ?_ ?_
        rotate_left
        · intro w hSw; (try dsimp only at hSw); (try go_simp); (try with_reducible rfl)
        try simp only [Act.put, List.setIfInBounds_toArray, List.set_cons_zero, List.set_cons_succ]
        refine held_take 5 rfl (by kernel_rfl) (by kernel_rfl) (by kernel_rfl) (fun _ _ _ h => h) hHeld (by rfl) (v := ?_) ?_ ?_
        rotate_left
        · intro w hSw; (try dsimp only at hSw); (try go_simp); (try with_reducible rfl)
        try simp only [Act.put, List.setIfInBounds_toArray, List.set_cons_zero, List.set_cons_succ]
        refine held_take 7 rfl (by kernel_rfl) (by kernel_rfl) (by kernel_rfl) (fun _ _ _ h => h) hHeld (by rfl) (v := ?_) ?_ ?_
        rotate_left
        · intro w hSw; (try dsimp only at hSw); (try go_simp); (try with_reducible rfl)
        try simp only [Act.put, List.setIfInBounds_toArray, List.set_cons_zero, List.set_cons_succ]
        refine held_take 8 rfl (by kernel_rfl) (by kernel_rfl) (by kernel_rfl) (fun _ _ _ h => h) hHeld (by rfl) (v := ?_) ?_ ?_
        rotate_left
        · intro w hSw; (try dsimp only at hSw); (try go_simp); (try with_reducible rfl)
        try simp only [Act.put, List.setIfInBounds_toArray, List.set_cons_zero, List.set_cons_succ]
        refine held_take 9 rfl (by kernel_rfl) (by kernel_rfl) (by kernel_rfl) (fun _ _ _ h => h) hHeld (by rfl) (v := ?_) ?_ ?_
        rotate_left
        · intro w hSw; (try dsimp only at hSw); (try go_simp); (try with_reducible rfl)
        try simp only [Act.put, List.setIfInBounds_toArray, List.set_cons_zero, List.set_cons_succ]
        refine held_take 10 rfl (by kernel_rfl) (by kernel_rfl) (by kernel_rfl) (fun _ _ _ h => h) hHeld (by rfl) (v := ?_) ?_ ?_
        rotate_left
        · intro w hSw; (try dsimp only at hSw); (try go_simp); (try with_reducible rfl)
        try simp only [Act.put, List.setIfInBounds_toArray, List.set_cons_zero, List.set_cons_succ]
        refine held_take 11 rfl (by kernel_rfl) (by kernel_rfl) (by kernel_rfl) (fun _ _ _ h => h) hHeld (by rfl) (v := ?_) ?_ ?_
        rotate_left
        · intro w hSw; (try dsimp only at hSw); (try go_simp); (try with_reducible rfl)
        try simp only [Act.put, List.setIfInBounds_toArray, List.set_cons_zero, List.set_cons_succ]
        refine held_step 6 rfl (by kernel_rfl) (by rfl) (fun Kx hK => ?_)
        go_simp
        go_at_call 17; refine (first_key (.slice x.a x.ks.length x.c) x.ks _ (HKR.out.below hV30.a.below)).mono ?_; rintro e wc3 ⟨rfl, hb3⟩; have hV3a := hV30.alloc hb3; clear hb3; have hSA3 := scv2 HS.out hV3a.a.below HX.out
        refine hK.out _ _ ?_ (fun hHeld2 => ?_)
        · (try dsimp only); first | exact hS2 | exact hSA3 | exact hSB3
        clear hK Kx hHeld
        have hHeld := hHeld2
        clear hHeld2
        try simp only [Act.put, List.setIfInBounds_toArray, List.set_cons_zero, List.set_cons_succ]
        refine held_step 12 rfl (by kernel_rfl) (by rfl) (fun Kx hK => ?_)
        go_simp
        go_at_call 16; refine (t_grant _ _ _ _ (firstK x.ks).dir (firstK x.ks).name x.ver hV3a.a.v).mono ?_; rintro e wd3 hp3; obtain ⟨F3, a3, c3, R3, rfl, hV3b, hR3, hB3, hO3', hC3⟩ := hV3a.brk1 hp3; clear hp3 hB3 hO3' hC3; have hSB3 := scv2 HS.out hV3b.a.below HX.out
        refine hK.out _ _ ?_ (fun hHeld2 => ?_)
        · (try dsimp only); first | exact hS2 | exact hSA3 | exact hSB3
        clear hK Kx hHeld
        have hHeld := hHeld2
        clear hHeld2
        try simp only [Act.put, List.setIfInBounds_toArray, List.set_cons_zero, List.set_cons_succ]
        refine held_take 13 rfl (by kernel_rfl) (by kernel_rfl) (by kernel_rfl) (fun _ _ _ h => h) hHeld (by rfl) (v := ?_) ?_ ?_
        rotate_left
        · intro w hSw; (try dsimp only at hSw); (try go_simp); (try with_reducible rfl)
        try simp only [Act.put, List.setIfInBounds_toArray, List.set_cons_zero, List.set_cons_succ]
        refine wpAnyH_done (by kernel_rfl) ?_ _
        clear hHeld
        go_wp2_with fail
        have hV40 := hV3b.alloc (below_drew1 _)
        have hS3 := scv2 HS.out hV40.a.below HX.out
        refine held_start (fun w' => w'.cell? ⟨b, off + i * 5 + 4, none⟩ = some (.slice x.a x.ks.length x.c) ∧ w'.cell? ⟨b, off + i * 5 + 1, none⟩ = some (.int .i64 x.ver)) (by kernel_rfl) ?_ (fun hHeld => ?_)
        · first | exact hS3 | exact hSA4 | exact hSB4
        refine held_take 0 rfl (by kernel_rfl) (by kernel_rfl) (by kernel_rfl) (fun _ _ _ h => h) hHeld (by rfl) (v := ?_) ?_ ?_
        rotate_left
        · intro w hSw; (try dsimp only at hSw); (try go_simp); (try with_reducible rfl)
        try simp only [Act.put, List.setIfInBounds_toArray, List.set_cons_zero, List.set_cons_succ]
        refine held_take 1 rfl (by kernel_rfl) (by kernel_rfl) (by kernel_rfl) (fun _ _ _ h => h) hHeld (by rfl) (v := ?_) ?_ ?_
        rotate_left
        · intro w hSw; (try dsimp only at hSw); (try go_simp); (try with_reducible rfl)
        try simp only [Act.put, List.setIfInBounds_toArray, List.set_cons_zero, List.set_cons_succ]
        refine held_take 2 rfl (by kernel_rfl) (by kernel_rfl) (by kernel_rfl) (fun _ _ _ h => h) hHeld (by rfl) (v := ?_) ?_ ?_
        rotate_left
        · intro w hSw; (try dsimp only at hSw); (try go_simp); (try with_reducible rfl)
        try simp only [Act.put, List.setIfInBounds_toArray, List.set_cons_zero, List.set_cons_succ]
        refine held_take 3 rfl (by kernel_rfl) (by kernel_rfl) (by kernel_rfl) (fun _ _ _ h => h) hHeld (by rfl) (v := ?_) ?_ ?_
        rotate_left
        · intro w hSw; (try dsimp only at hSw); (try go_simp); (try with_reducible rfl)
        try simp only [Act.put, List.setIfInBounds_toArray, List.set_cons_zero, List.set_cons_succ]
        refine held_take 4 rfl (by kernel_rfl) (by kernel_rfl) (by kernel_rfl) (fun _ _ _ h => h) hHeld (by rfl) (v := ?_) ?_ ?_
        rotate_left
        · intro w hSw; (try dsimp only at hSw); (try go_simp); (try with_reducible rfl)
        try simp only [Act.put, List.setIfInBounds_toArray, List.set_cons_zero, List.set_cons_succ]
        refine held_take 5 rfl (by kernel_rfl) (by kernel_rfl) (by kernel_rfl) (fun _ _ _ h => h) hHeld (by rfl) (v := ?_) ?_ ?_
        rotate_left
        · intro w hSw; (try dsimp only at hSw); (try go_simp); (try with_reducible rfl)
        try simp only [Act.put, List.setIfInBounds_toArray, List.set_cons_zero, List.set_cons_succ]
        refine held_take 7 rfl (by kernel_rfl) (by kernel_rfl) (by kernel_rfl) (fun _ _ _ h => h) hHeld (by rfl) (v := ?_) ?_ ?_
        rotate_left
        · intro w hSw; (try dsimp only at hSw); (try go_simp); (try with_reducible rfl)
        try simp only [Act.put, List.setIfInBounds_toArray, List.set_cons_zero, List.set_cons_succ]
        refine held_take 8 rfl (by kernel_rfl) (by kernel_rfl) (by kernel_rfl) (fun _ _ _ h => h) hHeld (by rfl) (v := ?_) ?_ ?_
        rotate_left
        · intro w hSw; (try dsimp only at hSw); (try go_simp); (try with_reducible rfl)
        try simp only [Act.put, List.setIfInBounds_toArray, List.set_cons_zero, List.set_cons_succ]
        refine held_take 9 rfl (by kernel_rfl) (by kernel_rfl) (by kernel_rfl) (fun _ _ _ h => h) hHeld (by rfl) (v := ?_) ?_ ?_
        rotate_left
        · intro w hSw; (try dsimp only at hSw); (try go_simp); (try with_reducible rfl)
        try simp only [Act.put, List.setIfInBounds_toArray, List.set_cons_zero, List.set_cons_succ]
        refine held_take 10 rfl (by kernel_rfl) (by kernel_rfl) (by kernel_rfl) (fun _ _ _ h => h) hHeld (by rfl) (v := ?_) ?_ ?_
        rotate_left
        · intro w hSw; (try dsimp only at hSw); (try go_simp); (try with_reducible rfl)
        try simp only [Act.put, List.setIfInBounds_toArray, List.set_cons_zero, List.set_cons_succ]
        refine held_take 11 rfl (by kernel_rfl) (by kernel_rfl) (by kernel_rfl) (fun _ _ _ h => h) hHeld (by rfl) (v := ?_) ?_ ?_
        rotate_left
        · intro w hSw; (try dsimp only at hSw); (try go_simp); (try with_reducible rfl)
        try simp only [Act.put, List.setIfInBounds_toArray, List.set_cons_zero, List.set_cons_succ]
        refine held_step 6 rfl (by kernel_rfl) (by rfl) (fun Kx hK => ?_)
        go_simp
        go_at_call 17; refine (first_key (.slice x.a x.ks.length x.c) x.ks _ (HKR.out.below hV40.a.below)).mono ?_; rintro e wc4 ⟨rfl, hb4⟩; have hV4a := hV40.alloc hb4; clear hb4; have hSA4 := scv2 HS.out hV4a.a.below HX.out
        refine hK.out _ _ ?_ (fun hHeld2 => ?_)
        · (try dsimp only); first | exact hS3 | exact hSA4 | exact hSB4
        clear hK Kx hHeld
        have hHeld := hHeld2
        clear hHeld2
        try simp only [Act.put, List.setIfInBounds_toArray, List.set_cons_zero, List.set_cons_succ]
        refine held_step 12 rfl (by kernel_rfl) (by rfl) (fun Kx hK => ?_)
        go_simp
        go_at_call 16; refine (t_grant _ _ _ _ (firstK x.ks).dir (firstK x.ks).name x.ver hV4a.b.v).mono ?_; rintro e wd4 hp4; obtain ⟨F4, a4, c4, R4, rfl, hV4b, hR4, hB4, hO4', hC4⟩ := hV4a.brk2 hp4; clear hp4 hB4 hO4' hC4; have hSB4 := scv2 HS.out hV4b.a.below HX.out
        refine hK.out _ _ ?_ (fun hHeld2 => ?_)
        · (try dsimp only); first | exact hS3 | exact hSA4 | exact hSB4
        clear hK Kx hHeld
        have hHeld := hHeld2
        clear hHeld2
        try simp only [Act.put, List.setIfInBounds_toArray, List.set_cons_zero, List.set_cons_succ]
        refine held_take 13 rfl (by kernel_rfl) (by kernel_rfl) (by kernel_rfl) (fun _ _ _ h => h) hHeld (by rfl) (v := ?_) ?_ ?_
        rotate_left
        · intro w hSw; (try dsimp only at hSw); (try go_simp); (try with_reducible rfl)
        try simp only [Act.put, List.setIfInBounds_toArray, List.set_cons_zero, List.set_cons_succ]
        refine wpAnyH_done (by kernel_rfl) ?_ _
        have HL1 := hid (show R2.length = R1.length by rw [map_len hR2, map_len hR1]; exact (touch_sim HSI.out x.ks x.ver).2)
        have HL2 := hid (show R4.length = R3.length by rw [map_len hR4, map_len hR3]; exact (grant_sim (touch_sim HSI.out x.ks x.ver).1 ⟨(firstK x.ks).dir, (firstK x.ks).name⟩ x.ver).2)
        have HSJ := hid (grant_sim (touch_sim HSI.out x.ks x.ver).1 ⟨(firstK x.ks).dir, (firstK x.ks).name⟩ x.ver).1
        rw [HL1.out, HL2.out]
        have HW0 := hid hV4b
        clear hR1 hR2 hR3 hR4 hV1a hV1b hV2a hV2b hV3a hV3b hV4a hV4b hS0 hS1 hS2 hS3 hSA1 hSA2 hSA3 hSA4 hSB1 hSB2 hSB3 hSB4 hHeld HL1 HL2
        go_wp2_with fail
        refine (v_promises _ _ _ _ HW0.out.a.v).mono ?_; rintro e w11 ⟨a11, c11, rfl, ho11, hb11⟩
        have HW1 := hid (HW0.out.alloc hb11)
        have HO1 := hid ho11
        clear ho11 hb11
        go_wp2_with fail
        refine (v_promises _ _ _ _ HW1.out.b.v).mono ?_; rintro e w12 ⟨a12, c12, rfl, ho12, hb12⟩
        have HW2 := hid (HW1.out.alloc hb12)
        have HO2 := hid ho12
        have HO1' := hid (own_below HO1.out hb12)
        clear ho12 hb12
        go_wp2_with fail
        refine (same_keys _ _ _ _ _ _ _ (Rd.own HO1'.out) (Rd.own HO2.out) HSJ.out.ks.symm).mono ?_; rintro e w13 ⟨rfl, hb13⟩
        have HW3 := hid (HW2.out.alloc hb13)
        clear hb13
        go_wp2_with fail
        refine (v_mark _ _ _ _ HW3.out.a.v).mono ?_; rintro e wx ⟨rfl, rfl⟩
        go_wp2_with fail
        refine (number_any _ _ HW3.out.a.v.ok.he HW3.out.a.v.ok.hn _).mono ?_; rintro e wx ⟨rfl, rfl⟩
        go_wp2_with fail
        refine (v_mark _ _ _ _ HW3.out.b.v).mono ?_; rintro e wx ⟨rfl, rfl⟩
        go_wp2_with fail
        refine (number_any _ _ HW3.out.b.v.ok.he HW3.out.b.v.ok.hn _).mono ?_; rintro e wx ⟨rfl, rfl⟩
        rw [HSJ.out.n]
        go_wp2
        exact ⟨⟨i + 1, _, _, _, _, by omega, by go_num, HW3, HSJ⟩, by simp [intOf]; omega⟩
      · go_wp2_with fail
        refine (v_awake _).mono ?_; rintro e w9 ⟨rfl, hb9⟩
        have HB9 := hid (HV.out.a.below.trans (hb9.mono HV.out.a.sz))
        clear hb9
        go_wp2
        go_ret
        exact ⟨rfl, HB9.out⟩
  · refine (v_new_no _ ep (1 + P0) (1 + Q0) (fun h => hE h.1)).mono ?_
    rintro e wx ⟨rfl, rfl⟩
    clear t1 t2
    by_cases hneg : ep < 0
    · go_wp2_with fail
      refine (v_awake _).mono ?_; rintro e w9 ⟨rfl, hb9⟩
      have HB9 := hid (HS1.out.below.trans (hb9.mono HS1.out.sz))
      clear hb9
      go_wp2
      go_ret
      exact ⟨rfl, HB9.out⟩
    · have hbig : 1099511627776 < ep := by unfold InM at hE; omega
      go_wp2_with fail
      refine (v_awake _).mono ?_; rintro e w9 ⟨rfl, hb9⟩
      have HB9 := hid (HS1.out.below.trans (hb9.mono HS1.out.sz))
      clear hb9
      go_wp2
      go_ret
      exact ⟨rfl, HB9.out⟩

end Go.Proofs.Ytakkdaenindboaa
