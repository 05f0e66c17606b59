import Derived.Test.YtakkdaenindboaaRvE
namespace Go.Proofs.Ytakkdaenindboaa
set_option linter.unusedVariables false
set_option linter.unusedSimpArgs false
open Go.RowKit
attribute [local go_sem ↓] Go.wp_at_zero Go.wp_at_succ
attribute [local go_sem] run_store_complex run_store_float

theorem brk_n (t : Ts) (K : List Ky) (ver : Int) : (brkT t K ver).1.n ≤ t.n + 1 := by
  unfold brkT; split
  · split
    · exact Int.le_refl _
    · exact Int.le_refl _
  · show t.n ≤ t.n + 1; omega
theorem grant_n (t : Ts) (k : Ky) (ver : Int) : (grantT t k ver).1.n ≤ t.n + 1 := by
  unfold grantT; split
  · show t.n ≤ t.n + 1; omega
  · exact brk_n _ _ _
theorem touch_n (t : Ts) (K : List Ky) (ver : Int) : (touchT t K ver).1.n ≤ t.n + 1 := by
  unfold touchT; split
  · show t.n ≤ t.n + 1; omega
  · exact brk_n _ _ _

/-- a table and the document's, apart from each other -/
structure VX (w wr : World) (F : Nat → Prop) (p : Nat) (t : Ts) (G : Nat → Prop) (q : Nat) (u : Ts) : Prop where
  a : VS w wr F p t
  x : XAt wr G q u
  lo : ∀ k, G k → w.heap.size ≤ k
  apart : ∀ k, F k → ¬ G k
/-- .. and what has turned since w0 -/
structure St (w w0 wr : World) (F G F' : Nat → Prop) (p : Nat) (t : Ts) (G' : Nat → Prop) (q : Nat) (u : Ts) : Prop where
  v : VX w wr F' p t G' q u
  c : Chg (fun k => F k ∨ G k) w0 wr
  g : Fgrow w0 (fun k => F k ∨ G k) fun k => F' k ∨ G' k
section
variable {w w0 wr w' : World} {F G F' G' : Nat → Prop} {p q : Nat} {t u : Ts}
theorem VX.below (h : VX w wr F p t G q u) (hb : Below wr.heap.size wr w') : VX w w' F p t G q u := ⟨h.a.alloc hb, h.x.below hb, h.lo, h.apart⟩
theorem VX.start (h : VX w wr F p t G q u) : St w wr wr F G F p t G q u := ⟨h, Chg.refl _ _, fg_refl _ _⟩
theorem VX.named (h : VX w wr F p t G q u) : ∃ wo, wo = wr := ⟨_, rfl⟩
theorem St.below (h : St w w0 wr F G F' p t G' q u) (hb : Below wr.heap.size wr w') : St w w0 w' F G F' p t G' q u :=
  ⟨h.v.below hb, h.c.trans (Chg.below hb) (fun _ _ h => h) (fun _ _ h => h.elim), h.g⟩
theorem St.cell (h : St w w0 wr F G F' p t G' q u) {a : Addr} {v : Value} (hc : w0.cell? a = some v) (hF : ¬ F a.block) (hG : ¬ G a.block) : wr.cell? a = some v := h.c.cell hc fun h => h.elim hF hG
theorem St.one (h : St w w0 wr F G F' p t G' q u) {F'' : Nat → Prop} {t' : Ts} (hv : VS w w' F'' p t') (hC : Chg F' wr w') (hg : Fgrow wr F' F'') : St w w0 w' F G F'' p t' G' q u := by
  have hs := h.c.size
  refine ⟨⟨hv, h.v.x.chg hC (fun k hk hf => h.v.apart k hf hk), h.v.lo, fun k hk hk2 => ?_⟩, ?_, ?_⟩
  · rcases hg k hk with h1 | h1
    · exact h.v.apart k h1 hk2
    · have := h.v.x.lt k hk2; omega
  · exact ch_trans h.g h.c (hC.mono fun _ _ h => .inl h)
  · rintro k (hk | hk)
    · rcases hg k hk with h1 | h1
      · exact h.g k (.inl h1)
      · exact .inr (by omega)
    · exact h.g k (.inr hk)
theorem St.two (h : St w w0 wr F G F' p t G' q u) {G'' : Nat → Prop} {u' : Ts} (hx : XAt w' G'' q u') (hC : Chg G' wr w') (hg : Fgrow wr G' G'') : St w w0 w' F G F' p t G'' q u' := by
  have hs := h.c.size
  have hz := h.v.a.sz
  refine ⟨⟨⟨h.v.a.v.chg hC (fun k hk hg => h.v.apart k hk hg), h.v.a.lo, h.v.a.below.trans (hC.toBelow hz fun i hi hg => by have := h.v.lo i hg; omega)⟩, hx, fun k hk => ?_, fun k hk hk2 => ?_⟩, ?_, ?_⟩
  · rcases hg k hk with h1 | h1
    · exact h.v.lo k h1
    · omega
  · rcases hg k hk2 with h1 | h1
    · exact h.v.apart k hk h1
    · have := h.v.a.v.lt k hk; omega
  · exact ch_trans h.g h.c (hC.mono fun _ _ h => .inr h)
  · rintro k (hk | hk)
    · exact h.g k (.inl hk)
    · rcases hg k hk with h1 | h1
      · exact h.g k (.inr h1)
      · exact .inr (by omega)
theorem St.brk (h : St w w0 wr F G F' p t G' q u) {r : Ts × List Bp} {e : Ending} (hp : BrkPost wr F' p r e w') : ∃ (F'' : Nat → Prop) (a : Option Addr) (c : Nat) (R : List Bk), e = .returned (.slice a R.length c) ∧ St w w0 w' F G F'' p r.1 G' q u ∧ R.map Bk.pl = r.2 ∧ BrsAt w' wr.heap.size a c R ∧ BrsOut a R G' := by
  obtain ⟨F'', a, c, R, he, hs, hR, hB, hO, hC, hF⟩ := h.v.a.brk hp
  exact ⟨F'', a, c, R, he, h.one hs hC hF, hR, hB, hB.out h.v.x.lt⟩
theorem St.rbrk (h : St w w0 wr F G F' p t G' q u) {r : Ts × List Bp} {e : Ending} (hp : RPost wr G' q r e w') : ∃ (G'' : Nat → Prop) (v : Value) (R : List Bk), e = .returned v ∧ St w w0 w' F G F' p t G'' q r.1 ∧ R.map Bk.pl = r.2 ∧ BrAt w' v R ∧ Chg G' wr w' := by
  obtain ⟨G'', v, R, he, hx, hR, hF, hC, hB⟩ := hp
  exact ⟨G'', v, R, he, h.two hx hC hF, hR, hB, hC⟩
theorem St.c3 (h : St w w0 wr F G F' p t G' q u) {l1 l2 l3 : Addr} {u1 u2 u3 : Value} (hc : w0.cell? l1 = some u1 ∧ w0.cell? l2 = some u2 ∧ w0.cell? l3 = some u3) (hn : (¬ F l1.block ∧ ¬ G l1.block) ∧ (¬ F l2.block ∧ ¬ G l2.block) ∧ (¬ F l3.block ∧ ¬ G l3.block)) : wr.cell? l1 = some u1 ∧ wr.cell? l2 = some u2 ∧ wr.cell? l3 = some u3 :=
  ⟨h.cell hc.1 hn.1.1 hn.1.2, h.cell hc.2.1 hn.2.1.1 hn.2.1.2, h.cell hc.2.2 hn.2.2.1 hn.2.2.2⟩
theorem St.c2 (h : St w w0 wr F G F' p t G' q u) {l1 l2 : Addr} {u1 u2 : Value} (hc : w0.cell? l1 = some u1 ∧ w0.cell? l2 = some u2) (hn : (¬ F l1.block ∧ ¬ G l1.block) ∧ (¬ F l2.block ∧ ¬ G l2.block)) : wr.cell? l1 = some u1 ∧ wr.cell? l2 = some u2 :=
  ⟨h.cell hc.1 hn.1.1 hn.1.2, h.cell hc.2 hn.2.1 hn.2.2⟩
theorem tell_in {R : List Bk} {t t' : Ts} {L : List Bp} (hok : TOk t') (h : R.map Bk.pl = L) (hL : ∀ x ∈ L, x.ep = t'.e ∧ 0 ≤ x.n ∧ x.n ≤ t'.n) : ∀ x ∈ R, InM x.ep ∧ InM x.n := fun x hx => by
  have h1 := hL x.pl (by rw [← h]; exact List.mem_map_of_mem hx)
  have h2 := hok.he
  have h3 := hok.hn
  exact ⟨by rw [show x.ep = t'.e from h1.1]; exact h2, ⟨h1.2.1, Int.le_trans h1.2.2 h3.2⟩⟩
theorem brk_tell {t : Ts} {K : List Ky} {ver : Int} (h : TOk t) : ∀ x ∈ (brkT t K ver).2, x.ep = (brkT t K ver).1.e ∧ 0 ≤ x.n ∧ x.n ≤ (brkT t K ver).1.n := by
  have h0 := h.hn.1
  unfold brkT; split
  · split
    · intro x hx
      obtain rfl := List.mem_singleton.1 hx
      exact ⟨rfl, by show 0 ≤ t.n + 1; omega, Int.le_refl _⟩
    · intro x hx
      obtain rfl := List.mem_singleton.1 hx
      exact ⟨rfl, by show 0 ≤ t.n + 1; omega, Int.le_refl _⟩
  · intro x hx; cases hx
theorem brk_tell0 {t : Ts} {K : List Ky} {ver : Int} (h : 0 ≤ t.n) : ∀ x ∈ (brkT t K ver).2, x.ep = (brkT t K ver).1.e ∧ 0 ≤ x.n ∧ x.n ≤ (brkT t K ver).1.n := by
  unfold brkT; split
  · split
    · intro x hx
      obtain rfl := List.mem_singleton.1 hx
      exact ⟨rfl, by show 0 ≤ t.n + 1; omega, Int.le_refl _⟩
    · intro x hx
      obtain rfl := List.mem_singleton.1 hx
      exact ⟨rfl, by show 0 ≤ t.n + 1; omega, Int.le_refl _⟩
  · intro x hx; cases hx
theorem grant_tell {t : Ts} {k : Ky} {ver : Int} (h : 0 ≤ t.n) : ∀ x ∈ (grantT t k ver).2, x.ep = (grantT t k ver).1.e ∧ 0 ≤ x.n ∧ x.n ≤ (grantT t k ver).1.n := by
  unfold grantT; split
  · intro x hx; cases hx
  · exact brk_tell0 h
theorem touch_tell {t : Ts} {K : List Ky} {ver : Int} (h : 0 ≤ t.n) : ∀ x ∈ (touchT t K ver).2, x.ep = (touchT t K ver).1.e ∧ 0 ≤ x.n ∧ x.n ≤ (touchT t K ver).1.n := by
  unfold touchT; split
  · intro x hx; cases hx
  · exact brk_tell0 h
end

set_option maxRecDepth 100000 in
set_option maxHeartbeats 16000000 in
theorem vowPlays_walk (ep pr qu : Int) (sa : Option Addr) (sc : Nat) (S : List Vop) (w : World) (hS : ScrV w (.slice sa S.length sc) S) (hz : S.length ≤ 1048576) (hkz : ∀ x ∈ S, x.ks.length * 24 ≤ 140737488351232) (h64 : ∀ x ∈ S, I64 x.ep ∧ I64 x.num) :
    Calls Try.prog 8 #[.int .i64 ep, .int .i64 pr, .int .i64 qu, .slice sa S.length sc] w fun e w' => e = .returned (.bool true) ∧ Below w.heap.size w w' := by
  have HS := hid hS
  have HKZ := hid hkz
  have H64 := hid h64
  clear hS hkz h64
  go_enter Try.func8, Try.ntmps8
  go_wp2_with fail
  by_cases hE : NewOk ep pr qu
  · have HEOK := hid hE
    refine (v_new_yes _ ep pr qu hE).mono ?_
    rintro e w1 ⟨rfl, hv1, hb1⟩
    have HS1 := hid (show VS w w1 (fun k => k = w.heap.size) w.heap.size ⟨ep, 0, pr, qu, [], []⟩ from ⟨hv1, fun k hk => by omega, hb1⟩)
    clear hv1 hb1 hE
    go_wp2_with fail
    refine (r_new_yes _ ep pr qu HEOK.out).mono ?_
    rintro e w2 ⟨rfl, hx2, hb2⟩
    have HV := hid (show VX w w2 (fun k => k = w.heap.size) w.heap.size ⟨ep, 0, pr, qu, [], []⟩ (fun k => k = w1.heap.size) w1.heap.size ⟨ep, 0, pr, qu, [], []⟩ from
      ⟨HS1.out.alloc hb2, hx2, fun k hk => by have := HS1.out.sz; omega, fun k h1 h2 => by have := HS1.out.v.lt _ rfl; omega⟩)
    obtain ⟨q0, hq0⟩ : ∃ q0, q0 = w1.heap.size := ⟨_, rfl⟩
    rw [← hq0] at HV
    rw [← hq0]
    clear hx2 hb2 hq0
    go_wp2_with fail
    go_loopw [13] (fun v13 wr => ∃ (i : Nat) (F G : Nat → Prop) (t : Ts), i ≤ S.length ∧ v13 = .int .i64 i ∧ Hid (VX w wr F w.heap.size t G q0 t) ∧ Hid (t.n ≤ (i : Int))) (fun v13 _ => S.length - (intOf v13).toNat)
    case atStart => exact ⟨0, _, _, _, by omega, rfl, HV, hid (Int.le_refl _)⟩
    case round =>
      obtain ⟨i, F, G, t, hi, rfl, HV, HT⟩ := hrel
      obtain ⟨wo, hwo⟩ : ∃ wo, wo = wr := ⟨_, rfl⟩
      subst hwo
      by_cases hlt : i < S.length
      · obtain ⟨b, off, rfl⟩ := HS.out.loc (by omega)
        obtain ⟨x, hx⟩ : ∃ x, S[i]? = some x := ⟨_, List.getElem?_eq_getElem hlt⟩
        have hmem : x ∈ S := List.mem_of_getElem? hx
        have CE := scrV_at HS.out HV.out.a.below hx
        have HKL := hid (HKZ.out x hmem)
        have HI64 := hid (H64.out x hmem)
        have HKR := hid (show Rd wo (.slice x.a x.ks.length x.c) x.ks.length (kyc x.ks) from (show Rd w (.slice x.a x.ks.length x.c) x.ks.length (kyc x.ks) from HS.out.each x hmem).below HV.out.a.below)
        have HKRW := hid (show Rd w (.slice x.a x.ks.length x.c) x.ks.length (kyc x.ks) from HS.out.each x hmem)
        have HN40 := hid (show t.n < 1099511627776 by have := HT.out; omega)
        have HN0 := hid HV.out.a.v.ok.hn.1
        have hi0 : (0 : Int) ≤ (i : Int) := by omega
        have hi1 : (i : Int) < (S.length : Int) := by omega
        have hbox := heap_new wo (.cells #[.int .i64 x.kind, .int .i64 x.ver, .int .i64 x.ep, .int .i64 x.num, .slice x.a x.ks.length x.c] 30)
        have HBOX := hid hbox
        have BX := blk5 hbox
        have hB1 := bl1 wo (.cells #[.int .i64 x.kind, .int .i64 x.ver, .int .i64 x.ep, .int .i64 x.num, .slice x.a x.ks.length x.c] 30)
        have HFL := hid HV.out.a.v.lt
        have HGL := hid HV.out.x.lt
        have HV3 := hid (HV.out.below hB1)
        have HKR3 := hid (HKR.out.below hB1)
        clear hx hmem hbox hB1
        go_wp2_with fail
        refine (place_pos _ 3 _ (by omega) (by omega)).mono ?_; rintro e wx ⟨rfl, rfl⟩
        have h4 : x.kind % 3 = 0 ∨ x.kind % 3 = 1 ∨ x.kind % 3 = 2 := by omega
        have HQ := hid h4
        clear h4 CE
        go_upto_block 2 with (fail)
        go_cut [15] (fun v15 wx => ∃ (F' G' : Nat → Prop) (t' : Ts), v15 = .bool true ∧ Hid (VX w wx F' w.heap.size t' G' q0 t') ∧ Hid (t'.n ≤ t.n + 1))
        case first =>
          rcases HQ.out with hq | hq | hq
          · have ht0 : (x.kind % 3 == 0) = true := by simp [hq]
            obtain ⟨f, hf⟩ : ∃ f, f = firstK x.ks := ⟨_, rfl⟩
            have HFD := hid hf
            clear hq hf
            go_wp2_with fail
            refine (first_key (.slice x.a x.ks.length x.c) x.ks _ HKR3.out).mono ?_; rintro e wf ⟨rfl, hbf⟩
            rw [← HFD.out]
            have HBF := hid hbf
            have HKB := hid (heap_new wf (.cells #[.int .i64 f.dir, .string f.name] 37))
            have BXK := blk2 (heap_new wf (.cells #[.int .i64 f.dir, .string f.name] 37))
            have HBO := hid (heap_old (heap_below hbf HBOX.out (blk_lt HBOX.out)) (.cells #[.int .i64 f.dir, .string f.name] 37))
            have BXO := blk5 HBO.out
            have HVF := hid ((HV3.out.below hbf).below (bl1 wf (.cells #[.int .i64 f.dir, .string f.name] 37)))
            have HZF := hid (show wo.heap.size < wf.heap.size by have := hbf.size; simp at this; omega)
            have HNN := hid (show (¬ F wf.heap.size ∧ ¬ G wf.heap.size) ∧ (¬ F wf.heap.size ∧ ¬ G wf.heap.size) ∧ (¬ F wo.heap.size ∧ ¬ G wo.heap.size) from
              ⟨⟨fun h => by have := HFL.out _ h; have := HZF.out; omega, fun h => by have := HGL.out _ h; have := HZF.out; omega⟩, ⟨fun h => by have := HFL.out _ h; have := HZF.out; omega, fun h => by have := HGL.out _ h; have := HZF.out; omega⟩, ⟨fun h => by have := HFL.out _ h; omega, fun h => by have := HGL.out _ h; omega⟩⟩)
            clear hbf
            go_wp2_with fail
            have hV0 := (HVF.out.below (below_drew1 _)).start
            have hS0 : (World.drew (wf.alloc (.cells #[.int .i64 f.dir, .string f.name] 37))).cell? ⟨wf.heap.size, 0, none⟩ = some (.int .i64 f.dir) ∧ (World.drew (wf.alloc (.cells #[.int .i64 f.dir, .string f.name] 37))).cell? ⟨wf.heap.size, 1, none⟩ = some (.string f.name) ∧ (World.drew (wf.alloc (.cells #[.int .i64 f.dir, .string f.name] 37))).cell? ⟨wo.heap.size, 1, none⟩ = some (.int .i64 x.ver) := ⟨BXK.1, BXK.2.1, BXO.2.1⟩
            clear BXK BXO BX
            refine held_start (fun w' => w'.cell? ⟨wf.heap.size, 0, none⟩ = some (.int .i64 f.dir) ∧ w'.cell? ⟨wf.heap.size, 1, none⟩ = some (.string f.name) ∧ w'.cell? ⟨wo.heap.size, 1, none⟩ = some (.int .i64 x.ver)) (by kernel_rfl) ?_ (fun hHeld => ?_)
            · with_reducible first | exact hS0 | exact hSL
            refine held_take 0 rfl (by kernel_rfl) (by kernel_rfl) (by kernel_rfl) (fun _ _ _ h => h) hHeld (by rfl) (v := ?_) ?_ ?_
            rotate_left
            · intro w hSw; (try dsimp only at hSw); (try go_simp); (try with_reducible rfl)
            try simp only [Act.put, List.setIfInBounds_toArray, List.set_cons_zero, List.set_cons_succ]
            refine held_take 1 rfl (by kernel_rfl) (by kernel_rfl) (by kernel_rfl) (fun _ _ _ h => h) hHeld (by rfl) (v := ?_) ?_ ?_
            rotate_left
            · intro w hSw; (try dsimp only at hSw); (try go_simp); (try with_reducible rfl)
            try simp only [Act.put, List.setIfInBounds_toArray, List.set_cons_zero, List.set_cons_succ]
            refine held_take 3 rfl (by kernel_rfl) (by kernel_rfl) (by kernel_rfl) (fun _ _ _ h => h) hHeld (by rfl) (v := ?_) ?_ ?_
            rotate_left
            · intro w hSw; (try dsimp only at hSw); (try go_simp); (try with_reducible rfl)
            try simp only [Act.put, List.setIfInBounds_toArray, List.set_cons_zero, List.set_cons_succ]
            refine held_take 4 rfl (by kernel_rfl) (by kernel_rfl) (by kernel_rfl) (fun _ _ _ h => h) hHeld (by rfl) (v := ?_) ?_ ?_
            rotate_left
            · intro w hSw; (try dsimp only at hSw); (try go_simp); (try with_reducible rfl)
            try simp only [Act.put, List.setIfInBounds_toArray, List.set_cons_zero, List.set_cons_succ]
            refine held_step 2 rfl (by kernel_rfl) (by rfl) (fun Kx hK => ?_)
            go_simp
            go_at_call 19; refine (v_holds _ _ _ _ f.dir f.name hV0.v.a.v).mono ?_; rintro e ws1 ⟨rfl, hb1⟩; have hV1 := hV0.below hb1; clear hb1; have hSL := hV1.c3 hS0 HNN.out; obtain ⟨d1, hd1⟩ : ∃ d, decide ((⟨f.dir, f.name⟩ : Ky) ∈ t.ks) = d := ⟨_, rfl⟩; have HD1 := hid hd1; clear hd1; rw [HD1.out]
            refine hK.out _ _ ?_ (fun hHeld2 => ?_)
            · (try dsimp only); with_reducible first | exact hS0 | exact hSL
            clear hK Kx hHeld
            have hHeld := hHeld2
            clear hHeld2
            try simp only [Act.put, List.setIfInBounds_toArray, List.set_cons_zero, List.set_cons_succ]
            refine held_step 5 rfl (by kernel_rfl) (by rfl) (fun Kx hK => ?_)
            go_simp
            go_at_call 29; refine (x_holds _ _ _ _ f.dir f.name hV1.v.x.m (by have := hV1.v.x.rowlt; omega)).mono ?_; rintro e ws2 ⟨rfl, hb2⟩; have hV2 := hV1.below hb2; clear hb2; have hSL := hV2.c3 hS0 HNN.out; rw [show decide ((⟨f.dir, f.name⟩ : Ky) ∈ t.ks) = d1 from HD1.out]
            refine hK.out _ _ ?_ (fun hHeld2 => ?_)
            · (try dsimp only); with_reducible first | exact hS0 | exact hSL
            clear hK Kx hHeld
            have hHeld := hHeld2
            clear hHeld2
            try simp only [Act.put, List.setIfInBounds_toArray, List.set_cons_zero, List.set_cons_succ]
            refine held_take 6 rfl (by kernel_rfl) (by kernel_rfl) (by kernel_rfl) (fun _ _ _ h => h) hHeld (by rfl) (v := ?_) ?_ ?_
            rotate_left
            · intro w hSw; (try dsimp only at hSw); (try go_simp); (try with_reducible rfl)
            try simp only [Act.put, List.setIfInBounds_toArray, List.set_cons_zero, List.set_cons_succ]
            refine held_take 7 rfl (by kernel_rfl) (by kernel_rfl) (by kernel_rfl) (fun _ _ _ h => h) hHeld (by rfl) (v := ?_) ?_ ?_
            rotate_left
            · intro w hSw; (try dsimp only at hSw); (try go_simp); (try with_reducible rfl)
            try simp only [Act.put, List.setIfInBounds_toArray, List.set_cons_zero, List.set_cons_succ]
            refine held_take 8 rfl (by kernel_rfl) (by kernel_rfl) (by kernel_rfl) (fun _ _ _ h => h) hHeld (by rfl) (v := ?_) ?_ ?_
            rotate_left
            · intro w hSw; (try dsimp only at hSw); (try go_simp); (try with_reducible rfl)
            try simp only [Act.put, List.setIfInBounds_toArray, List.set_cons_zero, List.set_cons_succ]
            refine held_take 9 rfl (by kernel_rfl) (by kernel_rfl) (by kernel_rfl) (fun _ _ _ h => h) hHeld (by rfl) (v := ?_) ?_ ?_
            rotate_left
            · intro w hSw; (try dsimp only at hSw); (try go_simp); (try with_reducible rfl)
            try simp only [Act.put, List.setIfInBounds_toArray, List.set_cons_zero, List.set_cons_succ]
            refine held_take 10 rfl (by kernel_rfl) (by kernel_rfl) (by kernel_rfl) (fun _ _ _ h => h) hHeld (by rfl) (v := ?_) ?_ ?_
            rotate_left
            · intro w hSw; (try dsimp only at hSw); (try go_simp); (try with_reducible rfl)
            try simp only [Act.put, List.setIfInBounds_toArray, List.set_cons_zero, List.set_cons_succ]
            refine held_take 11 rfl (by kernel_rfl) (by kernel_rfl) (by kernel_rfl) (fun _ _ _ h => h) hHeld (by rfl) (v := ?_) ?_ ?_
            rotate_left
            · intro w hSw; (try dsimp only at hSw); (try go_simp); (try with_reducible rfl)
            try simp only [Act.put, List.setIfInBounds_toArray, List.set_cons_zero, List.set_cons_succ]
            refine held_take 13 rfl (by kernel_rfl) (by kernel_rfl) (by kernel_rfl) (fun _ _ _ h => h) hHeld (by rfl) (v := ?_) ?_ ?_
            rotate_left
            · intro w hSw; (try dsimp only at hSw); (try go_simp); (try with_reducible rfl)
            try simp only [Act.put, List.setIfInBounds_toArray, List.set_cons_zero, List.set_cons_succ]
            refine held_take 14 rfl (by kernel_rfl) (by kernel_rfl) (by kernel_rfl) (fun _ _ _ h => h) hHeld (by rfl) (v := ?_) ?_ ?_
            rotate_left
            · intro w hSw; (try dsimp only at hSw); (try go_simp); (try with_reducible rfl)
            try simp only [Act.put, List.setIfInBounds_toArray, List.set_cons_zero, List.set_cons_succ]
            refine held_take 15 rfl (by kernel_rfl) (by kernel_rfl) (by kernel_rfl) (fun _ _ _ h => h) hHeld (by rfl) (v := ?_) ?_ ?_
            rotate_left
            · intro w hSw; (try dsimp only at hSw); (try go_simp); (try with_reducible rfl)
            try simp only [Act.put, List.setIfInBounds_toArray, List.set_cons_zero, List.set_cons_succ]
            refine held_take 16 rfl (by kernel_rfl) (by kernel_rfl) (by kernel_rfl) (fun _ _ _ h => h) hHeld (by rfl) (v := ?_) ?_ ?_
            rotate_left
            · intro w hSw; (try dsimp only at hSw); (try go_simp); (try with_reducible rfl)
            try simp only [Act.put, List.setIfInBounds_toArray, List.set_cons_zero, List.set_cons_succ]
            refine held_step 12 rfl (by kernel_rfl) (by rfl) (fun Kx hK => ?_)
            go_simp
            go_at_call 16; refine (t_grant _ _ _ _ f.dir f.name x.ver hV2.v.a.v).mono ?_; rintro e ws3 hp3; obtain ⟨F3, a3, c3, R3, rfl, hV3, hR3, hB3, hO3⟩ := hV2.brk hp3; clear hp3; have hSL := hV3.c3 hS0 HNN.out
            refine hK.out _ _ ?_ (fun hHeld2 => ?_)
            · (try dsimp only); with_reducible first | exact hS0 | exact hSL
            clear hK Kx hHeld
            have hHeld := hHeld2
            clear hHeld2
            try simp only [Act.put, List.setIfInBounds_toArray, List.set_cons_zero, List.set_cons_succ]
            refine held_step 17 rfl (by kernel_rfl) (by rfl) (fun Kx hK => ?_)
            go_simp
            go_at_call 30; refine (r_grant _ _ _ _ f.dir f.name x.ver hV3.v.x HN40.out).mono ?_; rintro e ws4 hp4; obtain ⟨G4, v4, R4, rfl, hV4, hR4, hB4, hC4⟩ := hV3.rbrk hp4; clear hp4; have hB3' := (hB3.move hC4 hO3).rd; have hSL := hV4.c3 hS0 HNN.out
            refine hK.out _ _ ?_ (fun hHeld2 => ?_)
            · (try dsimp only); with_reducible first | exact hS0 | exact hSL
            clear hK Kx hHeld
            have hHeld := hHeld2
            clear hHeld2
            try simp only [Act.put, List.setIfInBounds_toArray, List.set_cons_zero, List.set_cons_succ]
            refine held_step 18 rfl (by kernel_rfl) (by rfl) (fun Kx hK => ?_)
            go_simp
            go_at_call 26; refine (same_brks _ _ R3 R4 _ hB3' hB4 (hR3.trans hR4.symm) (tell_in (t := t) hV4.v.a.v.ok hR3 (grant_tell HN0.out))).mono ?_; rintro e ws5 ⟨rfl, n5, rfl⟩; have hV5 := hV4.below (below_drewN (Below.refl _ _) n5); have hSL := hV5.c3 hS0 HNN.out
            refine hK.out _ _ ?_ (fun hHeld2 => ?_)
            · (try dsimp only); with_reducible first | exact hS0 | exact hSL
            clear hK Kx hHeld
            have hHeld := hHeld2
            clear hHeld2
            try simp only [Act.put, List.setIfInBounds_toArray, List.set_cons_zero, List.set_cons_succ]
            refine held_take 19 rfl (by kernel_rfl) (by kernel_rfl) (by kernel_rfl) (fun _ _ _ h => h) hHeld (by rfl) (v := ?_) ?_ ?_
            rotate_left
            · intro w hSw; (try dsimp only at hSw); (try go_simp); (try with_reducible rfl)
            try simp only [Act.put, List.setIfInBounds_toArray, List.set_cons_zero, List.set_cons_succ]
            refine held_take 20 rfl (by kernel_rfl) (by kernel_rfl) (by kernel_rfl) (fun _ _ _ h => h) hHeld (by rfl) (v := ?_) ?_ ?_
            rotate_left
            · intro w hSw; (try dsimp only at hSw); (try go_simp); (try with_reducible rfl)
            try simp only [Act.put, List.setIfInBounds_toArray, List.set_cons_zero, List.set_cons_succ]
            refine held_take 21 rfl (by kernel_rfl) (by kernel_rfl) (by kernel_rfl) (fun _ _ _ h => h) hHeld (by rfl) (v := ?_) ?_ ?_
            rotate_left
            · intro w hSw; (try dsimp only at hSw); (try go_simp); (try with_reducible rfl)
            try simp only [Act.put, List.setIfInBounds_toArray, List.set_cons_zero, List.set_cons_succ]
            refine held_take 22 rfl (by kernel_rfl) (by kernel_rfl) (by kernel_rfl) (fun _ _ _ h => h) hHeld (by rfl) (v := ?_) ?_ ?_
            rotate_left
            · intro w hSw; (try dsimp only at hSw); (try go_simp); (try with_reducible rfl)
            try simp only [Act.put, List.setIfInBounds_toArray, List.set_cons_zero, List.set_cons_succ]
            refine held_take 24 rfl (by kernel_rfl) (by kernel_rfl) (by kernel_rfl) (fun _ _ _ h => h) hHeld (by rfl) (v := ?_) ?_ ?_
            rotate_left
            · intro w hSw; (try dsimp only at hSw); (try go_simp); (try with_reducible rfl)
            try simp only [Act.put, List.setIfInBounds_toArray, List.set_cons_zero, List.set_cons_succ]
            refine held_take 25 rfl (by kernel_rfl) (by kernel_rfl) (by kernel_rfl) (fun _ _ _ h => h) hHeld (by rfl) (v := ?_) ?_ ?_
            rotate_left
            · intro w hSw; (try dsimp only at hSw); (try go_simp); (try with_reducible rfl)
            try simp only [Act.put, List.setIfInBounds_toArray, List.set_cons_zero, List.set_cons_succ]
            refine held_step 23 rfl (by kernel_rfl) (by rfl) (fun Kx hK => ?_)
            go_simp
            go_at_call 19; refine (v_holds _ _ _ _ f.dir f.name hV5.v.a.v).mono ?_; rintro e ws6 ⟨rfl, hb6⟩; have hV6 := hV5.below hb6; clear hb6; have hSL := hV6.c3 hS0 HNN.out; obtain ⟨d2, hd2⟩ : ∃ d, decide ((⟨f.dir, f.name⟩ : Ky) ∈ (grantT t ⟨f.dir, f.name⟩ x.ver).1.ks) = d := ⟨_, rfl⟩; have HD2 := hid hd2; clear hd2; rw [HD2.out]
            refine hK.out _ _ ?_ (fun hHeld2 => ?_)
            · (try dsimp only); with_reducible first | exact hS0 | exact hSL
            clear hK Kx hHeld
            have hHeld := hHeld2
            clear hHeld2
            try simp only [Act.put, List.setIfInBounds_toArray, List.set_cons_zero, List.set_cons_succ]
            refine held_step 26 rfl (by kernel_rfl) (by rfl) (fun Kx hK => ?_)
            go_simp
            go_at_call 29; refine (x_holds _ _ _ _ f.dir f.name hV6.v.x.m (by have := hV6.v.x.rowlt; omega)).mono ?_; rintro e ws7 ⟨rfl, hb7⟩; have hV7 := hV6.below hb7; clear hb7; have hSL := hV7.c3 hS0 HNN.out; rw [show decide ((⟨f.dir, f.name⟩ : Ky) ∈ (grantT t ⟨f.dir, f.name⟩ x.ver).1.ks) = d2 from HD2.out]
            refine hK.out _ _ ?_ (fun hHeld2 => ?_)
            · (try dsimp only); with_reducible first | exact hS0 | exact hSL
            clear hK Kx hHeld
            have hHeld := hHeld2
            clear hHeld2
            try simp only [Act.put, List.setIfInBounds_toArray, List.set_cons_zero, List.set_cons_succ]
            refine held_take 27 rfl (by kernel_rfl) (by kernel_rfl) (by kernel_rfl) (fun _ _ _ h => h) hHeld (by rfl) (v := ?_) ?_ ?_
            rotate_left
            · intro w hSw; (try dsimp only at hSw); (try go_simp); (try with_reducible rfl)
            try simp only [Act.put, List.setIfInBounds_toArray, List.set_cons_zero, List.set_cons_succ]
            refine held_take 28 rfl (by kernel_rfl) (by kernel_rfl) (by kernel_rfl) (fun _ _ _ h => h) hHeld (by rfl) (v := ?_) ?_ ?_
            rotate_left
            · intro w hSw; (try dsimp only at hSw); (try go_simp); (try with_reducible rfl)
            try simp only [Act.put, List.setIfInBounds_toArray, List.set_cons_zero, List.set_cons_succ]
            refine held_take 29 rfl (by kernel_rfl) (by kernel_rfl) (by kernel_rfl) (fun _ _ _ h => h) hHeld (by rfl) (v := ?_) ?_ ?_
            rotate_left
            · intro w hSw; (try dsimp only at hSw); (try go_simp); (try with_reducible rfl)
            try simp only [Act.put, List.setIfInBounds_toArray, List.set_cons_zero, List.set_cons_succ]
            refine wpAnyH_done (by kernel_rfl) ?_ _
            clear hHeld
            go_wp2_with fail
            go_meet
            case rel => exact ⟨_, _, _, rfl, hid hV7.v, hid (grant_n _ _ _)⟩
          · have ht0 : (x.kind % 3 == 0) = false := by simp [hq]
            have ht1 : (x.kind % 3 == 1) = true := by simp [hq]
            clear hq
            go_wp2_with fail
            have HNN := hid (show (¬ F wo.heap.size ∧ ¬ G wo.heap.size) ∧ (¬ F wo.heap.size ∧ ¬ G wo.heap.size) from
              ⟨⟨fun h => by have := HFL.out _ h; omega, fun h => by have := HGL.out _ h; omega⟩, ⟨fun h => by have := HFL.out _ h; omega, fun h => by have := HGL.out _ h; omega⟩⟩)
            have HKRD := hid (HKR3.out.below (below_drew1 _))
            have hV0 := (HV3.out.below (below_drew1 _)).start
            have hS0 : (World.drew (wo.alloc (.cells #[.int .i64 x.kind, .int .i64 x.ver, .int .i64 x.ep, .int .i64 x.num, .slice x.a x.ks.length x.c] 30))).cell? ⟨wo.heap.size, 4, none⟩ = some (.slice x.a x.ks.length x.c) ∧ (World.drew (wo.alloc (.cells #[.int .i64 x.kind, .int .i64 x.ver, .int .i64 x.ep, .int .i64 x.num, .slice x.a x.ks.length x.c] 30))).cell? ⟨wo.heap.size, 1, none⟩ = some (.int .i64 x.ver) := ⟨BX.2.2.2.2.1, BX.2.1⟩
            clear BX
            refine held_start (fun w' => w'.cell? ⟨wo.heap.size, 4, none⟩ = some (.slice x.a x.ks.length x.c) ∧ w'.cell? ⟨wo.heap.size, 1, none⟩ = some (.int .i64 x.ver)) (by kernel_rfl) ?_ (fun hHeld => ?_)
            · with_reducible first | exact hS0 | exact hSL
            refine held_take 0 rfl (by kernel_rfl) (by kernel_rfl) (by kernel_rfl) (fun _ _ _ h => h) hHeld (by rfl) (v := ?_) ?_ ?_
            rotate_left
            · intro w hSw; (try dsimp only at hSw); (try go_simp); (try with_reducible rfl)
            try simp only [Act.put, List.setIfInBounds_toArray, List.set_cons_zero, List.set_cons_succ]
            refine held_take 1 rfl (by kernel_rfl) (by kernel_rfl) (by kernel_rfl) (fun _ _ _ h => h) hHeld (by rfl) (v := ?_) ?_ ?_
            rotate_left
            · intro w hSw; (try dsimp only at hSw); (try go_simp); (try with_reducible rfl)
            try simp only [Act.put, List.setIfInBounds_toArray, List.set_cons_zero, List.set_cons_succ]
            refine held_take 2 rfl (by kernel_rfl) (by kernel_rfl) (by kernel_rfl) (fun _ _ _ h => h) hHeld (by rfl) (v := ?_) ?_ ?_
            rotate_left
            · intro w hSw; (try dsimp only at hSw); (try go_simp); (try with_reducible rfl)
            try simp only [Act.put, List.setIfInBounds_toArray, List.set_cons_zero, List.set_cons_succ]
            refine held_take 4 rfl (by kernel_rfl) (by kernel_rfl) (by kernel_rfl) (fun _ _ _ h => h) hHeld (by rfl) (v := ?_) ?_ ?_
            rotate_left
            · intro w hSw; (try dsimp only at hSw); (try go_simp); (try with_reducible rfl)
            try simp only [Act.put, List.setIfInBounds_toArray, List.set_cons_zero, List.set_cons_succ]
            refine held_take 5 rfl (by kernel_rfl) (by kernel_rfl) (by kernel_rfl) (fun _ _ _ h => h) hHeld (by rfl) (v := ?_) ?_ ?_
            rotate_left
            · intro w hSw; (try dsimp only at hSw); (try go_simp); (try with_reducible rfl)
            try simp only [Act.put, List.setIfInBounds_toArray, List.set_cons_zero, List.set_cons_succ]
            refine held_take 7 rfl (by kernel_rfl) (by kernel_rfl) (by kernel_rfl) (fun _ _ _ h => h) hHeld (by rfl) (v := ?_) ?_ ?_
            rotate_left
            · intro w hSw; (try dsimp only at hSw); (try go_simp); (try with_reducible rfl)
            try simp only [Act.put, List.setIfInBounds_toArray, List.set_cons_zero, List.set_cons_succ]
            refine held_take 8 rfl (by kernel_rfl) (by kernel_rfl) (by kernel_rfl) (fun _ _ _ h => h) hHeld (by rfl) (v := ?_) ?_ ?_
            rotate_left
            · intro w hSw; (try dsimp only at hSw); (try go_simp); (try with_reducible rfl)
            try simp only [Act.put, List.setIfInBounds_toArray, List.set_cons_zero, List.set_cons_succ]
            refine held_take 9 rfl (by kernel_rfl) (by kernel_rfl) (by kernel_rfl) (fun _ _ _ h => h) hHeld (by rfl) (v := ?_) ?_ ?_
            rotate_left
            · intro w hSw; (try dsimp only at hSw); (try go_simp); (try with_reducible rfl)
            try simp only [Act.put, List.setIfInBounds_toArray, List.set_cons_zero, List.set_cons_succ]
            refine held_take 10 rfl (by kernel_rfl) (by kernel_rfl) (by kernel_rfl) (fun _ _ _ h => h) hHeld (by rfl) (v := ?_) ?_ ?_
            rotate_left
            · intro w hSw; (try dsimp only at hSw); (try go_simp); (try with_reducible rfl)
            try simp only [Act.put, List.setIfInBounds_toArray, List.set_cons_zero, List.set_cons_succ]
            refine held_take 11 rfl (by kernel_rfl) (by kernel_rfl) (by kernel_rfl) (fun _ _ _ h => h) hHeld (by rfl) (v := ?_) ?_ ?_
            rotate_left
            · intro w hSw; (try dsimp only at hSw); (try go_simp); (try with_reducible rfl)
            try simp only [Act.put, List.setIfInBounds_toArray, List.set_cons_zero, List.set_cons_succ]
            refine held_step 3 rfl (by kernel_rfl) (by rfl) (fun Kx hK => ?_)
            go_simp
            go_at_call 15; refine (copyKeys_any (.slice x.a x.ks.length x.c) x.ks _ HKRD.out HKL.out).mono ?_; rintro e ws1 ⟨ca1, cc1, rfl, ho1, hb1⟩; have hV1 := hV0.below hb1; have HO1 := hid (Rd.own ho1); have HKR1 := hid (HKRD.out.below hb1); clear ho1 hb1; have hSL := hV1.c2 hS0 HNN.out
            refine hK.out _ _ ?_ (fun hHeld2 => ?_)
            · (try dsimp only); with_reducible first | exact hS0 | exact hSL
            clear hK Kx hHeld
            have hHeld := hHeld2
            clear hHeld2
            try simp only [Act.put, List.setIfInBounds_toArray, List.set_cons_zero, List.set_cons_succ]
            refine held_step 6 rfl (by kernel_rfl) (by rfl) (fun Kx hK => ?_)
            go_simp
            go_at_call 14; refine (t_touch _ _ _ _ _ x.ks x.ver hV1.v.a.v HO1.out (by have := HKL.out; omega)).mono ?_; rintro e ws3 hp3; obtain ⟨F3, a3, c3, R3, rfl, hV3, hR3, hB3, hO3⟩ := hV1.brk hp3; clear hp3; have hSL := hV3.c2 hS0 HNN.out
            refine hK.out _ _ ?_ (fun hHeld2 => ?_)
            · (try dsimp only); with_reducible first | exact hS0 | exact hSL
            clear hK Kx hHeld
            have hHeld := hHeld2
            clear hHeld2
            try simp only [Act.put, List.setIfInBounds_toArray, List.set_cons_zero, List.set_cons_succ]
            refine held_step 12 rfl (by kernel_rfl) (by rfl) (fun Kx hK => ?_)
            go_simp
            go_at_call 31; refine (r_touch _ _ _ _ (.slice x.a x.ks.length x.c) x.ks x.ver hV3.v.x (HKRW.out.below hV3.v.a.below) (by have := HKL.out; omega) HN40.out).mono ?_; rintro e ws4 hp4; obtain ⟨G4, v4, R4, rfl, hV4, hR4, hB4, hC4⟩ := hV3.rbrk hp4; clear hp4; have hB3' := (hB3.move hC4 hO3).rd; have hSL := hV4.c2 hS0 HNN.out
            refine hK.out _ _ ?_ (fun hHeld2 => ?_)
            · (try dsimp only); with_reducible first | exact hS0 | exact hSL
            clear hK Kx hHeld
            have hHeld := hHeld2
            clear hHeld2
            try simp only [Act.put, List.setIfInBounds_toArray, List.set_cons_zero, List.set_cons_succ]
            refine held_step 13 rfl (by kernel_rfl) (by rfl) (fun Kx hK => ?_)
            go_simp
            go_at_call 26; refine (same_brks _ _ R3 R4 _ hB3' hB4 (hR3.trans hR4.symm) (tell_in (t := t) hV4.v.a.v.ok hR3 (touch_tell HN0.out))).mono ?_; rintro e ws5 ⟨rfl, n5, rfl⟩; have hV7 := hV4.below (below_drewN (Below.refl _ _) n5); have hSL := hV7.c2 hS0 HNN.out
            refine hK.out _ _ ?_ (fun hHeld2 => ?_)
            · (try dsimp only); with_reducible first | exact hS0 | exact hSL
            clear hK Kx hHeld
            have hHeld := hHeld2
            clear hHeld2
            try simp only [Act.put, List.setIfInBounds_toArray, List.set_cons_zero, List.set_cons_succ]
            refine held_take 14 rfl (by kernel_rfl) (by kernel_rfl) (by kernel_rfl) (fun _ _ _ h => h) hHeld (by rfl) (v := ?_) ?_ ?_
            rotate_left
            · intro w hSw; (try dsimp only at hSw); (try go_simp); (try with_reducible rfl)
            try simp only [Act.put, List.setIfInBounds_toArray, List.set_cons_zero, List.set_cons_succ]
            refine wpAnyH_done (by kernel_rfl) ?_ _
            clear hHeld
            go_wp2_with fail
            go_meet
            case rel => exact ⟨_, _, _, rfl, hid hV7.v, hid (touch_n _ _ _)⟩
          · have ht0 : (x.kind % 3 == 0) = false := by simp [hq]
            have ht1 : (x.kind % 3 == 1) = false := by simp [hq]
            have ht2 : (x.kind % 3 == 2) = true := by simp [hq]
            clear hq
            go_wp2_with fail
            refine (law_mark _ _ _).mono ?_; rintro e wx ⟨rfl, rfl⟩
            go_wp2_with fail
            by_cases hak : AckOk t x.ep x.num
            · refine (v_ack_yes _ _ _ _ _ _ HV3.out.a.v hak).mono ?_; rintro e w12 ⟨rfl, hv12, hch12⟩
              have HV12 := hid (HV3.out.start.one (HV3.out.a.turn hv12 hch12) hch12 (fg_refl _ _))
              have HAK := hid hak
              clear hv12 hch12 hak
              go_wp2_with fail
              refine (r_ack_yes _ _ _ _ _ _ HV12.out.v.x HAK.out).mono ?_; rintro e w13 ⟨rfl, G13, hx13, hg13, hch13⟩
              have HV13 := hid (HV12.out.two hx13 hch13 hg13)
              clear hx13 hg13 hch13
              go_wp2_with fail
              go_meet
              case rel => exact ⟨_, _, _, rfl, hid HV13.out.v, hid (show t.n ≤ t.n + 1 by omega)⟩
            · refine (v_ack_no _ _ _ _ _ _ HI64.out.1 HI64.out.2 HV3.out.a.v hak).mono ?_; rintro e w12 ⟨rfl, hb12⟩
              have HV12 := hid (HV3.out.below hb12)
              have HAK := hid hak
              clear hb12 hak
              go_wp2_with fail
              refine (r_ack_no _ _ _ _ _ _ HI64.out.1 HI64.out.2 HV12.out.x HAK.out).mono ?_; rintro e w13 ⟨rfl, hb13⟩
              have HV13 := hid (HV12.out.below hb13)
              clear hb13
              go_wp2_with fail
              go_meet
              case rel => exact ⟨_, _, _, rfl, HV13, hid (show t.n ≤ t.n + 1 by omega)⟩
        case rest =>
          obtain ⟨F', G', t', rfl, HV5, HN5⟩ := hcut
          obtain ⟨w5, hw5⟩ := VX.named HV5.out
          subst hw5
          clear BX
          go_wp2_with fail
          refine (like_yes _ _ _ _ _ _ HV5.out.a.v HV5.out.x).mono ?_; rintro e w6 ⟨rfl, hb6⟩
          have HV6 := hid (HV5.out.below hb6)
          have HIN := hid (show t'.n ≤ ((i + 1 : Nat) : Int) by have := HN5.out; have := HT.out; omega)
          clear hb6
          go_wp2
          exact ⟨⟨i + 1, F', G', t', by omega, by go_num, HV6, HIN⟩, by simp [intOf]; omega⟩
      · go_wp2_with fail
        refine (v_awake _).mono ?_; rintro e w9 ⟨rfl, hb9⟩
        have HB9 := hid (HV.out.a.below.trans (hb9.mono HV.out.a.sz))
        clear hb9
        go_wp2
        go_ret
        exact ⟨rfl, HB9.out⟩
  · refine (v_new_no _ ep pr qu hE).mono ?_
    rintro e wx ⟨rfl, rfl⟩
    have HNO := hid hE
    clear hE
    go_wp2_with fail
    refine (r_new_no _ ep pr qu HNO.out).mono ?_
    rintro e wx ⟨rfl, rfl⟩
    go_wp2_with fail
    refine (v_awake _).mono ?_; rintro e w9 ⟨rfl, hb9⟩
    have HB9 := hid hb9
    clear hb9
    go_wp2
    go_ret
    exact ⟨rfl, HB9.out⟩

end Go.Proofs.Ytakkdaenindboaa
