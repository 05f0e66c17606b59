/- Parts of a proof about the given program, in build order: CalW. No condition. -/
import Derived.Test.YtbjibkjenleloaaGreatDoorMg28
section
namespace Go.Proofs.YtbjibkjenleloaaGreatDoor
set_option linter.unusedVariables false
set_option linter.unusedSimpArgs false
open Go.RowKit
attribute [local go_sem ↓] Go.wp_at_zero Go.wp_at_succ
attribute [local go_sem] run_store_complex run_store_float


noncomputable def agBody : Code := match Tryz.f5.body with | some c => c | none => Code.skip
def askA (z : Ow) : Ms := ⟨1, 1, 1, 1, 0, 0, 0, 0, lookOp z.key, none, 0, 0, none, 0, 0⟩
set_option maxRecDepth 100000 in
set_option maxHeartbeats 4000000 in
theorem callAgains_bad (cf : Cf) (path : ByteArray) (ep tk : Int) (w : World) (hp : pathErr path ≠ 0) : Calls Tryz.prog 5 #[cf.v, .string path, .int .i64 ep, .int .i64 tk] w fun e w' => e = .returned (.bool true) ∧ Below w.heap.size w w' := by
  have HP := hid hp
  clear hp
  have b := blk7 (heap_new w (.cells #[.int .i64 cf.cl, .int .i64 cf.de, .int .i64 cf.ne, .int .i64 cf.li, .int .i64 cf.pr, .int .i64 cf.qu, .int .i64 cf.ho] 23))
  have HB := hid (bl1 w (.cells #[.int .i64 cf.cl, .int .i64 cf.de, .int .i64 cf.ne, .int .i64 cf.li, .int .i64 cf.pr, .int .i64 cf.qu, .int .i64 cf.ho] 23))
  unfold Cf.v
  go_enter Tryz.func5, Tryz.ntmps5
  go_wp2_with fail
  refine (law_client cf _).mono ?_; rintro e w1 ⟨c, t, B, p, q, c2, rfl, hR2, hC1, hcz, htz, hBz, _, _, _, _, _, hb1⟩
  have HR2 := hid hR2
  have HB1 := hid (HB.out.trans (hb1.mono HB.out.size))
  have HLO := hid (show w.heap.size ≤ c ∧ w.heap.size ≤ t ∧ w.heap.size ≤ B by simp at hcz htz hBz; omega)
  have HLZ := hid (And.intro (blk_lt hC1.hc) (And.intro hC1.ht.lt hC1.hp.lt))
  have HC1 := hid (hC1.below (bl1 w1 (.cells #[.pointer (some ⟨c, 0, none⟩), .pointer (some ⟨q, 0, none⟩)] 29)))
  have HO1 := hid (heap_new w1 (.cells #[.pointer (some ⟨c, 0, none⟩), .pointer (some ⟨q, 0, none⟩)] 29))
  have HB2 := hid (HB1.out.trans ((bl1 w1 (.cells #[.pointer (some ⟨c, 0, none⟩), .pointer (some ⟨q, 0, none⟩)] 29)).mono HB1.out.size))
  have bo := blk2 HO1.out
  clear b hR2 hC1 hcz htz hBz hb1
  go_wp2_with fail
  refine (start_look_bad _ c t B p 0 (cl0 1 1 c2) (td0 1 1 c2.ho) [] _ 0 path { data := #[] } HC1.out rfl HP.out).mono ?_
  rintro e w3 ⟨rfl, hb3⟩
  have HC3 := hid (HC1.out.below hb3)
  have HO3 := hid (heap_below hb3 HO1.out (blk_lt HO1.out))
  have HB3 := hid (HB2.out.trans (hb3.mono HB2.out.size))
  clear bo hb3
  have HON := hid (heap_old HO3.out (.cells #[.int .i64 (pathErr path), .int .i64 0, .int .i64 0, .int .i64 0, .string { data := #[] }, .slice none 0 0, .int .i64 0] 43))
  have bo := blk2 HO3.out
  have hoz := blk_lt HO3.out
  have HCN := hid (HC3.out.below (bl1 w3 (.cells #[.int .i64 (pathErr path), .int .i64 0, .int .i64 0, .int .i64 0, .string { data := #[] }, .slice none 0 0, .int .i64 0] 43)))
  go_wp2_with fail
  refine (tick_none _ c t B p _ _ _ _ _ HCN.out rfl rfl rfl).mono ?_; rintro e w4 ⟨rfl, rfl⟩
  go_wp2_with fail
  refine (call_awake _).mono ?_; rintro e w4 ⟨rfl, hb4⟩
  have HB4 := hid ((HB3.out.trans ((bl1 w3 (.cells #[.int .i64 (pathErr path), .int .i64 0, .int .i64 0, .int .i64 0, .string { data := #[] }, .slice none 0 0, .int .i64 0] 43)).mono HB3.out.size)).trans (hb4.mono (by have := HB3.out.size; simp; omega)))
  clear hb4 bo
  go_wp2
  go_ret
  exact ⟨rfl, HB4.out⟩
set_option maxRecDepth 100000 in
set_option maxHeartbeats 4000000 in
theorem ag_front (cf : Cf) (path : ByteArray) (ep tk : Int) (w : World) (hp : pathErr path = 0) (K : Code)
    (hK : ∀ (a : Act) (w7 : World) (c t B p n o g : Nat) (q : Nat) (c2 : Cf) (s : Cl) (L : List En) (z : Ow), a.tmps.size = 201 → a.defers = [] → a.tmps.getD 2 undef = .int .i64 ep → a.tmps.getD 3 undef = .int .i64 tk → a.tmps.getD 9 undef = .pointer (some ⟨o, 0, none⟩) → a.tmps.getD 11 undef = .slice (some ⟨g, 0, none⟩) 1 1 →
      (w.heap.size ≤ c ∧ w.heap.size ≤ t ∧ w.heap.size ≤ B ∧ w.heap.size ≤ o) → (c < o ∧ t < o ∧ p < o) → CliAt w7 c t B p n s { td0 1 1 c2.ho with asked := 1 } L (fun _ => false) → s.busy = true → s.id = 1 → s.life = 1 → s.am = askA z → w7.heap[o]? = some (.cells #[.pointer (some ⟨c, 0, none⟩), .pointer (some ⟨q, 0, none⟩)] 29 (0, 0)) → w7.ownsRow o 50 16 (.slice (some ⟨g, 0, none⟩) 1 1) 1 (askA z).cs.toList → Below w.heap.size w w7 → K.wp Tryz.prog (bodyPost Tryz.prog Tryz.f5 fun e w' => e = .returned (.bool true) ∧ Below w.heap.size w w') a w7) :
    (cutN 8 agBody K).wp Tryz.prog (bodyPost Tryz.prog Tryz.f5 fun e w' => e = .returned (.bool true) ∧ Below w.heap.size w w') { tmps := #[cf.v, .string path, .int .i64 ep, .int .i64 tk, undef, undef, undef, undef, undef, undef, undef, undef, undef, undef, undef, undef, undef, undef, undef, undef, undef, undef, undef, undef, undef, undef, undef, undef, undef, undef, undef, undef, undef, undef, undef, undef, undef, undef, undef, undef, undef, undef, undef, undef, undef, undef, undef, undef, undef, undef, undef, undef, undef, undef, undef, undef, undef, undef, undef, undef, undef, undef, undef, undef, undef, undef, undef, undef, undef, undef, undef, undef, undef, undef, undef, undef, undef, undef, undef, undef, undef, undef, undef, undef, undef, undef, undef, undef, undef, undef, undef, undef, undef, undef, undef, undef, undef, undef, undef, undef, undef, undef, undef, undef, undef, undef, undef, undef, undef, undef, undef, undef, undef, undef, undef, undef, undef, undef, undef, undef, undef, undef, undef, undef, undef, undef, undef, undef, undef, undef, undef, undef, undef, undef, undef, undef, undef, undef, undef, undef, undef, undef, undef, undef, undef, undef, undef, undef, undef, undef, undef, undef, undef, undef, undef, undef, undef, undef, undef, undef, undef, undef, undef, undef, undef, undef, undef, undef, undef, undef, undef, undef, undef, undef, undef, undef, undef, undef, undef, undef, undef, undef, undef, undef, undef, undef, undef, undef, undef, undef, undef, undef, undef, undef, undef, undef, undef, undef, undef, undef, undef], defers := [] } w := by
  conv => pattern (cutN 8 agBody K); whnf
  simp only [cutN]
  have HK := hid hK
  clear hK
  have HP := hid hp
  clear hp
  have b := blk7 (heap_new w (.cells #[.int .i64 cf.cl, .int .i64 cf.de, .int .i64 cf.ne, .int .i64 cf.li, .int .i64 cf.pr, .int .i64 cf.qu, .int .i64 cf.ho] 23))
  have HB := hid (bl1 w (.cells #[.int .i64 cf.cl, .int .i64 cf.de, .int .i64 cf.ne, .int .i64 cf.li, .int .i64 cf.pr, .int .i64 cf.qu, .int .i64 cf.ho] 23))
  unfold Cf.v
  go_wp2_with fail
  refine (law_client cf _).mono ?_; rintro e w1 ⟨c, t, B, p, q, c2, rfl, hR2, hC1, hcz, htz, hBz, _, _, _, _, _, hb1⟩
  have HR2 := hid hR2
  have HB1 := hid (HB.out.trans (hb1.mono HB.out.size))
  have HLO := hid (show w.heap.size ≤ c ∧ w.heap.size ≤ t ∧ w.heap.size ≤ B by simp at hcz htz hBz; omega)
  have HLZ := hid (And.intro (blk_lt hC1.hc) (And.intro hC1.ht.lt hC1.hp.lt))
  have HC1 := hid (hC1.below (bl1 w1 (.cells #[.pointer (some ⟨c, 0, none⟩), .pointer (some ⟨q, 0, none⟩)] 29)))
  have HO1 := hid (heap_new w1 (.cells #[.pointer (some ⟨c, 0, none⟩), .pointer (some ⟨q, 0, none⟩)] 29))
  have HB2 := hid (HB1.out.trans ((bl1 w1 (.cells #[.pointer (some ⟨c, 0, none⟩), .pointer (some ⟨q, 0, none⟩)] 29)).mono HB1.out.size))
  have bo := blk2 HO1.out
  clear b hR2 hC1 hcz htz hBz hb1
  go_wp2_with fail
  have HRR := hid (show 0 ≤ c2.li ∧ c2.li ≤ 8 from HR2.out.2.2.2.1)
  refine (start_look _ c t B p 0 (cl0 1 1 c2) (td0 1 1 c2.ho) [] _ 0 path { data := #[] } HC1.out rfl HP.out HRR.out.1 HRR.out.2 (by decide) (show (0 : Int) ≤ 0 by decide) (show (0 : Int) < 1000000000000 by decide)).mono ?_
  rintro e w3 ⟨z, n', hn', hwk, hcase, hx⟩
  have hlow : ∀ i, i < w.heap.size → ¬ (i = c ∨ i = t ∨ CF B p i) := fun i hi hf => by
    have := HLO.out
    rcases hf with hf | hf | hf
    · omega
    · omega
    · have := hf.1; omega
  have hlt1 := blk_lt HO1.out
  have HO3 := hid (heap_chg hx HO1.out (fun hf => by
    have h1 := HLZ.out
    rcases hf with hf | hf | hf
    · omega
    · omega
    · have := hf.2; omega))
  have HB3 := hid (HB2.out.trans (hx.toBelow HB2.out.size hlow))
  have HN3 := hid hn'
  clear bo hx hwk hn' hlt1
  rcases hcase with ⟨hnd, ⟨g, rfl, ho⟩, hc3⟩ | ⟨hnd, rfl, hc3⟩
  · have HC3 := hid hc3
    have HO := hid ho
    have HND := hid hnd
    clear hc3 hnd ho
    have hcn : ∀ W : World, (binOp .neq 46 (.complex .f64 (fl 0) (fl 0)) (.complex .f64 0 0)).run Tryz.prog W = .ok (.bool false) W := fun W => by kernel_rfl
    have bo := blk2 HO3.out
    have hoz := blk_lt HO3.out
    have A3 := Rd.own HO.out
    have a4 := A3.at 4 (.complex .f64 (fl 0) (fl 0)) rfl
    simp only [Nat.zero_add] at a4
    have hgz : g < w3.heap.size := (own_lt HO.out rfl).2
    have HC4 := hid (HC3.out.below (bl1 w3 (.cells #[.int .i64 0, .int .i64 0, .int .i64 0, .int .i64 0, .string { data := #[] }, .slice none 0 0, .int .i64 0] 43)))
    have HO4 := hid (heap_old HO3.out (.cells #[.int .i64 0, .int .i64 0, .int .i64 0, .int .i64 0, .string { data := #[] }, .slice none 0 0, .int .i64 0] 43))
    have HG4 := hid (own_alloc HO.out (.cells #[.int .i64 0, .int .i64 0, .int .i64 0, .int .i64 0, .string { data := #[] }, .slice none 0 0, .int .i64 0] 43))
    have HB4 := hid (HB3.out.trans ((bl1 w3 (.cells #[.int .i64 0, .int .i64 0, .int .i64 0, .int .i64 0, .string { data := #[] }, .slice none 0 0, .int .i64 0] 43)).mono HB3.out.size))
    clear A3
    go_wp2_with fail
    refine (tick_ask _ c t B p n' _ _ _ _ HC4.out (show InM 0 by unfold InM; omega) (show InM 0 by unfold InM; omega) rfl (show (1 : Int) ≠ 0 by decide)).mono ?_
    rintro e w6 ⟨a6, c6, rfl, ho6, hc6, hx6⟩
    obtain ⟨g6, ha6, hg6, hg6z, _, _⟩ := own_loc ho6 (by omega)
    subst ha6
    have HR6 := hid ho6
    have HC6 := hid hc6
    have HG6 := hid (ownsRow_chg HG4.out fun j hj hl => hx6.block j hl fun e1 => by subst e1; exact own_ne HG4.out HC4.out.hc (by decide) hj)
    have HO6 := hid (heap_chg hx6 HO4.out (by have := HLZ.out; omega))
    have HB6 := hid (HB4.out.trans (hx6.toBelow HB4.out.size fun i hi hf => by have := HLO.out; omega))
    clear bo a4 ho6 hc6 hx6
    have P6 := Rd.own HR6.out
    have P3 := Rd.own HG6.out
    have x0 := P6.at 0 (.int .i64 1) rfl
    have x1 := P6.at 1 (.int .i64 1) rfl
    have x2 := P6.at 2 (.int .i64 1) rfl
    have x3 := P6.at 3 (.int .i64 1) rfl
    have x4 := P6.at 4 (.complex .f64 (fl 0) (fl 0)) rfl
    have x5 := P6.at 5 (.int .i64 0) rfl
    have x6 := P6.at 6 (.int .i64 0) rfl
    have x7 := P6.at 7 (.int .i64 1) rfl
    have x8 := P6.at 8 (.int .i64 z.key.dir) rfl
    have x9 := P6.at 9 (.string z.key.name) rfl
    have x10 := P6.at 10 (.int .i64 0) rfl
    have x11 := P6.at 11 (.string { data := #[] }) rfl
    have x12 := P6.at 12 (.int .i64 0) rfl
    have x13 := P6.at 13 (.string { data := #[] }) rfl
    have x14 := P6.at 14 (.slice none 0 0) rfl
    have x15 := P6.at 15 (.slice none 0 0) rfl
    have y0 := P3.at 0 (.int .i64 1) rfl
    have y1 := P3.at 1 (.int .i64 1) rfl
    have y2 := P3.at 2 (.int .i64 1) rfl
    have y3 := P3.at 3 (.int .i64 1) rfl
    have y4 := P3.at 4 (.complex .f64 (fl 0) (fl 0)) rfl
    have y5 := P3.at 5 (.int .i64 0) rfl
    have y6 := P3.at 6 (.int .i64 0) rfl
    have y7 := P3.at 7 (.int .i64 1) rfl
    have y8 := P3.at 8 (.int .i64 z.key.dir) rfl
    have y9 := P3.at 9 (.string z.key.name) rfl
    have y10 := P3.at 10 (.int .i64 0) rfl
    have y11 := P3.at 11 (.string { data := #[] }) rfl
    have y12 := P3.at 12 (.int .i64 0) rfl
    have y13 := P3.at 13 (.string { data := #[] }) rfl
    have y14 := P3.at 14 (.slice none 0 0) rfl
    have y15 := P3.at 15 (.slice none 0 0) rfl
    simp only [Nat.zero_add] at x0 x1 x2 x3 x4 x5 x6 x7 x8 x9 x10 x11 x12 x13 x14 x15 y0 y1 y2 y3 y4 y5 y6 y7 y8 y9 y10 y11 y12 y13 y14 y15
    have KR : w6.cell? ⟨g6, 0, none⟩ = some (.int .i64 1) ∧ w6.cell? ⟨g6, 1, none⟩ = some (.int .i64 1) ∧ w6.cell? ⟨g6, 2, none⟩ = some (.int .i64 1) ∧ w6.cell? ⟨g6, 3, none⟩ = some (.int .i64 1) ∧ w6.cell? ⟨g6, 4, none⟩ = some (.complex .f64 (fl 0) (fl 0)) ∧ w6.cell? ⟨g6, 5, none⟩ = some (.int .i64 0) ∧ w6.cell? ⟨g6, 6, none⟩ = some (.int .i64 0) ∧ w6.cell? ⟨g6, 7, none⟩ = some (.int .i64 1) ∧ w6.cell? ⟨g6, 8, none⟩ = some (.int .i64 z.key.dir) ∧ w6.cell? ⟨g6, 9, none⟩ = some (.string z.key.name) ∧ w6.cell? ⟨g6, 10, none⟩ = some (.int .i64 0) ∧ w6.cell? ⟨g6, 11, none⟩ = some (.string { data := #[] }) ∧ w6.cell? ⟨g6, 12, none⟩ = some (.int .i64 0) ∧ w6.cell? ⟨g6, 13, none⟩ = some (.string { data := #[] }) ∧ w6.cell? ⟨g6, 14, none⟩ = some (.slice none 0 0) ∧ w6.cell? ⟨g6, 15, none⟩ = some (.slice none 0 0) ∧ w6.cell? ⟨g, 0, none⟩ = some (.int .i64 1) ∧ w6.cell? ⟨g, 1, none⟩ = some (.int .i64 1) ∧ w6.cell? ⟨g, 2, none⟩ = some (.int .i64 1) ∧ w6.cell? ⟨g, 3, none⟩ = some (.int .i64 1) ∧ w6.cell? ⟨g, 4, none⟩ = some (.complex .f64 (fl 0) (fl 0)) ∧ w6.cell? ⟨g, 5, none⟩ = some (.int .i64 0) ∧ w6.cell? ⟨g, 6, none⟩ = some (.int .i64 0) ∧ w6.cell? ⟨g, 7, none⟩ = some (.int .i64 1) ∧ w6.cell? ⟨g, 8, none⟩ = some (.int .i64 z.key.dir) ∧ w6.cell? ⟨g, 9, none⟩ = some (.string z.key.name) ∧ w6.cell? ⟨g, 10, none⟩ = some (.int .i64 0) ∧ w6.cell? ⟨g, 11, none⟩ = some (.string { data := #[] }) ∧ w6.cell? ⟨g, 12, none⟩ = some (.int .i64 0) ∧ w6.cell? ⟨g, 13, none⟩ = some (.string { data := #[] }) ∧ w6.cell? ⟨g, 14, none⟩ = some (.slice none 0 0) ∧ w6.cell? ⟨g, 15, none⟩ = some (.slice none 0 0) := ⟨x0, x1, x2, x3, x4, x5, x6, x7, x8, x9, x10, x11, x12, x13, x14, x15, y0, y1, y2, y3, y4, y5, y6, y7, y8, y9, y10, y11, y12, y13, y14, y15⟩
    have KRd : w6.drew.cell? ⟨g6, 0, none⟩ = some (.int .i64 1) ∧ w6.drew.cell? ⟨g6, 1, none⟩ = some (.int .i64 1) ∧ w6.drew.cell? ⟨g6, 2, none⟩ = some (.int .i64 1) ∧ w6.drew.cell? ⟨g6, 3, none⟩ = some (.int .i64 1) ∧ w6.drew.cell? ⟨g6, 4, none⟩ = some (.complex .f64 (fl 0) (fl 0)) ∧ w6.drew.cell? ⟨g6, 5, none⟩ = some (.int .i64 0) ∧ w6.drew.cell? ⟨g6, 6, none⟩ = some (.int .i64 0) ∧ w6.drew.cell? ⟨g6, 7, none⟩ = some (.int .i64 1) ∧ w6.drew.cell? ⟨g6, 8, none⟩ = some (.int .i64 z.key.dir) ∧ w6.drew.cell? ⟨g6, 9, none⟩ = some (.string z.key.name) ∧ w6.drew.cell? ⟨g6, 10, none⟩ = some (.int .i64 0) ∧ w6.drew.cell? ⟨g6, 11, none⟩ = some (.string { data := #[] }) ∧ w6.drew.cell? ⟨g6, 12, none⟩ = some (.int .i64 0) ∧ w6.drew.cell? ⟨g6, 13, none⟩ = some (.string { data := #[] }) ∧ w6.drew.cell? ⟨g6, 14, none⟩ = some (.slice none 0 0) ∧ w6.drew.cell? ⟨g6, 15, none⟩ = some (.slice none 0 0) ∧ w6.drew.cell? ⟨g, 0, none⟩ = some (.int .i64 1) ∧ w6.drew.cell? ⟨g, 1, none⟩ = some (.int .i64 1) ∧ w6.drew.cell? ⟨g, 2, none⟩ = some (.int .i64 1) ∧ w6.drew.cell? ⟨g, 3, none⟩ = some (.int .i64 1) ∧ w6.drew.cell? ⟨g, 4, none⟩ = some (.complex .f64 (fl 0) (fl 0)) ∧ w6.drew.cell? ⟨g, 5, none⟩ = some (.int .i64 0) ∧ w6.drew.cell? ⟨g, 6, none⟩ = some (.int .i64 0) ∧ w6.drew.cell? ⟨g, 7, none⟩ = some (.int .i64 1) ∧ w6.drew.cell? ⟨g, 8, none⟩ = some (.int .i64 z.key.dir) ∧ w6.drew.cell? ⟨g, 9, none⟩ = some (.string z.key.name) ∧ w6.drew.cell? ⟨g, 10, none⟩ = some (.int .i64 0) ∧ w6.drew.cell? ⟨g, 11, none⟩ = some (.string { data := #[] }) ∧ w6.drew.cell? ⟨g, 12, none⟩ = some (.int .i64 0) ∧ w6.drew.cell? ⟨g, 13, none⟩ = some (.string { data := #[] }) ∧ w6.drew.cell? ⟨g, 14, none⟩ = some (.slice none 0 0) ∧ w6.drew.cell? ⟨g, 15, none⟩ = some (.slice none 0 0) := KR
    clear P6 P3 x0 x1 x2 x3 x4 x5 x6 x7 x8 x9 x10 x11 x12 x13 x14 x15 y0 y1 y2 y3 y4 y5 y6 y7 y8 y9 y10 y11 y12 y13 y14 y15
    go_wp2_with fail
    go_region_held3 (fun w' => w'.cell? ⟨g6, 0, none⟩ = some (.int .i64 1) ∧ w'.cell? ⟨g6, 1, none⟩ = some (.int .i64 1) ∧ w'.cell? ⟨g6, 2, none⟩ = some (.int .i64 1) ∧ w'.cell? ⟨g6, 3, none⟩ = some (.int .i64 1) ∧ w'.cell? ⟨g6, 4, none⟩ = some (.complex .f64 (fl 0) (fl 0)) ∧ w'.cell? ⟨g6, 5, none⟩ = some (.int .i64 0) ∧ w'.cell? ⟨g6, 6, none⟩ = some (.int .i64 0) ∧ w'.cell? ⟨g6, 7, none⟩ = some (.int .i64 1) ∧ w'.cell? ⟨g6, 8, none⟩ = some (.int .i64 z.key.dir) ∧ w'.cell? ⟨g6, 9, none⟩ = some (.string z.key.name) ∧ w'.cell? ⟨g6, 10, none⟩ = some (.int .i64 0) ∧ w'.cell? ⟨g6, 11, none⟩ = some (.string { data := #[] }) ∧ w'.cell? ⟨g6, 12, none⟩ = some (.int .i64 0) ∧ w'.cell? ⟨g6, 13, none⟩ = some (.string { data := #[] }) ∧ w'.cell? ⟨g6, 14, none⟩ = some (.slice none 0 0) ∧ w'.cell? ⟨g6, 15, none⟩ = some (.slice none 0 0) ∧ w'.cell? ⟨g, 0, none⟩ = some (.int .i64 1) ∧ w'.cell? ⟨g, 1, none⟩ = some (.int .i64 1) ∧ w'.cell? ⟨g, 2, none⟩ = some (.int .i64 1) ∧ w'.cell? ⟨g, 3, none⟩ = some (.int .i64 1) ∧ w'.cell? ⟨g, 4, none⟩ = some (.complex .f64 (fl 0) (fl 0)) ∧ w'.cell? ⟨g, 5, none⟩ = some (.int .i64 0) ∧ w'.cell? ⟨g, 6, none⟩ = some (.int .i64 0) ∧ w'.cell? ⟨g, 7, none⟩ = some (.int .i64 1) ∧ w'.cell? ⟨g, 8, none⟩ = some (.int .i64 z.key.dir) ∧ w'.cell? ⟨g, 9, none⟩ = some (.string z.key.name) ∧ w'.cell? ⟨g, 10, none⟩ = some (.int .i64 0) ∧ w'.cell? ⟨g, 11, none⟩ = some (.string { data := #[] }) ∧ w'.cell? ⟨g, 12, none⟩ = some (.int .i64 0) ∧ w'.cell? ⟨g, 13, none⟩ = some (.string { data := #[] }) ∧ w'.cell? ⟨g, 14, none⟩ = some (.slice none 0 0) ∧ w'.cell? ⟨g, 15, none⟩ = some (.slice none 0 0))
      (first | with_reducible exact KR | with_reducible exact KRd | with_reducible exact K7)
      (first | (go_at_call 19; refine (same_msg _ (askA z) (show InM 0 by unfold InM; omega) (show InM 0 by unfold InM; omega)).mono ?_; rintro e w7 ⟨rfl, hb7⟩; (have HB7 := hid hb7); (have HC7 := hid (CliAt.below HC6.out.drew hb7)); (have HO7 := hid (heap_below (w := w6.drew) hb7 HO6.out (blk_lt HO6.out))); (have HG7 := hid (own_below (own_drew HG6.out) hb7)); (have HR7 := hid (own_below (own_drew HR6.out) hb7)); (have K7 : w7.cell? ⟨g6, 0, none⟩ = some (.int .i64 1) ∧ w7.cell? ⟨g6, 1, none⟩ = some (.int .i64 1) ∧ w7.cell? ⟨g6, 2, none⟩ = some (.int .i64 1) ∧ w7.cell? ⟨g6, 3, none⟩ = some (.int .i64 1) ∧ w7.cell? ⟨g6, 4, none⟩ = some (.complex .f64 (fl 0) (fl 0)) ∧ w7.cell? ⟨g6, 5, none⟩ = some (.int .i64 0) ∧ w7.cell? ⟨g6, 6, none⟩ = some (.int .i64 0) ∧ w7.cell? ⟨g6, 7, none⟩ = some (.int .i64 1) ∧ w7.cell? ⟨g6, 8, none⟩ = some (.int .i64 z.key.dir) ∧ w7.cell? ⟨g6, 9, none⟩ = some (.string z.key.name) ∧ w7.cell? ⟨g6, 10, none⟩ = some (.int .i64 0) ∧ w7.cell? ⟨g6, 11, none⟩ = some (.string { data := #[] }) ∧ w7.cell? ⟨g6, 12, none⟩ = some (.int .i64 0) ∧ w7.cell? ⟨g6, 13, none⟩ = some (.string { data := #[] }) ∧ w7.cell? ⟨g6, 14, none⟩ = some (.slice none 0 0) ∧ w7.cell? ⟨g6, 15, none⟩ = some (.slice none 0 0) ∧ w7.cell? ⟨g, 0, none⟩ = some (.int .i64 1) ∧ w7.cell? ⟨g, 1, none⟩ = some (.int .i64 1) ∧ w7.cell? ⟨g, 2, none⟩ = some (.int .i64 1) ∧ w7.cell? ⟨g, 3, none⟩ = some (.int .i64 1) ∧ w7.cell? ⟨g, 4, none⟩ = some (.complex .f64 (fl 0) (fl 0)) ∧ w7.cell? ⟨g, 5, none⟩ = some (.int .i64 0) ∧ w7.cell? ⟨g, 6, none⟩ = some (.int .i64 0) ∧ w7.cell? ⟨g, 7, none⟩ = some (.int .i64 1) ∧ w7.cell? ⟨g, 8, none⟩ = some (.int .i64 z.key.dir) ∧ w7.cell? ⟨g, 9, none⟩ = some (.string z.key.name) ∧ w7.cell? ⟨g, 10, none⟩ = some (.int .i64 0) ∧ w7.cell? ⟨g, 11, none⟩ = some (.string { data := #[] }) ∧ w7.cell? ⟨g, 12, none⟩ = some (.int .i64 0) ∧ w7.cell? ⟨g, 13, none⟩ = some (.string { data := #[] }) ∧ w7.cell? ⟨g, 14, none⟩ = some (.slice none 0 0) ∧ w7.cell? ⟨g, 15, none⟩ = some (.slice none 0 0) := by (have P6 := Rd.own HR7.out); (have P3 := Rd.own HG7.out); exact ⟨by simpa using P6.at 0 (.int .i64 1) rfl, by simpa using P6.at 1 (.int .i64 1) rfl, by simpa using P6.at 2 (.int .i64 1) rfl, by simpa using P6.at 3 (.int .i64 1) rfl, by simpa using P6.at 4 (.complex .f64 (fl 0) (fl 0)) rfl, by simpa using P6.at 5 (.int .i64 0) rfl, by simpa using P6.at 6 (.int .i64 0) rfl, by simpa using P6.at 7 (.int .i64 1) rfl, by simpa using P6.at 8 (.int .i64 z.key.dir) rfl, by simpa using P6.at 9 (.string z.key.name) rfl, by simpa using P6.at 10 (.int .i64 0) rfl, by simpa using P6.at 11 (.string { data := #[] }) rfl, by simpa using P6.at 12 (.int .i64 0) rfl, by simpa using P6.at 13 (.string { data := #[] }) rfl, by simpa using P6.at 14 (.slice none 0 0) rfl, by simpa using P6.at 15 (.slice none 0 0) rfl, by simpa using P3.at 0 (.int .i64 1) rfl, by simpa using P3.at 1 (.int .i64 1) rfl, by simpa using P3.at 2 (.int .i64 1) rfl, by simpa using P3.at 3 (.int .i64 1) rfl, by simpa using P3.at 4 (.complex .f64 (fl 0) (fl 0)) rfl, by simpa using P3.at 5 (.int .i64 0) rfl, by simpa using P3.at 6 (.int .i64 0) rfl, by simpa using P3.at 7 (.int .i64 1) rfl, by simpa using P3.at 8 (.int .i64 z.key.dir) rfl, by simpa using P3.at 9 (.string z.key.name) rfl, by simpa using P3.at 10 (.int .i64 0) rfl, by simpa using P3.at 11 (.string { data := #[] }) rfl, by simpa using P3.at 12 (.int .i64 0) rfl, by simpa using P3.at 13 (.string { data := #[] }) rfl, by simpa using P3.at 14 (.slice none 0 0) rfl, by simpa using P3.at 15 (.slice none 0 0) rfl⟩); clear hb7))
    clear KR KRd K7
    go_wp2_with fail
    refine HK.out _ w7 c t B p n' w1.heap.size g q c2 _ _ z ?_ ?_ ?_ ?_ ?_ ?_ ?_ ?_ HC7.out rfl rfl rfl rfl HO7.out (ownsRow_mono HG7.out (by simp)) (HB6.out.drew.trans (HB7.out.mono HB6.out.size))
    · rfl
    · rfl
    · rfl
    · rfl
    · rfl
    · rfl
    · have := HLO.out; have := HB1.out.size; omega
    · exact HLZ.out
  · have HC3 := hid hc3
    unfold An.v
    clear hc3 hnd
    have HON := hid (heap_old HO3.out (.cells #[.int .i64 z.err, .int .i64 z.node.id, .int .i64 z.node.kind, .int .i64 z.node.mode, .string z.node.target, .slice none 0 0, .int .i64 0] 43))
    have bo := blk2 HO3.out
    have hoz := blk_lt HO3.out
    have HCN := hid (HC3.out.below (bl1 w3 (.cells #[.int .i64 z.err, .int .i64 z.node.id, .int .i64 z.node.kind, .int .i64 z.node.mode, .string z.node.target, .slice none 0 0, .int .i64 0] 43)))
    go_wp2_with fail
    refine (tick_none _ c t B p _ _ _ _ _ HCN.out rfl rfl rfl).mono ?_; rintro e w4 ⟨rfl, rfl⟩
    go_wp2_with fail
    refine (call_awake _).mono ?_; rintro e w4 ⟨rfl, hb4⟩
    have HB4 := hid ((HB3.out.trans ((bl1 w3 (.cells #[.int .i64 z.err, .int .i64 z.node.id, .int .i64 z.node.kind, .int .i64 z.node.mode, .string z.node.target, .slice none 0 0, .int .i64 0] 43)).mono HB3.out.size)).trans (hb4.mono (by have := HB3.out.size; simp; omega)))
    clear hb4 bo
    go_wp2
    go_ret
    exact ⟨rfl, HB4.out⟩
end Go.Proofs.YtbjibkjenleloaaGreatDoor

end
