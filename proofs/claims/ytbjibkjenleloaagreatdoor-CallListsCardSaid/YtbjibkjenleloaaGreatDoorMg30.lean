/- Parts of a proof about the given program, in build order: CmuG. No condition. -/
import Derived.Test.YtbjibkjenleloaaGreatDoorMg27
section
namespace Go.Proofs.YtbjibkjenleloaaGreatDoor
set_option linter.unusedVariables false
set_option linter.unusedSimpArgs false
open Go.RowKit
attribute [local go_sem ↓] Go.wp_at_zero Go.wp_at_succ
attribute [local go_sem] run_store_complex run_store_float

theorem frame111 (a : Act) (h : a.tmps.size = 111) (hd : a.defers = []) : a = { tmps := #[a.tmps.getD 0 undef, a.tmps.getD 1 undef, a.tmps.getD 2 undef, a.tmps.getD 3 undef, a.tmps.getD 4 undef, a.tmps.getD 5 undef, a.tmps.getD 6 undef, a.tmps.getD 7 undef, a.tmps.getD 8 undef, a.tmps.getD 9 undef, a.tmps.getD 10 undef, a.tmps.getD 11 undef, a.tmps.getD 12 undef, a.tmps.getD 13 undef, a.tmps.getD 14 undef, a.tmps.getD 15 undef, a.tmps.getD 16 undef, a.tmps.getD 17 undef, a.tmps.getD 18 undef, a.tmps.getD 19 undef, a.tmps.getD 20 undef, a.tmps.getD 21 undef, a.tmps.getD 22 undef, a.tmps.getD 23 undef, a.tmps.getD 24 undef, a.tmps.getD 25 undef, a.tmps.getD 26 undef, a.tmps.getD 27 undef, a.tmps.getD 28 undef, a.tmps.getD 29 undef, a.tmps.getD 30 undef, a.tmps.getD 31 undef, a.tmps.getD 32 undef, a.tmps.getD 33 undef, a.tmps.getD 34 undef, a.tmps.getD 35 undef, a.tmps.getD 36 undef, a.tmps.getD 37 undef, a.tmps.getD 38 undef, a.tmps.getD 39 undef, a.tmps.getD 40 undef, a.tmps.getD 41 undef, a.tmps.getD 42 undef, a.tmps.getD 43 undef, a.tmps.getD 44 undef, a.tmps.getD 45 undef, a.tmps.getD 46 undef, a.tmps.getD 47 undef, a.tmps.getD 48 undef, a.tmps.getD 49 undef, a.tmps.getD 50 undef, a.tmps.getD 51 undef, a.tmps.getD 52 undef, a.tmps.getD 53 undef, a.tmps.getD 54 undef, a.tmps.getD 55 undef, a.tmps.getD 56 undef, a.tmps.getD 57 undef, a.tmps.getD 58 undef, a.tmps.getD 59 undef, a.tmps.getD 60 undef, a.tmps.getD 61 undef, a.tmps.getD 62 undef, a.tmps.getD 63 undef, a.tmps.getD 64 undef, a.tmps.getD 65 undef, a.tmps.getD 66 undef, a.tmps.getD 67 undef, a.tmps.getD 68 undef, a.tmps.getD 69 undef, a.tmps.getD 70 undef, a.tmps.getD 71 undef, a.tmps.getD 72 undef, a.tmps.getD 73 undef, a.tmps.getD 74 undef, a.tmps.getD 75 undef, a.tmps.getD 76 undef, a.tmps.getD 77 undef, a.tmps.getD 78 undef, a.tmps.getD 79 undef, a.tmps.getD 80 undef, a.tmps.getD 81 undef, a.tmps.getD 82 undef, a.tmps.getD 83 undef, a.tmps.getD 84 undef, a.tmps.getD 85 undef, a.tmps.getD 86 undef, a.tmps.getD 87 undef, a.tmps.getD 88 undef, a.tmps.getD 89 undef, a.tmps.getD 90 undef, a.tmps.getD 91 undef, a.tmps.getD 92 undef, a.tmps.getD 93 undef, a.tmps.getD 94 undef, a.tmps.getD 95 undef, a.tmps.getD 96 undef, a.tmps.getD 97 undef, a.tmps.getD 98 undef, a.tmps.getD 99 undef, a.tmps.getD 100 undef, a.tmps.getD 101 undef, a.tmps.getD 102 undef, a.tmps.getD 103 undef, a.tmps.getD 104 undef, a.tmps.getD 105 undef, a.tmps.getD 106 undef, a.tmps.getD 107 undef, a.tmps.getD 108 undef, a.tmps.getD 109 undef, a.tmps.getD 110 undef], defers := [] } := by
  obtain ⟨t, d⟩ := a
  simp only at h hd
  subst hd
  have h1 := arr_range t 111 h
  show Act.mk t [] = _
  have h2 : ((List.range 111).map fun i => t.getD i undef).toArray = #[t.getD 0 undef, t.getD 1 undef, t.getD 2 undef, t.getD 3 undef, t.getD 4 undef, t.getD 5 undef, t.getD 6 undef, t.getD 7 undef, t.getD 8 undef, t.getD 9 undef, t.getD 10 undef, t.getD 11 undef, t.getD 12 undef, t.getD 13 undef, t.getD 14 undef, t.getD 15 undef, t.getD 16 undef, t.getD 17 undef, t.getD 18 undef, t.getD 19 undef, t.getD 20 undef, t.getD 21 undef, t.getD 22 undef, t.getD 23 undef, t.getD 24 undef, t.getD 25 undef, t.getD 26 undef, t.getD 27 undef, t.getD 28 undef, t.getD 29 undef, t.getD 30 undef, t.getD 31 undef, t.getD 32 undef, t.getD 33 undef, t.getD 34 undef, t.getD 35 undef, t.getD 36 undef, t.getD 37 undef, t.getD 38 undef, t.getD 39 undef, t.getD 40 undef, t.getD 41 undef, t.getD 42 undef, t.getD 43 undef, t.getD 44 undef, t.getD 45 undef, t.getD 46 undef, t.getD 47 undef, t.getD 48 undef, t.getD 49 undef, t.getD 50 undef, t.getD 51 undef, t.getD 52 undef, t.getD 53 undef, t.getD 54 undef, t.getD 55 undef, t.getD 56 undef, t.getD 57 undef, t.getD 58 undef, t.getD 59 undef, t.getD 60 undef, t.getD 61 undef, t.getD 62 undef, t.getD 63 undef, t.getD 64 undef, t.getD 65 undef, t.getD 66 undef, t.getD 67 undef, t.getD 68 undef, t.getD 69 undef, t.getD 70 undef, t.getD 71 undef, t.getD 72 undef, t.getD 73 undef, t.getD 74 undef, t.getD 75 undef, t.getD 76 undef, t.getD 77 undef, t.getD 78 undef, t.getD 79 undef, t.getD 80 undef, t.getD 81 undef, t.getD 82 undef, t.getD 83 undef, t.getD 84 undef, t.getD 85 undef, t.getD 86 undef, t.getD 87 undef, t.getD 88 undef, t.getD 89 undef, t.getD 90 undef, t.getD 91 undef, t.getD 92 undef, t.getD 93 undef, t.getD 94 undef, t.getD 95 undef, t.getD 96 undef, t.getD 97 undef, t.getD 98 undef, t.getD 99 undef, t.getD 100 undef, t.getD 101 undef, t.getD 102 undef, t.getD 103 undef, t.getD 104 undef, t.getD 105 undef, t.getD 106 undef, t.getD 107 undef, t.getD 108 undef, t.getD 109 undef, t.getD 110 undef] := by kernel_rfl
  rw [← h2, ← h1]

noncomputable def rpBody : Code := match Tryz.f34.body with | some c => c | none => Code.skip
/-- the memory of a reply behind its front -/
structure RpI (w w2 : World) (c t B p n A O R : Nat) (s : Cl) (td : Td) (L : List En) (wh : Int → Bool) (F' : List En) (ea' : Option Addr) (ec' : Nat) (wb : Bool) (er : Int) (op : Op7) (Bu : Nat) : Prop where
  at_ : CliAt w2 c t B p n s td L wh
  A_ : w2.heap[A]? = some (.cells #[.bool false, .bool false, .bool true, .bool wb, .slice none 0 0, .int .i64 er, .slice ea' F'.length ec'] 94 (0, 0))
  O_ : w2.heap[O]? = some (.cells #[.int .i64 op.kind, .int .i64 op.dir, .string op.name, .int .i64 op.to_, .string op.new_, .int .i64 op.mode, .string op.target] 37 (0, 0))
  R_ : w2.heap[R]? = some (.cells #[.int .i64 0, .int .i64 0, .int .i64 0, .int .i64 0, .string { data := #[] }, .slice none 0 0, .int .i64 0] 43 (0, 0))
  F_ : w2.ownsRow Bu 55 7 (.slice ea' F'.length ec') F'.length (ecs F')
  ch : Chg (fun j => j = c ∨ CF B p j) w w2
  lo : p < A ∧ p < O ∧ p < R ∧ p < Bu ∧ w.heap.size ≤ A ∧ w.heap.size ≤ O ∧ w.heap.size ≤ R
set_option maxRecDepth 100000 in
set_option maxHeartbeats 8000000 in
theorem rp_front (w : World) (c t B p n Bu : Nat) (s : Cl) (td : Td) (L F : List En) (wh : Int → Bool) (ea : Option Addr) (ec : Nat) (wb : Bool) (er : Int) (K : Code) (Q : Exit → Act → World → Prop) (h : CliAt w c t B p n s td L wh) (hE : w.ownsRow Bu 55 7 (.slice ea F.length ec) F.length (ecs F)) (hBu : p < Bu)
    (hK : ∀ (a : Act) (w2 : World) (A O R : Nat) (F' : List En) (ea' : Option Addr) (ec' : Nat), F' = (if er = 0 then F else []) → a.tmps.size = 111 → a.defers = [] → a.tmps.getD 0 undef = .pointer (some ⟨c, 0, none⟩) → a.tmps.getD 3 undef = .pointer (some ⟨A, 0, none⟩) → a.tmps.getD 4 undef = .slice none 0 0 → a.tmps.getD 5 undef = .bool false → a.tmps.getD 6 undef = .pointer (some ⟨R, 0, none⟩) → a.tmps.getD 7 undef = .pointer (some ⟨O, 0, none⟩) → RpI w w2 c t B p n A O R { s with am := ms0 } td L wh F' ea' ec' wb er s.am.op Bu → K.wp Tryz.prog Q a w2) :
    (cutN 4 rpBody K).wp Tryz.prog Q { tmps := #[.pointer (some ⟨c, 0, none⟩), actV false false true wb none 0 0 er ea F.length ec, undef, undef, undef, undef, undef, undef, undef, undef, undef, undef, undef, undef, undef, undef, undef, undef, undef, undef, undef, undef, undef, undef, undef, undef, undef, undef, undef, undef, undef, undef, undef, undef, undef, undef, undef, undef, undef, undef, undef, undef, undef, undef, undef, undef, undef, undef, undef, undef, undef, undef, undef, undef, undef, undef, undef, undef, undef, undef, undef, undef, undef, undef, undef, undef, undef, undef, undef, undef, undef, undef, undef, undef, undef, undef, undef, undef, undef, undef, undef, undef, undef, undef, undef, undef, undef, undef, undef, undef, undef, undef, undef, undef, undef, undef, undef, undef, undef, undef, undef, undef, undef, undef, undef, undef, undef, undef, undef, undef, undef], defers := [] } w := by
  have HKK := hid hK
  have HA := hid (heap_old (heap_new w (.cells #[.bool false, .bool false, .bool true, .bool wb, .slice none 0 0, .int .i64 er, .slice ea F.length ec] 94)) (.cells #[.int .i64 0, .int .i64 0, .int .i64 0, .int .i64 0, .string { data := #[] }, .slice none 0 0, .int .i64 0] 43))
  have hR := heap_new (w.alloc (.cells #[.bool false, .bool false, .bool true, .bool wb, .slice none 0 0, .int .i64 er, .slice ea F.length ec] 94)) (.cells #[.int .i64 0, .int .i64 0, .int .i64 0, .int .i64 0, .string { data := #[] }, .slice none 0 0, .int .i64 0] 43)
  rw [World.size_alloc] at hR
  have HR := hid hR
  have bb := bl2 w (.cells #[.bool false, .bool false, .bool true, .bool wb, .slice none 0 0, .int .i64 er, .slice ea F.length ec] 94) (.cells #[.int .i64 0, .int .i64 0, .int .i64 0, .int .i64 0, .string { data := #[] }, .slice none 0 0, .int .i64 0] 43)
  have HW := hid bb
  have HC := hid (h.below bb)
  have HE := hid (own_below hE bb)
  have hpz := h.hp.lt
  have hcz := blk_lt h.hc
  have htz := h.ht.lt
  have HBU := hid hBu
  obtain ⟨w0, hw0⟩ : ∃ w0, w0 = (w.alloc (.cells #[.bool false, .bool false, .bool true, .bool wb, .slice none 0 0, .int .i64 er, .slice ea F.length ec] 94)).alloc (.cells #[.int .i64 0, .int .i64 0, .int .i64 0, .int .i64 0, .string { data := #[] }, .slice none 0 0, .int .i64 0] 43) := ⟨_, rfl⟩
  have hwz : w.heap.size + 2 = w0.heap.size := by rw [hw0]; simp
  have HW0 := hid hw0
  rw [← hw0] at HA HR HW HC HE
  have e24 := cell_of HC.out.hc 24 (.int .i64 s.am.op.kind) rfl
  have e25 := cell_of HC.out.hc 25 (.int .i64 s.am.op.dir) rfl
  have e26 := cell_of HC.out.hc 26 (.string s.am.op.name) rfl
  have e27 := cell_of HC.out.hc 27 (.int .i64 s.am.op.to_) rfl
  have e28 := cell_of HC.out.hc 28 (.string s.am.op.new_) rfl
  have e29 := cell_of HC.out.hc 29 (.int .i64 s.am.op.mode) rfl
  have e30 := cell_of HC.out.hc 30 (.string s.am.op.target) rfl
  clear h hE hBu bb hR hw0 hK
  unfold actV
  conv => pattern (cutN 4 rpBody K); whnf
  simp only [cutN]
  refine wp_seq_k fun K0 hK0 => ?_
  have HK0 := hid hK0
  clear hK0
  go_wp2
  refine HK0.out _ _ ?_
  rw [← HW0.out]
  clear HK0 HW0
  refine wp_seq_k fun K1 hK1 => ?_
  have HK1 := hid hK1
  clear hK1
  go_wp2
  refine HK1.out _ _ ?_
  clear HK1 e24 e25 e26 e27 e28 e29 e30
  refine gen_w (P := fun w' => Code.wp _ _ _ _ w') (S := fun w1 => Below w0.heap.size w0 w1 ∧ w1.heap[w0.heap.size]? = some (.cells #[.int .i64 s.am.op.kind, .int .i64 s.am.op.dir, .string s.am.op.name, .int .i64 s.am.op.to_, .string s.am.op.new_, .int .i64 s.am.op.mode, .string s.am.op.target] 37 (0, 0))) _ ⟨bl1 w0 _, heap_new w0 _⟩ ?_
  rintro w1 ⟨hb1, ho1⟩
  have HB1 := hid hb1
  have HO1 := hid ho1
  have HC1 := hid (HC.out.below hb1)
  have HA1 := hid (heap_below hb1 HA.out (blk_lt HA.out))
  have HR1 := hid (heap_below hb1 HR.out (blk_lt HR.out))
  have HE1 := hid (own_below HE.out hb1)
  have e17 := cell_of HC1.out.hc 17 (.int .i64 s.am.kind) rfl
  have e18 := cell_of HC1.out.hc 18 (.int .i64 s.am.client) rfl
  have e19 := cell_of HC1.out.hc 19 (.int .i64 s.am.life) rfl
  have e20 := cell_of HC1.out.hc 20 (.int .i64 s.am.seq) rfl
  have e21 := cell_of HC1.out.hc 21 (.complex .f64 (fl s.am.me) (fl s.am.mn)) rfl
  have e22 := cell_of HC1.out.hc 22 (.int .i64 s.am.ver) rfl
  have e23 := cell_of HC1.out.hc 23 (.int .i64 s.am.err) rfl
  have e24 := cell_of HC1.out.hc 24 (.int .i64 s.am.op.kind) rfl
  have e25 := cell_of HC1.out.hc 25 (.int .i64 s.am.op.dir) rfl
  have e26 := cell_of HC1.out.hc 26 (.string s.am.op.name) rfl
  have e27 := cell_of HC1.out.hc 27 (.int .i64 s.am.op.to_) rfl
  have e28 := cell_of HC1.out.hc 28 (.string s.am.op.new_) rfl
  have e29 := cell_of HC1.out.hc 29 (.int .i64 s.am.op.mode) rfl
  have e30 := cell_of HC1.out.hc 30 (.string s.am.op.target) rfl
  have e31 := cell_of HC1.out.hc 31 (.slice none 0 0) rfl
  have e32 := cell_of HC1.out.hc 32 (.slice none 0 0) rfl
  clear hb1 ho1
  refine wp_seq_k fun K2 hK2 => ?_
  have HK2 := hid hK2
  clear hK2
  go_wp2
  refine HK2.out _ _ ?_
  clear HK2 e17 e18 e19 e20 e21 e22 e23 e24 e25 e26 e27 e28 e29 e30 e31 e32
  refine gen_w (P := fun w' => Code.wp _ _ _ _ w') (S := fun w2 => Chg (fun j => j = c) w1 w2 ∧ w2.heap[c]? = some (.cells (cli t p { s with am := ms0 }) 86 (0, 0))) _ ⟨?_, ?_⟩ ?_
  · iterate 16 refine Chg.set1 ?_ _ _ rfl
    exact Chg.refl _ _
  · have h9 := (heap_set (heap_set (heap_set (heap_set (heap_set (heap_set (heap_set (heap_set (heap_set (heap_set (heap_set (heap_set (heap_set (heap_set (heap_set (heap_set HC1.out.hc 17 (.int .i64 0)) 18 (.int .i64 0)) 19 (.int .i64 0)) 20 (.int .i64 0)) 21 (.complex .f64 0 0)) 22 (.int .i64 0)) 23 (.int .i64 0)) 24 (.int .i64 0)) 25 (.int .i64 0)) 26 (.string { data := #[] })) 27 (.int .i64 0)) 28 (.string { data := #[] })) 29 (.int .i64 0)) 30 (.string { data := #[] })) 31 (.slice none 0 0)) 32 (.slice none 0 0))
    simp only [cli, List.setIfInBounds_toArray, List.set_cons_zero, List.set_cons_succ] at h9
    exact h9
  rintro w2 ⟨hc2, hh2⟩
  have HC2 := hid (show CliAt w2 c t B p n { s with am := ms0 } td L wh from ⟨hh2, HC1.out.ht.chg hc2 (heap_ty HC1.out.ht HC1.out.hc (by decide)), HC1.out.hp.chg hc2 (fun k hk e => HC1.out.ncp (e ▸ hk)), HC1.out.ncp, HC1.out.ntp⟩)
  have HO2 := hid (heap_chg hc2 HO1.out (by omega))
  have ha2 := heap_chg hc2 HA1.out (by omega)
  have HA2 := hid ha2
  have HR2 := hid (heap_chg hc2 HR1.out (by omega))
  have HE2 := hid (ownsRow_chg HE1.out fun j hj hl => hc2.block j hl fun e1 => by subst e1; exact own_ne HE1.out HC1.out.hc (by decide) hj)
  have HX2 := hid (show Chg (fun j => j = c) w w2 from chg_new (chg_new (Chg.below (HW.out.mono (Nat.le_refl _)) |>.mono (fun _ _ h => h.elim)) (Chg.below HB1.out) (fun j hj => hj.elim)) hc2 (by intro j hj; exact .inl hj))
  have hz2 : w.heap.size + 3 ≤ w2.heap.size := by have := blk_lt HO2.out; omega
  have ba := blk7 ha2
  have haz := blk_lt ha2
  have hXX : Chg (fun j => j = c ∨ CF B p j) w w2 := HX2.out.mono fun _ _ h => .inl h
  clear hc2 hh2 ha2 HC1 HO1 HA1 HR1 HE1 HB1 HA HR HE HC
  by_cases her : er = 0
  · subst her
    go_wp2
    refine HKK.out _ w2 w.heap.size w0.heap.size (w.heap.size + 1) F ea ec (by simp) ?_ ?_ ?_ ?_ ?_ ?_ ?_ ?_ ⟨HC2.out, HA2.out, HO2.out, HR2.out, HE2.out, hXX, by have := HBU.out; omega⟩
    iterate 8 rfl
  · have t1 : (er != 0) = true := by simp [her]
    have t2 : (er == 0) = false := by simp [her]
    have HER := hid her
    clear her
    go_wp2
    refine gen_w (P := fun w' => Code.wp _ _ _ _ w') (S := fun w3 => Chg (fun j => j = w.heap.size) w2 w3 ∧ w3.heap[w.heap.size]? = some (.cells #[.bool false, .bool false, .bool true, .bool wb, .slice none 0 0, .int .i64 er, .slice none 0 0] 94 (0, 0))) _ ⟨?_, ?_⟩ ?_
    · exact Chg.set1 (Chg.refl _ _) _ _ rfl
    · have h9 := heap_set HA2.out 6 (.slice none 0 0)
      simp only [List.setIfInBounds_toArray, List.set_cons_zero, List.set_cons_succ] at h9
      exact h9
    rintro w3 ⟨hc3, ha3⟩
    refine HKK.out _ w3 w.heap.size w0.heap.size (w.heap.size + 1) [] none 0 (by rw [if_neg HER.out]) ?_ ?_ ?_ ?_ ?_ ?_ ?_ ?_ ⟨HC2.out.chg hc3 (by omega) (by omega) (HC2.out.hp.chg hc3 (fun k hk e => by have := hk.2; omega)), ha3, heap_chg hc3 HO2.out (by omega), heap_chg hc3 HR2.out (by omega), World.ownsRow_nil _ _ _ _, chg_new hXX hc3 (by intro j hj; right; omega), by have := HBU.out; omega⟩
    iterate 8 rfl
theorem open111 (a : Act) (c A R O : Nat) (hs : a.tmps.size = 111) (hd : a.defers = []) (f0 : a.tmps.getD 0 undef = .pointer (some ⟨c, 0, none⟩)) (f3 : a.tmps.getD 3 undef = .pointer (some ⟨A, 0, none⟩)) (f4 : a.tmps.getD 4 undef = .slice none 0 0) (f5 : a.tmps.getD 5 undef = .bool false) (f6 : a.tmps.getD 6 undef = .pointer (some ⟨R, 0, none⟩)) (f7 : a.tmps.getD 7 undef = .pointer (some ⟨O, 0, none⟩)) : ∃ v : Nat → Value, a = { tmps := #[.pointer (some ⟨c, 0, none⟩), v 1, v 2, .pointer (some ⟨A, 0, none⟩), .slice none 0 0, .bool false, .pointer (some ⟨R, 0, none⟩), .pointer (some ⟨O, 0, none⟩), v 8, v 9, v 10, v 11, v 12, v 13, v 14, v 15, v 16, v 17, v 18, v 19, v 20, v 21, v 22, v 23, v 24, v 25, v 26, v 27, v 28, v 29, v 30, v 31, v 32, v 33, v 34, v 35, v 36, v 37, v 38, v 39, v 40, v 41, v 42, v 43, v 44, v 45, v 46, v 47, v 48, v 49, v 50, v 51, v 52, v 53, v 54, v 55, v 56, v 57, v 58, v 59, v 60, v 61, v 62, v 63, v 64, v 65, v 66, v 67, v 68, v 69, v 70, v 71, v 72, v 73, v 74, v 75, v 76, v 77, v 78, v 79, v 80, v 81, v 82, v 83, v 84, v 85, v 86, v 87, v 88, v 89, v 90, v 91, v 92, v 93, v 94, v 95, v 96, v 97, v 98, v 99, v 100, v 101, v 102, v 103, v 104, v 105, v 106, v 107, v 108, v 109, v 110], defers := [] } := by
  refine ⟨fun i => a.tmps.getD i undef, ?_⟩
  have h9 := frame111 a hs hd
  rw [f0, f3, f4, f5, f6, f7] at h9
  exact h9
set_option maxRecDepth 100000 in
set_option maxHeartbeats 8000000 in
theorem rp_put (w w2 : World) (a : Act) (c t B p n A O R Bu : Nat) (s : Cl) (td : Td) (L F : List En) (wh : Int → Bool) (ea : Option Addr) (ec : Nat) (wb : Bool) (er : Int) (op : Op7) (K : Code) (Q : Exit → Act → World → Prop) (hs : a.tmps.size = 111) (hd : a.defers = []) (f0 : a.tmps.getD 0 undef = .pointer (some ⟨c, 0, none⟩)) (f3 : a.tmps.getD 3 undef = .pointer (some ⟨A, 0, none⟩)) (f4 : a.tmps.getD 4 undef = .slice none 0 0) (f5 : a.tmps.getD 5 undef = .bool false) (f6 : a.tmps.getD 6 undef = .pointer (some ⟨R, 0, none⟩)) (f7 : a.tmps.getD 7 undef = .pointer (some ⟨O, 0, none⟩))
    (h : RpI w w2 c t B p n A O R s td L wh F ea ec wb er op Bu) (hn : n + F.length < 1000000000)
    (hK : ∀ (a : Act) (w3 : World) (q : Nat), a.tmps.size = 111 → a.defers = [] → a.tmps.getD 0 undef = .pointer (some ⟨c, 0, none⟩) → a.tmps.getD 3 undef = .pointer (some ⟨A, 0, none⟩) → a.tmps.getD 4 undef = .slice none 0 0 → a.tmps.getD 5 undef = .bool false → a.tmps.getD 6 undef = .pointer (some ⟨R, 0, none⟩) → a.tmps.getD 7 undef = .pointer (some ⟨O, 0, none⟩) → a.tmps.getD 10 undef = .pointer (some ⟨q, 0, none⟩) → RpI w w3 c t B p (n + F.length) A O R s td (putAll F L) wh F ea ec wb er op Bu → w3.heap[q]? = some (.cells (tnC (tnF ea F.length ec)) 90 (0, 0)) → w.heap.size ≤ q → p < q → K.wp Tryz.prog Q a w3) :
    (cutN 2 (sndN 4 rpBody) K).wp Tryz.prog Q a w2 := by
  have HKK := hid hK
  obtain ⟨v, rfl⟩ := open111 a c A R O hs hd f0 f3 f4 f5 f6 f7
  have HN := hid (And.intro hn (And.intro h.lo.2.2.2.1 True.intro))
  have HI := hid h
  have HC2 := hid h.at_
  have HE2 := hid h.F_
  have ba := blk7 h.A_
  have haz := blk_lt h.A_
  have hpz := h.at_.hp.lt
  have hlo := h.lo
  have HLO := hid hlo
  have HXW := hid h.ch
  clear hs hd f0 f3 f4 f5 f6 f7 h hK hn hlo
  conv => pattern (sndN 4 rpBody); whnf
  simp only [cutN]
  go_wp2_with fail
  go_loopw [9, 27] (fun _ v27 wr => ∃ i : Nat, i ≤ F.length ∧ v27 = .int .i64 i ∧ Hid (CAt wr B p (n + i) (putAll (F.take i) L) wh) ∧ Hid (Chg (CF B p) w2 wr)) (fun _ v27 _ => F.length - (intOf v27).toNat)
  case atStart => exact ⟨0, Nat.zero_le _, rfl, hid HC2.out.hp, hid (Chg.refl _ _)⟩
  case round =>
    clear ba
    obtain ⟨i, hi, rfl, HP, HG⟩ := hrel
    have hgz := HG.out.size
    by_cases hlt : i < F.length
    · have hk0 : (0 : Int) ≤ (i : Int) := by omega
      have hk1 : (i : Int) < (F.length : Int) := by omega
      obtain ⟨g, hag, hBg, hgz', hc1, hc2⟩ := own_loc HE2.out (by omega)
      obtain ⟨x, hx⟩ : ∃ x, F[i]? = some x := ⟨_, List.getElem?_eq_getElem hlt⟩
      subst hag
      have hvr := ownsRow_chg HE2.out fun j hj hl => HG.out.block j hl (fun hf => by have := hf.2; have := (own_lt HE2.out hj).1; have := HN.out.2.1; omega)
      have bx := ecs_at (Rd.own hvr) hx
      have HXX := hid hx
      have hcr := heap_chg HG.out HC2.out.hc HC2.out.ncp
      have HCR := hid hcr
      have e10 := cell_of (heap_old hcr (.cells #[.int .i64 x.key.dir, .string x.key.name, .bool x.neg, .int .i64 x.node.id, .int .i64 x.node.kind, .int .i64 x.node.mode, .string x.node.target] 55)) 10 (.pointer (some ⟨p, 0, none⟩)) rfl
      have BX := blk7 (heap_new wr (.cells #[.int .i64 x.key.dir, .string x.key.name, .bool x.neg, .int .i64 x.node.id, .int .i64 x.node.kind, .int .i64 x.node.mode, .string x.node.target] 55))
      have KR : (wr.alloc (.cells #[.int .i64 x.key.dir, .string x.key.name, .bool x.neg, .int .i64 x.node.id, .int .i64 x.node.kind, .int .i64 x.node.mode, .string x.node.target] 55)).cell? ⟨c, 10, none⟩ = some (.pointer (some ⟨p, 0, none⟩)) ∧ (wr.alloc (.cells #[.int .i64 x.key.dir, .string x.key.name, .bool x.neg, .int .i64 x.node.id, .int .i64 x.node.kind, .int .i64 x.node.mode, .string x.node.target] 55)).cell? ⟨wr.heap.size, 0, none⟩ = some (.int .i64 x.key.dir) ∧ (wr.alloc (.cells #[.int .i64 x.key.dir, .string x.key.name, .bool x.neg, .int .i64 x.node.id, .int .i64 x.node.kind, .int .i64 x.node.mode, .string x.node.target] 55)).cell? ⟨wr.heap.size, 1, none⟩ = some (.string x.key.name) ∧ (wr.alloc (.cells #[.int .i64 x.key.dir, .string x.key.name, .bool x.neg, .int .i64 x.node.id, .int .i64 x.node.kind, .int .i64 x.node.mode, .string x.node.target] 55)).cell? ⟨wr.heap.size, 2, none⟩ = some (.bool x.neg) ∧ (wr.alloc (.cells #[.int .i64 x.key.dir, .string x.key.name, .bool x.neg, .int .i64 x.node.id, .int .i64 x.node.kind, .int .i64 x.node.mode, .string x.node.target] 55)).cell? ⟨wr.heap.size, 3, none⟩ = some (.int .i64 x.node.id) ∧ (wr.alloc (.cells #[.int .i64 x.key.dir, .string x.key.name, .bool x.neg, .int .i64 x.node.id, .int .i64 x.node.kind, .int .i64 x.node.mode, .string x.node.target] 55)).cell? ⟨wr.heap.size, 4, none⟩ = some (.int .i64 x.node.kind) ∧ (wr.alloc (.cells #[.int .i64 x.key.dir, .string x.key.name, .bool x.neg, .int .i64 x.node.id, .int .i64 x.node.kind, .int .i64 x.node.mode, .string x.node.target] 55)).cell? ⟨wr.heap.size, 5, none⟩ = some (.int .i64 x.node.mode) ∧ (wr.alloc (.cells #[.int .i64 x.key.dir, .string x.key.name, .bool x.neg, .int .i64 x.node.id, .int .i64 x.node.kind, .int .i64 x.node.mode, .string x.node.target] 55)).cell? ⟨wr.heap.size, 6, none⟩ = some (.string x.node.target) := ⟨e10.1, BX.1, BX.2.1, BX.2.2.1, BX.2.2.2.1, BX.2.2.2.2.1, BX.2.2.2.2.2.1, BX.2.2.2.2.2.2.1⟩
      have KRd : (wr.alloc (.cells #[.int .i64 x.key.dir, .string x.key.name, .bool x.neg, .int .i64 x.node.id, .int .i64 x.node.kind, .int .i64 x.node.mode, .string x.node.target] 55)).drew.cell? ⟨c, 10, none⟩ = some (.pointer (some ⟨p, 0, none⟩)) ∧ (wr.alloc (.cells #[.int .i64 x.key.dir, .string x.key.name, .bool x.neg, .int .i64 x.node.id, .int .i64 x.node.kind, .int .i64 x.node.mode, .string x.node.target] 55)).drew.cell? ⟨wr.heap.size, 0, none⟩ = some (.int .i64 x.key.dir) ∧ (wr.alloc (.cells #[.int .i64 x.key.dir, .string x.key.name, .bool x.neg, .int .i64 x.node.id, .int .i64 x.node.kind, .int .i64 x.node.mode, .string x.node.target] 55)).drew.cell? ⟨wr.heap.size, 1, none⟩ = some (.string x.key.name) ∧ (wr.alloc (.cells #[.int .i64 x.key.dir, .string x.key.name, .bool x.neg, .int .i64 x.node.id, .int .i64 x.node.kind, .int .i64 x.node.mode, .string x.node.target] 55)).drew.cell? ⟨wr.heap.size, 2, none⟩ = some (.bool x.neg) ∧ (wr.alloc (.cells #[.int .i64 x.key.dir, .string x.key.name, .bool x.neg, .int .i64 x.node.id, .int .i64 x.node.kind, .int .i64 x.node.mode, .string x.node.target] 55)).drew.cell? ⟨wr.heap.size, 3, none⟩ = some (.int .i64 x.node.id) ∧ (wr.alloc (.cells #[.int .i64 x.key.dir, .string x.key.name, .bool x.neg, .int .i64 x.node.id, .int .i64 x.node.kind, .int .i64 x.node.mode, .string x.node.target] 55)).drew.cell? ⟨wr.heap.size, 4, none⟩ = some (.int .i64 x.node.kind) ∧ (wr.alloc (.cells #[.int .i64 x.key.dir, .string x.key.name, .bool x.neg, .int .i64 x.node.id, .int .i64 x.node.kind, .int .i64 x.node.mode, .string x.node.target] 55)).drew.cell? ⟨wr.heap.size, 5, none⟩ = some (.int .i64 x.node.mode) ∧ (wr.alloc (.cells #[.int .i64 x.key.dir, .string x.key.name, .bool x.neg, .int .i64 x.node.id, .int .i64 x.node.kind, .int .i64 x.node.mode, .string x.node.target] 55)).drew.cell? ⟨wr.heap.size, 6, none⟩ = some (.string x.node.target) := KR
      have HPA := hid ((HP.out.below (bl1 wr (.cells #[.int .i64 x.key.dir, .string x.key.name, .bool x.neg, .int .i64 x.node.id, .int .i64 x.node.kind, .int .i64 x.node.mode, .string x.node.target] 55))).below (Below.refl _ _).drew)
      have hpr := HP.out.lt
      have hni : n + i < 4611686018427387904 := by have := HN.out.1; omega
      clear hvr hcr hx e10 BX
      go_wp2_with fail
      go_region_held3 (fun w' => w'.cell? ⟨c, 10, none⟩ = some (.pointer (some ⟨p, 0, none⟩)) ∧ w'.cell? ⟨wr.heap.size, 0, none⟩ = some (.int .i64 x.key.dir) ∧ w'.cell? ⟨wr.heap.size, 1, none⟩ = some (.string x.key.name) ∧ w'.cell? ⟨wr.heap.size, 2, none⟩ = some (.bool x.neg) ∧ w'.cell? ⟨wr.heap.size, 3, none⟩ = some (.int .i64 x.node.id) ∧ w'.cell? ⟨wr.heap.size, 4, none⟩ = some (.int .i64 x.node.kind) ∧ w'.cell? ⟨wr.heap.size, 5, none⟩ = some (.int .i64 x.node.mode) ∧ w'.cell? ⟨wr.heap.size, 6, none⟩ = some (.string x.node.target))
        (first | with_reducible exact KR | with_reducible exact KRd | with_reducible exact K2)
        (first | (go_at_call 66; refine (c_put _ B p _ _ wh x HPA.out hni).mono ?_; rintro e w3 ⟨he, hp3, hc3⟩; (generalize (if x.key.name = ByteArray.empty then (1 : Int) else 0) = pv at he); subst he; (have HP3 := hid hp3); (have HC3 := hid hc3); (have q0 := cell_of (heap_chg (w := (wr.alloc (.cells #[.int .i64 x.key.dir, .string x.key.name, .bool x.neg, .int .i64 x.node.id, .int .i64 x.node.kind, .int .i64 x.node.mode, .string x.node.target] 55)).drew) hc3 (heap_old HCR.out _) HC2.out.ncp) 10 (.pointer (some ⟨p, 0, none⟩)) rfl); (have q1 := blk7 (heap_chg (w := (wr.alloc (.cells #[.int .i64 x.key.dir, .string x.key.name, .bool x.neg, .int .i64 x.node.id, .int .i64 x.node.kind, .int .i64 x.node.mode, .string x.node.target] 55)).drew) hc3 (heap_new wr (.cells #[.int .i64 x.key.dir, .string x.key.name, .bool x.neg, .int .i64 x.node.id, .int .i64 x.node.kind, .int .i64 x.node.mode, .string x.node.target] 55)) (fun hf => by have := hf.2; omega))); (have K2 : w3.cell? ⟨c, 10, none⟩ = some (.pointer (some ⟨p, 0, none⟩)) ∧ w3.cell? ⟨wr.heap.size, 0, none⟩ = some (.int .i64 x.key.dir) ∧ w3.cell? ⟨wr.heap.size, 1, none⟩ = some (.string x.key.name) ∧ w3.cell? ⟨wr.heap.size, 2, none⟩ = some (.bool x.neg) ∧ w3.cell? ⟨wr.heap.size, 3, none⟩ = some (.int .i64 x.node.id) ∧ w3.cell? ⟨wr.heap.size, 4, none⟩ = some (.int .i64 x.node.kind) ∧ w3.cell? ⟨wr.heap.size, 5, none⟩ = some (.int .i64 x.node.mode) ∧ w3.cell? ⟨wr.heap.size, 6, none⟩ = some (.string x.node.target) := ⟨q0.1, q1.1, q1.2.1, q1.2.2.1, q1.2.2.2.1, q1.2.2.2.2.1, q1.2.2.2.2.2.1, q1.2.2.2.2.2.2.1⟩); clear hp3 hc3 q0 q1))
      all_goals
        go_wp2
        refine ⟨⟨i + 1, by omega, by go_num, hid ?_, hid ?_⟩, by simp [intOf]; omega⟩
        · rw [List.take_add_one, HXX.out, Option.toList_some, putAll_snoc]
          exact HP3.out
        · exact Chg.trans (Chg.trans HG.out (Chg.below (bl1 wr _).drew) (fun _ _ h => h) (fun _ _ h => h.elim)) HC3.out (fun _ _ h => h) (fun _ _ h => h)
    · have hie : i = F.length := by omega
      have hnl : ¬ ((i : Int) < (F.length : Int)) := by omega
      have HP1 := hid (show CAt wr B p (n + F.length) (putAll F L) wh by have h9 := HP.out; rw [hie, List.take_length] at h9; exact h9)
      have hcp : ∀ k, p < k → ¬ CF B p k := fun k hk hf => by have := hf.2; omega
      have ha3 := heap_chg HG.out HI.out.A_ (hcp _ HLO.out.1)
      have HA3 := hid ha3
      have HO3 := hid (heap_chg HG.out HI.out.O_ (hcp _ HLO.out.2.1))
      have HR3 := hid (heap_chg HG.out HI.out.R_ (hcp _ HLO.out.2.2.1))
      have HC3 := hid (HC2.out.chg HG.out HC2.out.ncp HC2.out.ntp HP1.out)
      have HE3 := hid (ownsRow_chg HE2.out fun j hj hl => HG.out.block j hl (hcp _ (by have := (own_lt HE2.out hj).1; have := HN.out.2.1; omega)))
      have HX3 := hid (show Chg (fun j => j = c ∨ CF B p j) w wr from chg_new HXW.out HG.out (by intro j hj; exact .inl (.inr hj)))
      have ba := blk7 ha3
      have hz3 := HX3.out.size
      have hpr := HP1.out.lt
      clear HP HG ha3 hcp
      go_wp2
      refine HKK.out _ (wr.alloc (.cells #[.slice ea F.length ec, .bool false, .int .i64 0, .int .i64 0, .int .i64 0, .string { data := #[] }, .int .i64 0, .string { data := #[] }, .int .i64 0, .string { data := #[] }, .int .i64 0, .int .i64 0, .int .i64 0, .int .i64 0, .string { data := #[] }, .slice none 0 0, .int .i64 0] 90)) wr.heap.size ?_ ?_ ?_ ?_ ?_ ?_ ?_ ?_ ?_ ⟨HC3.out.below (bl1 wr _), heap_old HA3.out _, heap_old HO3.out _, heap_old HR3.out _, own_alloc HE3.out _, Chg.alloc HX3.out _, HLO.out⟩ (heap_new wr _) hz3 hpr
      iterate 9 rfl
end Go.Proofs.YtbjibkjenleloaaGreatDoor

end
