/- Parts of a proof about the given program, in build order: CalL. No condition. -/
import Derived.Test.YtbjibkjenleloaaGreatDoorMg23
section
namespace Go.Proofs.YtbjibkjenleloaaGreatDoor
set_option linter.unusedVariables false
set_option linter.unusedSimpArgs false
open Go.RowKit
attribute [local go_sem ↓] Go.wp_at_zero Go.wp_at_succ
attribute [local go_sem] run_store_complex run_store_float


/-- what a look-up comes to, with fresh entries -/
def lookPost (w : World) (c t B p n : Nat) (s : Cl) (td : Td) (L F : List En) (wh : Int → Bool) (e : Ending) (w' : World) : Prop :=
  ∃ z n', n' ≤ n + 1000 ∧ Wk F L wh true [] rootNd (stepsL s.cp) (dirB s.cp) s.cf.li [] z ∧
    (z.need = true ∧ (∃ g, e = .returned (.tuple #[.slice (some ⟨g, 0, none⟩) 1 1, .bool false, .agg #[.int .i64 0, .int .i64 0, .int .i64 0, .int .i64 0, .string { data := #[] }, .slice none 0 0, .int .i64 0]]) ∧ w'.ownsRow w.heap.size 50 16 (.slice (some ⟨g, 0, none⟩) 1 1) 1 (askMs s td (s.seq + 1) (lookOp z.key)).cs.toList) ∧ CliAt w' c t B p n' (askedS s td (lookOp z.key)) { td with asked := s.seq + 1 } (useAll z.used L) wh ∨
     z.need = false ∧ e = .returned (.tuple #[.slice none 0 0, .bool true, (An.mk z.err z.node none 0 0 td.ver).v]) ∧ CliAt w' c t B p n' { s with busy := false, am := ms0 } td (useAll z.used L) wh) ∧
    Chg (fun j => j = c ∨ j = t ∨ CF B p j) w w'
def putAll (F L : List En) : List En := F.foldl (fun L e => putL e L) L
theorem putAll_snoc (F : List En) (x : En) (L : List En) : putAll (F ++ [x]) L = putL x (putAll F L) := by simp [putAll]
def tnF (ea : Option Addr) (el ec : Nat) : Tn := ⟨ea, el, ec, false, 0, op0, 0, nd0, none, 0, 0, 0⟩
set_option maxRecDepth 100000 in
set_option maxHeartbeats 8000000 in
theorem reply_look (w : World) (c t B p n Bu : Nat) (s : Cl) (td : Td) (L F : List En) (wh : Int → Bool) (ea : Option Addr) (ec : Nat) (h : CliAt w c t B p n s td L wh) (hE : w.ownsRow Bu 55 7 (.slice ea F.length ec) F.length (ecs F)) (hBu : p < Bu) (hop : s.am.op.kind = 1)
    (hs : pathErr s.cp = 0) (hl0 : 0 ≤ s.cf.li) (hl8 : s.cf.li ≤ 8) (hn : n + F.length < 1000000000) (hck : s.ck = 1) (hs0 : 0 ≤ s.seq) (hs1 : s.seq < 1000000000000) :
    Calls Tryz.prog 34 #[.pointer (some ⟨c, 0, none⟩), actV false false true true none 0 0 0 ea F.length ec] w (lookPost w c t B p (n + F.length) { s with am := ms0 } td (trimT s.cf.de s.cf.ne ⟨putAll F L, wh, []⟩).L F (trimT s.cf.de s.cf.ne ⟨putAll F L, wh, []⟩).wh) := by
  have HA := hid (heap_old (heap_new w (.cells #[.bool false, .bool false, .bool true, .bool true, .slice none 0 0, .int .i64 0, .slice ea F.length ec] 94)) (.cells #[.int .i64 0, .int .i64 0, .int .i64 0, .int .i64 0, .string { data := #[] }, .slice none 0 0, .int .i64 0] 43))
  have hR := heap_new (w.alloc (.cells #[.bool false, .bool false, .bool true, .bool true, .slice none 0 0, .int .i64 0, .slice ea F.length ec] 94)) (.cells #[.int .i64 0, .int .i64 0, .int .i64 0, .int .i64 0, .string { data := #[] }, .slice none 0 0, .int .i64 0] 43)
  rw [World.size_alloc] at hR
  have HR := hid hR
  have bb := bl2 w (.cells #[.bool false, .bool false, .bool true, .bool true, .slice none 0 0, .int .i64 0, .slice ea F.length ec] 94) (.cells #[.int .i64 0, .int .i64 0, .int .i64 0, .int .i64 0, .string { data := #[] }, .slice none 0 0, .int .i64 0] 43)
  have HW := hid bb
  have HC := hid (h.below bb)
  have HE := hid (own_below hE bb)
  have hpz := h.hp.lt
  have hcz := blk_lt h.hc
  have htz := h.ht.lt
  have HN := hid (And.intro hn (And.intro hBu (And.intro hs (And.intro hl0 (And.intro hl8 (And.intro hck (And.intro hop (And.intro hs0 hs1))))))))
  obtain ⟨w0, hw0⟩ : ∃ w0, w0 = (w.alloc (.cells #[.bool false, .bool false, .bool true, .bool true, .slice none 0 0, .int .i64 0, .slice ea F.length ec] 94)).alloc (.cells #[.int .i64 0, .int .i64 0, .int .i64 0, .int .i64 0, .string { data := #[] }, .slice none 0 0, .int .i64 0] 43) := ⟨_, rfl⟩
  have hwz : w.heap.size + 2 = w0.heap.size := by rw [hw0]; simp
  have HW0 := hid hw0
  rw [← hw0] at HA HR HW HC HE
  have e24 := cell_of HC.out.hc 24 (.int .i64 s.am.op.kind) rfl
  have e25 := cell_of HC.out.hc 25 (.int .i64 s.am.op.dir) rfl
  have e26 := cell_of HC.out.hc 26 (.string s.am.op.name) rfl
  have e27 := cell_of HC.out.hc 27 (.int .i64 s.am.op.to_) rfl
  have e28 := cell_of HC.out.hc 28 (.string s.am.op.new_) rfl
  have e29 := cell_of HC.out.hc 29 (.int .i64 s.am.op.mode) rfl
  have e30 := cell_of HC.out.hc 30 (.string s.am.op.target) rfl
  rw [hop] at e24
  clear h hE hBu hs hl0 hl8 hn hck hop hs0 hs1 bb hR hw0
  unfold actV
  go_enter Tryz.func34, Tryz.ntmps34
  refine wp_seq_k fun K0 hK0 => ?_
  have HK0 := hid hK0
  clear hK0
  go_wp2
  refine HK0.out _ _ ?_
  rw [← HW0.out]
  clear HK0 HW0
  refine wp_seq_k fun K1 hK1 => ?_
  have HK1 := hid hK1
  clear hK1
  go_wp2
  refine HK1.out _ _ ?_
  clear HK1 e24 e25 e26 e27 e28 e29 e30
  refine gen_w (P := fun w' => Code.wp _ _ _ _ w') (S := fun w1 => Below w0.heap.size w0 w1 ∧ w1.heap[w0.heap.size]? = some (.cells #[.int .i64 1, .int .i64 s.am.op.dir, .string s.am.op.name, .int .i64 s.am.op.to_, .string s.am.op.new_, .int .i64 s.am.op.mode, .string s.am.op.target] 37 (0, 0))) _ ⟨bl1 w0 _, heap_new w0 _⟩ ?_
  rintro w1 ⟨hb1, ho1⟩
  have HB1 := hid hb1
  have HO1 := hid ho1
  have HC1 := hid (HC.out.below hb1)
  have HA1 := hid (heap_below hb1 HA.out (blk_lt HA.out))
  have HR1 := hid (heap_below hb1 HR.out (blk_lt HR.out))
  have HE1 := hid (own_below HE.out hb1)
  have e17 := cell_of HC1.out.hc 17 (.int .i64 s.am.kind) rfl
  have e18 := cell_of HC1.out.hc 18 (.int .i64 s.am.client) rfl
  have e19 := cell_of HC1.out.hc 19 (.int .i64 s.am.life) rfl
  have e20 := cell_of HC1.out.hc 20 (.int .i64 s.am.seq) rfl
  have e21 := cell_of HC1.out.hc 21 (.complex .f64 (fl s.am.me) (fl s.am.mn)) rfl
  have e22 := cell_of HC1.out.hc 22 (.int .i64 s.am.ver) rfl
  have e23 := cell_of HC1.out.hc 23 (.int .i64 s.am.err) rfl
  have e24 := cell_of HC1.out.hc 24 (.int .i64 s.am.op.kind) rfl
  have e25 := cell_of HC1.out.hc 25 (.int .i64 s.am.op.dir) rfl
  have e26 := cell_of HC1.out.hc 26 (.string s.am.op.name) rfl
  have e27 := cell_of HC1.out.hc 27 (.int .i64 s.am.op.to_) rfl
  have e28 := cell_of HC1.out.hc 28 (.string s.am.op.new_) rfl
  have e29 := cell_of HC1.out.hc 29 (.int .i64 s.am.op.mode) rfl
  have e30 := cell_of HC1.out.hc 30 (.string s.am.op.target) rfl
  have e31 := cell_of HC1.out.hc 31 (.slice none 0 0) rfl
  have e32 := cell_of HC1.out.hc 32 (.slice none 0 0) rfl
  clear hb1 ho1
  refine wp_seq_k fun K2 hK2 => ?_
  have HK2 := hid hK2
  clear hK2
  go_wp2
  refine HK2.out _ _ ?_
  clear HK2 e17 e18 e19 e20 e21 e22 e23 e24 e25 e26 e27 e28 e29 e30 e31 e32
  refine gen_w (P := fun w' => Code.wp _ _ _ _ w') (S := fun w2 => Chg (fun j => j = c) w1 w2 ∧ w2.heap[c]? = some (.cells (cli t p { s with am := ms0 }) 86 (0, 0))) _ ⟨?_, ?_⟩ ?_
  · iterate 16 refine Chg.set1 ?_ _ _ rfl
    exact Chg.refl _ _
  · have h9 := (heap_set (heap_set (heap_set (heap_set (heap_set (heap_set (heap_set (heap_set (heap_set (heap_set (heap_set (heap_set (heap_set (heap_set (heap_set (heap_set HC1.out.hc 17 (.int .i64 0)) 18 (.int .i64 0)) 19 (.int .i64 0)) 20 (.int .i64 0)) 21 (.complex .f64 0 0)) 22 (.int .i64 0)) 23 (.int .i64 0)) 24 (.int .i64 0)) 25 (.int .i64 0)) 26 (.string { data := #[] })) 27 (.int .i64 0)) 28 (.string { data := #[] })) 29 (.int .i64 0)) 30 (.string { data := #[] })) 31 (.slice none 0 0)) 32 (.slice none 0 0))
    simp only [cli, List.setIfInBounds_toArray, List.set_cons_zero, List.set_cons_succ] at h9
    exact h9
  rintro w2 ⟨hc2, hh2⟩
  have HC2 := hid (show CliAt w2 c t B p n { s with am := ms0 } td L wh from ⟨hh2, HC1.out.ht.chg hc2 (heap_ty HC1.out.ht HC1.out.hc (by decide)), HC1.out.hp.chg hc2 (fun k hk e => HC1.out.ncp (e ▸ hk)), HC1.out.ncp, HC1.out.ntp⟩)
  have HO2 := hid (heap_chg hc2 HO1.out (by omega))
  have ha2 := heap_chg hc2 HA1.out (by omega)
  have HA2 := hid ha2
  have HR2 := hid (heap_chg hc2 HR1.out (by omega))
  have HE2 := hid (ownsRow_chg HE1.out fun j hj hl => hc2.block j hl fun e1 => by subst e1; exact own_ne HE1.out HC1.out.hc (by decide) hj)
  have HX2 := hid (show Chg (fun j => j = c) w w2 from chg_new (chg_new (Chg.below (HW.out.mono (Nat.le_refl _)) |>.mono (fun _ _ h => h.elim)) (Chg.below HB1.out) (fun j hj => hj.elim)) hc2 (by intro j hj; exact .inl hj))
  have hz2 : w.heap.size + 3 ≤ w2.heap.size := by have := blk_lt HO2.out; omega
  have ba := blk7 ha2
  clear hc2 hh2 ha2 HC1 HO1 HA1 HR1 HE1 HB1 HA HR HE HC
  go_wp2_with fail
  go_loopw [9, 27] (fun _ v27 wr => ∃ i : Nat, i ≤ F.length ∧ v27 = .int .i64 i ∧ Hid (CAt wr B p (n + i) (putAll (F.take i) L) wh) ∧ Hid (Chg (CF B p) w2 wr)) (fun _ v27 _ => F.length - (intOf v27).toNat)
  case atStart => exact ⟨0, Nat.zero_le _, rfl, hid HC2.out.hp, hid (Chg.refl _ _)⟩
  case round =>
    clear ba
    obtain ⟨i, hi, rfl, HP, HG⟩ := hrel
    have hgz := HG.out.size
    by_cases hlt : i < F.length
    · have hk0 : (0 : Int) ≤ (i : Int) := by omega
      have hk1 : (i : Int) < (F.length : Int) := by omega
      obtain ⟨g, hag, hBg, hgz', hc1, hc2⟩ := own_loc HE2.out (by omega)
      obtain ⟨x, hx⟩ : ∃ x, F[i]? = some x := ⟨_, List.getElem?_eq_getElem hlt⟩
      subst hag
      have hvr := ownsRow_chg HE2.out fun j hj hl => HG.out.block j hl (fun hf => by have := hf.2; have := (own_lt HE2.out hj).1; have := HN.out.2.1; omega)
      have bx := ecs_at (Rd.own hvr) hx
      have HXX := hid hx
      have hcr := heap_chg HG.out HC2.out.hc HC2.out.ncp
      have HCR := hid hcr
      have e10 := cell_of (heap_old hcr (.cells #[.int .i64 x.key.dir, .string x.key.name, .bool x.neg, .int .i64 x.node.id, .int .i64 x.node.kind, .int .i64 x.node.mode, .string x.node.target] 55)) 10 (.pointer (some ⟨p, 0, none⟩)) rfl
      have BX := blk7 (heap_new wr (.cells #[.int .i64 x.key.dir, .string x.key.name, .bool x.neg, .int .i64 x.node.id, .int .i64 x.node.kind, .int .i64 x.node.mode, .string x.node.target] 55))
      have KR : (wr.alloc (.cells #[.int .i64 x.key.dir, .string x.key.name, .bool x.neg, .int .i64 x.node.id, .int .i64 x.node.kind, .int .i64 x.node.mode, .string x.node.target] 55)).cell? ⟨c, 10, none⟩ = some (.pointer (some ⟨p, 0, none⟩)) ∧ (wr.alloc (.cells #[.int .i64 x.key.dir, .string x.key.name, .bool x.neg, .int .i64 x.node.id, .int .i64 x.node.kind, .int .i64 x.node.mode, .string x.node.target] 55)).cell? ⟨wr.heap.size, 0, none⟩ = some (.int .i64 x.key.dir) ∧ (wr.alloc (.cells #[.int .i64 x.key.dir, .string x.key.name, .bool x.neg, .int .i64 x.node.id, .int .i64 x.node.kind, .int .i64 x.node.mode, .string x.node.target] 55)).cell? ⟨wr.heap.size, 1, none⟩ = some (.string x.key.name) ∧ (wr.alloc (.cells #[.int .i64 x.key.dir, .string x.key.name, .bool x.neg, .int .i64 x.node.id, .int .i64 x.node.kind, .int .i64 x.node.mode, .string x.node.target] 55)).cell? ⟨wr.heap.size, 2, none⟩ = some (.bool x.neg) ∧ (wr.alloc (.cells #[.int .i64 x.key.dir, .string x.key.name, .bool x.neg, .int .i64 x.node.id, .int .i64 x.node.kind, .int .i64 x.node.mode, .string x.node.target] 55)).cell? ⟨wr.heap.size, 3, none⟩ = some (.int .i64 x.node.id) ∧ (wr.alloc (.cells #[.int .i64 x.key.dir, .string x.key.name, .bool x.neg, .int .i64 x.node.id, .int .i64 x.node.kind, .int .i64 x.node.mode, .string x.node.target] 55)).cell? ⟨wr.heap.size, 4, none⟩ = some (.int .i64 x.node.kind) ∧ (wr.alloc (.cells #[.int .i64 x.key.dir, .string x.key.name, .bool x.neg, .int .i64 x.node.id, .int .i64 x.node.kind, .int .i64 x.node.mode, .string x.node.target] 55)).cell? ⟨wr.heap.size, 5, none⟩ = some (.int .i64 x.node.mode) ∧ (wr.alloc (.cells #[.int .i64 x.key.dir, .string x.key.name, .bool x.neg, .int .i64 x.node.id, .int .i64 x.node.kind, .int .i64 x.node.mode, .string x.node.target] 55)).cell? ⟨wr.heap.size, 6, none⟩ = some (.string x.node.target) := ⟨e10.1, BX.1, BX.2.1, BX.2.2.1, BX.2.2.2.1, BX.2.2.2.2.1, BX.2.2.2.2.2.1, BX.2.2.2.2.2.2.1⟩
      have KRd : (wr.alloc (.cells #[.int .i64 x.key.dir, .string x.key.name, .bool x.neg, .int .i64 x.node.id, .int .i64 x.node.kind, .int .i64 x.node.mode, .string x.node.target] 55)).drew.cell? ⟨c, 10, none⟩ = some (.pointer (some ⟨p, 0, none⟩)) ∧ (wr.alloc (.cells #[.int .i64 x.key.dir, .string x.key.name, .bool x.neg, .int .i64 x.node.id, .int .i64 x.node.kind, .int .i64 x.node.mode, .string x.node.target] 55)).drew.cell? ⟨wr.heap.size, 0, none⟩ = some (.int .i64 x.key.dir) ∧ (wr.alloc (.cells #[.int .i64 x.key.dir, .string x.key.name, .bool x.neg, .int .i64 x.node.id, .int .i64 x.node.kind, .int .i64 x.node.mode, .string x.node.target] 55)).drew.cell? ⟨wr.heap.size, 1, none⟩ = some (.string x.key.name) ∧ (wr.alloc (.cells #[.int .i64 x.key.dir, .string x.key.name, .bool x.neg, .int .i64 x.node.id, .int .i64 x.node.kind, .int .i64 x.node.mode, .string x.node.target] 55)).drew.cell? ⟨wr.heap.size, 2, none⟩ = some (.bool x.neg) ∧ (wr.alloc (.cells #[.int .i64 x.key.dir, .string x.key.name, .bool x.neg, .int .i64 x.node.id, .int .i64 x.node.kind, .int .i64 x.node.mode, .string x.node.target] 55)).drew.cell? ⟨wr.heap.size, 3, none⟩ = some (.int .i64 x.node.id) ∧ (wr.alloc (.cells #[.int .i64 x.key.dir, .string x.key.name, .bool x.neg, .int .i64 x.node.id, .int .i64 x.node.kind, .int .i64 x.node.mode, .string x.node.target] 55)).drew.cell? ⟨wr.heap.size, 4, none⟩ = some (.int .i64 x.node.kind) ∧ (wr.alloc (.cells #[.int .i64 x.key.dir, .string x.key.name, .bool x.neg, .int .i64 x.node.id, .int .i64 x.node.kind, .int .i64 x.node.mode, .string x.node.target] 55)).drew.cell? ⟨wr.heap.size, 5, none⟩ = some (.int .i64 x.node.mode) ∧ (wr.alloc (.cells #[.int .i64 x.key.dir, .string x.key.name, .bool x.neg, .int .i64 x.node.id, .int .i64 x.node.kind, .int .i64 x.node.mode, .string x.node.target] 55)).drew.cell? ⟨wr.heap.size, 6, none⟩ = some (.string x.node.target) := KR
      have HPA := hid ((HP.out.below (bl1 wr (.cells #[.int .i64 x.key.dir, .string x.key.name, .bool x.neg, .int .i64 x.node.id, .int .i64 x.node.kind, .int .i64 x.node.mode, .string x.node.target] 55))).below (Below.refl _ _).drew)
      have hpr := HP.out.lt
      have hni : n + i < 4611686018427387904 := by have := HN.out.1; omega
      clear hvr hcr hx e10 BX
      go_wp2_with fail
      go_region_held3 (fun w' => w'.cell? ⟨c, 10, none⟩ = some (.pointer (some ⟨p, 0, none⟩)) ∧ w'.cell? ⟨wr.heap.size, 0, none⟩ = some (.int .i64 x.key.dir) ∧ w'.cell? ⟨wr.heap.size, 1, none⟩ = some (.string x.key.name) ∧ w'.cell? ⟨wr.heap.size, 2, none⟩ = some (.bool x.neg) ∧ w'.cell? ⟨wr.heap.size, 3, none⟩ = some (.int .i64 x.node.id) ∧ w'.cell? ⟨wr.heap.size, 4, none⟩ = some (.int .i64 x.node.kind) ∧ w'.cell? ⟨wr.heap.size, 5, none⟩ = some (.int .i64 x.node.mode) ∧ w'.cell? ⟨wr.heap.size, 6, none⟩ = some (.string x.node.target))
        (first | with_reducible exact KR | with_reducible exact KRd | with_reducible exact K2)
        (first | (go_at_call 66; refine (c_put _ B p _ _ wh x HPA.out hni).mono ?_; rintro e w3 ⟨he, hp3, hc3⟩; (generalize (if x.key.name = ByteArray.empty then (1 : Int) else 0) = pv at he); subst he; (have HP3 := hid hp3); (have HC3 := hid hc3); (have q0 := cell_of (heap_chg (w := (wr.alloc (.cells #[.int .i64 x.key.dir, .string x.key.name, .bool x.neg, .int .i64 x.node.id, .int .i64 x.node.kind, .int .i64 x.node.mode, .string x.node.target] 55)).drew) hc3 (heap_old HCR.out _) HC2.out.ncp) 10 (.pointer (some ⟨p, 0, none⟩)) rfl); (have q1 := blk7 (heap_chg (w := (wr.alloc (.cells #[.int .i64 x.key.dir, .string x.key.name, .bool x.neg, .int .i64 x.node.id, .int .i64 x.node.kind, .int .i64 x.node.mode, .string x.node.target] 55)).drew) hc3 (heap_new wr (.cells #[.int .i64 x.key.dir, .string x.key.name, .bool x.neg, .int .i64 x.node.id, .int .i64 x.node.kind, .int .i64 x.node.mode, .string x.node.target] 55)) (fun hf => by have := hf.2; omega))); (have K2 : w3.cell? ⟨c, 10, none⟩ = some (.pointer (some ⟨p, 0, none⟩)) ∧ w3.cell? ⟨wr.heap.size, 0, none⟩ = some (.int .i64 x.key.dir) ∧ w3.cell? ⟨wr.heap.size, 1, none⟩ = some (.string x.key.name) ∧ w3.cell? ⟨wr.heap.size, 2, none⟩ = some (.bool x.neg) ∧ w3.cell? ⟨wr.heap.size, 3, none⟩ = some (.int .i64 x.node.id) ∧ w3.cell? ⟨wr.heap.size, 4, none⟩ = some (.int .i64 x.node.kind) ∧ w3.cell? ⟨wr.heap.size, 5, none⟩ = some (.int .i64 x.node.mode) ∧ w3.cell? ⟨wr.heap.size, 6, none⟩ = some (.string x.node.target) := ⟨q0.1, q1.1, q1.2.1, q1.2.2.1, q1.2.2.2.1, q1.2.2.2.2.1, q1.2.2.2.2.2.1, q1.2.2.2.2.2.2.1⟩); clear hp3 hc3 q0 q1))
      all_goals
        go_wp2
        refine ⟨⟨i + 1, by omega, by go_num, hid ?_, hid ?_⟩, by simp [intOf]; omega⟩
        · rw [List.take_add_one, HXX.out, Option.toList_some, putAll_snoc]
          exact HP3.out
        · exact Chg.trans (Chg.trans HG.out (Chg.below (bl1 wr _).drew) (fun _ _ h => h) (fun _ _ h => h.elim)) HC3.out (fun _ _ h => h) (fun _ _ h => h)
    · have hie : i = F.length := by omega
      have hnl : ¬ ((i : Int) < (F.length : Int)) := by omega
      have HP1 := hid (show CAt wr B p (n + F.length) (putAll F L) wh by have h9 := HP.out; rw [hie, List.take_length] at h9; exact h9)
      have hcp : ∀ k, w.heap.size ≤ k → ¬ CF B p k := fun k hk hf => by have := hf.2; omega
      have ha3 := heap_chg HG.out HA2.out (hcp _ (Nat.le_refl _))
      have ho3 := heap_chg HG.out HO2.out (hcp _ (by omega))
      have HR3 := hid (heap_chg HG.out HR2.out (hcp _ (by omega)))
      have HO3 := hid ho3
      have HC3 := hid (HC2.out.chg HG.out HC2.out.ncp HC2.out.ntp HP1.out)
      have HE3 := hid (ownsRow_chg HE2.out fun j hj hl => HG.out.block j hl (fun hf => by have := hf.2; have := (own_lt HE2.out hj).1; have := HN.out.2.1; omega))
      have HX3 := hid (show Chg (fun j => j = c ∨ CF B p j) w wr from chg_new (HX2.out.mono (fun _ _ h => .inl h)) HG.out (by intro j hj; exact .inl (.inr hj)))
      have hpr := HP1.out.lt
      have ba := blk7 ha3
      have bo := blk7 ho3
      have haz := blk_lt ha3
      have hoz := blk_lt ho3
      have HQ4 := hid (show (wr.alloc (.cells #[.slice ea F.length ec, .bool false, .int .i64 0, .int .i64 0, .int .i64 0, .string { data := #[] }, .int .i64 0, .string { data := #[] }, .int .i64 0, .string { data := #[] }, .int .i64 0, .int .i64 0, .int .i64 0, .int .i64 0, .string { data := #[] }, .slice none 0 0, .int .i64 0] 90)).heap[wr.heap.size]? = some (.cells (tnC (tnF ea F.length ec)) 90 (0, 0)) from heap_new wr _)
      have HC4 := hid (HC3.out.below (bl1 wr (.cells #[.slice ea F.length ec, .bool false, .int .i64 0, .int .i64 0, .int .i64 0, .string { data := #[] }, .int .i64 0, .string { data := #[] }, .int .i64 0, .string { data := #[] }, .int .i64 0, .int .i64 0, .int .i64 0, .int .i64 0, .string { data := #[] }, .slice none 0 0, .int .i64 0] 90)))
      have HR4 := hid (heap_old HR3.out (.cells #[.slice ea F.length ec, .bool false, .int .i64 0, .int .i64 0, .int .i64 0, .string { data := #[] }, .int .i64 0, .string { data := #[] }, .int .i64 0, .string { data := #[] }, .int .i64 0, .int .i64 0, .int .i64 0, .int .i64 0, .string { data := #[] }, .slice none 0 0, .int .i64 0] 90))
      have HO4 := hid (heap_old HO3.out (.cells #[.slice ea F.length ec, .bool false, .int .i64 0, .int .i64 0, .int .i64 0, .string { data := #[] }, .int .i64 0, .string { data := #[] }, .int .i64 0, .string { data := #[] }, .int .i64 0, .int .i64 0, .int .i64 0, .int .i64 0, .string { data := #[] }, .slice none 0 0, .int .i64 0] 90))
      have HE4 := hid (own_alloc HE3.out (.cells #[.slice ea F.length ec, .bool false, .int .i64 0, .int .i64 0, .int .i64 0, .string { data := #[] }, .int .i64 0, .string { data := #[] }, .int .i64 0, .string { data := #[] }, .int .i64 0, .int .i64 0, .int .i64 0, .int .i64 0, .string { data := #[] }, .slice none 0 0, .int .i64 0] 90))
      have KR : (wr.alloc (.cells #[.slice ea F.length ec, .bool false, .int .i64 0, .int .i64 0, .int .i64 0, .string { data := #[] }, .int .i64 0, .string { data := #[] }, .int .i64 0, .string { data := #[] }, .int .i64 0, .int .i64 0, .int .i64 0, .int .i64 0, .string { data := #[] }, .slice none 0 0, .int .i64 0] 90)).cell? ⟨c, 10, none⟩ = some (.pointer (some ⟨p, 0, none⟩)) ∧ (wr.alloc (.cells #[.slice ea F.length ec, .bool false, .int .i64 0, .int .i64 0, .int .i64 0, .string { data := #[] }, .int .i64 0, .string { data := #[] }, .int .i64 0, .string { data := #[] }, .int .i64 0, .int .i64 0, .int .i64 0, .int .i64 0, .string { data := #[] }, .slice none 0 0, .int .i64 0] 90)).cell? ⟨c, 3, none⟩ = some (.int .i64 s.cf.de) ∧ (wr.alloc (.cells #[.slice ea F.length ec, .bool false, .int .i64 0, .int .i64 0, .int .i64 0, .string { data := #[] }, .int .i64 0, .string { data := #[] }, .int .i64 0, .string { data := #[] }, .int .i64 0, .int .i64 0, .int .i64 0, .int .i64 0, .string { data := #[] }, .slice none 0 0, .int .i64 0] 90)).cell? ⟨c, 4, none⟩ = some (.int .i64 s.cf.ne) := ⟨(cell_of HC4.out.hc 10 (.pointer (some ⟨p, 0, none⟩)) rfl).1, (cell_of HC4.out.hc 3 (.int .i64 s.cf.de) rfl).1, (cell_of HC4.out.hc 4 (.int .i64 s.cf.ne) rfl).1⟩
      have KRd : (wr.alloc (.cells #[.slice ea F.length ec, .bool false, .int .i64 0, .int .i64 0, .int .i64 0, .string { data := #[] }, .int .i64 0, .string { data := #[] }, .int .i64 0, .string { data := #[] }, .int .i64 0, .int .i64 0, .int .i64 0, .int .i64 0, .string { data := #[] }, .slice none 0 0, .int .i64 0] 90)).drew.cell? ⟨c, 10, none⟩ = some (.pointer (some ⟨p, 0, none⟩)) ∧ (wr.alloc (.cells #[.slice ea F.length ec, .bool false, .int .i64 0, .int .i64 0, .int .i64 0, .string { data := #[] }, .int .i64 0, .string { data := #[] }, .int .i64 0, .string { data := #[] }, .int .i64 0, .int .i64 0, .int .i64 0, .int .i64 0, .string { data := #[] }, .slice none 0 0, .int .i64 0] 90)).drew.cell? ⟨c, 3, none⟩ = some (.int .i64 s.cf.de) ∧ (wr.alloc (.cells #[.slice ea F.length ec, .bool false, .int .i64 0, .int .i64 0, .int .i64 0, .string { data := #[] }, .int .i64 0, .string { data := #[] }, .int .i64 0, .string { data := #[] }, .int .i64 0, .int .i64 0, .int .i64 0, .int .i64 0, .string { data := #[] }, .slice none 0 0, .int .i64 0] 90)).drew.cell? ⟨c, 4, none⟩ = some (.int .i64 s.cf.ne) := KR
      clear HP HG ha3 ho3 HA2 HO2 HR2 HE2 HC2 HX2 HR3 HO3 HE3
      go_wp2_with fail
      go_region_held3 (fun w' => w'.cell? ⟨c, 10, none⟩ = some (.pointer (some ⟨p, 0, none⟩)) ∧ w'.cell? ⟨c, 3, none⟩ = some (.int .i64 s.cf.de) ∧ w'.cell? ⟨c, 4, none⟩ = some (.int .i64 s.cf.ne))
        (first | with_reducible exact KR | with_reducible exact KRd | with_reducible exact K5)
        (first | (go_at_call 68; refine (c_trim _ B p _ _ wh s.cf.de s.cf.ne HC4.out.drew.hp (by have := HN.out.1; omega)).mono ?_; rintro e w5 ⟨sT, a5, c5, rfl, hsT, ho5, hp5, hl5, hg5⟩; (have HS5 := hid hsT); (have HG5 := hid hg5); (have HP5 := hid hp5); (have HC5 := hid (HC4.out.drew.chg hg5 HC4.out.ncp HC4.out.ntp hp5)); (have K5 : w5.cell? ⟨c, 10, none⟩ = some (.pointer (some ⟨p, 0, none⟩)) ∧ w5.cell? ⟨c, 3, none⟩ = some (.int .i64 s.cf.de) ∧ w5.cell? ⟨c, 4, none⟩ = some (.int .i64 s.cf.ne) := ⟨(cell_of HC5.out.hc 10 (.pointer (some ⟨p, 0, none⟩)) rfl).1, (cell_of HC5.out.hc 3 (.int .i64 s.cf.de) rfl).1, (cell_of HC5.out.hc 4 (.int .i64 s.cf.ne) rfl).1⟩); clear hsT ho5 hp5 hl5 hg5))
      have HO5 := hid (heap_chg HG5.out (show (wr.alloc (.cells #[.slice ea F.length ec, .bool false, .int .i64 0, .int .i64 0, .int .i64 0, .string { data := #[] }, .int .i64 0, .string { data := #[] }, .int .i64 0, .string { data := #[] }, .int .i64 0, .int .i64 0, .int .i64 0, .int .i64 0, .string { data := #[] }, .slice none 0 0, .int .i64 0] 90)).drew.heap[w0.heap.size]? = _ from HO4.out) (hcp _ (by omega)))
      have HR5 := hid (heap_chg HG5.out (show (wr.alloc (.cells #[.slice ea F.length ec, .bool false, .int .i64 0, .int .i64 0, .int .i64 0, .string { data := #[] }, .int .i64 0, .string { data := #[] }, .int .i64 0, .string { data := #[] }, .int .i64 0, .int .i64 0, .int .i64 0, .int .i64 0, .string { data := #[] }, .slice none 0 0, .int .i64 0] 90)).drew.heap[w.heap.size + 1]? = _ from HR4.out) (hcp _ (by omega)))
      have HQ5 := hid (heap_chg HG5.out (show (wr.alloc (.cells #[.slice ea F.length ec, .bool false, .int .i64 0, .int .i64 0, .int .i64 0, .string { data := #[] }, .int .i64 0, .string { data := #[] }, .int .i64 0, .string { data := #[] }, .int .i64 0, .int .i64 0, .int .i64 0, .int .i64 0, .string { data := #[] }, .slice none 0 0, .int .i64 0] 90)).drew.heap[wr.heap.size]? = _ from HQ4.out) (hcp _ (by omega)))
      have HE5 := hid (ownsRow_chg (own_drew HE4.out) fun j hj hl => HG5.out.block j hl (fun hf => by have := hf.2; have := (own_lt HE4.out hj).1; have := HN.out.2.1; omega))
      have HX5 := hid (show Chg (fun j => j = c ∨ CF B p j) w w5 from chg_new (Chg.drew (Chg.alloc HX3.out (.cells #[.slice ea F.length ec, .bool false, .int .i64 0, .int .i64 0, .int .i64 0, .string { data := #[] }, .int .i64 0, .string { data := #[] }, .int .i64 0, .string { data := #[] }, .int .i64 0, .int .i64 0, .int .i64 0, .int .i64 0, .string { data := #[] }, .slice none 0 0, .int .i64 0] 90))) HG5.out (by intro j hj; exact .inl (.inr hj)))
      have bo5 := blk7 HO5.out
      clear KR KRd K5 ba bo HO4 HR4 HQ4 HE4 HC4 HP1 HC3
      go_wp2_with fail
      refine (drive_look _ c t B p (n + F.length) wr.heap.size { s with am := ms0 } td sT.L F sT.wh (tnF ea F.length ec) HC5.out HQ5.out (hcp _ (by omega)) (Rd.own HE5.out) HN.out.2.2.1 HN.out.2.2.2.1 HN.out.2.2.2.2.1 (by have := HN.out.1; omega) HN.out.2.2.2.2.2.1 rfl HN.out.2.2.2.2.2.2.2.1 HN.out.2.2.2.2.2.2.2.2).mono ?_
      rintro e w6 ⟨z, n', hn', hwk, hcase, hx⟩
      have hse := HS5.out
      subst hse
      have hr6 := heap_chg hx HR5.out (fun hf => by rcases hf with hf | hf | hf | hf; omega; omega; omega; exact hcp _ (by omega) hf)
      have HR6 := hid hr6
      have br := blk7 hr6
      have HX6 := hid (show Chg (fun j => j = c ∨ j = t ∨ CF B p j) w w6 from chg_new (HX5.out.mono (fun _ _ h => by rcases h with h | h; exact .inl h; exact .inr (.inr h))) hx (by intro j hj; rcases hj with hj | hj | hj | hj; exact .inl (.inl hj); exact .inl (.inr (.inl hj)); (right; omega); exact .inl (.inr (.inr hj))))
      have HWK := hid hwk
      have HN' := hid hn'
      have HZ2 := hid (show w.heap.size ≤ w5.heap.size from HX5.out.size)
      clear hx hr6 hwk hn' bo5
      rcases hcase with ⟨hnd, ⟨g, rfl, ho⟩, hc3⟩ | ⟨hnd, rfl, hc3⟩
      · have HO := hid ho; have HC3 := hid hc3; have HND := hid hnd
        clear ho hc3 hnd
        go_wp2
        (try simp only [Exit.inBlock, Exit.then])
        refine gen_w (P := fun w' => bodyPost _ _ _ _ _ w') (S := fun w4 => Chg (fun j => j = w.heap.size + 1) w6 w4 ∧ w4.heap[w.heap.size + 1]? = some (.cells #[.int .i64 0, .int .i64 0, .int .i64 0, .int .i64 0, .string { data := #[] }, .slice none 0 0, .int .i64 0] 43 (0, 0))) _ ⟨?_, ?_⟩ ?_
        · iterate 7 refine Chg.set1 ?_ _ _ rfl
          exact Chg.refl _ _
        · have h9 := (heap_set (heap_set (heap_set (heap_set (heap_set (heap_set (heap_set HR6.out 0 (.int .i64 0)) 1 (.int .i64 0)) 2 (.int .i64 0)) 3 (.int .i64 0)) 4 (.string { data := #[] })) 5 (.slice none 0 0)) 6 (.int .i64 0))
          simp only [List.setIfInBounds_toArray, List.set_cons_zero, List.set_cons_succ] at h9
          exact h9
        rintro w4 ⟨hc4, hr4⟩
        have b4 := blk7 hr4
        have HC4 := hid (HC3.out.chg hc4 (by omega) (by omega) (HC3.out.hp.chg hc4 (fun k hk e => by have := hk.2; omega)))
        have HX4 := hid (show Chg (fun j => j = c ∨ j = t ∨ CF B p j) w w4 from chg_new HX6.out hc4 (by intro j hj; right; omega))
        have HG4 := hid hc4
        clear br hc4 hr4
        refine bodyPost_ret (v := .tuple #[.slice (some ⟨g, 0, none⟩) 1 1, .bool false, .agg #[.int .i64 0, .int .i64 0, .int .i64 0, .int .i64 0, .string { data := #[] }, .slice none 0 0, .int .i64 0]]) (by simp [results, Tryz.results34, go_sem, b4, An.v]) rfl ⟨z, n', HN'.out, HWK.out, .inl ⟨HND.out, ⟨g, rfl, ownsRow_mono (ownsRow_chg HO.out fun j hj hl => HG4.out.block j hl fun e1 => by subst e1; exact own_ne HO.out HR6.out (by decide) hj) HZ2.out⟩, HC4.out⟩, HX4.out⟩
      · have HC3 := hid hc3; have HND := hid hnd
        clear hc3 hnd
        unfold An.v
        go_wp2
        (try simp only [Exit.inBlock, Exit.then])
        refine gen_w (P := fun w' => bodyPost _ _ _ _ _ w') (S := fun w4 => Chg (fun j => j = w.heap.size + 1) w6 w4 ∧ w4.heap[w.heap.size + 1]? = some (.cells #[.int .i64 z.err, .int .i64 z.node.id, .int .i64 z.node.kind, .int .i64 z.node.mode, .string z.node.target, .slice none 0 0, .int .i64 td.ver] 43 (0, 0))) _ ⟨?_, ?_⟩ ?_
        · iterate 7 refine Chg.set1 ?_ _ _ rfl
          exact Chg.refl _ _
        · have h9 := (heap_set (heap_set (heap_set (heap_set (heap_set (heap_set (heap_set HR6.out 0 (.int .i64 z.err)) 1 (.int .i64 z.node.id)) 2 (.int .i64 z.node.kind)) 3 (.int .i64 z.node.mode)) 4 (.string z.node.target)) 5 (.slice none 0 0)) 6 (.int .i64 td.ver))
          simp only [List.setIfInBounds_toArray, List.set_cons_zero, List.set_cons_succ] at h9
          exact h9
        rintro w4 ⟨hc4, hr4⟩
        have b4 := blk7 hr4
        have HC4 := hid (HC3.out.chg hc4 (by omega) (by omega) (HC3.out.hp.chg hc4 (fun k hk e => by have := hk.2; omega)))
        have HX4 := hid (show Chg (fun j => j = c ∨ j = t ∨ CF B p j) w w4 from chg_new HX6.out hc4 (by intro j hj; right; omega))
        have HG4 := hid hc4
        clear br hc4 hr4
        refine bodyPost_ret (v := .tuple #[.slice none 0 0, .bool true, (An.mk z.err z.node none 0 0 td.ver).v]) (by simp [results, Tryz.results34, go_sem, b4, An.v]) rfl ⟨z, n', HN'.out, HWK.out, .inr ⟨HND.out, rfl, HC4.out⟩, HX4.out⟩
end Go.Proofs.YtbjibkjenleloaaGreatDoor

end
