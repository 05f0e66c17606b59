/- Parts of a proof about the given program, in build order: CmuB. No condition. -/
import Derived.Test.YtbjibkjenleloaaGreatDoorMg17
section
namespace Go.Proofs.YtbjibkjenleloaaGreatDoor
set_option linter.unusedVariables false
set_option linter.unusedSimpArgs false
open Go.RowKit
attribute [local go_sem ↓] Go.wp_at_zero Go.wp_at_succ
attribute [local go_sem] run_store_complex run_store_float

theorem frame74 (a : Act) (h : a.tmps.size = 74) (hd : a.defers = []) : a = { tmps := #[a.tmps.getD 0 undef, a.tmps.getD 1 undef, a.tmps.getD 2 undef, a.tmps.getD 3 undef, a.tmps.getD 4 undef, a.tmps.getD 5 undef, a.tmps.getD 6 undef, a.tmps.getD 7 undef, a.tmps.getD 8 undef, a.tmps.getD 9 undef, a.tmps.getD 10 undef, a.tmps.getD 11 undef, a.tmps.getD 12 undef, a.tmps.getD 13 undef, a.tmps.getD 14 undef, a.tmps.getD 15 undef, a.tmps.getD 16 undef, a.tmps.getD 17 undef, a.tmps.getD 18 undef, a.tmps.getD 19 undef, a.tmps.getD 20 undef, a.tmps.getD 21 undef, a.tmps.getD 22 undef, a.tmps.getD 23 undef, a.tmps.getD 24 undef, a.tmps.getD 25 undef, a.tmps.getD 26 undef, a.tmps.getD 27 undef, a.tmps.getD 28 undef, a.tmps.getD 29 undef, a.tmps.getD 30 undef, a.tmps.getD 31 undef, a.tmps.getD 32 undef, a.tmps.getD 33 undef, a.tmps.getD 34 undef, a.tmps.getD 35 undef, a.tmps.getD 36 undef, a.tmps.getD 37 undef, a.tmps.getD 38 undef, a.tmps.getD 39 undef, a.tmps.getD 40 undef, a.tmps.getD 41 undef, a.tmps.getD 42 undef, a.tmps.getD 43 undef, a.tmps.getD 44 undef, a.tmps.getD 45 undef, a.tmps.getD 46 undef, a.tmps.getD 47 undef, a.tmps.getD 48 undef, a.tmps.getD 49 undef, a.tmps.getD 50 undef, a.tmps.getD 51 undef, a.tmps.getD 52 undef, a.tmps.getD 53 undef, a.tmps.getD 54 undef, a.tmps.getD 55 undef, a.tmps.getD 56 undef, a.tmps.getD 57 undef, a.tmps.getD 58 undef, a.tmps.getD 59 undef, a.tmps.getD 60 undef, a.tmps.getD 61 undef, a.tmps.getD 62 undef, a.tmps.getD 63 undef, a.tmps.getD 64 undef, a.tmps.getD 65 undef, a.tmps.getD 66 undef, a.tmps.getD 67 undef, a.tmps.getD 68 undef, a.tmps.getD 69 undef, a.tmps.getD 70 undef, a.tmps.getD 71 undef, a.tmps.getD 72 undef, a.tmps.getD 73 undef], defers := [] } := by
  obtain ⟨t, d⟩ := a
  simp only at h hd
  subst hd
  have h1 := arr_range t 74 h
  show Act.mk t [] = _
  have h2 : ((List.range 74).map fun i => t.getD i undef).toArray = #[t.getD 0 undef, t.getD 1 undef, t.getD 2 undef, t.getD 3 undef, t.getD 4 undef, t.getD 5 undef, t.getD 6 undef, t.getD 7 undef, t.getD 8 undef, t.getD 9 undef, t.getD 10 undef, t.getD 11 undef, t.getD 12 undef, t.getD 13 undef, t.getD 14 undef, t.getD 15 undef, t.getD 16 undef, t.getD 17 undef, t.getD 18 undef, t.getD 19 undef, t.getD 20 undef, t.getD 21 undef, t.getD 22 undef, t.getD 23 undef, t.getD 24 undef, t.getD 25 undef, t.getD 26 undef, t.getD 27 undef, t.getD 28 undef, t.getD 29 undef, t.getD 30 undef, t.getD 31 undef, t.getD 32 undef, t.getD 33 undef, t.getD 34 undef, t.getD 35 undef, t.getD 36 undef, t.getD 37 undef, t.getD 38 undef, t.getD 39 undef, t.getD 40 undef, t.getD 41 undef, t.getD 42 undef, t.getD 43 undef, t.getD 44 undef, t.getD 45 undef, t.getD 46 undef, t.getD 47 undef, t.getD 48 undef, t.getD 49 undef, t.getD 50 undef, t.getD 51 undef, t.getD 52 undef, t.getD 53 undef, t.getD 54 undef, t.getD 55 undef, t.getD 56 undef, t.getD 57 undef, t.getD 58 undef, t.getD 59 undef, t.getD 60 undef, t.getD 61 undef, t.getD 62 undef, t.getD 63 undef, t.getD 64 undef, t.getD 65 undef, t.getD 66 undef, t.getD 67 undef, t.getD 68 undef, t.getD 69 undef, t.getD 70 undef, t.getD 71 undef, t.getD 72 undef, t.getD 73 undef] := by kernel_rfl
  rw [← h2, ← h1]

noncomputable def cgScope : Code := match Tryz.f84.body with | some (Code.scope c) => c | _ => Code.skip
noncomputable def cgRest : Code := match findLabel cgScope 0 with | some (Code.seq _ r) => r | _ => Code.skip
/-- what a change comes to: the op (none: it stays), the error, the entries, the keys used -/
inductive Co (F : List En) (wh : Int → Bool) (s : Cl) : List Ky → ByteArray → List En → Option Op7 → Int → List En → Nat → Prop
  | stop (P : List Ky) (path : ByteArray) (L : List En) (T : List ByteArray) (y : ByteArray) (z : Ow) : stepsL path = T ++ [y] → Wk F L wh true [] rootNd T true s.cf.li [] z → (!z.need && z.err == 0) = false → Co F wh s P path L (if z.need then some (lookOp z.key) else none) z.err (useAll z.used L) z.used.length
  | last (P : List Ky) (path : ByteArray) (L : List En) (T : List ByteArray) (y : ByteArray) (z : Ow) : stepsL path = T ++ [y] → Wk F L wh true [] rootNd T true s.cf.li [] z → (!z.need && z.err == 0) = true → (s.ck = 10 → 1 ≤ P.length) → Co F wh s P path L (some (mutOp s (P ++ [⟨z.node.id, y⟩]))) 0 (useAll z.used L) z.used.length
  | more (P : List Ky) (path : ByteArray) (L : List En) (T : List ByteArray) (y : ByteArray) (z : Ow) (o : Option Op7) (e : Int) (L' : List En) (m : Nat) : stepsL path = T ++ [y] → Wk F L wh true [] rootNd T true s.cf.li [] z → (!z.need && z.err == 0) = true → s.ck = 10 → P = [] → Co F wh s [⟨z.node.id, y⟩] s.co (useAll z.used L) o e L' m → Co F wh s P path L o e L' (z.used.length + m)
/-- the memory at a pass -/
structure Cgi (w w1 : World) (c t B p n q r : Nat) (s : Cl) (td : Td) (tn : Tn) (wh : Int → Bool) (P : List Ky) (L1 : List En) (pa : Option Addr) (pc m0 : Nat) : Prop where
  at_ : CliAt w1 c t B p (n + m0) s td L1 wh
  q_ : w1.heap[q]? = some (.cells (tnC tn) 90 (0, 0))
  r_ : ∃ x0 x1 x2 x3, w1.heap[r]? = some (.cells #[x0, x1, x2, x3] 40 (0, 0))
  P_ : w1.ownsRow w.heap.size 53 2 (.slice pa P.length pc) P.length (kyc P)
  ch : Chg (fun j => j = q ∨ CF B p j) w w1
def Jcg (F L : List En) (wh : Int → Bool) (w : World) (c t B p n q : Nat) (s : Cl) (td : Td) (tn : Tn) (l : Nat) (a : Act) (w1 : World) : Prop :=
  l = 0 ∧ ∃ (r : Nat) (P : List Ky) (path : ByteArray) (L1 : List En) (pa : Option Addr) (pc m0 : Nat), (a.tmps.size = 74 ∧ a.defers = []) ∧ (a.tmps.getD 0 undef = .pointer (some ⟨c, 0, none⟩) ∧ a.tmps.getD 1 undef = .pointer (some ⟨q, 0, none⟩) ∧ a.tmps.getD 4 undef = .slice pa P.length pc ∧ a.tmps.getD 5 undef = .string path ∧ a.tmps.getD 6 undef = .pointer (some ⟨r, 0, none⟩)) ∧
    Hid (Cgi w w1 c t B p n q r s td tn wh P L1 pa pc m0) ∧ w.heap.size ≤ r ∧ P.length ≤ 1 ∧ parErr path = 0 ∧ (P.length = 1 → s.ck = 10) ∧ m0 ≤ 1000 * P.length ∧ Hid (∀ o e L' m, Co F wh s P path L1 o e L' m → Co F wh s [] s.cp L o e L' (m0 + m))
def muC (_ : Nat) (a : Act) (_ : World) : Nat := match a.tmps.getD 4 undef with | .slice _ n _ => 1 - n | _ => 0
/-- what an end needs -/
def FinC (Q : Exit → Act → World → Prop) (F L : List En) (wh : Int → Bool) (w : World) (c t B p n q : Nat) (s : Cl) (td : Td) (tn : Tn) : Prop :=
  ∀ (e1 : Exit) (a : Act) (w3 : World) (o : Option Op7) (e : Int) (L' : List En) (m : Nat), (e1 = .normal ∨ e1 = .ret) → a.defers = [] → Co F wh s [] s.cp L o e L' m → m ≤ 2000 → CliAt w3 c t B p (n + m) s td L' wh → w3.heap[q]? = some (.cells (tnC { tn with op := o.getD tn.op, err := e }) 90 (0, 0)) → Chg (fun j => j = q ∨ CF B p j) w w3 → Q e1 a w3
theorem par_path {s : ByteArray} (h : parErr s = 0) : pathErr s = 0 := by
  unfold parErr at h
  by_cases h1 : pathErr s = 0
  · exact h1
  · rw [if_pos h1] at h; exact absurd h h1
set_option maxRecDepth 100000 in
set_option maxHeartbeats 8000000 in
theorem cg_pass (F L : List En) (wh : Int → Bool) (w : World) (c t B p n q : Nat) (s : Cl) (td : Td) (tn : Tn) (J : Nat → Act → World → Prop) (Q : Exit → Act → World → Prop) (a : Act) (w1 : World) (m9 : Nat)
    (hj : Jcg F L wh w c t B p n q s td tn 0 a w1) (hm : m9 = muC 0 a w1) (hQ : FinC Q F L wh w c t B p n q s td tn) (hJ : ∀ a w2, Jcg F L wh w c t B p n q s td tn 0 a w2 → muC 0 a w2 < m9 → J 0 a w2)
    (hF : ∀ W, Chg (fun j => j = q ∨ CF B p j) w W → Rd W (.slice tn.fa tn.fl tn.fc) F.length (ecs F)) (hnq : ¬ CF B p q) (hte : tn.err = 0) (hpz : p < w.heap.size ∧ c < w.heap.size ∧ t < w.heap.size ∧ q < w.heap.size) (hco : s.ck = 10 → parErr s.co = 0) (hck : 5 ≤ s.ck ∧ s.ck ≤ 11) (hl0 : 0 ≤ s.cf.li) (hl8 : s.cf.li ≤ 8) (hn : n < 100000000000) :
    cgRest.wp Tryz.prog (jumpM J Q) a w1 := by
  obtain ⟨_, r, P, path, L1, pa, pc, m0, ⟨hs, hd⟩, ⟨h0, h1, h4, h5, h6⟩, HI, hrz, hP1, hpar, hPk, hm0, HCo⟩ := hj
  have h9 := frame74 a hs hd
  rw [h0, h1, h4, h5, h6] at h9
  have hm' : m9 = 1 - P.length := by rw [hm]; unfold muC; rw [h4]
  have HN := hid (And.intro hpar (And.intro hPk (And.intro hco (And.intro hck (And.intro hl0 (And.intro hl8 (And.intro hn hnq)))))))
  have HM := hid hm'
  have HQ := hid hQ
  have HJ := hid hJ
  have HFF := hid hF
  have HTE := hid hte
  generalize a.tmps = u at h9
  subst h9
  obtain ⟨hpz, hcz, htz, hqz⟩ := hpz
  have HNE := hid (And.intro (heap_ty HI.out.at_.hc HI.out.q_ (by decide)) (heap_ty HI.out.at_.ht HI.out.q_ (by decide)))
  clear hs hd h0 h1 h4 h5 h6 hm hm' hQ hJ hF hte hpar hPk hco hck hl0 hl8 hn hnq
  conv => pattern cgRest; whnf
  go_wp2_with fail
  refine (parent_any path _).mono ?_; rintro e w2 hc
  rcases hc.out with ⟨hne, _⟩ | ⟨_, ⟨g, T, y, hst, rfl, hgz, hrd⟩, hb2⟩
  · exact absurd HN.out.1 hne
  have HST := hid (show stepsL path = T ++ [y] from hst)
  have hTl : T.length ≤ 96 := by have h1 := path_small (par_path HN.out.1); rw [hst] at h1; simp at h1; omega
  have HT := hid (And.intro hTl hrd)
  have HC2 := hid (HI.out.at_.below hb2)
  have HQ2 := hid (heap_below hb2 HI.out.q_ (blk_lt HI.out.q_))
  obtain ⟨x0, x1, x2, x3, hr1⟩ := HI.out.r_
  have HR2 := hid (heap_below hb2 hr1 (blk_lt hr1))
  have HP2 := hid (own_below HI.out.P_ hb2)
  have HX2 := hid (chg_new HI.out.ch (Chg.below hb2) (fun j hj => hj.elim))
  have HF2 := hid (HFF.out _ HX2.out)
  have hz2 := HX2.out.size
  have hrz2 := blk_lt HR2.out
  clear hc hst hTl hrd hb2 hr1 HI
  go_wp2_with fail
  have KR : w2.cell? ⟨c, 10, none⟩ = some (.pointer (some ⟨p, 0, none⟩)) ∧ w2.cell? ⟨c, 5, none⟩ = some (.int .i64 s.cf.li) ∧ w2.cell? ⟨q, 0, none⟩ = some (.slice tn.fa tn.fl tn.fc) := ⟨(cell_of HC2.out.hc 10 (.pointer (some ⟨p, 0, none⟩)) rfl).1, (cell_of HC2.out.hc 5 (.int .i64 s.cf.li) rfl).1, (cell_of HQ2.out 0 (.slice tn.fa tn.fl tn.fc) rfl).1⟩
  have KRd : w2.drew.cell? ⟨c, 10, none⟩ = some (.pointer (some ⟨p, 0, none⟩)) ∧ w2.drew.cell? ⟨c, 5, none⟩ = some (.int .i64 s.cf.li) ∧ w2.drew.cell? ⟨q, 0, none⟩ = some (.slice tn.fa tn.fl tn.fc) := KR
  have br2 := blk4 HR2.out
  go_region_held3 (fun w' => w'.cell? ⟨c, 10, none⟩ = some (.pointer (some ⟨p, 0, none⟩)) ∧ w'.cell? ⟨c, 5, none⟩ = some (.int .i64 s.cf.li) ∧ w'.cell? ⟨q, 0, none⟩ = some (.slice tn.fa tn.fl tn.fc))
    (first | with_reducible exact KR | with_reducible exact KRd | with_reducible exact K3 | with_reducible exact K4 | exact KS _ KC.out)
    (first
      | (go_at_call 116; refine (steps_any _ B p (n + m0) L1 F wh _ _ T true true s.cf.li HC2.out.drew.hp HF2.out.drew HT.out.2.drew (by have := HT.out.1; omega) HN.out.2.2.2.2.1 HN.out.2.2.2.2.2.1).mono ?_; rintro e w3 ⟨z, ua, uc, rfl, hwk, hu3, hb3⟩; (have HWK := hid hwk); (have HU3 := hid hu3); (have HB3 := hid hb3); (have HC3 := hid (CliAt.below HC2.out.drew hb3)); (have HQ3 := hid (heap_below (w := w2.drew) hb3 HQ2.out (blk_lt HQ2.out))); (have HR3 := hid (heap_below (w := w2.drew) hb3 HR2.out (blk_lt HR2.out))); (have HP3 := hid (own_below (own_drew HP2.out) hb3)); (have hul := wk_used hwk); (have HUL := hid hul); (have K3 : w3.cell? ⟨c, 10, none⟩ = some (.pointer (some ⟨p, 0, none⟩)) ∧ w3.cell? ⟨c, 5, none⟩ = some (.int .i64 s.cf.li) ∧ w3.cell? ⟨q, 0, none⟩ = some (.slice tn.fa tn.fl tn.fc) := ⟨(cell_of HC3.out.hc 10 (.pointer (some ⟨p, 0, none⟩)) rfl).1, (cell_of HC3.out.hc 5 (.int .i64 s.cf.li) rfl).1, (cell_of HQ3.out 0 (.slice tn.fa tn.fl tn.fc) rfl).1⟩); clear hwk hu3 hb3 hul)
      | (go_at_call 115; refine (cli_came _ c t B p (n + m0) q w2.drew.heap.size s td L1 wh tn z ua uc HC3.out HQ3.out HU3.out (by show p < w2.heap.size; omega) HN.out.2.2.2.2.2.2.2 (by have := HUL.out; have := HT.out.1; have := HN.out.2.2.2.2.2.1; have := HN.out.2.2.2.2.2.2.1; simp at *; omega) (by have := HUL.out; have := HT.out.1; have := HN.out.2.2.2.2.2.1; simp at *; omega)).mono ?_; rintro e w4 ⟨he4, hc4, hq4, hg4⟩; (generalize hok : (!z.need && z.err == 0) = ok at he4); subst he4; (have HOK := hid hok); (have HC4 := hid hc4); (have HQ4 := hid hq4); (have HG4 := hid hg4); (have hr4 := heap_chg hg4 HR3.out (fun hf => by rcases hf with hf | hf; omega; (have := hf.2; omega))); (have HR4 := hid hr4); (have HP4 := hid (ownsRow_chg HP3.out fun j hj hl => hg4.block j hl (fun hf => by have h1 := (own_lt HP3.out hj).1; rcases hf with hf | hf; omega; (have := hf.2; omega)))); (have br := blk4 hr4); (have K4 : w4.cell? ⟨c, 10, none⟩ = some (.pointer (some ⟨p, 0, none⟩)) ∧ w4.cell? ⟨c, 5, none⟩ = some (.int .i64 s.cf.li) ∧ w4.cell? ⟨q, 0, none⟩ = some (.slice tn.fa tn.fl tn.fc) := ⟨(cell_of hc4.hc 10 (.pointer (some ⟨p, 0, none⟩)) rfl).1, (cell_of hc4.hc 5 (.int .i64 s.cf.li) rfl).1, (cell_of hq4 0 (.slice tn.fa tn.fl tn.fc) rfl).1⟩); (have KS : ∀ W : World, Chg (fun j => j = r) w4 W → W.cell? ⟨c, 10, none⟩ = some (.pointer (some ⟨p, 0, none⟩)) ∧ W.cell? ⟨c, 5, none⟩ = some (.int .i64 s.cf.li) ∧ W.cell? ⟨q, 0, none⟩ = some (.slice tn.fa tn.fl tn.fc) := fun W hW => ⟨(cell_of (heap_chg hW HC4.out.hc (by omega)) 10 (.pointer (some ⟨p, 0, none⟩)) rfl).1, (cell_of (heap_chg hW HC4.out.hc (by omega)) 5 (.int .i64 s.cf.li) rfl).1, (cell_of (heap_chg hW HQ4.out (by omega)) 0 (.slice tn.fa tn.fl tn.fc) rfl).1⟩); (have KC := hid (show Chg (fun j => j = r) w4 (((((w4.setCell ⟨r, 0, none⟩ (.int .i64 z.node.id)).setCell ⟨r, 1, none⟩ (.int .i64 z.node.kind)).setCell ⟨r, 2, none⟩ (.int .i64 z.node.mode)).setCell ⟨r, 3, none⟩ (.string z.node.target))) from (by (iterate 4 refine Chg.set1 ?_ _ _ rfl); exact Chg.refl _ _))); unfold Nd.v; clear hc4 hq4 hg4 hr4 hok br2))
  all_goals
    refine gen_w (P := fun w' => Exit.then _ _ _ _ w') (S := fun w5 => Chg (fun j => j = r) w4 w5 ∧ w5.heap[r]? = some (.cells #[.int .i64 z.node.id, .int .i64 z.node.kind, .int .i64 z.node.mode, .string z.node.target] 40 (0, 0))) _ ⟨?_, ?_⟩ ?_
    · first | exact KC.out | exact Chg.drew KC.out
    · (try refine heap_drew ?_)
      have h9 := (heap_set (heap_set (heap_set (heap_set HR4.out 0 (.int .i64 z.node.id)) 1 (.int .i64 z.node.kind)) 2 (.int .i64 z.node.mode)) 3 (.string z.node.target))
      simp only [List.setIfInBounds_toArray, List.set_cons_zero, List.set_cons_succ] at h9
      exact h9
    rintro w5 ⟨hc5, hr5⟩
    have HR5 := hid hr5
    have HC5 := hid (HC4.out.chg hc5 (by omega) (by omega) (HC4.out.hp.chg hc5 (fun k hk e => by have := hk.2; omega)))
    have HQ5 := hid (heap_chg hc5 HQ4.out (by omega))
    have HP5 := hid (ownsRow_chg HP4.out fun j hj hl => hc5.block j hl (fun e1 => by subst e1; exact own_ne HP4.out HR4.out (by decide) hj))
    have HX5 := hid (chg_new (chg_new (chg_new HX2.out (show Chg NoB w2 w3 from (Chg.below HB3.out |> fun h => ⟨h.os, h.tape, h.output, h.size, h.block⟩)) (fun j hj => hj.elim)) HG4.out (fun j hj => .inl hj)) hc5 (by intro j hj; right; omega))
    have HU := hid (show z.used.length ≤ 1000 by have := HUL.out; have := HT.out.1; have := HN.out.2.2.2.2.2.1; simp at *; omega)
    have hz5 := HX5.out.size
    have hrz5 := blk_lt hr5
    have br5 := blk4 hr5
    clear KR KRd K3 K4 KS KC hc5 hr5 br
    cases ok with
    | false =>
      go_wp2
      (try simp only [Exit.inBlock, Exit.then])
      refine HQ.out .ret _ w5 _ _ _ (m0 + z.used.length) (.inr rfl) rfl (HCo.out _ _ _ _ (Co.stop P path L1 T y z HST.out HWK.out HOK.out)) (by have := HU.out; omega) (by rw [← Nat.add_assoc]; exact HC5.out) ?_ HX5.out
      rw [show (if z.need then some (lookOp z.key) else none).getD tn.op = (if z.need then lookOp z.key else tn.op) by cases z.need <;> rfl]
      exact HQ5.out
    | true =>
      have hnz : z.need = false ∧ z.err = 0 := by have := HOK.out; simpa using this
      have HNZ := hid hnz
      have HQ6 := hid (show w5.heap[q]? = some (.cells (tnC tn) 90 (0, 0)) by have h1 := HQ5.out; rw [hnz.1, hnz.2, ← HTE.out] at h1; exact h1)
      clear hnz HQ4 HQ5
      obtain ⟨i2, hi2, p2, q2, r2⟩ := info_parts infoKy
      have HI2 := hid hi2
      have HB5 := hid (bl1 w5 (.cells #[.int .i64 z.node.id, .string y] 53))
      clear hi2
      have hcs : (s.ck ≠ 10 ∧ P.length = 0) ∨ (s.ck = 10 ∧ P.length = 0) ∨ (s.ck = 10 ∧ P.length = 1) := by
        have := HN.out.2.1
        by_cases h1 : P.length = 1
        · exact .inr (.inr ⟨this h1, h1⟩)
        · by_cases h2 : s.ck = 10
          · exact .inr (.inl ⟨h2, by omega⟩)
          · exact .inl ⟨h2, by omega⟩
      rcases hcs with ⟨h10, hN⟩ | ⟨h10, hN⟩ | ⟨h10, hN⟩
      · have HP6 := hid (by have h1 := HP5.out; rw [hN] at h1; exact h1)
        have HL := hid hN
        rw [hN]
        have d10 : decide (s.ck = 10) = false := by simp [h10]
        have d11 : (s.ck == 10) = false := by simp [h10]
        have H10 := hid h10
        clear h10 hN
        go_wp2_with (at_builtin; (refine wpList_append_rd rfl _ _ 48 rfl w.heap.size 53 i2 _ 2 24 Tryz.underlying48 HI2.out p2 q2 r2 rfl (by decide) (.slice pa 0 pc) 0 (kyc P) rfl (own_alloc HP6.out _) (.slice (some ⟨w5.heap.size, 0, none⟩) 1 1) 1 [.int .i64 z.node.id, .string y] rfl (rd_blk (heap_new w5 (.cells #[.int .i64 z.node.id, .string y] 53)) (by unfold maxLen; omega)) rfl (by intro u hu; simp at hu; rcases hu with rfl | rfl <;> rfl) (by unfold maxLen; omega) (by omega) (by simp; omega) ?_; intro a6 c6 w6 hown6 hgrow6 hat6; (have HX6 := hid (show Chg (fun j => w.heap.size ≤ j) w5 w6 from (Chg.mono (Chg.below HB5.out) (fun _ _ h => h.elim)).grown hgrow6 (fun j hj => .inl (own_lt HP6.out hj).1))); (have HO6 := hid (show w6.ownsRow w.heap.size 53 2 (.slice a6 (0 + 1) c6) (0 + 1) (kyc (P ++ [⟨z.node.id, y⟩])) by rw [kyc_snoc]; exact hown6)); (have HC6 := hid (HC5.out.chg HX6.out (by omega) (by omega) (HC5.out.hp.chg HX6.out (fun k hk e => by have := hk.2; omega)))); (have HQ7 := hid (heap_chg HX6.out HQ6.out (by omega))); (have HR6 := hid (heap_grown hgrow6 (heap_old HR5.out (.cells #[.int .i64 z.node.id, .string y] 53)) (Ne.symm (own_ne HP6.out HR5.out (by decide))))); (have h6 := HC6.out.hc); (have e13 := (cell_of h6 13 (.int .i64 s.ck) rfl)); (have e15 := (cell_of h6 15 (.string s.co) rfl)); clear hown6 hgrow6 hat6 h6 br5))
        have HX7 := hid (show Chg (fun j => j = q ∨ CF B p j) w w6 from chg_new HX5.out HX6.out (fun j hj => .inr hj))
        have hln : (P ++ [(⟨z.node.id, y⟩ : Ky)]).length = 1 := by have h2 := HL.out; simp only [List.length_append, List.length_cons, List.length_nil, h2]
        have hmu := cli_mutation _ c t B p _ w.heap.size s td _ wh (P ++ [⟨z.node.id, y⟩]) a6 c6 HC6.out (by rw [hln]; exact HO6.out) (by rw [hln]; decide) (by rw [hln]; intro h; exact absurd h H10.out) HN.out.2.2.2.1.1 HN.out.2.2.2.1.2
        rw [hln] at hmu
        refine hmu.mono ?_; rintro e7 w7 ⟨rfl, hb7⟩
        clear hmu hln
        have hc7 := HC6.out.below hb7
        have HC7 := hid hc7
        have hq7 := heap_below hb7 HQ7.out (blk_lt HQ7.out)
        have HQ8 := hid hq7
        have HX8 := hid (show Chg (fun j => j = q ∨ CF B p j) w w7 from chg_new HX7.out (Chg.below hb7) (fun j hj => hj.elim))
        have q3 := cell_of hq7 3 (.int .i64 tn.op.kind) rfl
        have q4 := cell_of hq7 4 (.int .i64 tn.op.dir) rfl
        have q5 := cell_of hq7 5 (.string tn.op.name) rfl
        have q6 := cell_of hq7 6 (.int .i64 tn.op.to_) rfl
        have q7 := cell_of hq7 7 (.string tn.op.new_) rfl
        have q8 := cell_of hq7 8 (.int .i64 tn.op.mode) rfl
        have q9 := cell_of hq7 9 (.string tn.op.target) rfl
        unfold Op7.v
        clear hb7 hc7 hq7 e13 e15
        generalize hop : mutOp s (P ++ [⟨z.node.id, y⟩]) = op
        have HOP := hid hop
        clear hop
        go_wp2
        (try simp only [Exit.inBlock, Exit.then])
        refine gen_w (P := fun w' => jumpM _ _ _ _ w') (S := fun w8 => Chg (fun j => j = q) w7 w8 ∧ w8.heap[q]? = some (.cells (tnC { tn with op := op }) 90 (0, 0))) _ ⟨?_, ?_⟩ ?_
        · iterate 7 refine Chg.set1 ?_ _ _ rfl
          exact Chg.refl _ _
        · have h9 := (heap_set (heap_set (heap_set (heap_set (heap_set (heap_set (heap_set HQ8.out 3 (.int .i64 op.kind)) 4 (.int .i64 op.dir)) 5 (.string op.name)) 6 (.int .i64 op.to_)) 7 (.string op.new_)) 8 (.int .i64 op.mode)) 9 (.string op.target))
          simp only [tnC, List.setIfInBounds_toArray, List.set_cons_zero, List.set_cons_succ] at h9
          exact h9
        rintro w8 ⟨hc8, hq8⟩
        refine HQ.out .normal _ w8 _ _ _ (m0 + z.used.length) (.inl rfl) rfl (HCo.out _ _ _ _ (Co.last P path L1 T y z HST.out HWK.out HOK.out (by have := HL.out; have := H10.out; intro h; exact absurd h H10.out))) (by have := HU.out; omega) (by rw [← Nat.add_assoc]; exact HC7.out.chg hc8 (fun e => HNE.out.1 e) (fun e => HNE.out.2 e) (HC7.out.hp.chg hc8 (fun k hk e => HN.out.2.2.2.2.2.2.2 (e ▸ hk)))) ?_ (chg_new HX8.out hc8 (by intro j hj; exact .inl (.inl hj)))
        have h2 : ({ tn with op := op, err := 0 } : Tn) = { tn with op := op } := by rw [← HTE.out]
        show w8.heap[q]? = some (.cells (tnC { tn with op := mutOp s (P ++ [⟨z.node.id, y⟩]), err := 0 }) 90 (0, 0))
        rw [HOP.out, h2]
        exact hq8
      · have HP6 := hid (by have h1 := HP5.out; rw [hN] at h1; exact h1)
        have HL := hid hN
        rw [hN]
        have H10 := hid h10
        clear h10 hN
        go_wp2_with (at_builtin; (refine wpList_append_rd rfl _ _ 48 rfl w.heap.size 53 i2 _ 2 24 Tryz.underlying48 HI2.out p2 q2 r2 rfl (by decide) (.slice pa 0 pc) 0 (kyc P) rfl (own_alloc HP6.out _) (.slice (some ⟨w5.heap.size, 0, none⟩) 1 1) 1 [.int .i64 z.node.id, .string y] rfl (rd_blk (heap_new w5 (.cells #[.int .i64 z.node.id, .string y] 53)) (by unfold maxLen; omega)) rfl (by intro u hu; simp at hu; rcases hu with rfl | rfl <;> rfl) (by unfold maxLen; omega) (by omega) (by simp; omega) ?_; intro a6 c6 w6 hown6 hgrow6 hat6; (have HX6 := hid (show Chg (fun j => w.heap.size ≤ j) w5 w6 from (Chg.mono (Chg.below HB5.out) (fun _ _ h => h.elim)).grown hgrow6 (fun j hj => .inl (own_lt HP6.out hj).1))); (have HO6 := hid (show w6.ownsRow w.heap.size 53 2 (.slice a6 (0 + 1) c6) (0 + 1) (kyc (P ++ [⟨z.node.id, y⟩])) by rw [kyc_snoc]; exact hown6)); (have HC6 := hid (HC5.out.chg HX6.out (by omega) (by omega) (HC5.out.hp.chg HX6.out (fun k hk e => by have := hk.2; omega)))); (have HQ7 := hid (heap_chg HX6.out HQ6.out (by omega))); (have HR6 := hid (heap_grown hgrow6 (heap_old HR5.out (.cells #[.int .i64 z.node.id, .string y] 53)) (Ne.symm (own_ne HP6.out HR5.out (by decide))))); (have h6 := HC6.out.hc); (have e13 := (show w6.cell? ⟨c, 13, none⟩ = some (.int .i64 10) from by rw [← H10.out]; exact (cell_of h6 13 (.int .i64 s.ck) rfl).1)); (have e15 := (cell_of h6 15 (.string s.co) rfl)); clear hown6 hgrow6 hat6 h6 br5))
        have HX7 := hid (show Chg (fun j => j = q ∨ CF B p j) w w6 from chg_new HX5.out HX6.out (fun j hj => .inr hj))
        refine wp_goto ?_
        show J 0 _ _
        refine HJ.out _ _ ?_ ?_
        refine ⟨rfl, r, [⟨z.node.id, y⟩], s.co, useAll z.used L1, a6, c6, m0 + z.used.length, ⟨rfl, rfl⟩, ⟨rfl, rfl, rfl, rfl, rfl⟩, hid ⟨by rw [← Nat.add_assoc]; exact HC6.out, HQ7.out, ⟨_, _, _, _, HR6.out⟩, ?_, HX7.out⟩, hrz, by simp, HN.out.2.2.1 H10.out, fun _ => H10.out, by have := HU.out; have := HL.out; simp; omega, hid ?_⟩
        · have h1 := HO6.out
          rw [List.length_eq_zero_iff.1 HL.out] at h1
          exact h1
        · intro o e L' m hco
          rw [Nat.add_assoc]
          exact HCo.out _ _ _ _ (Co.more P path L1 T y z o e L' m HST.out HWK.out HOK.out H10.out (List.length_eq_zero_iff.1 HL.out) hco)
        · rw [HM.out, HL.out]
          show 1 - (0 + 1) < 1 - 0
          omega
      · have HP6 := hid (by have h1 := HP5.out; rw [hN] at h1; exact h1)
        have HL := hid hN
        rw [hN]
        have H10 := hid h10
        clear h10 hN
        go_wp2_with (at_builtin; (refine wpList_append_rd rfl _ _ 48 rfl w.heap.size 53 i2 _ 2 24 Tryz.underlying48 HI2.out p2 q2 r2 rfl (by decide) (.slice pa 1 pc) 1 (kyc P) rfl (own_alloc HP6.out _) (.slice (some ⟨w5.heap.size, 0, none⟩) 1 1) 1 [.int .i64 z.node.id, .string y] rfl (rd_blk (heap_new w5 (.cells #[.int .i64 z.node.id, .string y] 53)) (by unfold maxLen; omega)) rfl (by intro u hu; simp at hu; rcases hu with rfl | rfl <;> rfl) (by unfold maxLen; omega) (by omega) (by simp; omega) ?_; intro a6 c6 w6 hown6 hgrow6 hat6; (have HX6 := hid (show Chg (fun j => w.heap.size ≤ j) w5 w6 from (Chg.mono (Chg.below HB5.out) (fun _ _ h => h.elim)).grown hgrow6 (fun j hj => .inl (own_lt HP6.out hj).1))); (have HO6 := hid (show w6.ownsRow w.heap.size 53 2 (.slice a6 (1 + 1) c6) (1 + 1) (kyc (P ++ [⟨z.node.id, y⟩])) by rw [kyc_snoc]; exact hown6)); (have HC6 := hid (HC5.out.chg HX6.out (by omega) (by omega) (HC5.out.hp.chg HX6.out (fun k hk e => by have := hk.2; omega)))); (have HQ7 := hid (heap_chg HX6.out HQ6.out (by omega))); (have HR6 := hid (heap_grown hgrow6 (heap_old HR5.out (.cells #[.int .i64 z.node.id, .string y] 53)) (Ne.symm (own_ne HP6.out HR5.out (by decide))))); (have h6 := HC6.out.hc); (have e13 := (show w6.cell? ⟨c, 13, none⟩ = some (.int .i64 10) from by rw [← H10.out]; exact (cell_of h6 13 (.int .i64 s.ck) rfl).1)); (have e15 := (cell_of h6 15 (.string s.co) rfl)); clear hown6 hgrow6 hat6 h6 br5))
        have HX7 := hid (show Chg (fun j => j = q ∨ CF B p j) w w6 from chg_new HX5.out HX6.out (fun j hj => .inr hj))
        have hln : (P ++ [(⟨z.node.id, y⟩ : Ky)]).length = 2 := by have h2 := HL.out; simp only [List.length_append, List.length_cons, List.length_nil, h2]
        have hmu := cli_mutation _ c t B p _ w.heap.size s td _ wh (P ++ [⟨z.node.id, y⟩]) a6 c6 HC6.out (by rw [hln]; exact HO6.out) (by rw [hln]; decide) (by rw [hln]; intro _; decide) HN.out.2.2.2.1.1 HN.out.2.2.2.1.2
        rw [hln] at hmu
        refine hmu.mono ?_; rintro e7 w7 ⟨rfl, hb7⟩
        clear hmu hln
        have hc7 := HC6.out.below hb7
        have HC7 := hid hc7
        have hq7 := heap_below hb7 HQ7.out (blk_lt HQ7.out)
        have HQ8 := hid hq7
        have HX8 := hid (show Chg (fun j => j = q ∨ CF B p j) w w7 from chg_new HX7.out (Chg.below hb7) (fun j hj => hj.elim))
        have q3 := cell_of hq7 3 (.int .i64 tn.op.kind) rfl
        have q4 := cell_of hq7 4 (.int .i64 tn.op.dir) rfl
        have q5 := cell_of hq7 5 (.string tn.op.name) rfl
        have q6 := cell_of hq7 6 (.int .i64 tn.op.to_) rfl
        have q7 := cell_of hq7 7 (.string tn.op.new_) rfl
        have q8 := cell_of hq7 8 (.int .i64 tn.op.mode) rfl
        have q9 := cell_of hq7 9 (.string tn.op.target) rfl
        unfold Op7.v
        clear hb7 hc7 hq7 e13 e15
        generalize hop : mutOp s (P ++ [⟨z.node.id, y⟩]) = op
        have HOP := hid hop
        clear hop
        go_wp2
        (try simp only [Exit.inBlock, Exit.then])
        refine gen_w (P := fun w' => jumpM _ _ _ _ w') (S := fun w8 => Chg (fun j => j = q) w7 w8 ∧ w8.heap[q]? = some (.cells (tnC { tn with op := op }) 90 (0, 0))) _ ⟨?_, ?_⟩ ?_
        · iterate 7 refine Chg.set1 ?_ _ _ rfl
          exact Chg.refl _ _
        · have h9 := (heap_set (heap_set (heap_set (heap_set (heap_set (heap_set (heap_set HQ8.out 3 (.int .i64 op.kind)) 4 (.int .i64 op.dir)) 5 (.string op.name)) 6 (.int .i64 op.to_)) 7 (.string op.new_)) 8 (.int .i64 op.mode)) 9 (.string op.target))
          simp only [tnC, List.setIfInBounds_toArray, List.set_cons_zero, List.set_cons_succ] at h9
          exact h9
        rintro w8 ⟨hc8, hq8⟩
        refine HQ.out .normal _ w8 _ _ _ (m0 + z.used.length) (.inl rfl) rfl (HCo.out _ _ _ _ (Co.last P path L1 T y z HST.out HWK.out HOK.out (by have := HL.out; have := H10.out; intro _; omega))) (by have := HU.out; omega) (by rw [← Nat.add_assoc]; exact HC7.out.chg hc8 (fun e => HNE.out.1 e) (fun e => HNE.out.2 e) (HC7.out.hp.chg hc8 (fun k hk e => HN.out.2.2.2.2.2.2.2 (e ▸ hk)))) ?_ (chg_new HX8.out hc8 (by intro j hj; exact .inl (.inl hj)))
        have h2 : ({ tn with op := op, err := 0 } : Tn) = { tn with op := op } := by rw [← HTE.out]
        show w8.heap[q]? = some (.cells (tnC { tn with op := mutOp s (P ++ [⟨z.node.id, y⟩]), err := 0 }) 90 (0, 0))
        rw [HOP.out, h2]
        exact hq8
end Go.Proofs.YtbjibkjenleloaaGreatDoor

end
