/- Parts of a proof about the given program, in build order: CmuE. No condition. -/
import Derived.Test.YtbjibkjenleloaaGreatDoorMg25
section
namespace Go.Proofs.YtbjibkjenleloaaGreatDoor
set_option linter.unusedVariables false
set_option linter.unusedSimpArgs false
open Go.RowKit
attribute [local go_sem ↓] Go.wp_at_zero Go.wp_at_succ
attribute [local go_sem] run_store_complex run_store_float


theorem kinds_change (w2 : World) (mw c : Nat) (h : w2.heap[mw]? = some (.map (fes (kindsF c)) 12)) (k : Int) (h5 : 5 ≤ k) (h11 : k ≤ 11) : (Instr.lookup 123 (.map (some mw)) (.int .i64 k) false).run Tryz.prog w2 = .ok (.func (Fn.func 84) #[.pointer (some ⟨c, 0, none⟩)] #[]) w2 := by
  have hk : k = 5 ∨ k = 6 ∨ k = 7 ∨ k = 8 ∨ k = 9 ∨ k = 10 ∨ k = 11 := by omega
  rcases hk with hk | hk | hk | hk | hk | hk | hk
  · subst hk; exact run_lookf (w := w2) (mw := mw) (F := kindsF c) (d := 5) (j := 4) (x := ⟨5, .func (Fn.func 84) #[.pointer (some ⟨c, 0, none⟩)] #[], 4⟩) h (by rfl) (by rfl)
  · subst hk; exact run_lookf (w := w2) (mw := mw) (F := kindsF c) (d := 6) (j := 5) (x := ⟨6, .func (Fn.func 84) #[.pointer (some ⟨c, 0, none⟩)] #[], 5⟩) h (by rfl) (by rfl)
  · subst hk; exact run_lookf (w := w2) (mw := mw) (F := kindsF c) (d := 7) (j := 6) (x := ⟨7, .func (Fn.func 84) #[.pointer (some ⟨c, 0, none⟩)] #[], 6⟩) h (by rfl) (by rfl)
  · subst hk; exact run_lookf (w := w2) (mw := mw) (F := kindsF c) (d := 8) (j := 7) (x := ⟨8, .func (Fn.func 84) #[.pointer (some ⟨c, 0, none⟩)] #[], 7⟩) h (by rfl) (by rfl)
  · subst hk; exact run_lookf (w := w2) (mw := mw) (F := kindsF c) (d := 9) (j := 8) (x := ⟨9, .func (Fn.func 84) #[.pointer (some ⟨c, 0, none⟩)] #[], 8⟩) h (by rfl) (by rfl)
  · subst hk; exact run_lookf (w := w2) (mw := mw) (F := kindsF c) (d := 10) (j := 9) (x := ⟨10, .func (Fn.func 84) #[.pointer (some ⟨c, 0, none⟩)] #[], 9⟩) h (by rfl) (by rfl)
  · subst hk; exact run_lookf (w := w2) (mw := mw) (F := kindsF c) (d := 11) (j := 10) (x := ⟨11, .func (Fn.func 84) #[.pointer (some ⟨c, 0, none⟩)] #[], 10⟩) h (by rfl) (by rfl)
theorem co_kind {F : List En} {wh : Int → Bool} {s : Cl} {P : List Ky} {path : ByteArray} {L : List En} {o : Option Op7} {e : Int} {L' : List En} {m : Nat} (h : Co F wh s P path L o e L' m) (hk : 5 ≤ s.ck) : ∀ op, o = some op → op.kind ≠ 0 := by
  induction h with
  | stop P path L T y z h1 h2 h3 =>
    intro op ho
    cases hn : z.need with
    | true => rw [hn, if_pos rfl] at ho; cases ho; exact (by decide : (1 : Int) ≠ 0)
    | false => rw [hn] at ho; cases ho
  | last P path L T y z h1 h2 h3 h4 =>
    intro op ho
    cases ho
    show s.ck ≠ 0
    omega
  | more P path L T y z o e L' m h1 h2 h3 h4 h5 h6 ih => exact ih
/-- what a drive of a mutation comes to -/
def drvC (w : World) (c t B p n : Nat) (s : Cl) (td : Td) (L F : List En) (wh : Int → Bool) (tn : Tn) (a : Option Addr) (l cc : Nat) (d : Bool) (an : An) (w' : World) : Prop :=
  ∃ o er L' m, Co F wh s [] s.cp L o er L' m ∧ m ≤ 2000 ∧
    ((∃ op g, o = some op ∧ a = some ⟨g, 0, none⟩ ∧ l = 1 ∧ cc = 1 ∧ d = false ∧ an = ⟨0, nd0, none, 0, 0, 0⟩ ∧ w'.ownsRow w.heap.size 50 16 (.slice (some ⟨g, 0, none⟩) 1 1) 1 (askMs s td (s.seq + 1) op).cs.toList ∧ CliAt w' c t B p (n + m) (askedS s td op) { td with asked := s.seq + 1 } L' wh) ∨
     (o = none ∧ a = none ∧ l = 0 ∧ cc = 0 ∧ d = true ∧ an = ⟨er, tn.nd, tn.na, tn.nl, tn.nc, td.ver⟩ ∧ CliAt w' c t B p (n + m) { s with busy := false, am := ms0 } td L' wh))
set_option maxRecDepth 100000 in
set_option maxHeartbeats 4000000 in
theorem drive_chg (w : World) (c t B p n q : Nat) (s : Cl) (td : Td) (L F : List En) (wh : Int → Bool) (tn : Tn) (h : CliAt w c t B p n s td L wh) (hq : w.heap[q]? = some (.cells (tnC tn) 90 (0, 0))) (hnq : ¬ CF B p q)
    (hF : ∀ W, Chg (fun j => j = q ∨ CF B p j) w W → Rd W (.slice tn.fa tn.fl tn.fc) F.length (ecs F)) (hte : tn.err = 0) (hpar : parErr s.cp = 0) (hco : s.ck = 10 → parErr s.co = 0) (hck : 5 ≤ s.ck ∧ s.ck ≤ 11) (hl0 : 0 ≤ s.cf.li) (hl8 : s.cf.li ≤ 8) (hn : n < 100000000000) (hop : tn.op.kind = 0) (hs0 : 0 ≤ s.seq) (hs1 : s.seq < 1000000000000) :
    Calls Tryz.prog 31 #[.pointer (some ⟨c, 0, none⟩), .pointer (some ⟨q, 0, none⟩)] w fun e w' => ∃ a l cc d an, e = .returned (.tuple #[.slice a l cc, .bool d, an.v]) ∧ drvC w c t B p n s td L F wh tn a l cc d an w' ∧ Chg (fun j => j = c ∨ j = t ∨ j = q ∨ CF B p j) w w' := by
  have hR := heap_new w (.cells #[.int .i64 0, .int .i64 0, .int .i64 0, .int .i64 0, .string { data := #[] }, .slice none 0 0, .int .i64 0] 43)
  have HR := hid hR
  have bb := bl1 w (.cells #[.int .i64 0, .int .i64 0, .int .i64 0, .int .i64 0, .string { data := #[] }, .slice none 0 0, .int .i64 0] 43)
  have HW := hid bb
  have HC := hid (h.below bb)
  have HQ := hid (heap_below bb hq (blk_lt hq))
  have hpz := h.hp.lt
  have hcz := blk_lt h.hc
  have hqz := blk_lt hq
  have htz := h.ht.lt
  have HN := hid (And.intro hnq (And.intro hte (And.intro hpar (And.intro hco (And.intro hck (And.intro hl0 (And.intro hl8 (And.intro hn (And.intro hop (And.intro hs0 hs1))))))))))
  have HFF := hid hF
  obtain ⟨w0, hw0⟩ : ∃ w0, w0 = w.alloc (.cells #[.int .i64 0, .int .i64 0, .int .i64 0, .int .i64 0, .string { data := #[] }, .slice none 0 0, .int .i64 0] 43) := ⟨_, rfl⟩
  have hwz : w.heap.size + 1 = w0.heap.size := by rw [hw0]; simp
  have HW0 := hid hw0
  rw [← hw0] at HR HW HC HQ
  have KR : w0.cell? ⟨c, 13, none⟩ = some (.int .i64 s.ck) := (cell_of HC.out.hc 13 (.int .i64 s.ck) rfl).1
  have KRd : w0.drew.cell? ⟨c, 13, none⟩ = some (.int .i64 s.ck) := KR
  clear h hq hnq hF hte hpar hco hck hl0 hl8 hn hop hs0 hs1 bb hR hw0
  go_enter Tryz.func31, Tryz.ntmps31
  refine wp_seq_k fun K0 hK0 => ?_
  have HK0 := hid hK0
  clear hK0
  go_wp2
  refine HK0.out _ _ ?_
  rw [← HW0.out]
  clear HK0 HW0
  refine wp_seq_k fun K1 hK1 => ?_
  have HK1 := hid hK1
  clear hK1
  go_region_held3 (fun w' => w'.cell? ⟨c, 13, none⟩ = some (.int .i64 s.ck))
    (first | with_reducible exact KR | with_reducible exact KRd | with_reducible exact K2 | with_reducible exact K3)
    (first
      | (go_at_call 57; refine (cli_kinds _ c).mono ?_; rintro e w2 ⟨rfl, hm2, hb2⟩; (have hlk := kinds_change w2 w0.heap.size c hm2 s.ck HN.out.2.2.2.2.1.1 HN.out.2.2.2.2.1.2); (have HB2 := hid hb2); (have HC2 := hid (CliAt.below HC.out.drew hb2)); (have HQ2 := hid (heap_below (w := w0.drew) hb2 HQ.out (blk_lt HQ.out))); (have HR2 := hid (heap_below (w := w0.drew) hb2 HR.out (blk_lt HR.out))); (have HX2 := hid (show Chg NoB w w2 from chg_new (Chg.below (HW.out.mono (Nat.le_refl _)) |>.mono (fun _ _ h => h)) (show Chg NoB w0 w2 from (Chg.below HB2.out |> fun h => ⟨h.os, h.tape, h.output, h.size, h.block⟩)) (fun j hj => hj.elim))); (have K2 : w2.cell? ⟨c, 13, none⟩ = some (.int .i64 s.ck) := (cell_of HC2.out.hc 13 (.int .i64 s.ck) rfl).1); clear hm2 hb2)
      | (go_at_call 84; refine (cli_change _ c t B p n q s td L F wh tn HC2.out HQ2.out HN.out.1 (fun W hW => HFF.out W (chg_new (HX2.out.mono (fun _ _ h => h.elim)) hW (fun j hj => .inl hj))) HN.out.2.1 HN.out.2.2.1 HN.out.2.2.2.1 HN.out.2.2.2.2.1 HN.out.2.2.2.2.2.1 HN.out.2.2.2.2.2.2.1 HN.out.2.2.2.2.2.2.2.1).mono ?_; rintro e w3 ⟨o, er, L', m, hco, hm, rfl, hc3, hq3, hg3⟩; (have HCO := hid hco); (have HM := hid hm); (have HC3 := hid hc3); (have HQ3 := hid hq3); (have HG3 := hid hg3); (have hr3 := heap_chg hg3 HR2.out (fun hf => by rcases hf with hf | hf; (have := hwz; omega); (have := hf.2; omega))); (have HR3 := hid hr3); (have K3 : w3.cell? ⟨c, 13, none⟩ = some (.int .i64 s.ck) := (cell_of HC3.out.hc 13 (.int .i64 s.ck) rfl).1); clear hco hm hc3 hq3 hg3 hr3))
  simp only [Exit.then]
  refine HK1.out _ _ ?_
  have hX3 : Chg (fun j => j = c ∨ j = t ∨ j = q ∨ CF B p j) w w3 := chg_new (HX2.out.mono (fun _ _ h => h.elim)) HG3.out (by intro j hj; rcases hj with hj | hj; exact .inl (.inr (.inr (.inl hj))); exact .inl (.inr (.inr (.inr hj))))
  have HX3 := hid hX3
  have hrp : ¬ CF B p w.heap.size := fun hf => by have := hf.2; omega
  have hz3 := HX3.out.size
  have HRZ := hid (And.intro hrp hz3)
  clear K2 K3 KR KRd hX3 hrp hz3 HK1
  cases o with
  | some op =>
    have hq3 := HQ3.out
    refine drive_ask _ w3 0 c t B p (n + m) q w.heap.size s td _ wh _ rfl rfl rfl rfl rfl rfl rfl HC3.out hq3 HR3.out (co_kind HCO.out HN.out.2.2.2.2.1.1 op rfl) HN.out.2.2.2.2.2.2.2.2.2.1 HN.out.2.2.2.2.2.2.2.2.2.2 HRZ.out.1 _ ?_
    intro a' w' b hd h4 h5 h6 hr' hown hcl hch
    have br := blk7 hr'
    have h4' : a'.tmps[4]?.getD undef = .slice (some ⟨b, 0, none⟩) 1 1 := by simpa using h4
    have h5' : a'.tmps[5]?.getD undef = .bool false := by simpa using h5
    have h6' : a'.tmps[6]?.getD undef = .pointer (some ⟨w.heap.size, 0, none⟩) := by simpa using h6
    have HOC := hid (And.intro hown (And.intro hcl hch))
    clear hown hcl hch hr' h4 h5 h6
    refine bodyPost_ret (v := .tuple #[.slice (some ⟨b, 0, none⟩) 1 1, .bool false, .agg #[.int .i64 0, .int .i64 0, .int .i64 0, .int .i64 0, .string { data := #[] }, .slice none 0 0, .int .i64 0]]) (by simp [results, Tryz.results31, h4', h5', h6', go_sem, br]) hd ⟨some ⟨b, 0, none⟩, 1, 1, false, ⟨0, nd0, none, 0, 0, 0⟩, rfl, ⟨some op, er, L', m, HCO.out, HM.out, .inl ⟨op, b, rfl, rfl, rfl, rfl, rfl, rfl, ownsRow_mono HOC.out.1 HRZ.out.2, HOC.out.2.1⟩⟩, chg_new HX3.out HOC.out.2.2 ?_⟩
    intro j hj
    rcases hj with hj | hj | hj
    · exact .inl (.inl hj)
    · exact .inl (.inr (.inl hj))
    · subst hj; exact .inr (Nat.le_refl _)
  | none =>
    have hq3 := HQ3.out
    refine drive_done _ w3 c t B p (n + m) q w.heap.size s td _ wh _ rfl rfl rfl rfl rfl rfl rfl HC3.out hq3 HR3.out HN.out.2.2.2.2.2.2.2.2.1 HRZ.out.1 _ ?_
    intro a' w' hd h4 h5 h6 hr' hcl hch
    have br := blk7 hr'
    have h4' : a'.tmps[4]?.getD undef = .slice none 0 0 := by simpa using h4
    have h5' : a'.tmps[5]?.getD undef = .bool true := by simpa using h5
    have h6' : a'.tmps[6]?.getD undef = .pointer (some ⟨w.heap.size, 0, none⟩) := by simpa using h6
    have HOC := hid (And.intro hcl hch)
    clear hcl hch hr' h4 h5 h6
    refine bodyPost_ret (v := .tuple #[.slice none 0 0, .bool true, (An.mk er tn.nd tn.na tn.nl tn.nc td.ver).v]) (by simp [results, Tryz.results31, h4', h5', h6', go_sem, br, An.v]) hd ⟨none, 0, 0, true, ⟨er, tn.nd, tn.na, tn.nl, tn.nc, td.ver⟩, rfl, ⟨none, er, L', m, HCO.out, HM.out, .inr ⟨rfl, rfl, rfl, rfl, rfl, rfl, HOC.out.1⟩⟩, chg_new HX3.out HOC.out.2 ?_⟩
    intro j hj
    rcases hj with hj | hj
    · exact .inl (.inl hj)
    · subst hj; exact .inr (Nat.le_refl _)
end Go.Proofs.YtbjibkjenleloaaGreatDoor

end
