/- Parts of a proof about the given program, in build order: LstY. No condition. -/
import Derived.Test.YtbjibkjenleloaaGreatDoorMg45
section
namespace Go.Proofs.YtbjibkjenleloaaGreatDoor
set_option linter.unusedVariables false
set_option linter.unusedSimpArgs false
open Go.RowKit
attribute [local go_sem ↓] Go.wp_at_zero Go.wp_at_succ
attribute [local go_sem] run_store_complex run_store_float


theorem LsI.below {w w2 w3 : World} {c t B p n o q : Nat} {c2 : Cf} {s : Cl} {td : Td} {L : List En} {wh : Int → Bool} (h : LsI w w2 c t B p n o q c2 s td L wh) (hb : Below w2.heap.size w2 w3) : LsI w w3 c t B p n o q c2 s td L wh := by
  refine ⟨h.at_.below hb, heap_below hb h.o_ (blk_lt h.o_), ?_, h.low, h.ab, h.aq, h.bel.trans (hb.mono h.bel.size)⟩
  have h8 := hb.block q (World.block_lt_of_cell? w2 _ h.q_)
  have h9 := h.q_
  simp only [World.cell?, h8] at h9 ⊢
  exact h9
theorem LsI.far {w w2 : World} {c t B p n o q : Nat} {c2 : Cf} {s : Cl} {td : Td} {L : List En} {wh : Int → Bool} (h : LsI w w2 c t B p n o q c2 s td L wh) (j : Nat) (hj : c < j ∧ t < j ∧ p < j) : ¬ (j = c ∨ j = t ∨ CF B p j) := fun hf => by
  rcases hf with hf | hf | hf
  · omega
  · omega
  · have := hf.2; omega
theorem LsI.step {w w2 w3 : World} {c t B p n n' o q : Nat} {c2 : Cf} {s s' : Cl} {td td' : Td} {L L' : List En} {wh wh' : Int → Bool} (h : LsI w w2 c t B p n o q c2 s td L wh) (hc : CliAt w3 c t B p n' s' td' L' wh') (hg : Chg (fun j => j = c ∨ j = t ∨ CF B p j) w2 w3) : LsI w w3 c t B p n' o q c2 s' td' L' wh' := by
  refine ⟨hc, heap_chg hg h.o_ (h.far o h.ab), hg.cell h.q_ (h.far q h.aq), h.low, h.ab, h.aq, h.bel.trans (hg.toBelow h.bel.size fun i hi hf => ?_)⟩
  have := h.low
  rcases hf with hf | hf | hf
  · omega
  · omega
  · have := hf.1; omega
theorem LsI.row {w w2 w3 : World} {c t B p n o q : Nat} {c2 : Cf} {s : Cl} {td : Td} {L : List En} {wh : Int → Bool} (h : LsI w w2 c t B p n o q c2 s td L wh) (hg : Chg (fun j => j = c ∨ j = t ∨ CF B p j) w2 w3) {b0 e sz m : Nat} {v : Value} {xs : List Value} (ho : w2.ownsRow b0 e sz v m xs) (hb : c < b0 ∧ t < b0 ∧ p < b0) : w3.ownsRow b0 e sz v m xs :=
  ownsRow_chg ho fun k hk hl => hg.block k hl (h.far k (by have := (own_lt ho hk).1; omega))
set_option maxRecDepth 100000 in
set_option maxHeartbeats 8000000 in
theorem ls_ask (w w2 : World) (a : Act) (c t B p o q b0 : Nat) (c2 : Cf) (F : List En) (la : Option Addr) (lc : Nat) (other : ByteArray) (ve : Int) (K : Code) (hs : a.tmps.size = 310) (hd : a.defers = []) (f2 : a.tmps.getD 2 undef = .string other) (f3 : a.tmps.getD 3 undef = .int .i64 ve) (f9 : a.tmps.getD 9 undef = .pointer (some ⟨o, 0, none⟩)) (f11 : a.tmps.getD 11 undef = .slice la F.length lc)
    (hR : rightP c2) (hI : LsI w w2 c t B p 0 o q c2 (cl0 1 1 c2) (td0 1 1 c2.ho) [] (fun _ => false)) (hF : w2.ownsRow b0 55 7 (.slice la F.length lc) F.length (ecs F)) (hb : c < b0 ∧ t < b0 ∧ p < b0)
    (hK : ∀ (a : Act) (w3 : World), a.tmps.size = 310 → a.defers = [] → a.tmps.getD 2 undef = .string other → a.tmps.getD 3 undef = .int .i64 ve → a.tmps.getD 9 undef = .pointer (some ⟨o, 0, none⟩) → a.tmps.getD 11 undef = .slice la F.length lc → LsI w w3 c t B p 0 o q c2 (askedS { cl0 1 1 c2 with busy := true, ck := 4, cp := { data := #[47] }, co := { data := #[] }, cm := 0 } (td0 1 1 c2.ho) ⟨2, 1, { data := #[] }, 0, { data := #[] }, 0, { data := #[] }⟩) { td0 1 1 c2.ho with asked := 1 } [] (fun _ => false) → w3.ownsRow b0 55 7 (.slice la F.length lc) F.length (ecs F) → K.wp Tryz.prog (bodyPost Tryz.prog Tryz.f4 fun e w' => e = .returned (.bool true) ∧ Below w.heap.size w w') a w3) :
    (cutN 2 (sndN 6 lsBody) K).wp Tryz.prog (bodyPost Tryz.prog Tryz.f4 fun e w' => e = .returned (.bool true) ∧ Below w.heap.size w w') a w2 := by
  have HKK := hid hK
  have h9 := frame310 a hs hd
  rw [f2, f3, f9, f11] at h9
  generalize a.tmps = u at h9
  subst h9
  have HI := hid hI
  have HF := hid hF
  have HB := hid hb
  have hli := hR.2.2.2.1
  have hst := start_rd w2 c t B p 0 (cl0 1 1 c2) (td0 1 1 c2.ho) [] (fun _ => false) hI.at_ rfl hli.1 hli.2 (by decide) (show (0 : Int) ≤ 0 by decide) (show (0 : Int) < 1000000000000 by decide)
  have HST := hid hst
  have bo := blk2 hI.o_
  clear hs hd f2 f3 f9 f11 hK hI hF hb hR hli hst
  conv => pattern (sndN 6 lsBody); whnf
  simp only [cutN]
  go_wp2_with fail
  refine HST.out.mono ?_; rintro e w3 ⟨hcase, hx3⟩
  rcases hcase with ⟨_, ⟨g, rfl, ho3⟩, hc3⟩ | ⟨h1, _⟩
  · have HI3 := hid ((HI.out.step hc3 hx3).below (bl1 w3 (.cells #[.int .i64 0, .int .i64 0, .int .i64 0, .int .i64 0, .string ByteArray.empty, .slice none 0 0, .int .i64 0] 43)))
    have HR3 := hid (own_alloc ho3 (.cells #[.int .i64 0, .int .i64 0, .int .i64 0, .int .i64 0, .string ByteArray.empty, .slice none 0 0, .int .i64 0] 43))
    have HF3 := hid (own_alloc (HI.out.row hx3 HF.out HB.out) (.cells #[.int .i64 0, .int .i64 0, .int .i64 0, .int .i64 0, .string ByteArray.empty, .slice none 0 0, .int .i64 0] 43))
    unfold An.v nd0
    have heq : ∀ W : World, (Op.equalIn 10000 37 (.agg #[.int .i64 2, .int .i64 1, .string { data := #[] }, .int .i64 0, .string { data := #[] }, .int .i64 0, .string { data := #[] }]) (.agg #[.int .i64 2, .int .i64 1, .string { data := #[] }, .int .i64 0, .string { data := #[] }, .int .i64 0, .string { data := #[] }])).run Tryz.prog W = .ok true W := fun W => by kernel_rfl
    have ha := Rd.own HR3.out
    have a7 := ha.at 7 (.int .i64 2) rfl
    have a8 := ha.at 8 (.int .i64 1) rfl
    have a9 := ha.at 9 (.string { data := #[] }) rfl
    have a10 := ha.at 10 (.int .i64 0) rfl
    have a11 := ha.at 11 (.string { data := #[] }) rfl
    have a12 := ha.at 12 (.int .i64 0) rfl
    have a13 := ha.at 13 (.string { data := #[] }) rfl
    simp only [Nat.zero_add] at a7 a8 a9 a10 a11 a12 a13
    clear ha ho3 hc3 hx3 bo
    go_wp2
    refine HKK.out _ _ ?_ ?_ ?_ ?_ ?_ ?_ HI3.out HF3.out
    iterate 6 rfl
  · exact absurd h1 (by decide)
end Go.Proofs.YtbjibkjenleloaaGreatDoor

end
