/- Parts of a proof about the given program, in build order: CalZa. No condition. -/
import Derived.Test.YtbjibkjenleloaaGreatDoorMg31
section
namespace Go.Proofs.YtbjibkjenleloaaGreatDoor
set_option linter.unusedVariables false
set_option linter.unusedSimpArgs false
open Go.RowKit
attribute [local go_sem ↓] Go.wp_at_zero Go.wp_at_succ
attribute [local go_sem] run_store_complex run_store_float


theorem cells3 {W : World} {g wb kb Br : Nat} {e : Int} {z : Ow} {c1 : Nat} (hr : W.ownsRow Br 50 16 (.slice (some ⟨g, 0, none⟩) 2 c1) 2 [.int .i64 1, .int .i64 1, .int .i64 1, .int .i64 1, .complex .f64 (fl e) (fl 0), .int .i64 0, .int .i64 0, .int .i64 4, .int .i64 0, .string { data := #[] }, .int .i64 0, .string { data := #[] }, .int .i64 0, .string { data := #[] }, .slice none 0 0, .slice none 0 0, .int .i64 1, .int .i64 1, .int .i64 1, .int .i64 1, .complex .f64 (fl e) (fl 0), .int .i64 0, .int .i64 0, .int .i64 1, .int .i64 z.key.dir, .string z.key.name, .int .i64 0, .string { data := #[] }, .int .i64 0, .string { data := #[] }, .slice none 0 0, .slice none 0 0]) (hk : W.heap[kb]? = some (.cells #[.int .i64 1, .int .i64 1, .int .i64 1, .int .i64 1, .complex .f64 (fl e) (fl 0), .int .i64 0, .int .i64 0, .int .i64 4, .int .i64 0, .string { data := #[] }, .int .i64 0, .string { data := #[] }, .int .i64 0, .string { data := #[] }, .slice none 0 0, .slice none 0 0] 50 (0, 0))) (hw : W.heap[wb]? = some (.cells #[.int .i64 1, .int .i64 1, .int .i64 1, .int .i64 1, .complex .f64 (fl e) (fl 0), .int .i64 0, .int .i64 0, .int .i64 1, .int .i64 z.key.dir, .string z.key.name, .int .i64 0, .string { data := #[] }, .int .i64 0, .string { data := #[] }, .slice none 0 0, .slice none 0 0] 50 (0, 0))) : W.cell? ⟨g, 0, none⟩ = some (.int .i64 1) ∧ W.cell? ⟨g, 1, none⟩ = some (.int .i64 1) ∧ W.cell? ⟨g, 2, none⟩ = some (.int .i64 1) ∧ W.cell? ⟨g, 3, none⟩ = some (.int .i64 1) ∧ W.cell? ⟨g, 4, none⟩ = some (.complex .f64 (fl e) (fl 0)) ∧ W.cell? ⟨g, 5, none⟩ = some (.int .i64 0) ∧ W.cell? ⟨g, 6, none⟩ = some (.int .i64 0) ∧ W.cell? ⟨g, 7, none⟩ = some (.int .i64 4) ∧ W.cell? ⟨g, 8, none⟩ = some (.int .i64 0) ∧ W.cell? ⟨g, 9, none⟩ = some (.string { data := #[] }) ∧ W.cell? ⟨g, 10, none⟩ = some (.int .i64 0) ∧ W.cell? ⟨g, 11, none⟩ = some (.string { data := #[] }) ∧ W.cell? ⟨g, 12, none⟩ = some (.int .i64 0) ∧ W.cell? ⟨g, 13, none⟩ = some (.string { data := #[] }) ∧ W.cell? ⟨g, 14, none⟩ = some (.slice none 0 0) ∧ W.cell? ⟨g, 15, none⟩ = some (.slice none 0 0) ∧ W.cell? ⟨g, 16, none⟩ = some (.int .i64 1) ∧ W.cell? ⟨g, 17, none⟩ = some (.int .i64 1) ∧ W.cell? ⟨g, 18, none⟩ = some (.int .i64 1) ∧ W.cell? ⟨g, 19, none⟩ = some (.int .i64 1) ∧ W.cell? ⟨g, 20, none⟩ = some (.complex .f64 (fl e) (fl 0)) ∧ W.cell? ⟨g, 21, none⟩ = some (.int .i64 0) ∧ W.cell? ⟨g, 22, none⟩ = some (.int .i64 0) ∧ W.cell? ⟨g, 23, none⟩ = some (.int .i64 1) ∧ W.cell? ⟨g, 24, none⟩ = some (.int .i64 z.key.dir) ∧ W.cell? ⟨g, 25, none⟩ = some (.string z.key.name) ∧ W.cell? ⟨g, 26, none⟩ = some (.int .i64 0) ∧ W.cell? ⟨g, 27, none⟩ = some (.string { data := #[] }) ∧ W.cell? ⟨g, 28, none⟩ = some (.int .i64 0) ∧ W.cell? ⟨g, 29, none⟩ = some (.string { data := #[] }) ∧ W.cell? ⟨g, 30, none⟩ = some (.slice none 0 0) ∧ W.cell? ⟨g, 31, none⟩ = some (.slice none 0 0) ∧ W.cell? ⟨kb, 0, none⟩ = some (.int .i64 1) ∧ W.cell? ⟨kb, 1, none⟩ = some (.int .i64 1) ∧ W.cell? ⟨kb, 2, none⟩ = some (.int .i64 1) ∧ W.cell? ⟨kb, 3, none⟩ = some (.int .i64 1) ∧ W.cell? ⟨kb, 4, none⟩ = some (.complex .f64 (fl e) (fl 0)) ∧ W.cell? ⟨kb, 5, none⟩ = some (.int .i64 0) ∧ W.cell? ⟨kb, 6, none⟩ = some (.int .i64 0) ∧ W.cell? ⟨kb, 7, none⟩ = some (.int .i64 4) ∧ W.cell? ⟨kb, 8, none⟩ = some (.int .i64 0) ∧ W.cell? ⟨kb, 9, none⟩ = some (.string { data := #[] }) ∧ W.cell? ⟨kb, 10, none⟩ = some (.int .i64 0) ∧ W.cell? ⟨kb, 11, none⟩ = some (.string { data := #[] }) ∧ W.cell? ⟨kb, 12, none⟩ = some (.int .i64 0) ∧ W.cell? ⟨kb, 13, none⟩ = some (.string { data := #[] }) ∧ W.cell? ⟨kb, 14, none⟩ = some (.slice none 0 0) ∧ W.cell? ⟨kb, 15, none⟩ = some (.slice none 0 0) ∧ W.cell? ⟨wb, 0, none⟩ = some (.int .i64 1) ∧ W.cell? ⟨wb, 1, none⟩ = some (.int .i64 1) ∧ W.cell? ⟨wb, 2, none⟩ = some (.int .i64 1) ∧ W.cell? ⟨wb, 3, none⟩ = some (.int .i64 1) ∧ W.cell? ⟨wb, 4, none⟩ = some (.complex .f64 (fl e) (fl 0)) ∧ W.cell? ⟨wb, 5, none⟩ = some (.int .i64 0) ∧ W.cell? ⟨wb, 6, none⟩ = some (.int .i64 0) ∧ W.cell? ⟨wb, 7, none⟩ = some (.int .i64 1) ∧ W.cell? ⟨wb, 8, none⟩ = some (.int .i64 z.key.dir) ∧ W.cell? ⟨wb, 9, none⟩ = some (.string z.key.name) ∧ W.cell? ⟨wb, 10, none⟩ = some (.int .i64 0) ∧ W.cell? ⟨wb, 11, none⟩ = some (.string { data := #[] }) ∧ W.cell? ⟨wb, 12, none⟩ = some (.int .i64 0) ∧ W.cell? ⟨wb, 13, none⟩ = some (.string { data := #[] }) ∧ W.cell? ⟨wb, 14, none⟩ = some (.slice none 0 0) ∧ W.cell? ⟨wb, 15, none⟩ = some (.slice none 0 0) := by
  have P6 := Rd.own hr
  have b1 := (blk16 hk).1
  have b2 := (blk16 hw).1
  exact ⟨by simpa using P6.at 0 (.int .i64 1) rfl, by simpa using P6.at 1 (.int .i64 1) rfl, by simpa using P6.at 2 (.int .i64 1) rfl, by simpa using P6.at 3 (.int .i64 1) rfl, by simpa using P6.at 4 (.complex .f64 (fl e) (fl 0)) rfl, by simpa using P6.at 5 (.int .i64 0) rfl, by simpa using P6.at 6 (.int .i64 0) rfl, by simpa using P6.at 7 (.int .i64 4) rfl, by simpa using P6.at 8 (.int .i64 0) rfl, by simpa using P6.at 9 (.string { data := #[] }) rfl, by simpa using P6.at 10 (.int .i64 0) rfl, by simpa using P6.at 11 (.string { data := #[] }) rfl, by simpa using P6.at 12 (.int .i64 0) rfl, by simpa using P6.at 13 (.string { data := #[] }) rfl, by simpa using P6.at 14 (.slice none 0 0) rfl, by simpa using P6.at 15 (.slice none 0 0) rfl, by simpa using P6.at 16 (.int .i64 1) rfl, by simpa using P6.at 17 (.int .i64 1) rfl, by simpa using P6.at 18 (.int .i64 1) rfl, by simpa using P6.at 19 (.int .i64 1) rfl, by simpa using P6.at 20 (.complex .f64 (fl e) (fl 0)) rfl, by simpa using P6.at 21 (.int .i64 0) rfl, by simpa using P6.at 22 (.int .i64 0) rfl, by simpa using P6.at 23 (.int .i64 1) rfl, by simpa using P6.at 24 (.int .i64 z.key.dir) rfl, by simpa using P6.at 25 (.string z.key.name) rfl, by simpa using P6.at 26 (.int .i64 0) rfl, by simpa using P6.at 27 (.string { data := #[] }) rfl, by simpa using P6.at 28 (.int .i64 0) rfl, by simpa using P6.at 29 (.string { data := #[] }) rfl, by simpa using P6.at 30 (.slice none 0 0) rfl, by simpa using P6.at 31 (.slice none 0 0) rfl, b1.1, b1.2.1, b1.2.2.1, b1.2.2.2.1, b1.2.2.2.2.1, b1.2.2.2.2.2.1, b1.2.2.2.2.2.2.1, b1.2.2.2.2.2.2.2.1, b1.2.2.2.2.2.2.2.2.1, b1.2.2.2.2.2.2.2.2.2.1, b1.2.2.2.2.2.2.2.2.2.2.1, b1.2.2.2.2.2.2.2.2.2.2.2.1, b1.2.2.2.2.2.2.2.2.2.2.2.2.1, b1.2.2.2.2.2.2.2.2.2.2.2.2.2.1, b1.2.2.2.2.2.2.2.2.2.2.2.2.2.2.1, b1.2.2.2.2.2.2.2.2.2.2.2.2.2.2.2, b2.1, b2.2.1, b2.2.2.1, b2.2.2.2.1, b2.2.2.2.2.1, b2.2.2.2.2.2.1, b2.2.2.2.2.2.2.1, b2.2.2.2.2.2.2.2.1, b2.2.2.2.2.2.2.2.2.1, b2.2.2.2.2.2.2.2.2.2.1, b2.2.2.2.2.2.2.2.2.2.2.1, b2.2.2.2.2.2.2.2.2.2.2.2.1, b2.2.2.2.2.2.2.2.2.2.2.2.2.1, b2.2.2.2.2.2.2.2.2.2.2.2.2.2.1, b2.2.2.2.2.2.2.2.2.2.2.2.2.2.2.1, b2.2.2.2.2.2.2.2.2.2.2.2.2.2.2.2⟩
noncomputable def agLp : Code := match sndN 13 agBody with | Code.seq (Code.seq _ (Code.block _ (Code.loop c))) _ => c | _ => Code.skip
noncomputable def agT : Code := match agLp with | Code.seq _ (Code.seq (Code.block _ b) _) => b | _ => Code.skip
set_option maxRecDepth 100000 in
set_option maxHeartbeats 8000000 in
theorem ag_r23 (Q : Exit → Act → World → Prop) (hPA : ∀ c a d v w, Q (.panic c) (Act.put a d v) w → Q (.panic c) a w) (w12 : World) (a : Act) (v3 v9 v18 v19 : Value) (e : Int) (z : Ow) (g kb wb c1 Br : Nat) (hs : a.tmps.size = 201) (hd : a.defers = []) (f3 : a.tmps.getD 3 undef = v3) (f9 : a.tmps.getD 9 undef = v9) (f14 : a.tmps.getD 14 undef = .slice (some ⟨g, 0, none⟩) 2 c1) (f18 : a.tmps.getD 18 undef = .pointer (some ⟨wb, 0, none⟩)) (f19 : a.tmps.getD 19 undef = v19) (f20 : a.tmps.getD 20 undef = .pointer (some ⟨kb, 0, none⟩))
    (he : InM e) (hR : w12.ownsRow Br 50 16 (.slice (some ⟨g, 0, none⟩) 2 c1) 2 [.int .i64 1, .int .i64 1, .int .i64 1, .int .i64 1, .complex .f64 (fl e) (fl 0), .int .i64 0, .int .i64 0, .int .i64 4, .int .i64 0, .string { data := #[] }, .int .i64 0, .string { data := #[] }, .int .i64 0, .string { data := #[] }, .slice none 0 0, .slice none 0 0, .int .i64 1, .int .i64 1, .int .i64 1, .int .i64 1, .complex .f64 (fl e) (fl 0), .int .i64 0, .int .i64 0, .int .i64 1, .int .i64 z.key.dir, .string z.key.name, .int .i64 0, .string { data := #[] }, .int .i64 0, .string { data := #[] }, .slice none 0 0, .slice none 0 0]) (hKB : w12.heap[kb]? = some (.cells #[.int .i64 1, .int .i64 1, .int .i64 1, .int .i64 1, .complex .f64 (fl e) (fl 0), .int .i64 0, .int .i64 0, .int .i64 4, .int .i64 0, .string { data := #[] }, .int .i64 0, .string { data := #[] }, .int .i64 0, .string { data := #[] }, .slice none 0 0, .slice none 0 0] 50 (0, 0))) (hWB : w12.heap[wb]? = some (.cells #[.int .i64 1, .int .i64 1, .int .i64 1, .int .i64 1, .complex .f64 (fl e) (fl 0), .int .i64 0, .int .i64 0, .int .i64 1, .int .i64 z.key.dir, .string z.key.name, .int .i64 0, .string { data := #[] }, .int .i64 0, .string { data := #[] }, .slice none 0 0, .slice none 0 0] 50 (0, 0)))
    (hQ : ∀ (a' : Act) (w' : World), a'.tmps.size = 201 → a'.defers = [] → a'.tmps.getD 3 undef = v3 → a'.tmps.getD 9 undef = v9 → a'.tmps.getD 18 undef = .pointer (some ⟨wb, 0, none⟩) → a'.tmps.getD 19 undef = v19 → Below w12.heap.size w12 w' → Q .normal a' w') :
    (sndN 2 agT).wp Tryz.prog Q a w12 := by
  conv => pattern (sndN 2 agT); whnf
  have HPA := hid hPA
  clear hPA
  have HQ := hid hQ
  have h9 := frame201 a hs hd
  rw [f3, f9, f14, f18, f19, f20] at h9
  generalize a.tmps = u at h9
  subst h9
  have HIE := hid he
  have HRA := hid hR
  have HKA := hid hKB
  have HWA := hid hWB
  clear hs hd f3 f9 f14 f18 f19 f20 he hR hKB hWB hQ
  have KR : w12.cell? ⟨g, 0, none⟩ = some (.int .i64 1) ∧ w12.cell? ⟨g, 1, none⟩ = some (.int .i64 1) ∧ w12.cell? ⟨g, 2, none⟩ = some (.int .i64 1) ∧ w12.cell? ⟨g, 3, none⟩ = some (.int .i64 1) ∧ w12.cell? ⟨g, 4, none⟩ = some (.complex .f64 (fl e) (fl 0)) ∧ w12.cell? ⟨g, 5, none⟩ = some (.int .i64 0) ∧ w12.cell? ⟨g, 6, none⟩ = some (.int .i64 0) ∧ w12.cell? ⟨g, 7, none⟩ = some (.int .i64 4) ∧ w12.cell? ⟨g, 8, none⟩ = some (.int .i64 0) ∧ w12.cell? ⟨g, 9, none⟩ = some (.string { data := #[] }) ∧ w12.cell? ⟨g, 10, none⟩ = some (.int .i64 0) ∧ w12.cell? ⟨g, 11, none⟩ = some (.string { data := #[] }) ∧ w12.cell? ⟨g, 12, none⟩ = some (.int .i64 0) ∧ w12.cell? ⟨g, 13, none⟩ = some (.string { data := #[] }) ∧ w12.cell? ⟨g, 14, none⟩ = some (.slice none 0 0) ∧ w12.cell? ⟨g, 15, none⟩ = some (.slice none 0 0) ∧ w12.cell? ⟨g, 16, none⟩ = some (.int .i64 1) ∧ w12.cell? ⟨g, 17, none⟩ = some (.int .i64 1) ∧ w12.cell? ⟨g, 18, none⟩ = some (.int .i64 1) ∧ w12.cell? ⟨g, 19, none⟩ = some (.int .i64 1) ∧ w12.cell? ⟨g, 20, none⟩ = some (.complex .f64 (fl e) (fl 0)) ∧ w12.cell? ⟨g, 21, none⟩ = some (.int .i64 0) ∧ w12.cell? ⟨g, 22, none⟩ = some (.int .i64 0) ∧ w12.cell? ⟨g, 23, none⟩ = some (.int .i64 1) ∧ w12.cell? ⟨g, 24, none⟩ = some (.int .i64 z.key.dir) ∧ w12.cell? ⟨g, 25, none⟩ = some (.string z.key.name) ∧ w12.cell? ⟨g, 26, none⟩ = some (.int .i64 0) ∧ w12.cell? ⟨g, 27, none⟩ = some (.string { data := #[] }) ∧ w12.cell? ⟨g, 28, none⟩ = some (.int .i64 0) ∧ w12.cell? ⟨g, 29, none⟩ = some (.string { data := #[] }) ∧ w12.cell? ⟨g, 30, none⟩ = some (.slice none 0 0) ∧ w12.cell? ⟨g, 31, none⟩ = some (.slice none 0 0) ∧ w12.cell? ⟨kb, 0, none⟩ = some (.int .i64 1) ∧ w12.cell? ⟨kb, 1, none⟩ = some (.int .i64 1) ∧ w12.cell? ⟨kb, 2, none⟩ = some (.int .i64 1) ∧ w12.cell? ⟨kb, 3, none⟩ = some (.int .i64 1) ∧ w12.cell? ⟨kb, 4, none⟩ = some (.complex .f64 (fl e) (fl 0)) ∧ w12.cell? ⟨kb, 5, none⟩ = some (.int .i64 0) ∧ w12.cell? ⟨kb, 6, none⟩ = some (.int .i64 0) ∧ w12.cell? ⟨kb, 7, none⟩ = some (.int .i64 4) ∧ w12.cell? ⟨kb, 8, none⟩ = some (.int .i64 0) ∧ w12.cell? ⟨kb, 9, none⟩ = some (.string { data := #[] }) ∧ w12.cell? ⟨kb, 10, none⟩ = some (.int .i64 0) ∧ w12.cell? ⟨kb, 11, none⟩ = some (.string { data := #[] }) ∧ w12.cell? ⟨kb, 12, none⟩ = some (.int .i64 0) ∧ w12.cell? ⟨kb, 13, none⟩ = some (.string { data := #[] }) ∧ w12.cell? ⟨kb, 14, none⟩ = some (.slice none 0 0) ∧ w12.cell? ⟨kb, 15, none⟩ = some (.slice none 0 0) ∧ w12.cell? ⟨wb, 0, none⟩ = some (.int .i64 1) ∧ w12.cell? ⟨wb, 1, none⟩ = some (.int .i64 1) ∧ w12.cell? ⟨wb, 2, none⟩ = some (.int .i64 1) ∧ w12.cell? ⟨wb, 3, none⟩ = some (.int .i64 1) ∧ w12.cell? ⟨wb, 4, none⟩ = some (.complex .f64 (fl e) (fl 0)) ∧ w12.cell? ⟨wb, 5, none⟩ = some (.int .i64 0) ∧ w12.cell? ⟨wb, 6, none⟩ = some (.int .i64 0) ∧ w12.cell? ⟨wb, 7, none⟩ = some (.int .i64 1) ∧ w12.cell? ⟨wb, 8, none⟩ = some (.int .i64 z.key.dir) ∧ w12.cell? ⟨wb, 9, none⟩ = some (.string z.key.name) ∧ w12.cell? ⟨wb, 10, none⟩ = some (.int .i64 0) ∧ w12.cell? ⟨wb, 11, none⟩ = some (.string { data := #[] }) ∧ w12.cell? ⟨wb, 12, none⟩ = some (.int .i64 0) ∧ w12.cell? ⟨wb, 13, none⟩ = some (.string { data := #[] }) ∧ w12.cell? ⟨wb, 14, none⟩ = some (.slice none 0 0) ∧ w12.cell? ⟨wb, 15, none⟩ = some (.slice none 0 0) := cells3 HRA.out HKA.out HWA.out
  have KRd : w12.drew.cell? ⟨g, 0, none⟩ = some (.int .i64 1) ∧ w12.drew.cell? ⟨g, 1, none⟩ = some (.int .i64 1) ∧ w12.drew.cell? ⟨g, 2, none⟩ = some (.int .i64 1) ∧ w12.drew.cell? ⟨g, 3, none⟩ = some (.int .i64 1) ∧ w12.drew.cell? ⟨g, 4, none⟩ = some (.complex .f64 (fl e) (fl 0)) ∧ w12.drew.cell? ⟨g, 5, none⟩ = some (.int .i64 0) ∧ w12.drew.cell? ⟨g, 6, none⟩ = some (.int .i64 0) ∧ w12.drew.cell? ⟨g, 7, none⟩ = some (.int .i64 4) ∧ w12.drew.cell? ⟨g, 8, none⟩ = some (.int .i64 0) ∧ w12.drew.cell? ⟨g, 9, none⟩ = some (.string { data := #[] }) ∧ w12.drew.cell? ⟨g, 10, none⟩ = some (.int .i64 0) ∧ w12.drew.cell? ⟨g, 11, none⟩ = some (.string { data := #[] }) ∧ w12.drew.cell? ⟨g, 12, none⟩ = some (.int .i64 0) ∧ w12.drew.cell? ⟨g, 13, none⟩ = some (.string { data := #[] }) ∧ w12.drew.cell? ⟨g, 14, none⟩ = some (.slice none 0 0) ∧ w12.drew.cell? ⟨g, 15, none⟩ = some (.slice none 0 0) ∧ w12.drew.cell? ⟨g, 16, none⟩ = some (.int .i64 1) ∧ w12.drew.cell? ⟨g, 17, none⟩ = some (.int .i64 1) ∧ w12.drew.cell? ⟨g, 18, none⟩ = some (.int .i64 1) ∧ w12.drew.cell? ⟨g, 19, none⟩ = some (.int .i64 1) ∧ w12.drew.cell? ⟨g, 20, none⟩ = some (.complex .f64 (fl e) (fl 0)) ∧ w12.drew.cell? ⟨g, 21, none⟩ = some (.int .i64 0) ∧ w12.drew.cell? ⟨g, 22, none⟩ = some (.int .i64 0) ∧ w12.drew.cell? ⟨g, 23, none⟩ = some (.int .i64 1) ∧ w12.drew.cell? ⟨g, 24, none⟩ = some (.int .i64 z.key.dir) ∧ w12.drew.cell? ⟨g, 25, none⟩ = some (.string z.key.name) ∧ w12.drew.cell? ⟨g, 26, none⟩ = some (.int .i64 0) ∧ w12.drew.cell? ⟨g, 27, none⟩ = some (.string { data := #[] }) ∧ w12.drew.cell? ⟨g, 28, none⟩ = some (.int .i64 0) ∧ w12.drew.cell? ⟨g, 29, none⟩ = some (.string { data := #[] }) ∧ w12.drew.cell? ⟨g, 30, none⟩ = some (.slice none 0 0) ∧ w12.drew.cell? ⟨g, 31, none⟩ = some (.slice none 0 0) ∧ w12.drew.cell? ⟨kb, 0, none⟩ = some (.int .i64 1) ∧ w12.drew.cell? ⟨kb, 1, none⟩ = some (.int .i64 1) ∧ w12.drew.cell? ⟨kb, 2, none⟩ = some (.int .i64 1) ∧ w12.drew.cell? ⟨kb, 3, none⟩ = some (.int .i64 1) ∧ w12.drew.cell? ⟨kb, 4, none⟩ = some (.complex .f64 (fl e) (fl 0)) ∧ w12.drew.cell? ⟨kb, 5, none⟩ = some (.int .i64 0) ∧ w12.drew.cell? ⟨kb, 6, none⟩ = some (.int .i64 0) ∧ w12.drew.cell? ⟨kb, 7, none⟩ = some (.int .i64 4) ∧ w12.drew.cell? ⟨kb, 8, none⟩ = some (.int .i64 0) ∧ w12.drew.cell? ⟨kb, 9, none⟩ = some (.string { data := #[] }) ∧ w12.drew.cell? ⟨kb, 10, none⟩ = some (.int .i64 0) ∧ w12.drew.cell? ⟨kb, 11, none⟩ = some (.string { data := #[] }) ∧ w12.drew.cell? ⟨kb, 12, none⟩ = some (.int .i64 0) ∧ w12.drew.cell? ⟨kb, 13, none⟩ = some (.string { data := #[] }) ∧ w12.drew.cell? ⟨kb, 14, none⟩ = some (.slice none 0 0) ∧ w12.drew.cell? ⟨kb, 15, none⟩ = some (.slice none 0 0) ∧ w12.drew.cell? ⟨wb, 0, none⟩ = some (.int .i64 1) ∧ w12.drew.cell? ⟨wb, 1, none⟩ = some (.int .i64 1) ∧ w12.drew.cell? ⟨wb, 2, none⟩ = some (.int .i64 1) ∧ w12.drew.cell? ⟨wb, 3, none⟩ = some (.int .i64 1) ∧ w12.drew.cell? ⟨wb, 4, none⟩ = some (.complex .f64 (fl e) (fl 0)) ∧ w12.drew.cell? ⟨wb, 5, none⟩ = some (.int .i64 0) ∧ w12.drew.cell? ⟨wb, 6, none⟩ = some (.int .i64 0) ∧ w12.drew.cell? ⟨wb, 7, none⟩ = some (.int .i64 1) ∧ w12.drew.cell? ⟨wb, 8, none⟩ = some (.int .i64 z.key.dir) ∧ w12.drew.cell? ⟨wb, 9, none⟩ = some (.string z.key.name) ∧ w12.drew.cell? ⟨wb, 10, none⟩ = some (.int .i64 0) ∧ w12.drew.cell? ⟨wb, 11, none⟩ = some (.string { data := #[] }) ∧ w12.drew.cell? ⟨wb, 12, none⟩ = some (.int .i64 0) ∧ w12.drew.cell? ⟨wb, 13, none⟩ = some (.string { data := #[] }) ∧ w12.drew.cell? ⟨wb, 14, none⟩ = some (.slice none 0 0) ∧ w12.drew.cell? ⟨wb, 15, none⟩ = some (.slice none 0 0) := KR
  go_wp2_with fail
  refine held_start (fun w' => w'.cell? ⟨g, 0, none⟩ = some (.int .i64 1) ∧ w'.cell? ⟨g, 1, none⟩ = some (.int .i64 1) ∧ w'.cell? ⟨g, 2, none⟩ = some (.int .i64 1) ∧ w'.cell? ⟨g, 3, none⟩ = some (.int .i64 1) ∧ w'.cell? ⟨g, 4, none⟩ = some (.complex .f64 (fl e) (fl 0)) ∧ w'.cell? ⟨g, 5, none⟩ = some (.int .i64 0) ∧ w'.cell? ⟨g, 6, none⟩ = some (.int .i64 0) ∧ w'.cell? ⟨g, 7, none⟩ = some (.int .i64 4) ∧ w'.cell? ⟨g, 8, none⟩ = some (.int .i64 0) ∧ w'.cell? ⟨g, 9, none⟩ = some (.string { data := #[] }) ∧ w'.cell? ⟨g, 10, none⟩ = some (.int .i64 0) ∧ w'.cell? ⟨g, 11, none⟩ = some (.string { data := #[] }) ∧ w'.cell? ⟨g, 12, none⟩ = some (.int .i64 0) ∧ w'.cell? ⟨g, 13, none⟩ = some (.string { data := #[] }) ∧ w'.cell? ⟨g, 14, none⟩ = some (.slice none 0 0) ∧ w'.cell? ⟨g, 15, none⟩ = some (.slice none 0 0) ∧ w'.cell? ⟨g, 16, none⟩ = some (.int .i64 1) ∧ w'.cell? ⟨g, 17, none⟩ = some (.int .i64 1) ∧ w'.cell? ⟨g, 18, none⟩ = some (.int .i64 1) ∧ w'.cell? ⟨g, 19, none⟩ = some (.int .i64 1) ∧ w'.cell? ⟨g, 20, none⟩ = some (.complex .f64 (fl e) (fl 0)) ∧ w'.cell? ⟨g, 21, none⟩ = some (.int .i64 0) ∧ w'.cell? ⟨g, 22, none⟩ = some (.int .i64 0) ∧ w'.cell? ⟨g, 23, none⟩ = some (.int .i64 1) ∧ w'.cell? ⟨g, 24, none⟩ = some (.int .i64 z.key.dir) ∧ w'.cell? ⟨g, 25, none⟩ = some (.string z.key.name) ∧ w'.cell? ⟨g, 26, none⟩ = some (.int .i64 0) ∧ w'.cell? ⟨g, 27, none⟩ = some (.string { data := #[] }) ∧ w'.cell? ⟨g, 28, none⟩ = some (.int .i64 0) ∧ w'.cell? ⟨g, 29, none⟩ = some (.string { data := #[] }) ∧ w'.cell? ⟨g, 30, none⟩ = some (.slice none 0 0) ∧ w'.cell? ⟨g, 31, none⟩ = some (.slice none 0 0) ∧ w'.cell? ⟨kb, 0, none⟩ = some (.int .i64 1) ∧ w'.cell? ⟨kb, 1, none⟩ = some (.int .i64 1) ∧ w'.cell? ⟨kb, 2, none⟩ = some (.int .i64 1) ∧ w'.cell? ⟨kb, 3, none⟩ = some (.int .i64 1) ∧ w'.cell? ⟨kb, 4, none⟩ = some (.complex .f64 (fl e) (fl 0)) ∧ w'.cell? ⟨kb, 5, none⟩ = some (.int .i64 0) ∧ w'.cell? ⟨kb, 6, none⟩ = some (.int .i64 0) ∧ w'.cell? ⟨kb, 7, none⟩ = some (.int .i64 4) ∧ w'.cell? ⟨kb, 8, none⟩ = some (.int .i64 0) ∧ w'.cell? ⟨kb, 9, none⟩ = some (.string { data := #[] }) ∧ w'.cell? ⟨kb, 10, none⟩ = some (.int .i64 0) ∧ w'.cell? ⟨kb, 11, none⟩ = some (.string { data := #[] }) ∧ w'.cell? ⟨kb, 12, none⟩ = some (.int .i64 0) ∧ w'.cell? ⟨kb, 13, none⟩ = some (.string { data := #[] }) ∧ w'.cell? ⟨kb, 14, none⟩ = some (.slice none 0 0) ∧ w'.cell? ⟨kb, 15, none⟩ = some (.slice none 0 0) ∧ w'.cell? ⟨wb, 0, none⟩ = some (.int .i64 1) ∧ w'.cell? ⟨wb, 1, none⟩ = some (.int .i64 1) ∧ w'.cell? ⟨wb, 2, none⟩ = some (.int .i64 1) ∧ w'.cell? ⟨wb, 3, none⟩ = some (.int .i64 1) ∧ w'.cell? ⟨wb, 4, none⟩ = some (.complex .f64 (fl e) (fl 0)) ∧ w'.cell? ⟨wb, 5, none⟩ = some (.int .i64 0) ∧ w'.cell? ⟨wb, 6, none⟩ = some (.int .i64 0) ∧ w'.cell? ⟨wb, 7, none⟩ = some (.int .i64 1) ∧ w'.cell? ⟨wb, 8, none⟩ = some (.int .i64 z.key.dir) ∧ w'.cell? ⟨wb, 9, none⟩ = some (.string z.key.name) ∧ w'.cell? ⟨wb, 10, none⟩ = some (.int .i64 0) ∧ w'.cell? ⟨wb, 11, none⟩ = some (.string { data := #[] }) ∧ w'.cell? ⟨wb, 12, none⟩ = some (.int .i64 0) ∧ w'.cell? ⟨wb, 13, none⟩ = some (.string { data := #[] }) ∧ w'.cell? ⟨wb, 14, none⟩ = some (.slice none 0 0) ∧ w'.cell? ⟨wb, 15, none⟩ = some (.slice none 0 0)) (by kernel_rfl) ?_ (fun hHeld => ?_)
  · (first | with_reducible exact KR | with_reducible exact KRd | with_reducible exact K13 | with_reducible exact K14)
  refine held_take 0 rfl (by kernel_rfl) (by kernel_rfl) (by kernel_rfl) (fun _ _ _ h => HPA.out _ _ _ _ _ h) hHeld (by rfl) (v := ?_) ?_ ?_
  rotate_left
  · intro w hSw; (try dsimp only at hSw); (try go_simp); (try with_reducible rfl)
  try simp only [Act.put, List.setIfInBounds_toArray, List.set_cons_zero, List.set_cons_succ]
  refine held_take 1 rfl (by kernel_rfl) (by kernel_rfl) (by kernel_rfl) (fun _ _ _ h => HPA.out _ _ _ _ _ h) hHeld (by rfl) (v := ?_) ?_ ?_
  rotate_left
  · intro w hSw; (try dsimp only at hSw); (try go_simp); (try with_reducible rfl)
  try simp only [Act.put, List.setIfInBounds_toArray, List.set_cons_zero, List.set_cons_succ]
  refine held_take 2 rfl (by kernel_rfl) (by kernel_rfl) (by kernel_rfl) (fun _ _ _ h => HPA.out _ _ _ _ _ h) hHeld (by rfl) (v := ?_) ?_ ?_
  rotate_left
  · intro w hSw; (try dsimp only at hSw); (try go_simp); (try with_reducible rfl)
  try simp only [Act.put, List.setIfInBounds_toArray, List.set_cons_zero, List.set_cons_succ]
  refine held_take 3 rfl (by kernel_rfl) (by kernel_rfl) (by kernel_rfl) (fun _ _ _ h => HPA.out _ _ _ _ _ h) hHeld (by rfl) (v := ?_) ?_ ?_
  rotate_left
  · intro w hSw; (try dsimp only at hSw); (try go_simp); (try with_reducible rfl)
  try simp only [Act.put, List.setIfInBounds_toArray, List.set_cons_zero, List.set_cons_succ]
  refine held_take 4 rfl (by kernel_rfl) (by kernel_rfl) (by kernel_rfl) (fun _ _ _ h => HPA.out _ _ _ _ _ h) hHeld (by rfl) (v := ?_) ?_ ?_
  rotate_left
  · intro w hSw; (try dsimp only at hSw); (try go_simp); (try with_reducible rfl)
  try simp only [Act.put, List.setIfInBounds_toArray, List.set_cons_zero, List.set_cons_succ]
  refine held_take 5 rfl (by kernel_rfl) (by kernel_rfl) (by kernel_rfl) (fun _ _ _ h => HPA.out _ _ _ _ _ h) hHeld (by rfl) (v := ?_) ?_ ?_
  rotate_left
  · intro w hSw; (try dsimp only at hSw); (try go_simp); (try with_reducible rfl)
  try simp only [Act.put, List.setIfInBounds_toArray, List.set_cons_zero, List.set_cons_succ]
  as_aux_lemma =>
    refine held_take 6 rfl (by kernel_rfl) (by kernel_rfl) (by kernel_rfl) (fun _ _ _ h => HPA.out _ _ _ _ _ h) hHeld (by rfl) (v := ?_) ?_ ?_
    rotate_left
    · intro w hSw; (try dsimp only at hSw); (try go_simp); (try with_reducible rfl)
    try simp only [Act.put, List.setIfInBounds_toArray, List.set_cons_zero, List.set_cons_succ]
    refine held_take 7 rfl (by kernel_rfl) (by kernel_rfl) (by kernel_rfl) (fun _ _ _ h => HPA.out _ _ _ _ _ h) hHeld (by rfl) (v := ?_) ?_ ?_
    rotate_left
    · intro w hSw; (try dsimp only at hSw); (try go_simp); (try with_reducible rfl)
    try simp only [Act.put, List.setIfInBounds_toArray, List.set_cons_zero, List.set_cons_succ]
    as_aux_lemma =>
      refine held_step 8 rfl (by kernel_rfl) (by rfl) (fun Kx hK => ?_)
      go_simp
      (((fail_if_success (have hxx := HB13)); go_at_call 19; refine (same_msg _ ⟨1, 1, 1, 1, e, 0, 0, 0, ⟨4, 0, ByteArray.empty, 0, ByteArray.empty, 0, ByteArray.empty⟩, none, 0, 0, none, 0, 0⟩ HIE.out (show InM 0 by unfold InM; omega)).mono ?_; rintro e7 w13 ⟨rfl, hb7⟩; (have HB13 := hid hb7); (have HR13 := hid (own_below (own_drew HRA.out) hb7)); (have HW13 := hid (heap_below (w := w12.drew) hb7 HWA.out (blk_lt HWA.out))); (have HK13 := hid (heap_below (w := w12.drew) hb7 HKA.out (blk_lt HKA.out))); (have K13 : w13.cell? ⟨g, 0, none⟩ = some (.int .i64 1) ∧ w13.cell? ⟨g, 1, none⟩ = some (.int .i64 1) ∧ w13.cell? ⟨g, 2, none⟩ = some (.int .i64 1) ∧ w13.cell? ⟨g, 3, none⟩ = some (.int .i64 1) ∧ w13.cell? ⟨g, 4, none⟩ = some (.complex .f64 (fl e) (fl 0)) ∧ w13.cell? ⟨g, 5, none⟩ = some (.int .i64 0) ∧ w13.cell? ⟨g, 6, none⟩ = some (.int .i64 0) ∧ w13.cell? ⟨g, 7, none⟩ = some (.int .i64 4) ∧ w13.cell? ⟨g, 8, none⟩ = some (.int .i64 0) ∧ w13.cell? ⟨g, 9, none⟩ = some (.string { data := #[] }) ∧ w13.cell? ⟨g, 10, none⟩ = some (.int .i64 0) ∧ w13.cell? ⟨g, 11, none⟩ = some (.string { data := #[] }) ∧ w13.cell? ⟨g, 12, none⟩ = some (.int .i64 0) ∧ w13.cell? ⟨g, 13, none⟩ = some (.string { data := #[] }) ∧ w13.cell? ⟨g, 14, none⟩ = some (.slice none 0 0) ∧ w13.cell? ⟨g, 15, none⟩ = some (.slice none 0 0) ∧ w13.cell? ⟨g, 16, none⟩ = some (.int .i64 1) ∧ w13.cell? ⟨g, 17, none⟩ = some (.int .i64 1) ∧ w13.cell? ⟨g, 18, none⟩ = some (.int .i64 1) ∧ w13.cell? ⟨g, 19, none⟩ = some (.int .i64 1) ∧ w13.cell? ⟨g, 20, none⟩ = some (.complex .f64 (fl e) (fl 0)) ∧ w13.cell? ⟨g, 21, none⟩ = some (.int .i64 0) ∧ w13.cell? ⟨g, 22, none⟩ = some (.int .i64 0) ∧ w13.cell? ⟨g, 23, none⟩ = some (.int .i64 1) ∧ w13.cell? ⟨g, 24, none⟩ = some (.int .i64 z.key.dir) ∧ w13.cell? ⟨g, 25, none⟩ = some (.string z.key.name) ∧ w13.cell? ⟨g, 26, none⟩ = some (.int .i64 0) ∧ w13.cell? ⟨g, 27, none⟩ = some (.string { data := #[] }) ∧ w13.cell? ⟨g, 28, none⟩ = some (.int .i64 0) ∧ w13.cell? ⟨g, 29, none⟩ = some (.string { data := #[] }) ∧ w13.cell? ⟨g, 30, none⟩ = some (.slice none 0 0) ∧ w13.cell? ⟨g, 31, none⟩ = some (.slice none 0 0) ∧ w13.cell? ⟨kb, 0, none⟩ = some (.int .i64 1) ∧ w13.cell? ⟨kb, 1, none⟩ = some (.int .i64 1) ∧ w13.cell? ⟨kb, 2, none⟩ = some (.int .i64 1) ∧ w13.cell? ⟨kb, 3, none⟩ = some (.int .i64 1) ∧ w13.cell? ⟨kb, 4, none⟩ = some (.complex .f64 (fl e) (fl 0)) ∧ w13.cell? ⟨kb, 5, none⟩ = some (.int .i64 0) ∧ w13.cell? ⟨kb, 6, none⟩ = some (.int .i64 0) ∧ w13.cell? ⟨kb, 7, none⟩ = some (.int .i64 4) ∧ w13.cell? ⟨kb, 8, none⟩ = some (.int .i64 0) ∧ w13.cell? ⟨kb, 9, none⟩ = some (.string { data := #[] }) ∧ w13.cell? ⟨kb, 10, none⟩ = some (.int .i64 0) ∧ w13.cell? ⟨kb, 11, none⟩ = some (.string { data := #[] }) ∧ w13.cell? ⟨kb, 12, none⟩ = some (.int .i64 0) ∧ w13.cell? ⟨kb, 13, none⟩ = some (.string { data := #[] }) ∧ w13.cell? ⟨kb, 14, none⟩ = some (.slice none 0 0) ∧ w13.cell? ⟨kb, 15, none⟩ = some (.slice none 0 0) ∧ w13.cell? ⟨wb, 0, none⟩ = some (.int .i64 1) ∧ w13.cell? ⟨wb, 1, none⟩ = some (.int .i64 1) ∧ w13.cell? ⟨wb, 2, none⟩ = some (.int .i64 1) ∧ w13.cell? ⟨wb, 3, none⟩ = some (.int .i64 1) ∧ w13.cell? ⟨wb, 4, none⟩ = some (.complex .f64 (fl e) (fl 0)) ∧ w13.cell? ⟨wb, 5, none⟩ = some (.int .i64 0) ∧ w13.cell? ⟨wb, 6, none⟩ = some (.int .i64 0) ∧ w13.cell? ⟨wb, 7, none⟩ = some (.int .i64 1) ∧ w13.cell? ⟨wb, 8, none⟩ = some (.int .i64 z.key.dir) ∧ w13.cell? ⟨wb, 9, none⟩ = some (.string z.key.name) ∧ w13.cell? ⟨wb, 10, none⟩ = some (.int .i64 0) ∧ w13.cell? ⟨wb, 11, none⟩ = some (.string { data := #[] }) ∧ w13.cell? ⟨wb, 12, none⟩ = some (.int .i64 0) ∧ w13.cell? ⟨wb, 13, none⟩ = some (.string { data := #[] }) ∧ w13.cell? ⟨wb, 14, none⟩ = some (.slice none 0 0) ∧ w13.cell? ⟨wb, 15, none⟩ = some (.slice none 0 0) := cells3 HR13.out HK13.out HW13.out); clear hb7))
      refine hK.out _ _ ?_ (fun hHeld2 => ?_)
      · (try dsimp only); (first | with_reducible exact KR | with_reducible exact KRd | with_reducible exact K13 | with_reducible exact K14)
      clear hK Kx hHeld
      have hHeld := hHeld2
      clear hHeld2
      try simp only [Act.put, List.setIfInBounds_toArray, List.set_cons_zero, List.set_cons_succ]
      as_aux_lemma =>
        refine held_take 9 rfl (by kernel_rfl) (by kernel_rfl) (by kernel_rfl) (fun _ _ _ h => HPA.out _ _ _ _ _ h) hHeld (by rfl) (v := ?_) ?_ ?_
        rotate_left
        · intro w hSw; (try dsimp only at hSw); (try go_simp); (try with_reducible rfl)
        try simp only [Act.put, List.setIfInBounds_toArray, List.set_cons_zero, List.set_cons_succ]
        refine held_take 10 rfl (by kernel_rfl) (by kernel_rfl) (by kernel_rfl) (fun _ _ _ h => HPA.out _ _ _ _ _ h) hHeld (by rfl) (v := ?_) ?_ ?_
        rotate_left
        · intro w hSw; (try dsimp only at hSw); (try go_simp); (try with_reducible rfl)
        try simp only [Act.put, List.setIfInBounds_toArray, List.set_cons_zero, List.set_cons_succ]
        refine held_take 11 rfl (by kernel_rfl) (by kernel_rfl) (by kernel_rfl) (fun _ _ _ h => HPA.out _ _ _ _ _ h) hHeld (by rfl) (v := ?_) ?_ ?_
        rotate_left
        · intro w hSw; (try dsimp only at hSw); (try go_simp); (try with_reducible rfl)
        try simp only [Act.put, List.setIfInBounds_toArray, List.set_cons_zero, List.set_cons_succ]
        refine held_take 12 rfl (by kernel_rfl) (by kernel_rfl) (by kernel_rfl) (fun _ _ _ h => HPA.out _ _ _ _ _ h) hHeld (by rfl) (v := ?_) ?_ ?_
        rotate_left
        · intro w hSw; (try dsimp only at hSw); (try go_simp); (try with_reducible rfl)
        try simp only [Act.put, List.setIfInBounds_toArray, List.set_cons_zero, List.set_cons_succ]
        refine held_take 13 rfl (by kernel_rfl) (by kernel_rfl) (by kernel_rfl) (fun _ _ _ h => HPA.out _ _ _ _ _ h) hHeld (by rfl) (v := ?_) ?_ ?_
        rotate_left
        · intro w hSw; (try dsimp only at hSw); (try go_simp); (try with_reducible rfl)
        try simp only [Act.put, List.setIfInBounds_toArray, List.set_cons_zero, List.set_cons_succ]
        as_aux_lemma =>
          refine held_take 14 rfl (by kernel_rfl) (by kernel_rfl) (by kernel_rfl) (fun _ _ _ h => HPA.out _ _ _ _ _ h) hHeld (by rfl) (v := ?_) ?_ ?_
          rotate_left
          · intro w hSw; (try dsimp only at hSw); (try go_simp); (try with_reducible rfl)
          try simp only [Act.put, List.setIfInBounds_toArray, List.set_cons_zero, List.set_cons_succ]
          refine held_take 15 rfl (by kernel_rfl) (by kernel_rfl) (by kernel_rfl) (fun _ _ _ h => HPA.out _ _ _ _ _ h) hHeld (by rfl) (v := ?_) ?_ ?_
          rotate_left
          · intro w hSw; (try dsimp only at hSw); (try go_simp); (try with_reducible rfl)
          try simp only [Act.put, List.setIfInBounds_toArray, List.set_cons_zero, List.set_cons_succ]
          as_aux_lemma =>
            refine held_step 16 rfl (by kernel_rfl) (by rfl) (fun Kx hK => ?_)
            go_simp
            ((go_at_call 19; refine (same_msg _ ⟨1, 1, 1, 1, e, 0, 0, 0, lookOp z.key, none, 0, 0, none, 0, 0⟩ HIE.out (show InM 0 by unfold InM; omega)).mono ?_; rintro e7 w14 ⟨rfl, hb7⟩; (have HB14 := hid hb7); (have HR14 := hid (own_below HR13.out hb7)); (have HW14 := hid (heap_below hb7 HW13.out (blk_lt HW13.out))); (have HK14 := hid (heap_below hb7 HK13.out (blk_lt HK13.out))); (have K14 : w14.cell? ⟨g, 0, none⟩ = some (.int .i64 1) ∧ w14.cell? ⟨g, 1, none⟩ = some (.int .i64 1) ∧ w14.cell? ⟨g, 2, none⟩ = some (.int .i64 1) ∧ w14.cell? ⟨g, 3, none⟩ = some (.int .i64 1) ∧ w14.cell? ⟨g, 4, none⟩ = some (.complex .f64 (fl e) (fl 0)) ∧ w14.cell? ⟨g, 5, none⟩ = some (.int .i64 0) ∧ w14.cell? ⟨g, 6, none⟩ = some (.int .i64 0) ∧ w14.cell? ⟨g, 7, none⟩ = some (.int .i64 4) ∧ w14.cell? ⟨g, 8, none⟩ = some (.int .i64 0) ∧ w14.cell? ⟨g, 9, none⟩ = some (.string { data := #[] }) ∧ w14.cell? ⟨g, 10, none⟩ = some (.int .i64 0) ∧ w14.cell? ⟨g, 11, none⟩ = some (.string { data := #[] }) ∧ w14.cell? ⟨g, 12, none⟩ = some (.int .i64 0) ∧ w14.cell? ⟨g, 13, none⟩ = some (.string { data := #[] }) ∧ w14.cell? ⟨g, 14, none⟩ = some (.slice none 0 0) ∧ w14.cell? ⟨g, 15, none⟩ = some (.slice none 0 0) ∧ w14.cell? ⟨g, 16, none⟩ = some (.int .i64 1) ∧ w14.cell? ⟨g, 17, none⟩ = some (.int .i64 1) ∧ w14.cell? ⟨g, 18, none⟩ = some (.int .i64 1) ∧ w14.cell? ⟨g, 19, none⟩ = some (.int .i64 1) ∧ w14.cell? ⟨g, 20, none⟩ = some (.complex .f64 (fl e) (fl 0)) ∧ w14.cell? ⟨g, 21, none⟩ = some (.int .i64 0) ∧ w14.cell? ⟨g, 22, none⟩ = some (.int .i64 0) ∧ w14.cell? ⟨g, 23, none⟩ = some (.int .i64 1) ∧ w14.cell? ⟨g, 24, none⟩ = some (.int .i64 z.key.dir) ∧ w14.cell? ⟨g, 25, none⟩ = some (.string z.key.name) ∧ w14.cell? ⟨g, 26, none⟩ = some (.int .i64 0) ∧ w14.cell? ⟨g, 27, none⟩ = some (.string { data := #[] }) ∧ w14.cell? ⟨g, 28, none⟩ = some (.int .i64 0) ∧ w14.cell? ⟨g, 29, none⟩ = some (.string { data := #[] }) ∧ w14.cell? ⟨g, 30, none⟩ = some (.slice none 0 0) ∧ w14.cell? ⟨g, 31, none⟩ = some (.slice none 0 0) ∧ w14.cell? ⟨kb, 0, none⟩ = some (.int .i64 1) ∧ w14.cell? ⟨kb, 1, none⟩ = some (.int .i64 1) ∧ w14.cell? ⟨kb, 2, none⟩ = some (.int .i64 1) ∧ w14.cell? ⟨kb, 3, none⟩ = some (.int .i64 1) ∧ w14.cell? ⟨kb, 4, none⟩ = some (.complex .f64 (fl e) (fl 0)) ∧ w14.cell? ⟨kb, 5, none⟩ = some (.int .i64 0) ∧ w14.cell? ⟨kb, 6, none⟩ = some (.int .i64 0) ∧ w14.cell? ⟨kb, 7, none⟩ = some (.int .i64 4) ∧ w14.cell? ⟨kb, 8, none⟩ = some (.int .i64 0) ∧ w14.cell? ⟨kb, 9, none⟩ = some (.string { data := #[] }) ∧ w14.cell? ⟨kb, 10, none⟩ = some (.int .i64 0) ∧ w14.cell? ⟨kb, 11, none⟩ = some (.string { data := #[] }) ∧ w14.cell? ⟨kb, 12, none⟩ = some (.int .i64 0) ∧ w14.cell? ⟨kb, 13, none⟩ = some (.string { data := #[] }) ∧ w14.cell? ⟨kb, 14, none⟩ = some (.slice none 0 0) ∧ w14.cell? ⟨kb, 15, none⟩ = some (.slice none 0 0) ∧ w14.cell? ⟨wb, 0, none⟩ = some (.int .i64 1) ∧ w14.cell? ⟨wb, 1, none⟩ = some (.int .i64 1) ∧ w14.cell? ⟨wb, 2, none⟩ = some (.int .i64 1) ∧ w14.cell? ⟨wb, 3, none⟩ = some (.int .i64 1) ∧ w14.cell? ⟨wb, 4, none⟩ = some (.complex .f64 (fl e) (fl 0)) ∧ w14.cell? ⟨wb, 5, none⟩ = some (.int .i64 0) ∧ w14.cell? ⟨wb, 6, none⟩ = some (.int .i64 0) ∧ w14.cell? ⟨wb, 7, none⟩ = some (.int .i64 1) ∧ w14.cell? ⟨wb, 8, none⟩ = some (.int .i64 z.key.dir) ∧ w14.cell? ⟨wb, 9, none⟩ = some (.string z.key.name) ∧ w14.cell? ⟨wb, 10, none⟩ = some (.int .i64 0) ∧ w14.cell? ⟨wb, 11, none⟩ = some (.string { data := #[] }) ∧ w14.cell? ⟨wb, 12, none⟩ = some (.int .i64 0) ∧ w14.cell? ⟨wb, 13, none⟩ = some (.string { data := #[] }) ∧ w14.cell? ⟨wb, 14, none⟩ = some (.slice none 0 0) ∧ w14.cell? ⟨wb, 15, none⟩ = some (.slice none 0 0) := cells3 HR14.out HK14.out HW14.out); clear hb7))
            refine hK.out _ _ ?_ (fun hHeld2 => ?_)
            · (try dsimp only); (first | with_reducible exact KR | with_reducible exact KRd | with_reducible exact K13 | with_reducible exact K14)
            clear hK Kx hHeld
            have hHeld := hHeld2
            clear hHeld2
            try simp only [Act.put, List.setIfInBounds_toArray, List.set_cons_zero, List.set_cons_succ]
            as_aux_lemma =>
              refine held_take 17 rfl (by kernel_rfl) (by kernel_rfl) (by kernel_rfl) (fun _ _ _ h => HPA.out _ _ _ _ _ h) hHeld (by rfl) (v := ?_) ?_ ?_
              rotate_left
              · intro w hSw; (try dsimp only at hSw); (try go_simp); (try with_reducible rfl)
              try simp only [Act.put, List.setIfInBounds_toArray, List.set_cons_zero, List.set_cons_succ]
              refine held_take 18 rfl (by kernel_rfl) (by kernel_rfl) (by kernel_rfl) (fun _ _ _ h => HPA.out _ _ _ _ _ h) hHeld (by rfl) (v := ?_) ?_ ?_
              rotate_left
              · intro w hSw; (try dsimp only at hSw); (try go_simp); (try with_reducible rfl)
              try simp only [Act.put, List.setIfInBounds_toArray, List.set_cons_zero, List.set_cons_succ]
              refine wpAnyH_done (by kernel_rfl) ?_ _
              all_goals
                clear KR KRd K13 K14
                (try simp only [Exit.then])
                go_wp2
                refine HQ.out _ _ rfl rfl rfl rfl rfl rfl ((Below.refl _ w12).drew.trans (HB13.out.trans (HB14.out.mono HB13.out.size)))
set_option maxRecDepth 100000 in
set_option maxHeartbeats 8000000 in
theorem ag_tick (Q : Exit → Act → World → Prop) (hPA : ∀ c a d v w, Q (.panic c) (Act.put a d v) w → Q (.panic c) a w) (wr : World) (a : Act) (v3 v19 : Value) (e : Int) (c t B p n o q wb : Nat) (s : Cl) (td : Td) (L : List En) (wh : Int → Bool) (z : Ow) (hs : a.tmps.size = 201) (hd : a.defers = []) (f3 : a.tmps.getD 3 undef = v3) (f9 : a.tmps.getD 9 undef = .pointer (some ⟨o, 0, none⟩)) (f18 : a.tmps.getD 18 undef = .pointer (some ⟨wb, 0, none⟩)) (f19 : a.tmps.getD 19 undef = v19)
    (he : InM e) (he1 : 1 ≤ e) (hC : CliAt wr c t B p n s td L wh) (hme : td.me = e) (hmn : td.mn = 0) (hi : s.id = 1) (hl : s.life = 1) (ham : s.am = ⟨1, 1, 1, 1, e, 0, 0, 0, lookOp z.key, none, 0, 0, none, 0, 0⟩) (hO : wr.heap[o]? = some (.cells #[.pointer (some ⟨c, 0, none⟩), .pointer (some ⟨q, 0, none⟩)] 29 (0, 0))) (hWB : wr.heap[wb]? = some (.cells #[.int .i64 1, .int .i64 1, .int .i64 1, .int .i64 1, .complex .f64 (fl e) (fl 0), .int .i64 0, .int .i64 0, .int .i64 1, .int .i64 z.key.dir, .string z.key.name, .int .i64 0, .string { data := #[] }, .int .i64 0, .string { data := #[] }, .slice none 0 0, .slice none 0 0] 50 (0, 0)))
    (hQ : ∀ (a' : Act) (w' : World), a'.tmps.size = 201 → a'.defers = [] → a'.tmps.getD 3 undef = v3 → a'.tmps.getD 9 undef = .pointer (some ⟨o, 0, none⟩) → a'.tmps.getD 18 undef = .pointer (some ⟨wb, 0, none⟩) → a'.tmps.getD 19 undef = v19 → CliAt w' c t B p n s td L wh → Chg (fun j => j = c) wr w' → Q .normal a' w') :
    agT.wp Tryz.prog Q a wr := by
  have TB := hid (show ∀ W : World, CliAt W c t B p n s td L wh → Calls Tryz.prog 18 #[.pointer (some ⟨c, 0, none⟩)] W (fun e1 w' => ∃ a1 cc, e1 = .returned (.slice a1 2 cc) ∧ w'.ownsRow W.heap.size 50 16 (.slice a1 2 cc) 2 [.int .i64 1, .int .i64 1, .int .i64 1, .int .i64 1, .complex .f64 (fl e) (fl 0), .int .i64 0, .int .i64 0, .int .i64 4, .int .i64 0, .string { data := #[] }, .int .i64 0, .string { data := #[] }, .int .i64 0, .string { data := #[] }, .slice none 0 0, .slice none 0 0, .int .i64 1, .int .i64 1, .int .i64 1, .int .i64 1, .complex .f64 (fl e) (fl 0), .int .i64 0, .int .i64 0, .int .i64 1, .int .i64 z.key.dir, .string z.key.name, .int .i64 0, .string { data := #[] }, .int .i64 0, .string { data := #[] }, .slice none 0 0, .slice none 0 0] ∧ CliAt w' c t B p n s td L wh ∧ Chg (fun j => j = c) W w') from fun W h => (tick_both W c t B p n s td L wh h (by rw [hme]; exact he) (by rw [hmn]; unfold InM; omega) (by rw [hme]; exact he1) (by rw [ham]; show (1 : Int) ≠ 0; decide)).mono fun e1 w' hh => by
    obtain ⟨a1, cc, h1, h2, h3, h4⟩ := hh
    refine ⟨a1, cc, h1, ?_, ?_, h4⟩
    · rw [hi, hl, ham, hme, hmn] at h2
      exact h2
    · have h5 : markAm s.am td = s.am := by rw [ham]; simp only [markAm, hme, hmn]
      rw [h5] at h3
      exact h3)
  have HK23 := hid (show ∀ a' w12 g kb c1 Br, _ from fun a' w12 g kb c1 Br => ag_r23 Q hPA w12 a' v3 (.pointer (some ⟨o, 0, none⟩)) (.pointer (some ⟨wb, 0, none⟩)) v19 e z g kb wb c1 Br)
  conv => pattern agT; whnf
  have HQ := hid hQ
  have h9 := frame201 a hs hd
  rw [f3, f9, f18, f19] at h9
  generalize a.tmps = u at h9
  subst h9
  have HC := hid hC
  have HO := hid hO
  have HW := hid hWB
  have HIE := hid he
  have hcz := blk_lt hC.hc
  have HNE := hid (And.intro (heap_ty hC.hc hO (by decide)) (heap_ty hC.hc hWB (by decide)))
  have bo := blk2 hO
  have hoz := blk_lt hO
  clear hs hd f3 f9 f18 f19 he he1 hC hme hmn hi hl ham hO hWB hQ
  refine wp_seq_k fun K0 hK0 => ?_
  have HK0 := hid hK0
  clear hK0
  go_wp2_with fail
  refine (TB.out _ HC.out).mono ?_; rintro e3 w12 ⟨a1, c1, rfl, ho12, hc12, hx12⟩
  obtain ⟨g, hg, _, hgz, _, _⟩ := own_loc ho12 (by omega)
  subst hg
  have HR12 := hid ho12
  have HC12 := hid hc12
  have HO12 := hid (heap_chg hx12 HO.out (fun h9 => HNE.out.1 h9.symm))
  have HW12 := hid (heap_chg hx12 HW.out (fun h9 => HNE.out.2 h9.symm))
  have HX12 := hid hx12
  have bw := (blk16 HW12.out).1
  have hwz := blk_lt HW12.out
  clear ho12 hc12 hx12 bo hoz TB
  go_wp2
  refine HK0.out _ _ ?_
  refine wp_seq_k fun K1 hK1 => ?_
  have HK1 := hid hK1
  clear hK1 HK0
  go_wp2
  refine HK1.out _ _ ?_
  clear HK1
  have HXA := hid (chg_new HX12.out (Chg.below (bl1 w12 (.cells #[.int .i64 1, .int .i64 1, .int .i64 1, .int .i64 1, .complex .f64 (fl e) (fl 0), .int .i64 0, .int .i64 0, .int .i64 4, .int .i64 0, .string { data := #[] }, .int .i64 0, .string { data := #[] }, .int .i64 0, .string { data := #[] }, .slice none 0 0, .slice none 0 0] 50))) (fun j hj => hj.elim))
  refine HK23.out _ _ g w12.heap.size c1 wr.heap.size ?_ ?_ ?_ ?_ ?_ ?_ ?_ ?_ HIE.out (own_alloc HR12.out (.cells #[.int .i64 1, .int .i64 1, .int .i64 1, .int .i64 1, .complex .f64 (fl e) (fl 0), .int .i64 0, .int .i64 0, .int .i64 4, .int .i64 0, .string { data := #[] }, .int .i64 0, .string { data := #[] }, .int .i64 0, .string { data := #[] }, .slice none 0 0, .slice none 0 0] 50)) (heap_new w12 (.cells #[.int .i64 1, .int .i64 1, .int .i64 1, .int .i64 1, .complex .f64 (fl e) (fl 0), .int .i64 0, .int .i64 0, .int .i64 4, .int .i64 0, .string { data := #[] }, .int .i64 0, .string { data := #[] }, .int .i64 0, .string { data := #[] }, .slice none 0 0, .slice none 0 0] 50)) (heap_old HW12.out (.cells #[.int .i64 1, .int .i64 1, .int .i64 1, .int .i64 1, .complex .f64 (fl e) (fl 0), .int .i64 0, .int .i64 0, .int .i64 4, .int .i64 0, .string { data := #[] }, .int .i64 0, .string { data := #[] }, .int .i64 0, .string { data := #[] }, .slice none 0 0, .slice none 0 0] 50)) ?_
  iterate 8 (first | rfl | exact rfl)
  intro a' w' h1 h2 h3 h4 h5 h6 h7
  exact HQ.out a' w' h1 h2 h3 h4 h5 h6 ((HC12.out.below (bl1 w12 (.cells #[.int .i64 1, .int .i64 1, .int .i64 1, .int .i64 1, .complex .f64 (fl e) (fl 0), .int .i64 0, .int .i64 0, .int .i64 4, .int .i64 0, .string { data := #[] }, .int .i64 0, .string { data := #[] }, .int .i64 0, .string { data := #[] }, .slice none 0 0, .slice none 0 0] 50))).below h7) (chg_new HXA.out (Chg.below h7) (fun j hj => hj.elim))
set_option maxRecDepth 100000 in
set_option maxHeartbeats 8000000 in
theorem ag_loop (w w10 : World) (a : Act) (tk e : Int) (c t B p n o q wb : Nat) (s : Cl) (td : Td) (L : List En) (wh : Int → Bool) (z : Ow) (K : Code) (hs : a.tmps.size = 201) (hd : a.defers = []) (f3 : a.tmps.getD 3 undef = .int .i64 tk) (f9 : a.tmps.getD 9 undef = .pointer (some ⟨o, 0, none⟩)) (f18 : a.tmps.getD 18 undef = .pointer (some ⟨wb, 0, none⟩))
    (he : InM e) (he1 : 1 ≤ e) (hC : CliAt w10 c t B p n s td L wh) (hme : td.me = e) (hmn : td.mn = 0) (hi : s.id = 1) (hl : s.life = 1) (ham : s.am = ⟨1, 1, 1, 1, e, 0, 0, 0, lookOp z.key, none, 0, 0, none, 0, 0⟩) (hO : w10.heap[o]? = some (.cells #[.pointer (some ⟨c, 0, none⟩), .pointer (some ⟨q, 0, none⟩)] 29 (0, 0))) (hWB : w10.heap[wb]? = some (.cells #[.int .i64 1, .int .i64 1, .int .i64 1, .int .i64 1, .complex .f64 (fl e) (fl 0), .int .i64 0, .int .i64 0, .int .i64 1, .int .i64 z.key.dir, .string z.key.name, .int .i64 0, .string { data := #[] }, .int .i64 0, .string { data := #[] }, .slice none 0 0, .slice none 0 0] 50 (0, 0)))
    (hK : ∀ (a' : Act) (w11 : World), a'.tmps.size = 201 → a'.defers = [] → a'.tmps.getD 9 undef = .pointer (some ⟨o, 0, none⟩) → w11.heap[o]? = some (.cells #[.pointer (some ⟨c, 0, none⟩), .pointer (some ⟨q, 0, none⟩)] 29 (0, 0)) → CliAt w11 c t B p n s td L wh → Chg (fun j => j = c) w10 w11 → K.wp Tryz.prog (bodyPost Tryz.prog Tryz.f5 fun e w' => e = .returned (.bool true) ∧ Below w.heap.size w w') a' w11) :
    (cutN 1 (sndN 13 agBody) K).wp Tryz.prog (bodyPost Tryz.prog Tryz.f5 fun e w' => e = .returned (.bool true) ∧ Below w.heap.size w w') a w10 := by
  conv => pattern (sndN 13 agBody); whnf
  simp only [cutN]
  have HK := hid hK
  have HCC := hid (And.intro he (And.intro he1 (And.intro hme (And.intro hmn (And.intro hi (And.intro hl ham))))))
  have h9 := frame201 a hs hd
  rw [f3, f9, f18] at h9
  generalize a.tmps = u at h9
  subst h9
  have HC := hid hC
  have HO := hid hO
  have HWB := hid hWB
  have HNE := hid (And.intro (heap_ty hC.hc hO (by decide)) (heap_ty hC.hc hWB (by decide)))
  have n1 := Int.emod_nonneg tk (show (5 : Int) ≠ 0 by decide); have m1 := Int.emod_lt_of_pos tk (show (0 : Int) < 5 by decide)
  obtain ⟨m, hm⟩ : ∃ m : Int, m = tk % 5 := ⟨_, rfl⟩
  rw [← hm] at n1 m1
  have HM := hid hm
  clear hs hd f3 f9 f18 he he1 hC hme hmn hi hl ham hO hWB hK hm
  refine wp_seq (wp_seq ?_)
  go_wp2
  (try simp only [Exit.then])
  refine wp_loop (fun a wr => a.tmps.size = 201 ∧ a.defers = [] ∧ a.tmps.getD 3 undef = .int .i64 tk ∧ a.tmps.getD 9 undef = .pointer (some ⟨o, 0, none⟩) ∧ a.tmps.getD 18 undef = .pointer (some ⟨wb, 0, none⟩) ∧ ∃ i : Int, 0 ≤ i ∧ i ≤ m ∧ a.tmps.getD 19 undef = .int .i64 i ∧ Hid (CliAt wr c t B p n s td L wh) ∧ Hid (Chg (fun j => j = c) w10 wr)) (fun a _ => (m - intOf (a.tmps.getD 19 undef)).toNat) ?_ ?_
  · exact ⟨rfl, rfl, rfl, rfl, rfl, 0, by omega, n1, rfl, HC, hid (Chg.refl _ _)⟩
  intro a3 wr hI
  obtain ⟨hs, hd, f3, f9, f18, i, hi0, him, f19, HCr, HXr⟩ := hI
  have HMU := hid (show (m - intOf (a3.tmps.getD 19 undef)).toNat = (m - i).toNat by rw [f19]; rfl)
  have h9 := frame201 a3 hs hd
  rw [f3, f9, f18, f19] at h9
  generalize a3.tmps = u3 at h9 HMU
  subst h9
  clear hs hd f3 f9 f18 f19
  refine wp_seq_k fun K0 hK0 => ?_
  have HK0 := hid hK0
  clear hK0
  have HOr := hid (heap_chg HXr.out HO.out (fun h9 => HNE.out.1 h9.symm))
  have HWr := hid (heap_chg HXr.out HWB.out (fun h9 => HNE.out.2 h9.symm))
  go_wp2_with fail
  refine (place_pos _ _ _ (by omega) (by omega)).mono ?_; rintro e2 w2 ⟨rfl, rfl⟩
  rw [← HM.out]
  by_cases hlt : i < m
  · go_wp2
    refine HK0.out _ _ ?_
    refine wp_seq (wp_block ?_)
    refine ag_tick _ (fun c a d v w h => by cases d <;> exact h) wr _ (.int .i64 tk) (.int .i64 i) e c t B p n o q wb s td L wh z rfl rfl rfl rfl rfl rfl HCC.out.1 HCC.out.2.1 HCr.out HCC.out.2.2.1 HCC.out.2.2.2.1 HCC.out.2.2.2.2.1 HCC.out.2.2.2.2.2.1 HCC.out.2.2.2.2.2.2 HOr.out HWr.out ?_
    intro a4 w4 hs hd f3 f9 f18 f19 hc4 hx4
    have HC4 := hid hc4
    have HX4 := hid (chg_new HXr.out hx4 (fun j hj => .inl hj))
    have h9 := frame201 a4 hs hd
    rw [f3, f9, f18, f19] at h9
    generalize a4.tmps = u4 at h9
    subst h9
    clear hs hd f3 f9 f18 f19 hc4 hx4 HK0
    simp only [Exit.inBlock, Exit.then]
    go_wp2
    refine ⟨⟨rfl, trivial, rfl, rfl, rfl, i + 1, by omega, by omega, ?_, HC4, HX4⟩, ?_⟩
    · show Value.int .i64 _ = _
      go_num
    · rw [HMU.out]
      show (m - (i + 1)).toNat < (m - i).toNat
      omega
  · go_wp2
    (try simp only [Exit.inBlock, Exit.then])
    refine HK.out _ wr ?_ ?_ ?_ HOr.out HCr.out HXr.out
    · rfl
    · rfl
    · rfl
end Go.Proofs.YtbjibkjenleloaaGreatDoor

end
