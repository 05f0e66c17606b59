/- Parts of a proof about the given program, in build order: CalC, CalD. No condition. -/
import Derived.Test.YtbjibkjenleloaaGreatDoorMg12
section
namespace Go.Proofs.YtbjibkjenleloaaGreatDoor
set_option linter.unusedVariables false
set_option linter.unusedSimpArgs false
open Go.RowKit
attribute [local go_sem ↓] Go.wp_at_zero Go.wp_at_succ
attribute [local go_sem] run_store_complex run_store_float


theorem heap_drew {w : World} {k : Nat} {x : Option Obj} (h : w.heap[k]? = x) : w.drew.heap[k]? = x := h
theorem CliAt.drew {w : World} {c t B p n : Nat} {s : Cl} {td : Td} {L : List En} {wh : Int → Bool} (h : CliAt w c t B p n s td L wh) : CliAt w.drew c t B p n s td L wh :=
  ⟨h.hc, h.ht, h.hp.below (Below.refl _ w).drew, h.ncp, h.ntp⟩
def Op7.v (op : Op7) : Value := .agg #[.int .i64 op.kind, .int .i64 op.dir, .string op.name, .int .i64 op.to_, .string op.new_, .int .i64 op.mode, .string op.target]
/-- an ask -/
def askMs (s : Cl) (td : Td) (seq : Int) (op : Op7) : Ms := ⟨1, s.id, s.life, seq, td.me, td.mn, 0, 0, op, none, 0, 0, none, 0, 0⟩
set_option maxRecDepth 100000 in
set_option maxHeartbeats 4000000 in
theorem cli_message (w : World) (c t B p n : Nat) (s : Cl) (td : Td) (L : List En) (wh : Int → Bool) (seq : Int) (op : Op7) (h : CliAt w c t B p n s td L wh) : Calls Tryz.prog 39 #[.pointer (some ⟨c, 0, none⟩), .int .i64 seq, op.v] w fun e w' => e = .returned (askMs s td seq op).v ∧ Below w.heap.size w w' := by
  have HO := hid (heap_old (heap_new w (.cells #[.int .i64 op.kind, .int .i64 op.dir, .string op.name, .int .i64 op.to_, .string op.new_, .int .i64 op.mode, .string op.target] 37)) (.cells #[.int .i64 0, .int .i64 0, .int .i64 0, .int .i64 0, .complex .f64 0 0, .int .i64 0, .int .i64 0, .int .i64 0, .int .i64 0, .string { data := #[] }, .int .i64 0, .string { data := #[] }, .int .i64 0, .string { data := #[] }, .slice none 0 0, .slice none 0 0] 50))
  have hR := heap_new (w.alloc (.cells #[.int .i64 op.kind, .int .i64 op.dir, .string op.name, .int .i64 op.to_, .string op.new_, .int .i64 op.mode, .string op.target] 37)) (.cells #[.int .i64 0, .int .i64 0, .int .i64 0, .int .i64 0, .complex .f64 0 0, .int .i64 0, .int .i64 0, .int .i64 0, .int .i64 0, .string { data := #[] }, .int .i64 0, .string { data := #[] }, .int .i64 0, .string { data := #[] }, .slice none 0 0, .slice none 0 0] 50)
  rw [World.size_alloc] at hR
  have HR := hid hR
  have HB := hid (bl2 w (.cells #[.int .i64 op.kind, .int .i64 op.dir, .string op.name, .int .i64 op.to_, .string op.new_, .int .i64 op.mode, .string op.target] 37) (.cells #[.int .i64 0, .int .i64 0, .int .i64 0, .int .i64 0, .complex .f64 0 0, .int .i64 0, .int .i64 0, .int .i64 0, .int .i64 0, .string { data := #[] }, .int .i64 0, .string { data := #[] }, .int .i64 0, .string { data := #[] }, .slice none 0 0, .slice none 0 0] 50))
  have HH := hid (h.below HB.out)
  have hcl : c < w.heap.size := blk_lt h.hc
  have hc0 := cell_of HH.out.hc 0 (.int .i64 s.id) rfl
  have hc1 := cell_of HH.out.hc 1 (.int .i64 s.life) rfl
  have b7 := blk7 HO.out
  have b16 := blk16 hR
  obtain ⟨w1, hw1⟩ : ∃ w1, w1 = (w.alloc (.cells #[.int .i64 op.kind, .int .i64 op.dir, .string op.name, .int .i64 op.to_, .string op.new_, .int .i64 op.mode, .string op.target] 37)).alloc (.cells #[.int .i64 0, .int .i64 0, .int .i64 0, .int .i64 0, .complex .f64 0 0, .int .i64 0, .int .i64 0, .int .i64 0, .int .i64 0, .string { data := #[] }, .int .i64 0, .string { data := #[] }, .int .i64 0, .string { data := #[] }, .slice none 0 0, .slice none 0 0] 50) := ⟨_, rfl⟩
  rw [← hw1] at HO HR HB HH hc0 hc1 b7 b16
  have HW1 := hid hw1
  have KR : w1.cell? ⟨c, 0, none⟩ = some (.int .i64 s.id) ∧ w1.cell? ⟨c, 1, none⟩ = some (.int .i64 s.life) ∧ w1.cell? ⟨w.heap.size, 0, none⟩ = some (.int .i64 op.kind) ∧ w1.cell? ⟨w.heap.size, 1, none⟩ = some (.int .i64 op.dir) ∧ w1.cell? ⟨w.heap.size, 2, none⟩ = some (.string op.name) ∧ w1.cell? ⟨w.heap.size, 3, none⟩ = some (.int .i64 op.to_) ∧ w1.cell? ⟨w.heap.size, 4, none⟩ = some (.string op.new_) ∧ w1.cell? ⟨w.heap.size, 5, none⟩ = some (.int .i64 op.mode) ∧ w1.cell? ⟨w.heap.size, 6, none⟩ = some (.string op.target) := ⟨hc0.1, hc1.1, b7.1, b7.2.1, b7.2.2.1, b7.2.2.2.1, b7.2.2.2.2.1, b7.2.2.2.2.2.1, b7.2.2.2.2.2.2.1⟩
  have KRd : w1.drew.cell? ⟨c, 0, none⟩ = some (.int .i64 s.id) ∧ w1.drew.cell? ⟨c, 1, none⟩ = some (.int .i64 s.life) ∧ w1.drew.cell? ⟨w.heap.size, 0, none⟩ = some (.int .i64 op.kind) ∧ w1.drew.cell? ⟨w.heap.size, 1, none⟩ = some (.int .i64 op.dir) ∧ w1.drew.cell? ⟨w.heap.size, 2, none⟩ = some (.string op.name) ∧ w1.drew.cell? ⟨w.heap.size, 3, none⟩ = some (.int .i64 op.to_) ∧ w1.drew.cell? ⟨w.heap.size, 4, none⟩ = some (.string op.new_) ∧ w1.drew.cell? ⟨w.heap.size, 5, none⟩ = some (.int .i64 op.mode) ∧ w1.drew.cell? ⟨w.heap.size, 6, none⟩ = some (.string op.target) := KR
  have KS : ∀ W : World, Chg (fun j => j = w.heap.size + 1) w1 W → W.cell? ⟨c, 0, none⟩ = some (.int .i64 s.id) ∧ W.cell? ⟨c, 1, none⟩ = some (.int .i64 s.life) ∧ W.cell? ⟨w.heap.size, 0, none⟩ = some (.int .i64 op.kind) ∧ W.cell? ⟨w.heap.size, 1, none⟩ = some (.int .i64 op.dir) ∧ W.cell? ⟨w.heap.size, 2, none⟩ = some (.string op.name) ∧ W.cell? ⟨w.heap.size, 3, none⟩ = some (.int .i64 op.to_) ∧ W.cell? ⟨w.heap.size, 4, none⟩ = some (.string op.new_) ∧ W.cell? ⟨w.heap.size, 5, none⟩ = some (.int .i64 op.mode) ∧ W.cell? ⟨w.heap.size, 6, none⟩ = some (.string op.target) := fun W hW => by
    have q0 := cell_of (heap_chg hW HH.out.hc (by omega)) 0 (.int .i64 s.id) rfl
    have q1 := cell_of (heap_chg hW HH.out.hc (by omega)) 1 (.int .i64 s.life) rfl
    have q7 := blk7 (heap_chg hW HO.out (by omega))
    exact ⟨q0.1, q1.1, q7.1, q7.2.1, q7.2.2.1, q7.2.2.2.1, q7.2.2.2.2.1, q7.2.2.2.2.2.1, q7.2.2.2.2.2.2.1⟩
  clear h hc0 hc1 b7 hR hw1
  unfold Op7.v
  go_enter Tryz.func39, Tryz.ntmps39
  go_wp2_with fail
  rw [← HW1.out]
  have KC := hid (show Chg (fun j => j = w.heap.size + 1) w1 (((((((((((((((((w1.setCell ⟨w.heap.size + 1, 0, none⟩ (.int .i64 1)).setCell ⟨w.heap.size + 1, 1, none⟩ (.int .i64 s.id)).setCell ⟨w.heap.size + 1, 2, none⟩ (.int .i64 s.life)).setCell ⟨w.heap.size + 1, 3, none⟩ (.int .i64 seq)).setCell ⟨w.heap.size + 1, 4, none⟩ (.complex .f64 (fl td.me) (fl td.mn))).setCell ⟨w.heap.size + 1, 5, none⟩ (.int .i64 0)).setCell ⟨w.heap.size + 1, 6, none⟩ (.int .i64 0)).setCell ⟨w.heap.size + 1, 7, none⟩ (.int .i64 op.kind)).setCell ⟨w.heap.size + 1, 8, none⟩ (.int .i64 op.dir)).setCell ⟨w.heap.size + 1, 9, none⟩ (.string op.name)).setCell ⟨w.heap.size + 1, 10, none⟩ (.int .i64 op.to_)).setCell ⟨w.heap.size + 1, 11, none⟩ (.string op.new_)).setCell ⟨w.heap.size + 1, 12, none⟩ (.int .i64 op.mode)).setCell ⟨w.heap.size + 1, 13, none⟩ (.string op.target)).setCell ⟨w.heap.size + 1, 14, none⟩ (.slice none 0 0)).setCell ⟨w.heap.size + 1, 15, none⟩ (.slice none 0 0))).drew from Chg.drew (by
    iterate 16 refine Chg.set1 ?_ _ _ rfl
    exact Chg.refl _ _))
  go_region_held3 (fun w' => w'.cell? ⟨c, 0, none⟩ = some (.int .i64 s.id) ∧ w'.cell? ⟨c, 1, none⟩ = some (.int .i64 s.life) ∧ w'.cell? ⟨w.heap.size, 0, none⟩ = some (.int .i64 op.kind) ∧ w'.cell? ⟨w.heap.size, 1, none⟩ = some (.int .i64 op.dir) ∧ w'.cell? ⟨w.heap.size, 2, none⟩ = some (.string op.name) ∧ w'.cell? ⟨w.heap.size, 3, none⟩ = some (.int .i64 op.to_) ∧ w'.cell? ⟨w.heap.size, 4, none⟩ = some (.string op.new_) ∧ w'.cell? ⟨w.heap.size, 5, none⟩ = some (.int .i64 op.mode) ∧ w'.cell? ⟨w.heap.size, 6, none⟩ = some (.string op.target))
    (first | with_reducible exact KR | with_reducible exact KRd | exact KS _ KC.out)
    (first | (go_at_call 21; refine (cli_mark _ c t B p n s td L wh HH.out.drew).mono ?_; rintro e w2 ⟨rfl, rfl⟩))
  refine gen_w (P := fun w' => Exit.then _ _ _ _ w') (S := fun w4 => Chg (fun j => j = w.heap.size + 1) w1 w4 ∧ w4.heap[w.heap.size + 1]? = some (.cells #[.int .i64 1, .int .i64 s.id, .int .i64 s.life, .int .i64 seq, .complex .f64 (fl td.me) (fl td.mn), .int .i64 0, .int .i64 0, .int .i64 op.kind, .int .i64 op.dir, .string op.name, .int .i64 op.to_, .string op.new_, .int .i64 op.mode, .string op.target, .slice none 0 0, .slice none 0 0] 50 (0, 0))) _ ⟨?_, ?_⟩ ?_
  · exact KC.out
  · refine heap_drew ?_
    have h9 := (heap_set (heap_set (heap_set (heap_set (heap_set (heap_set (heap_set (heap_set (heap_set (heap_set (heap_set (heap_set (heap_set (heap_set (heap_set (heap_set HR.out 0 (.int .i64 1)) 1 (.int .i64 s.id)) 2 (.int .i64 s.life)) 3 (.int .i64 seq)) 4 (.complex .f64 (fl td.me) (fl td.mn))) 5 (.int .i64 0)) 6 (.int .i64 0)) 7 (.int .i64 op.kind)) 8 (.int .i64 op.dir)) 9 (.string op.name)) 10 (.int .i64 op.to_)) 11 (.string op.new_)) 12 (.int .i64 op.mode)) 13 (.string op.target)) 14 (.slice none 0 0)) 15 (.slice none 0 0))
    simp only [List.setIfInBounds_toArray, List.set_cons_zero, List.set_cons_succ] at h9
    exact h9
  rintro w4 ⟨hc4, hr4⟩
  have b4 := blk16 hr4
  have HB4 := hid (HB.out.trans (hc4.toBelow HB.out.size fun i hi hf => by omega))
  clear KR KRd KS KC b16 hc4 hr4
  go_wp2
  refine bodyPost_ret (v := (askMs s td seq op).v) (by simp [results, Tryz.results39, go_sem, b4, askMs, Ms.v, Ms.cs]) rfl ⟨rfl, HB4.out⟩
end Go.Proofs.YtbjibkjenleloaaGreatDoor

end

section
namespace Go.Proofs.YtbjibkjenleloaaGreatDoor
set_option linter.unusedVariables false
set_option linter.unusedSimpArgs false
open Go.RowKit
attribute [local go_sem ↓] Go.wp_at_zero Go.wp_at_succ
attribute [local go_sem] run_store_complex run_store_float

open Go.ChangeMaps (setBlock)
/-- an entry of a map of values by ints -/
structure Fe where
  k : Int
  v : Value
  born : Nat
def Fe.me (x : Fe) : MapEntry := ⟨.int .i64 x.k, x.v, x.born⟩
def fes (F : List Fe) : Array MapEntry := (F.map Fe.me).toArray
theorem fes_toList (F : List Fe) : (fes F).toList = F.map Fe.me := rfl
def atF (k : Int) (F : List Fe) : Option Nat := F.findIdx? fun x => k = x.k
theorem findNow_fe (d : Int) : ∀ (F : List Fe) (i : Nat), Instr.findNow (.int .i64) (.int .i64 d) (F.map Fe.me) i = some ((F.findIdx? fun x => decide (d = x.k)).bind fun j => (F[j]?).map fun x => (i + j, x.v))
  | [], i => by simp [Instr.findNow]
  | x :: F, i => by
    rw [List.map_cons, Instr.findNow]
    simp only [Fe.me, Instr.sameNow, if_true, List.findIdx?_cons]
    by_cases h : d = x.k
    · simp [h]
    · have ih := findNow_fe d F (i + 1)
      have h' : (d == x.k) = false := by simpa using h
      simp only [h, h', decide_false, Bool.false_eq_true, if_false]
      rw [ih]
      cases hf : F.findIdx? (fun x => decide (d = x.k)) with
      | none => simp
      | some j => simp [Nat.add_assoc, Nat.add_comm 1]
theorem findKey_fe (d : Int) (w : World) (F : List Fe) : (Instr.findKey 3 (.int .i64 d) (F.map Fe.me)).run Tryz.prog w = .ok ((atF d F).bind fun j => (F[j]?).map fun x => (j, x.v)) w := by
  simp only [Instr.findKey, Sem.run_bind, run_underlying Tryz.underlying3, Result.andThen_ok, findNow_fe, Nat.zero_add]
  rfl
theorem run_lookf {w : World} {mw cl j : Nat} {F : List Fe} {d : Int} {x : Fe} (h : w.heap[mw]? = some (.map (fes F) cl)) (hj : atF d F = some j) (hx : F[j]? = some x) :
    (Instr.lookup 123 (.map (some mw)) (.int .i64 d) false).run Tryz.prog w = .ok x.v w := by
  have hf := findKey_fe d w F
  simp only [Instr.lookup, Sem.run_bind, run_underlying Tryz.underlying123, Result.andThen_ok, getObj, Sem.run, h, ckI]
  simp [fes_toList, hf, hj, hx]
theorem run_ins {w : World} {mw cl : Nat} {F : List Fe} (d : Int) (v : Value) (h : w.heap[mw]? = some (.map (fes F) cl)) (hj : atF d F = none) :
    ∃ w', (Instr.mapUpdate 123 (.map (some mw)) (.int .i64 d) v).run Tryz.prog w = .ok () w' ∧ w'.heap[mw]? = some (.map (fes (F ++ [⟨d, v, cl⟩])) (cl + 1)) ∧ Chg (fun j => j = mw) w w' := by
  have hf := findKey_fe d w F
  have hm : (fes F).push { key := .int .i64 d, val := v, born := cl } = fes (F ++ [⟨d, v, cl⟩]) := by simp [fes, Fe.me]
  refine ⟨setBlock w mw (.map (fes (F ++ [⟨d, v, cl⟩])) (cl + 1)), ?_, heap_setBlock h, ?_⟩
  · simp only [Instr.mapUpdate, Sem.run_bind, run_underlying Tryz.underlying123, Result.andThen_ok, getObj, Sem.run, h, ckI, fes_toList, hf, hj]
    simp only [Option.bind_none, setObj, Sem.run, h, hm]
    rfl
  · exact chg_setBlock w mw _
def kindsF (c : Nat) : List Fe := [⟨1, .func (Fn.func 80) #[.pointer (some ⟨c, 0, none⟩)] #[], 0⟩, ⟨2, .func (Fn.func 81) #[.pointer (some ⟨c, 0, none⟩)] #[], 1⟩, ⟨3, .func (Fn.func 82) #[.pointer (some ⟨c, 0, none⟩)] #[], 2⟩, ⟨4, .func (Fn.func 83) #[.pointer (some ⟨c, 0, none⟩)] #[], 3⟩, ⟨5, .func (Fn.func 84) #[.pointer (some ⟨c, 0, none⟩)] #[], 4⟩, ⟨6, .func (Fn.func 84) #[.pointer (some ⟨c, 0, none⟩)] #[], 5⟩, ⟨7, .func (Fn.func 84) #[.pointer (some ⟨c, 0, none⟩)] #[], 6⟩, ⟨8, .func (Fn.func 84) #[.pointer (some ⟨c, 0, none⟩)] #[], 7⟩, ⟨9, .func (Fn.func 84) #[.pointer (some ⟨c, 0, none⟩)] #[], 8⟩, ⟨10, .func (Fn.func 84) #[.pointer (some ⟨c, 0, none⟩)] #[], 9⟩, ⟨11, .func (Fn.func 84) #[.pointer (some ⟨c, 0, none⟩)] #[], 10⟩, ⟨12, .func (Fn.func 85) #[.pointer (some ⟨c, 0, none⟩)] #[], 11⟩]
set_option maxRecDepth 100000 in
set_option maxHeartbeats 4000000 in
theorem cli_kinds (w : World) (c : Nat) : Calls Tryz.prog 57 #[.pointer (some ⟨c, 0, none⟩)] w fun e w' => e = .returned (.map (some w.heap.size)) ∧ w'.heap[w.heap.size]? = some (.map (fes (kindsF c)) 12) ∧ Below w.heap.size w w' := by
  have hmm := @run_makeMap Tryz.prog
  have HK := hid (show (w.alloc (.map #[] 0)).heap[w.heap.size]? = some (.map (fes []) 0) from heap_new w _)
  obtain ⟨W1, h1, k1, c1⟩ := run_ins (1) (.func (Fn.func 80) #[.pointer (some ⟨c, 0, none⟩)] #[]) HK.out (by rfl)
  have HK0 := hid k1
  have HC0 := hid c1
  clear k1 c1
  obtain ⟨W2, h2, k2, c2⟩ := run_ins (2) (.func (Fn.func 81) #[.pointer (some ⟨c, 0, none⟩)] #[]) (HK0.out) (by rfl)
  have HK1 := hid k2
  have HC1 := hid c2
  clear k2 c2
  obtain ⟨W3, h3, k3, c3⟩ := run_ins (3) (.func (Fn.func 82) #[.pointer (some ⟨c, 0, none⟩)] #[]) (HK1.out) (by rfl)
  have HK2 := hid k3
  have HC2 := hid c3
  clear k3 c3
  obtain ⟨W4, h4, k4, c4⟩ := run_ins (4) (.func (Fn.func 83) #[.pointer (some ⟨c, 0, none⟩)] #[]) (HK2.out) (by rfl)
  have HK3 := hid k4
  have HC3 := hid c4
  clear k4 c4
  obtain ⟨W5, h5, k5, c5⟩ := run_ins (5) (.func (Fn.func 84) #[.pointer (some ⟨c, 0, none⟩)] #[]) (HK3.out) (by rfl)
  have HK4 := hid k5
  have HC4 := hid c5
  clear k5 c5
  obtain ⟨W6, h6, k6, c6⟩ := run_ins (6) (.func (Fn.func 84) #[.pointer (some ⟨c, 0, none⟩)] #[]) (HK4.out) (by rfl)
  have HK5 := hid k6
  have HC5 := hid c6
  clear k6 c6
  obtain ⟨W7, h7, k7, c7⟩ := run_ins (7) (.func (Fn.func 84) #[.pointer (some ⟨c, 0, none⟩)] #[]) (HK5.out) (by rfl)
  have HK6 := hid k7
  have HC6 := hid c7
  clear k7 c7
  obtain ⟨W8, h8, k8, c8⟩ := run_ins (8) (.func (Fn.func 84) #[.pointer (some ⟨c, 0, none⟩)] #[]) (HK6.out) (by rfl)
  have HK7 := hid k8
  have HC7 := hid c8
  clear k8 c8
  obtain ⟨W9, h9, k9, c9⟩ := run_ins (9) (.func (Fn.func 84) #[.pointer (some ⟨c, 0, none⟩)] #[]) (HK7.out) (by rfl)
  have HK8 := hid k9
  have HC8 := hid c9
  clear k9 c9
  obtain ⟨W10, h10, k10, c10⟩ := run_ins (10) (.func (Fn.func 84) #[.pointer (some ⟨c, 0, none⟩)] #[]) (HK8.out) (by rfl)
  have HK9 := hid k10
  have HC9 := hid c10
  clear k10 c10
  obtain ⟨W11, h11, k11, c11⟩ := run_ins (11) (.func (Fn.func 84) #[.pointer (some ⟨c, 0, none⟩)] #[]) (HK9.out) (by rfl)
  have HK10 := hid k11
  have HC10 := hid c11
  clear k11 c11
  obtain ⟨W12, h12, k12, c12⟩ := run_ins (12) (.func (Fn.func 85) #[.pointer (some ⟨c, 0, none⟩)] #[]) (HK10.out) (by rfl)
  have HK11 := hid k12
  have HC11 := hid c12
  clear k12 c12
  go_enter Tryz.func57, Tryz.ntmps57
  go_wp2
  go_ret
  refine ⟨rfl, HK11.out, ?_⟩
  have hc := (Chg.trans (Chg.trans (Chg.trans (Chg.trans (Chg.trans (Chg.trans (Chg.trans (Chg.trans (Chg.trans (Chg.trans (Chg.trans HC0.out HC1.out (fun _ _ h => h) (fun _ _ h => h)) HC2.out (fun _ _ h => h) (fun _ _ h => h)) HC3.out (fun _ _ h => h) (fun _ _ h => h)) HC4.out (fun _ _ h => h) (fun _ _ h => h)) HC5.out (fun _ _ h => h) (fun _ _ h => h)) HC6.out (fun _ _ h => h) (fun _ _ h => h)) HC7.out (fun _ _ h => h) (fun _ _ h => h)) HC8.out (fun _ _ h => h) (fun _ _ h => h)) HC9.out (fun _ _ h => h) (fun _ _ h => h)) HC10.out (fun _ _ h => h) (fun _ _ h => h)) HC11.out (fun _ _ h => h) (fun _ _ h => h))
  exact (bl1 w _).trans (hc.toBelow (by simp) fun i hi hf => by omega)
end Go.Proofs.YtbjibkjenleloaaGreatDoor

end
