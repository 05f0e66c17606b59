import Derived.Test.YtakkdaenindboaaVowD
namespace Go.Proofs.Ytakkdaenindboaa
set_option linter.unusedVariables false
set_option linter.unusedSimpArgs false
open Go.RowKit
attribute [local go_sem ↓] Go.wp_at_zero Go.wp_at_succ
attribute [local go_sem] run_store_complex run_store_float

set_option maxHeartbeats 400000 in
theorem sorted_keys (v : Value) (L : List Ky) (w : World) (hv : Rd w v L.length (kyc L)) (hl : L.length * 24 ≤ 140737488355328) :
    Calls Try.prog 53 #[v] w fun e w' => ∃ a c, e = .returned (.slice a (sortK L).length c) ∧ w'.ownsRow w.heap.size 37 2 (.slice a (sortK L).length c) (sortK L).length (kyc (sortK L)) ∧ Below w.heap.size w w' := by
  have HV := hid hv
  clear hv
  go_enter Try.func53, Try.ntmps53
  go_wp2_with fail
  refine (clone_keys v L _ HV.out hl).mono ?_
  rintro e w1 ⟨a, c, rfl, hown, hb⟩
  have HO := hid hown
  have HB := hid hb
  clear hown hb
  go_wp2_with fail
  refine (sort_keys w1 w.heap.size a c L HO.out (by omega)).mono ?_
  rintro e w2 ⟨rfl, M, hp, hs, hown2, hch2⟩
  have hML := hp.length_eq
  rw [hML] at hown2
  have HO2 := hid hown2
  have HB2 := hid (show Below w.heap.size w w2 from HB.out.trans (hch2.toBelow HB.out.size (fun i hi h => by omega)))
  have HD := hid (sort_ded hp hs)
  have HML := hid hML
  clear hown2 hch2 hML hp hs
  go_wp2_with fail
  have hcp := compact_keys w2 w.heap.size a c M (by have := HML.out; rw [this]; exact HO2.out)
  have hml := HML.out
  rw [hml] at hcp
  refine hcp.mono ?_
  rintro e w3 ⟨M3, hM3, rfl, HO3, hch3⟩
  rw [← hml, HD.out] at hM3
  subst hM3
  have HB3 := hid (show Below w.heap.size w w3 from HB2.out.trans (hch3.toBelow HB2.out.size (fun i hi h => by
    have := (own_lt HO2.out (k := i) (by rw [ownBlock_slice]; exact h)).1; omega)))
  clear hcp hml hch3
  go_wp2
  go_ret
  exact ⟨a, c, rfl, HO3.out, HB3.out⟩

set_option maxHeartbeats 400000 in
theorem own_brk (ep n ver : Int) (al : Bool) (v : Value) (L : List Ky) (w : World) (hv : Rd w v L.length (kyc L)) (hl : L.length * 24 ≤ 140737488355328) :
    Calls Try.prog 41 #[.agg #[.complex .f64 (fl ep) (fl n), .int .i64 ver, .bool al, v]] w fun e w' => ∃ a c, e = .returned (.agg #[.complex .f64 (fl ep) (fl n), .int .i64 ver, .bool al, .slice a L.length c]) ∧ w'.ownsRow w.heap.size 37 2 (.slice a L.length c) L.length (kyc L) ∧ Below w.heap.size w w' := by
  obtain ⟨a0, c0, rfl, _, _⟩ := hv.shape
  have HV := hid hv
  have k0 := hid (heap_old (heap_new w (.cells #[.complex .f64 (fl ep) (fl n), .int .i64 ver, .bool al, .slice a0 L.length c0] 41)) (.cells #[.complex .f64 0 0, .int .i64 0, .bool false, .slice none 0 0] 41))
  have k1 := heap_new (w.alloc (.cells #[.complex .f64 (fl ep) (fl n), .int .i64 ver, .bool al, .slice a0 L.length c0] 41)) (.cells #[.complex .f64 0 0, .int .i64 0, .bool false, .slice none 0 0] 41)
  simp only [World.size_alloc] at k1
  have K1 := hid k1
  have b0 := blk4 k0.out
  have b1 := blk4 k1
  clear hv k1
  go_enter Try.func41, Try.ntmps41
  go_wp2_with fail
  refine (clone_keys _ L _ ((HV.out.alloc _).alloc _) hl).mono ?_
  rintro e w1 ⟨a, c, rfl, hown, hb⟩
  have q0 := heap_below hb k0.out (by simp; omega)
  have q1 := heap_below hb K1.out (by simp)
  have bq0 := blk4 q0
  have bq1 := blk4 q1
  have Q0 := hid q0
  have Q1 := hid q1
  have HO := hid hown
  have HB := hid hb
  have hz := hb.size
  simp only [World.size_alloc] at hz
  clear b0 b1 q0 q1 hown hb
  go_wp2
  have u0 := heap_set Q0.out 3 (.slice a L.length c)
  refine bodyPost_ret (v := .agg #[.complex .f64 (fl ep) (fl n), .int .i64 ver, .bool al, .slice a L.length c]) ?_ rfl ⟨a, c, rfl, ?_, ?_⟩
  · simp [results, Try.results41, go_sem, bq1]
  · have h1 := ownsRow_mono (B' := w.heap.size) HO.out (by simp; omega)
    refine own_set (own_set (own_set (own_set (own_set h1 ?_ _ _) ?_ _ _) ?_ _ _) ?_ _ _) ?_ _ _
    all_goals first | exact own_ne h1 Q0.out (by decide) | exact own_ne h1 Q1.out (by decide)
  · have h2 := (bl2 w (.cells #[.complex .f64 (fl ep) (fl n), .int .i64 ver, .bool al, .slice a0 L.length c0] 41) (.cells #[.complex .f64 0 0, .int .i64 0, .bool false, .slice none 0 0] 41)).trans (HB.out.mono (by simp; omega))
    exact ((((h2.setCell (by simp) _).setCell (by simp) _).setCell (by simp) _).setCell (by simp) _).setCell (by simp) _

end Go.Proofs.Ytakkdaenindboaa
