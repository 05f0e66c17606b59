import Derived.Test.YtakkdaenindboaaVowG
namespace Go.Proofs.Ytakkdaenindboaa
set_option linter.unusedVariables false
set_option linter.unusedSimpArgs false
open Go.RowKit
attribute [local go_sem ↓] Go.wp_at_zero Go.wp_at_succ
attribute [local go_sem] run_store_complex run_store_float

def NewOk (e P Q : Int) : Prop := InM e ∧ (1 ≤ P ∧ P ≤ 32) ∧ (1 ≤ Q ∧ Q ≤ 16)

set_option maxHeartbeats 400000 in
theorem v_new_yes (w : World) (e P Q : Int) (h : NewOk e P Q) :
    Calls Try.prog 11 #[.int .i64 e, .int .i64 P, .int .i64 Q] w fun r w' => r = .returned (.tuple #[.pointer (some ⟨w.heap.size, 0, none⟩), .int .i64 0]) ∧ VAt w' (fun k => k = w.heap.size) w.heap.size ⟨e, 0, P, Q, [], []⟩ ∧ Below w.heap.size w w' := by
  have HH := hid h
  obtain ⟨he, ⟨p1, p2⟩, q1, q2⟩ := h
  have t1 : decide (P < 1) = false := decide_eq_false (by omega)
  have t2 : decide (P > 32) = false := decide_eq_false (by omega)
  have t2' : decide (32 < P) = false := t2
  have t3 : decide (Q < 1) = false := decide_eq_false (by omega)
  have t4 : decide (Q > 16) = false := decide_eq_false (by omega)
  have t4' : decide (16 < Q) = false := t4
  have HE := hid he
  clear he
  go_enter Try.func11, Try.ntmps11
  go_wp2_with fail
  refine (mark_at_yes e 0 HE.out ⟨by decide, by decide⟩ _).mono ?_; rintro r w1 ⟨rfl, rfl⟩
  go_wp2
  go_ret2
  have hh := HH.out
  refine ⟨rfl, ⟨⟨e, 0, P, Q, none, 0, [], none, 0, []⟩, ⟨⟨heap_new w _, rfl, World.ownsRow_nil _ _ _ _, by simp, World.ownsRow_nil _ _ _ _, by simp, by simp, by simp, by simp, by simp⟩, ⟨hh.1, ⟨by show (0:Int) ≤ 0; omega, by show (0:Int) ≤ 1099511627776; omega⟩, hh.2.1, hh.2.2, by show (0 : Int) ≤ P; omega, by show (0 : Int) ≤ Q; omega, by simp [Tb.pl]⟩⟩, rfl⟩, bl1 w _⟩

set_option maxHeartbeats 400000 in
theorem v_new_no (w : World) (e P Q : Int) (h : ¬ NewOk e P Q) :
    Calls Try.prog 11 #[.int .i64 e, .int .i64 P, .int .i64 Q] w fun r w' => r = .returned (.tuple #[.pointer none, .int .i64 1]) ∧ w = w' := by
  by_cases he : InM e
  · have HE := hid he
    unfold NewOk at h
    by_cases p1 : P < 1
    · have t1 : decide (P < 1) = true := decide_eq_true p1
      clear h he p1
      go_enter Try.func11, Try.ntmps11
      go_wp2_with fail
      refine (mark_at_yes e 0 HE.out ⟨by decide, by decide⟩ _).mono ?_; rintro r w1 ⟨rfl, rfl⟩
      go_wp2
      go_ret2
      exact ⟨rfl, rfl⟩
    · have t1 : decide (P < 1) = false := decide_eq_false p1
      by_cases p2 : P > 32
      · have t2 : decide (P > 32) = true := decide_eq_true p2
        have t2' : decide (32 < P) = true := t2
        clear h he p1 p2
        go_enter Try.func11, Try.ntmps11
        go_wp2_with fail
        refine (mark_at_yes e 0 HE.out ⟨by decide, by decide⟩ _).mono ?_; rintro r w1 ⟨rfl, rfl⟩
        go_wp2
        go_ret2
        exact ⟨rfl, rfl⟩
      · have t2 : decide (P > 32) = false := decide_eq_false p2
        have t2' : decide (32 < P) = false := t2
        by_cases q1 : Q < 1
        · have t3 : decide (Q < 1) = true := decide_eq_true q1
          clear h he p1 p2 q1
          go_enter Try.func11, Try.ntmps11
          go_wp2_with fail
          refine (mark_at_yes e 0 HE.out ⟨by decide, by decide⟩ _).mono ?_; rintro r w1 ⟨rfl, rfl⟩
          go_wp2
          go_ret2
          exact ⟨rfl, rfl⟩
        · have t3 : decide (Q < 1) = false := decide_eq_false q1
          have q2 : Q > 16 := by
            rcases Int.lt_or_le 16 Q with h2 | h2
            · exact h2
            · exact absurd ⟨he, ⟨by omega, by omega⟩, by omega, by omega⟩ h
          have t4 : decide (Q > 16) = true := decide_eq_true q2
          have t4' : decide (16 < Q) = true := t4
          clear h he p1 p2 q1 q2
          go_enter Try.func11, Try.ntmps11
          go_wp2_with fail
          refine (mark_at_yes e 0 HE.out ⟨by decide, by decide⟩ _).mono ?_; rintro r w1 ⟨rfl, rfl⟩
          go_wp2
          go_ret2
          exact ⟨rfl, rfl⟩
  · have HE := hid (show ¬ (InM e ∧ InM 0) from fun h => he h.1)
    clear h he
    go_enter Try.func11, Try.ntmps11
    go_wp2_with fail
    refine (mark_at_no e 0 HE.out _).mono ?_; rintro r w1 ⟨rfl, rfl⟩
    go_wp2
    go_ret2
    exact ⟨rfl, rfl⟩

end Go.Proofs.Ytakkdaenindboaa
