/- Parts of a proof about the given program, in build order: CmuM. No condition. -/
import Derived.Test.YtbjibkjenleloaaGreatDoorMg39
section
namespace Go.Proofs.YtbjibkjenleloaaGreatDoor
set_option linter.unusedVariables false
set_option linter.unusedSimpArgs false
open Go.RowKit
attribute [local go_sem ↓] Go.wp_at_zero Go.wp_at_succ
attribute [local go_sem] run_store_complex run_store_float


theorem mu_op (c2 : Cf) (k m : Int) (p1 oth s : ByteArray) (hg : k = 7 → oth = { data := #[116] }) : mutOp { cl0 1 1 c2 with busy := true, ck := k, cp := p1, co := oth, cm := m } (if k = 10 then [⟨1, s⟩, ⟨1, s⟩] else [⟨1, s⟩]) = opW k m s := by
  unfold mutOp opW
  by_cases h10 : k = 10
  · subst h10
    simp
    rfl
  · by_cases h7 : k = 7
    · rw [hg h7]
      subst h7
      simp
      rfl
    · simp [h10, h7]
      rfl
set_option maxRecDepth 100000 in
set_option maxHeartbeats 8000000 in
theorem mu_start (w w2 : World) (a : Act) (s p1 oth : ByteArray) (k m er ve : Int) (c t B p o q X O : Nat) (c2 : Cf) (K : Code) (Q : Exit → Act → World → Prop) (hs : a.tmps.size = 202) (hd : a.defers = []) (f1 : a.tmps.getD 1 undef = .string s) (f3 : a.tmps.getD 3 undef = .int .i64 er) (f4 : a.tmps.getD 4 undef = .int .i64 ve) (f7 : a.tmps.getD 7 undef = .pointer (some ⟨X, 0, none⟩)) (f11 : a.tmps.getD 11 undef = .pointer (some ⟨o, 0, none⟩)) (f13 : a.tmps.getD 13 undef = .pointer (some ⟨O, 0, none⟩))
    (hI : MuI w w2 c t B p 0 o q X (cl0 1 1 c2) (td0 1 1 c2.ho) []) (hX : w2.heap[X]? = some (.cells #[.int .i64 (k), .string (p1), .string (oth), .int .i64 (m)] 25 (0, 0))) (hO : w2.heap[O]? = some (.cells (opC (opW k m s)) 37 (0, 0))) (hOl : p < O ∧ c < O ∧ t < O)
    (h5 : 5 ≤ k) (h11 : k ≤ 11) (hr : rightP c2) (hp : parErr p1 = 0 ∧ stepsL p1 = [s]) (ho : k = 10 → parErr oth = 0 ∧ stepsL oth = [s]) (hg : k = 7 → oth = { data := #[116] }) (hm : 0 ≤ m ∧ m ≤ 511)
    (hK : ∀ (a : Act) (w3 : World), a.tmps.size = 202 → a.defers = [] → a.tmps.getD 1 undef = .string s → a.tmps.getD 3 undef = .int .i64 er → a.tmps.getD 4 undef = .int .i64 ve → a.tmps.getD 11 undef = .pointer (some ⟨o, 0, none⟩) →
      MuI w w3 c t B p 0 o q X (askedS { cl0 1 1 c2 with busy := true, ck := k, cp := p1, co := oth, cm := m } (td0 1 1 c2.ho) (opW k m s)) { td0 1 1 c2.ho with asked := 1 } [] → K.wp Tryz.prog Q a w3) :
    (cutN 2 (sndN 11 muBody) K).wp Tryz.prog Q a w2 := by
  have HKK := hid hK
  have h9 := frame202 a hs hd
  rw [f1, f3, f4, f7, f11, f13] at h9
  generalize a.tmps = u at h9
  subst h9
  have HI := hid hI
  have HO := hid hO
  have HLO := hid (And.intro hI.low (And.intro hI.ab hOl))
  have hli := hr.2.2.2.1
  have hst := start_mut w2 c t B p 0 (cl0 1 1 c2) (td0 1 1 c2.ho) k m p1 oth s s hI.at_ rfl h5 h11 hp.1 hp.2 ho (fun h => by rw [hg h]; decide +kernel) (fun _ => hm) hli.1 hli.2 (by decide) (show (0 : Int) ≤ 0 by decide) (show (0 : Int) < 1000000000000 by decide)
  rw [mu_op c2 k m p1 oth s hg] at hst
  obtain ⟨op, hop⟩ : ∃ op, op = opW k m s := ⟨_, rfl⟩
  rw [← hop] at HKK HO hst
  have HST := hid hst
  have bo := blk2 hI.o_
  have b := blk4 hX
  have hoz := blk_lt hI.o_
  clear hs hd f1 f3 f4 f7 f11 f13 hK hI hX hO hOl h5 h11 hr hp ho hg hm hli hst hop
  conv => pattern (sndN 11 muBody); whnf
  simp only [cutN]
  go_wp2_with fail
  refine HST.out.mono ?_; rintro e w3 ⟨g, rfl, ho3, hc3, hx3⟩
  have hlo := HLO.out
  have hno : ∀ j, p < j → c ≠ j → t ≠ j → ¬ (j = c ∨ j = t ∨ CF B p j) := fun j hj h1 h2 hf => by
    rcases hf with hf | hf | hf
    · exact h1 hf.symm
    · exact h2 hf.symm
    · have := hf.2; omega
  have HO3 := hid (heap_old (heap_chg hx3 HI.out.o_ (hno o (by omega) (by omega) (by omega))) (.cells #[.int .i64 0, .int .i64 0, .int .i64 0, .int .i64 0, .string ByteArray.empty, .slice none 0 0, .int .i64 0] 43))
  have hw3 := heap_old (heap_chg hx3 HO.out (hno O (by omega) (by omega) (by omega))) (.cells #[.int .i64 0, .int .i64 0, .int .i64 0, .int .i64 0, .string ByteArray.empty, .slice none 0 0, .int .i64 0] 43)
  unfold opC at hw3
  have HW3 := hid hw3
  have HC3 := hid (hc3.below (bl1 w3 (.cells #[.int .i64 0, .int .i64 0, .int .i64 0, .int .i64 0, .string ByteArray.empty, .slice none 0 0, .int .i64 0] 43)))
  have HR3 := hid (own_alloc ho3 (.cells #[.int .i64 0, .int .i64 0, .int .i64 0, .int .i64 0, .string ByteArray.empty, .slice none 0 0, .int .i64 0] 43))
  have hbel := HI.out.bel.trans (hx3.toBelow HI.out.bel.size fun i hi hf => by rcases hf with hf | hf | hf; omega; omega; (have := hf.1; omega))
  have HB3 := hid (hbel.trans ((bl1 w3 (.cells #[.int .i64 0, .int .i64 0, .int .i64 0, .int .i64 0, .string ByteArray.empty, .slice none 0 0, .int .i64 0] 43)).mono hbel.size))
  unfold An.v nd0
  have heq := fun W => eqIn_op op.kind op.dir op.to_ op.mode op.name op.new_ op.target W
  have hoz3 := blk_lt HO3.out
  have KR : (w3.alloc (.cells #[.int .i64 0, .int .i64 0, .int .i64 0, .int .i64 0, .string ByteArray.empty, .slice none 0 0, .int .i64 0] 43)).cell? ⟨o, 0, none⟩ = some (.pointer (some ⟨c, 0, none⟩)) ∧ (w3.alloc (.cells #[.int .i64 0, .int .i64 0, .int .i64 0, .int .i64 0, .string ByteArray.empty, .slice none 0 0, .int .i64 0] 43)).cell? ⟨g, 0, none⟩ = some (.int .i64 1) ∧ (w3.alloc (.cells #[.int .i64 0, .int .i64 0, .int .i64 0, .int .i64 0, .string ByteArray.empty, .slice none 0 0, .int .i64 0] 43)).cell? ⟨g, 3, none⟩ = some (.int .i64 1) ∧ (w3.alloc (.cells #[.int .i64 0, .int .i64 0, .int .i64 0, .int .i64 0, .string ByteArray.empty, .slice none 0 0, .int .i64 0] 43)).cell? ⟨g, 7, none⟩ = some (.int .i64 op.kind) ∧ (w3.alloc (.cells #[.int .i64 0, .int .i64 0, .int .i64 0, .int .i64 0, .string ByteArray.empty, .slice none 0 0, .int .i64 0] 43)).cell? ⟨g, 8, none⟩ = some (.int .i64 op.dir) ∧ (w3.alloc (.cells #[.int .i64 0, .int .i64 0, .int .i64 0, .int .i64 0, .string ByteArray.empty, .slice none 0 0, .int .i64 0] 43)).cell? ⟨g, 9, none⟩ = some (.string op.name) ∧ (w3.alloc (.cells #[.int .i64 0, .int .i64 0, .int .i64 0, .int .i64 0, .string ByteArray.empty, .slice none 0 0, .int .i64 0] 43)).cell? ⟨g, 10, none⟩ = some (.int .i64 op.to_) ∧ (w3.alloc (.cells #[.int .i64 0, .int .i64 0, .int .i64 0, .int .i64 0, .string ByteArray.empty, .slice none 0 0, .int .i64 0] 43)).cell? ⟨g, 11, none⟩ = some (.string op.new_) ∧ (w3.alloc (.cells #[.int .i64 0, .int .i64 0, .int .i64 0, .int .i64 0, .string ByteArray.empty, .slice none 0 0, .int .i64 0] 43)).cell? ⟨g, 12, none⟩ = some (.int .i64 op.mode) ∧ (w3.alloc (.cells #[.int .i64 0, .int .i64 0, .int .i64 0, .int .i64 0, .string ByteArray.empty, .slice none 0 0, .int .i64 0] 43)).cell? ⟨g, 13, none⟩ = some (.string op.target) ∧ (w3.alloc (.cells #[.int .i64 0, .int .i64 0, .int .i64 0, .int .i64 0, .string ByteArray.empty, .slice none 0 0, .int .i64 0] 43)).cell? ⟨O, 0, none⟩ = some (.int .i64 op.kind) ∧ (w3.alloc (.cells #[.int .i64 0, .int .i64 0, .int .i64 0, .int .i64 0, .string ByteArray.empty, .slice none 0 0, .int .i64 0] 43)).cell? ⟨O, 1, none⟩ = some (.int .i64 op.dir) ∧ (w3.alloc (.cells #[.int .i64 0, .int .i64 0, .int .i64 0, .int .i64 0, .string ByteArray.empty, .slice none 0 0, .int .i64 0] 43)).cell? ⟨O, 2, none⟩ = some (.string op.name) ∧ (w3.alloc (.cells #[.int .i64 0, .int .i64 0, .int .i64 0, .int .i64 0, .string ByteArray.empty, .slice none 0 0, .int .i64 0] 43)).cell? ⟨O, 3, none⟩ = some (.int .i64 op.to_) ∧ (w3.alloc (.cells #[.int .i64 0, .int .i64 0, .int .i64 0, .int .i64 0, .string ByteArray.empty, .slice none 0 0, .int .i64 0] 43)).cell? ⟨O, 4, none⟩ = some (.string op.new_) ∧ (w3.alloc (.cells #[.int .i64 0, .int .i64 0, .int .i64 0, .int .i64 0, .string ByteArray.empty, .slice none 0 0, .int .i64 0] 43)).cell? ⟨O, 5, none⟩ = some (.int .i64 op.mode) ∧ (w3.alloc (.cells #[.int .i64 0, .int .i64 0, .int .i64 0, .int .i64 0, .string ByteArray.empty, .slice none 0 0, .int .i64 0] 43)).cell? ⟨O, 6, none⟩ = some (.string op.target) := by
    have P6 := Rd.own HR3.out
    have b1 := blk7 HW3.out
    exact ⟨(blk2 HO3.out).1, by simpa using P6.at 0 (.int .i64 1) rfl, by simpa using P6.at 3 (.int .i64 1) rfl, by simpa using P6.at 7 (.int .i64 op.kind) rfl, by simpa using P6.at 8 (.int .i64 op.dir) rfl, by simpa using P6.at 9 (.string op.name) rfl, by simpa using P6.at 10 (.int .i64 op.to_) rfl, by simpa using P6.at 11 (.string op.new_) rfl, by simpa using P6.at 12 (.int .i64 op.mode) rfl, by simpa using P6.at 13 (.string op.target) rfl, b1.1, b1.2.1, b1.2.2.1, b1.2.2.2.1, b1.2.2.2.2.1, b1.2.2.2.2.2.1, b1.2.2.2.2.2.2.1⟩
  have KRd : (w3.alloc (.cells #[.int .i64 0, .int .i64 0, .int .i64 0, .int .i64 0, .string ByteArray.empty, .slice none 0 0, .int .i64 0] 43)).drew.cell? ⟨o, 0, none⟩ = some (.pointer (some ⟨c, 0, none⟩)) ∧ (w3.alloc (.cells #[.int .i64 0, .int .i64 0, .int .i64 0, .int .i64 0, .string ByteArray.empty, .slice none 0 0, .int .i64 0] 43)).drew.cell? ⟨g, 0, none⟩ = some (.int .i64 1) ∧ (w3.alloc (.cells #[.int .i64 0, .int .i64 0, .int .i64 0, .int .i64 0, .string ByteArray.empty, .slice none 0 0, .int .i64 0] 43)).drew.cell? ⟨g, 3, none⟩ = some (.int .i64 1) ∧ (w3.alloc (.cells #[.int .i64 0, .int .i64 0, .int .i64 0, .int .i64 0, .string ByteArray.empty, .slice none 0 0, .int .i64 0] 43)).drew.cell? ⟨g, 7, none⟩ = some (.int .i64 op.kind) ∧ (w3.alloc (.cells #[.int .i64 0, .int .i64 0, .int .i64 0, .int .i64 0, .string ByteArray.empty, .slice none 0 0, .int .i64 0] 43)).drew.cell? ⟨g, 8, none⟩ = some (.int .i64 op.dir) ∧ (w3.alloc (.cells #[.int .i64 0, .int .i64 0, .int .i64 0, .int .i64 0, .string ByteArray.empty, .slice none 0 0, .int .i64 0] 43)).drew.cell? ⟨g, 9, none⟩ = some (.string op.name) ∧ (w3.alloc (.cells #[.int .i64 0, .int .i64 0, .int .i64 0, .int .i64 0, .string ByteArray.empty, .slice none 0 0, .int .i64 0] 43)).drew.cell? ⟨g, 10, none⟩ = some (.int .i64 op.to_) ∧ (w3.alloc (.cells #[.int .i64 0, .int .i64 0, .int .i64 0, .int .i64 0, .string ByteArray.empty, .slice none 0 0, .int .i64 0] 43)).drew.cell? ⟨g, 11, none⟩ = some (.string op.new_) ∧ (w3.alloc (.cells #[.int .i64 0, .int .i64 0, .int .i64 0, .int .i64 0, .string ByteArray.empty, .slice none 0 0, .int .i64 0] 43)).drew.cell? ⟨g, 12, none⟩ = some (.int .i64 op.mode) ∧ (w3.alloc (.cells #[.int .i64 0, .int .i64 0, .int .i64 0, .int .i64 0, .string ByteArray.empty, .slice none 0 0, .int .i64 0] 43)).drew.cell? ⟨g, 13, none⟩ = some (.string op.target) ∧ (w3.alloc (.cells #[.int .i64 0, .int .i64 0, .int .i64 0, .int .i64 0, .string ByteArray.empty, .slice none 0 0, .int .i64 0] 43)).drew.cell? ⟨O, 0, none⟩ = some (.int .i64 op.kind) ∧ (w3.alloc (.cells #[.int .i64 0, .int .i64 0, .int .i64 0, .int .i64 0, .string ByteArray.empty, .slice none 0 0, .int .i64 0] 43)).drew.cell? ⟨O, 1, none⟩ = some (.int .i64 op.dir) ∧ (w3.alloc (.cells #[.int .i64 0, .int .i64 0, .int .i64 0, .int .i64 0, .string ByteArray.empty, .slice none 0 0, .int .i64 0] 43)).drew.cell? ⟨O, 2, none⟩ = some (.string op.name) ∧ (w3.alloc (.cells #[.int .i64 0, .int .i64 0, .int .i64 0, .int .i64 0, .string ByteArray.empty, .slice none 0 0, .int .i64 0] 43)).drew.cell? ⟨O, 3, none⟩ = some (.int .i64 op.to_) ∧ (w3.alloc (.cells #[.int .i64 0, .int .i64 0, .int .i64 0, .int .i64 0, .string ByteArray.empty, .slice none 0 0, .int .i64 0] 43)).drew.cell? ⟨O, 4, none⟩ = some (.string op.new_) ∧ (w3.alloc (.cells #[.int .i64 0, .int .i64 0, .int .i64 0, .int .i64 0, .string ByteArray.empty, .slice none 0 0, .int .i64 0] 43)).drew.cell? ⟨O, 5, none⟩ = some (.int .i64 op.mode) ∧ (w3.alloc (.cells #[.int .i64 0, .int .i64 0, .int .i64 0, .int .i64 0, .string ByteArray.empty, .slice none 0 0, .int .i64 0] 43)).drew.cell? ⟨O, 6, none⟩ = some (.string op.target) := KR
  obtain ⟨g0, hg0, _, hgz, _, _⟩ := own_loc HR3.out (by omega)
  simp only [Option.some.injEq, Addr.mk.injEq, and_true] at hg0
  subst hg0
  clear bo b hoz hlo hno hx3 hc3 ho3 hw3 hbel
  go_wp2_with fail
  go_region_held3 (fun w' => w'.cell? ⟨o, 0, none⟩ = some (.pointer (some ⟨c, 0, none⟩)) ∧ w'.cell? ⟨g, 0, none⟩ = some (.int .i64 1) ∧ w'.cell? ⟨g, 3, none⟩ = some (.int .i64 1) ∧ w'.cell? ⟨g, 7, none⟩ = some (.int .i64 op.kind) ∧ w'.cell? ⟨g, 8, none⟩ = some (.int .i64 op.dir) ∧ w'.cell? ⟨g, 9, none⟩ = some (.string op.name) ∧ w'.cell? ⟨g, 10, none⟩ = some (.int .i64 op.to_) ∧ w'.cell? ⟨g, 11, none⟩ = some (.string op.new_) ∧ w'.cell? ⟨g, 12, none⟩ = some (.int .i64 op.mode) ∧ w'.cell? ⟨g, 13, none⟩ = some (.string op.target) ∧ w'.cell? ⟨O, 0, none⟩ = some (.int .i64 op.kind) ∧ w'.cell? ⟨O, 1, none⟩ = some (.int .i64 op.dir) ∧ w'.cell? ⟨O, 2, none⟩ = some (.string op.name) ∧ w'.cell? ⟨O, 3, none⟩ = some (.int .i64 op.to_) ∧ w'.cell? ⟨O, 4, none⟩ = some (.string op.new_) ∧ w'.cell? ⟨O, 5, none⟩ = some (.int .i64 op.mode) ∧ w'.cell? ⟨O, 6, none⟩ = some (.string op.target))
    (first | with_reducible exact KR | with_reducible exact KRd)
    (first | (go_at_call 12; refine (cli_busy _ c t B p 0 _ _ [] _ HC3.out.drew).mono ?_; rintro e7 w4 ⟨rfl, rfl⟩))
  clear KR KRd
  go_wp2
  refine HKK.out _ _ ?_ ?_ ?_ ?_ ?_ ?_ ⟨HC3.out.drew, heap_drew HO3.out, HLO.out.1, HLO.out.2.1, HB3.out.drew⟩
  iterate 6 rfl
end Go.Proofs.YtbjibkjenleloaaGreatDoor

end
