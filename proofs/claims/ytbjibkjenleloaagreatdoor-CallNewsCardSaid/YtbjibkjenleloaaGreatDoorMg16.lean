/- Parts of a proof about the given program, in build order: CalA, CalB, CalC, CalD. No condition. -/
import Derived.Test.YtbjibkjenleloaaGreatDoorMg14
import Derived.Test.YtbjibkjenleloaaGreatDoorMg15
section
namespace Go.Proofs.YtbjibkjenleloaaGreatDoor
set_option linter.unusedVariables false
set_option linter.unusedSimpArgs false
open Go.RowKit
attribute [local go_sem ↓] Go.wp_at_zero Go.wp_at_succ
attribute [local go_sem] run_store_complex run_store_float


set_option maxHeartbeats 400000 in
theorem within_yes (x lo hi : Int) (h1 : lo ≤ x) (h2 : x ≤ hi) (w : World) : Calls Tryz.prog 53 #[.int .i64 x, .int .i64 lo, .int .i64 hi] w fun e w' => e = .returned (.bool true) ∧ w = w' := by
  have d1 : decide (x ≥ lo) = true := by simp; omega
  have d2 : decide (x ≤ hi) = true := by simp; omega
  have d3 : decide (lo ≤ x) = true := by simp; omega
  clear h1 h2
  go_enter Tryz.func53, Tryz.ntmps53
  go_wp2
  go_ret
  exact ⟨rfl, rfl⟩
set_option maxHeartbeats 400000 in
theorem within_no (x lo hi : Int) (h : ¬ (lo ≤ x ∧ x ≤ hi)) (w : World) : Calls Tryz.prog 53 #[.int .i64 x, .int .i64 lo, .int .i64 hi] w fun e w' => e = .returned (.bool false) ∧ w = w' := by
  by_cases h1 : lo ≤ x
  · have d1 : decide (x ≥ lo) = true := by simp; omega
    have d2 : decide (x ≤ hi) = false := by simp; omega
    have d3 : decide (lo ≤ x) = true := by simp; omega
    clear h h1
    go_enter Tryz.func53, Tryz.ntmps53
    go_wp2
    go_ret
    exact ⟨rfl, rfl⟩
  · have d1 : decide (x ≥ lo) = false := by simp; omega
    have d3 : decide (lo ≤ x) = false := by simp; omega
    clear h h1
    go_enter Tryz.func53, Tryz.ntmps53
    go_wp2
    go_ret
    exact ⟨rfl, rfl⟩
/-- limits -/
structure Cf where
  cl : Int
  de : Int
  ne : Int
  li : Int
  pr : Int
  qu : Int
  ho : Int
def Cf.v (s : Cf) : Value := .agg #[.int .i64 s.cl, .int .i64 s.de, .int .i64 s.ne, .int .i64 s.li, .int .i64 s.pr, .int .i64 s.qu, .int .i64 s.ho]
def rightP (s : Cf) : Prop := (1 ≤ s.cl ∧ s.cl ≤ 4) ∧ (1 ≤ s.de ∧ s.de ≤ 64) ∧ (1 ≤ s.ne ∧ s.ne ≤ 16) ∧ (0 ≤ s.li ∧ s.li ≤ 8) ∧ (1 ≤ s.pr ∧ s.pr ≤ 32) ∧ (1 ≤ s.qu ∧ s.qu ≤ 16) ∧ (0 ≤ s.ho ∧ s.ho ≤ 8)
set_option maxHeartbeats 4000000 in
theorem right_yes (s : Cf) (h : rightP s) (w : World) : Calls Tryz.prog 46 #[s.v] w fun e w' => e = .returned (.bool true) ∧ Below w.heap.size w w' := by
  obtain ⟨c0, c1, c2, c3, c4, c5, c6⟩ := h
  have b := blk7 (heap_new w (.cells #[.int .i64 s.cl, .int .i64 s.de, .int .i64 s.ne, .int .i64 s.li, .int .i64 s.pr, .int .i64 s.qu, .int .i64 s.ho] 23))
  have HB := hid (bl1 w (.cells #[.int .i64 s.cl, .int .i64 s.de, .int .i64 s.ne, .int .i64 s.li, .int .i64 s.pr, .int .i64 s.qu, .int .i64 s.ho] 23))
  unfold Cf.v
  go_enter Tryz.func46, Tryz.ntmps46
  go_wp2_with fail
  refine (within_yes _ _ _ (by omega) (by omega) _).mono ?_; rintro e w1 ⟨rfl, rfl⟩
  go_wp2_with fail
  refine (within_yes _ _ _ (by omega) (by omega) _).mono ?_; rintro e w1 ⟨rfl, rfl⟩
  go_wp2_with fail
  refine (within_yes _ _ _ (by omega) (by omega) _).mono ?_; rintro e w1 ⟨rfl, rfl⟩
  go_wp2_with fail
  refine (within_yes _ _ _ (by omega) (by omega) _).mono ?_; rintro e w1 ⟨rfl, rfl⟩
  go_wp2_with fail
  refine (within_yes _ _ _ (by omega) (by omega) _).mono ?_; rintro e w1 ⟨rfl, rfl⟩
  go_wp2_with fail
  refine (within_yes _ _ _ (by omega) (by omega) _).mono ?_; rintro e w1 ⟨rfl, rfl⟩
  go_wp2_with fail
  refine (within_yes _ _ _ (by omega) (by omega) _).mono ?_; rintro e w1 ⟨rfl, rfl⟩
  go_wp2_with fail
  go_ret
  exact ⟨rfl, HB.out⟩
set_option maxHeartbeats 8000000 in
theorem right_no (s : Cf) (h : ¬ rightP s) (w : World) : Calls Tryz.prog 46 #[s.v] w fun e w' => e = .returned (.bool false) ∧ Below w.heap.size w w' := by
  have b := blk7 (heap_new w (.cells #[.int .i64 s.cl, .int .i64 s.de, .int .i64 s.ne, .int .i64 s.li, .int .i64 s.pr, .int .i64 s.qu, .int .i64 s.ho] 23))
  have HB := hid (bl1 w (.cells #[.int .i64 s.cl, .int .i64 s.de, .int .i64 s.ne, .int .i64 s.li, .int .i64 s.pr, .int .i64 s.qu, .int .i64 s.ho] 23))
  unfold rightP at h
  unfold Cf.v
  by_cases c0 : 1 ≤ s.cl ∧ s.cl ≤ 4
  · by_cases c1 : 1 ≤ s.de ∧ s.de ≤ 64
    · by_cases c2 : 1 ≤ s.ne ∧ s.ne ≤ 16
      · by_cases c3 : 0 ≤ s.li ∧ s.li ≤ 8
        · by_cases c4 : 1 ≤ s.pr ∧ s.pr ≤ 32
          · by_cases c5 : 1 ≤ s.qu ∧ s.qu ≤ 16
            · by_cases c6 : 0 ≤ s.ho ∧ s.ho ≤ 8
              · exact absurd ⟨c0, c1, c2, c3, c4, c5, c6⟩ h
              · clear h
                go_enter Tryz.func46, Tryz.ntmps46
                go_wp2_with fail
                refine (within_yes _ _ _ (by omega) (by omega) _).mono ?_; rintro e w1 ⟨rfl, rfl⟩
                go_wp2_with fail
                refine (within_yes _ _ _ (by omega) (by omega) _).mono ?_; rintro e w1 ⟨rfl, rfl⟩
                go_wp2_with fail
                refine (within_yes _ _ _ (by omega) (by omega) _).mono ?_; rintro e w1 ⟨rfl, rfl⟩
                go_wp2_with fail
                refine (within_yes _ _ _ (by omega) (by omega) _).mono ?_; rintro e w1 ⟨rfl, rfl⟩
                go_wp2_with fail
                refine (within_yes _ _ _ (by omega) (by omega) _).mono ?_; rintro e w1 ⟨rfl, rfl⟩
                go_wp2_with fail
                refine (within_yes _ _ _ (by omega) (by omega) _).mono ?_; rintro e w1 ⟨rfl, rfl⟩
                go_wp2_with fail
                refine (within_no _ _ _ (by omega) _).mono ?_; rintro e w1 ⟨rfl, rfl⟩
                go_wp2_with fail
                go_ret
                exact ⟨rfl, HB.out⟩
            · clear h
              go_enter Tryz.func46, Tryz.ntmps46
              go_wp2_with fail
              refine (within_yes _ _ _ (by omega) (by omega) _).mono ?_; rintro e w1 ⟨rfl, rfl⟩
              go_wp2_with fail
              refine (within_yes _ _ _ (by omega) (by omega) _).mono ?_; rintro e w1 ⟨rfl, rfl⟩
              go_wp2_with fail
              refine (within_yes _ _ _ (by omega) (by omega) _).mono ?_; rintro e w1 ⟨rfl, rfl⟩
              go_wp2_with fail
              refine (within_yes _ _ _ (by omega) (by omega) _).mono ?_; rintro e w1 ⟨rfl, rfl⟩
              go_wp2_with fail
              refine (within_yes _ _ _ (by omega) (by omega) _).mono ?_; rintro e w1 ⟨rfl, rfl⟩
              go_wp2_with fail
              refine (within_no _ _ _ (by omega) _).mono ?_; rintro e w1 ⟨rfl, rfl⟩
              go_wp2_with fail
              go_ret
              exact ⟨rfl, HB.out⟩
          · clear h
            go_enter Tryz.func46, Tryz.ntmps46
            go_wp2_with fail
            refine (within_yes _ _ _ (by omega) (by omega) _).mono ?_; rintro e w1 ⟨rfl, rfl⟩
            go_wp2_with fail
            refine (within_yes _ _ _ (by omega) (by omega) _).mono ?_; rintro e w1 ⟨rfl, rfl⟩
            go_wp2_with fail
            refine (within_yes _ _ _ (by omega) (by omega) _).mono ?_; rintro e w1 ⟨rfl, rfl⟩
            go_wp2_with fail
            refine (within_yes _ _ _ (by omega) (by omega) _).mono ?_; rintro e w1 ⟨rfl, rfl⟩
            go_wp2_with fail
            refine (within_no _ _ _ (by omega) _).mono ?_; rintro e w1 ⟨rfl, rfl⟩
            go_wp2_with fail
            go_ret
            exact ⟨rfl, HB.out⟩
        · clear h
          go_enter Tryz.func46, Tryz.ntmps46
          go_wp2_with fail
          refine (within_yes _ _ _ (by omega) (by omega) _).mono ?_; rintro e w1 ⟨rfl, rfl⟩
          go_wp2_with fail
          refine (within_yes _ _ _ (by omega) (by omega) _).mono ?_; rintro e w1 ⟨rfl, rfl⟩
          go_wp2_with fail
          refine (within_yes _ _ _ (by omega) (by omega) _).mono ?_; rintro e w1 ⟨rfl, rfl⟩
          go_wp2_with fail
          refine (within_no _ _ _ (by omega) _).mono ?_; rintro e w1 ⟨rfl, rfl⟩
          go_wp2_with fail
          go_ret
          exact ⟨rfl, HB.out⟩
      · clear h
        go_enter Tryz.func46, Tryz.ntmps46
        go_wp2_with fail
        refine (within_yes _ _ _ (by omega) (by omega) _).mono ?_; rintro e w1 ⟨rfl, rfl⟩
        go_wp2_with fail
        refine (within_yes _ _ _ (by omega) (by omega) _).mono ?_; rintro e w1 ⟨rfl, rfl⟩
        go_wp2_with fail
        refine (within_no _ _ _ (by omega) _).mono ?_; rintro e w1 ⟨rfl, rfl⟩
        go_wp2_with fail
        go_ret
        exact ⟨rfl, HB.out⟩
    · clear h
      go_enter Tryz.func46, Tryz.ntmps46
      go_wp2_with fail
      refine (within_yes _ _ _ (by omega) (by omega) _).mono ?_; rintro e w1 ⟨rfl, rfl⟩
      go_wp2_with fail
      refine (within_no _ _ _ (by omega) _).mono ?_; rintro e w1 ⟨rfl, rfl⟩
      go_wp2_with fail
      go_ret
      exact ⟨rfl, HB.out⟩
  · clear h
    go_enter Tryz.func46, Tryz.ntmps46
    go_wp2_with fail
    refine (within_no _ _ _ (by omega) _).mono ?_; rintro e w1 ⟨rfl, rfl⟩
    go_wp2_with fail
    go_ret
    exact ⟨rfl, HB.out⟩
/-- a client; what it asked -/
structure Cl where
  id : Int
  life : Int
  cf : Cf
  seq : Int
  busy : Bool
  ck : Int
  cp : ByteArray
  co : ByteArray
  cm : Int
  am : Ms
def cli (t p : Nat) (s : Cl) : Array Value := #[.int .i64 s.id, .int .i64 s.life, .int .i64 s.cf.cl, .int .i64 s.cf.de, .int .i64 s.cf.ne, .int .i64 s.cf.li, .int .i64 s.cf.pr, .int .i64 s.cf.qu, .int .i64 s.cf.ho, .pointer (some ⟨t, 0, none⟩), .pointer (some ⟨p, 0, none⟩), .int .i64 s.seq, .bool s.busy, .int .i64 s.ck, .string s.cp, .string s.co, .int .i64 s.cm, .int .i64 s.am.kind, .int .i64 s.am.client, .int .i64 s.am.life, .int .i64 s.am.seq, .complex .f64 (fl s.am.me) (fl s.am.mn), .int .i64 s.am.ver, .int .i64 s.am.err, .int .i64 s.am.op.kind, .int .i64 s.am.op.dir, .string s.am.op.name, .int .i64 s.am.op.to_, .string s.am.op.new_, .int .i64 s.am.op.mode, .string s.am.op.target, .slice none 0 0, .slice none 0 0]
structure CliAt (w : World) (c t B p n : Nat) (s : Cl) (td : Td) (L : List En) (wh : Int → Bool) : Prop where
  hc : w.heap[c]? = some (.cells (cli t p s) 86 (0, 0))
  ht : TidAt w t td
  hp : CAt w B p n L wh
  ncp : ¬ CF B p c
  ntp : ¬ CF B p t
theorem cell_of {w : World} {k T : Nat} {cs : Array Value} (h : w.heap[k]? = some (.cells cs T (0, 0))) (i : Nat) (v : Value) (hi : cs[i]? = some v) : w.cell? ⟨k, i, none⟩ = some v ∧ w.frozen? ⟨k, i, none⟩ = false := by
  simp [World.cell?, World.frozen?, h, hi]
theorem CliAt.below {w w' : World} {c t B p n : Nat} {s : Cl} {td : Td} {L : List En} {wh : Int → Bool} (h : CliAt w c t B p n s td L wh) (hb : Below w.heap.size w w') : CliAt w' c t B p n s td L wh :=
  ⟨heap_below hb h.hc (blk_lt h.hc), h.ht.below hb, h.hp.below hb, h.ncp, h.ntp⟩
set_option maxHeartbeats 400000 in
theorem cli_busy (w : World) (c t B p n : Nat) (s : Cl) (td : Td) (L : List En) (wh : Int → Bool) (h : CliAt w c t B p n s td L wh) : Calls Tryz.prog 12 #[.pointer (some ⟨c, 0, none⟩)] w fun e w' => e = .returned (.bool s.busy) ∧ w = w' := by
  have b := cell_of h.hc 12 (.bool s.busy) rfl
  clear h
  go_enter Tryz.func12, Tryz.ntmps12
  go_wp2
  go_ret
  exact ⟨rfl, rfl⟩
set_option maxHeartbeats 400000 in
theorem cli_version (w : World) (c t B p n : Nat) (s : Cl) (td : Td) (L : List En) (wh : Int → Bool) (h : CliAt w c t B p n s td L wh) : Calls Tryz.prog 25 #[.pointer (some ⟨c, 0, none⟩)] w fun e w' => e = .returned (.int .i64 td.ver) ∧ w = w' := by
  have b := cell_of h.hc 9 (.pointer (some ⟨t, 0, none⟩)) rfl
  have HT := hid h.ht
  clear h
  go_enter Tryz.func25, Tryz.ntmps25
  go_wp2_with fail
  refine (tide_version _ t td HT.out).mono ?_; rintro e w1 ⟨rfl, rfl⟩
  go_wp2
  go_ret
  exact ⟨rfl, rfl⟩
set_option maxHeartbeats 400000 in
theorem cli_mark (w : World) (c t B p n : Nat) (s : Cl) (td : Td) (L : List En) (wh : Int → Bool) (h : CliAt w c t B p n s td L wh) : Calls Tryz.prog 21 #[.pointer (some ⟨c, 0, none⟩)] w fun e w' => e = .returned (.complex .f64 (fl td.me) (fl td.mn)) ∧ w = w' := by
  have b := cell_of h.hc 9 (.pointer (some ⟨t, 0, none⟩)) rfl
  have HT := hid h.ht
  clear h
  go_enter Tryz.func21, Tryz.ntmps21
  go_wp2_with fail
  refine (tide_mark _ t td HT.out).mono ?_; rintro e w1 ⟨rfl, rfl⟩
  go_wp2
  go_ret
  exact ⟨rfl, rfl⟩
set_option maxHeartbeats 400000 in
theorem cli_held (w : World) (c t B p n : Nat) (s : Cl) (td : Td) (L : List En) (wh : Int → Bool) (h : CliAt w c t B p n s td L wh) : Calls Tryz.prog 26 #[.pointer (some ⟨c, 0, none⟩)] w fun e w' => e = .returned (.int .i64 0) ∧ w = w' := by
  have b := cell_of h.hc 9 (.pointer (some ⟨t, 0, none⟩)) rfl
  have HT := hid h.ht
  clear h
  go_enter Tryz.func26, Tryz.ntmps26
  go_wp2_with fail
  refine (tide_held _ t td HT.out).mono ?_; rintro e w1 ⟨rfl, rfl⟩
  go_wp2
  go_ret
  exact ⟨rfl, rfl⟩
set_option maxHeartbeats 400000 in
theorem cli_whole (w : World) (c t B p n : Nat) (s : Cl) (td : Td) (L : List En) (wh : Int → Bool) (d : Int) (h : CliAt w c t B p n s td L wh) : Calls Tryz.prog 16 #[.pointer (some ⟨c, 0, none⟩), .int .i64 d] w fun e w' => e = .returned (.bool (wh d)) ∧ w = w' := by
  have b := cell_of h.hc 10 (.pointer (some ⟨p, 0, none⟩)) rfl
  have HP := hid h.hp
  clear h
  go_enter Tryz.func16, Tryz.ntmps16
  go_wp2_with fail
  refine (c_whole _ B p n L wh d HP.out).mono ?_; rintro e w1 ⟨rfl, rfl⟩
  go_wp2
  go_ret
  exact ⟨rfl, rfl⟩
set_option maxHeartbeats 400000 in
theorem cli_entries (w : World) (c t B p n : Nat) (s : Cl) (td : Td) (L : List En) (wh : Int → Bool) (h : CliAt w c t B p n s td L wh) (hn : n * 80 ≤ 140737488351232) : Calls Tryz.prog 14 #[.pointer (some ⟨c, 0, none⟩)] w fun e w' => ∃ a c, e = .returned (.slice a L.length c) ∧ w'.ownsRow w.heap.size 55 7 (.slice a L.length c) L.length (ecs L) ∧ Below w.heap.size w w' := by
  have b := cell_of h.hc 10 (.pointer (some ⟨p, 0, none⟩)) rfl
  have HP := hid h.hp
  clear h
  go_enter Tryz.func14, Tryz.ntmps14
  go_wp2_with fail
  refine (c_entries _ B p n L wh HP.out hn).mono ?_; rintro e w1 ⟨a, c1, rfl, h1, h2⟩
  have H1 := hid (And.intro h1 h2)
  clear h1 h2
  go_wp2
  go_ret
  exact ⟨a, c1, rfl, H1.out.1, H1.out.2⟩
end Go.Proofs.YtbjibkjenleloaaGreatDoor

end

section
namespace Go.Proofs.YtbjibkjenleloaaGreatDoor
set_option linter.unusedVariables false
set_option linter.unusedSimpArgs false
open Go.RowKit
attribute [local go_sem ↓] Go.wp_at_zero Go.wp_at_succ
attribute [local go_sem] run_store_complex run_store_float


theorem blk7c {w : World} {k t : Nat} {x0 x1 x2 x3 x4 x5 x6 : Value} (h : w.heap[k]? = some (.cells #[x0, x1, x2, x3, x4, x5, x6] t (0, 0))) (o : Obj) :
    (w.alloc o).cell? ⟨k, 0, none⟩ = some x0 ∧ (w.alloc o).cell? ⟨k, 1, none⟩ = some x1 ∧ (w.alloc o).cell? ⟨k, 2, none⟩ = some x2 ∧ (w.alloc o).cell? ⟨k, 3, none⟩ = some x3 ∧ (w.alloc o).cell? ⟨k, 4, none⟩ = some x4 ∧ (w.alloc o).cell? ⟨k, 5, none⟩ = some x5 ∧ (w.alloc o).cell? ⟨k, 6, none⟩ = some x6 := by
  have n3 := blk7 (heap_old h o)
  exact ⟨n3.1, n3.2.1, n3.2.2.1, n3.2.2.2.1, n3.2.2.2.2.1, n3.2.2.2.2.2.1, n3.2.2.2.2.2.2.1⟩
def op0 : Op7 := ⟨0, 0, ByteArray.empty, 0, ByteArray.empty, 0, ByteArray.empty⟩
def ms0 : Ms := ⟨0, 0, 0, 0, 0, 0, 0, 0, op0, none, 0, 0, none, 0, 0⟩
def cl0 (id life : Int) (cf : Cf) : Cl := ⟨id, life, cf, 0, false, 0, ByteArray.empty, ByteArray.empty, 0, ms0⟩
def td0 (id life ho : Int) : Td := ⟨id, life, ho, 0, 0, 0, 0⟩
set_option maxHeartbeats 2000000 in
theorem call_new_no (id life : Int) (cf : Cf) (h : ¬ (newOK id life cf.ho ∧ rightP cf ∧ id ≤ cf.cl)) (w : World) : Calls Tryz.prog 24 #[.int .i64 id, .int .i64 life, cf.v] w fun e w' => e = .returned (.tuple #[.pointer none, .int .i64 1]) ∧ Below w.heap.size w w' := by
  have b := blk7 (heap_new w (.cells #[.int .i64 cf.cl, .int .i64 cf.de, .int .i64 cf.ne, .int .i64 cf.li, .int .i64 cf.pr, .int .i64 cf.qu, .int .i64 cf.ho] 23))
  have HN := hid (heap_new w (.cells #[.int .i64 cf.cl, .int .i64 cf.de, .int .i64 cf.ne, .int .i64 cf.li, .int .i64 cf.pr, .int .i64 cf.qu, .int .i64 cf.ho] 23))
  have HB := hid (bl1 w (.cells #[.int .i64 cf.cl, .int .i64 cf.de, .int .i64 cf.ne, .int .i64 cf.li, .int .i64 cf.pr, .int .i64 cf.qu, .int .i64 cf.ho] 23))
  by_cases c1 : newOK id life cf.ho
  · have HO := hid c1
    by_cases c2 : rightP cf
    · have HR := hid (right_yes cf c2)
      have c3 : ¬ id ≤ cf.cl := fun c3 => h ⟨c1, c2, c3⟩
      have d1 : decide (id > cf.cl) = true := by simp; omega
      have d2 : decide (cf.cl < id) = true := by simp; omega
      clear h c1 c2 c3
      unfold Cf.v at HR ⊢
      go_enter Tryz.func24, Tryz.ntmps24
      go_wp2_with fail
      refine (tide_new _ _ _ HO.out _).mono ?_; rintro e w1 ⟨rfl, ht1, hb1⟩
      have HB1 := hid (HB.out.trans (hb1.mono HB.out.size))
      have hn1 := heap_below hb1 HN.out (blk_lt HN.out)
      have HN1 := hid hn1
      have b1 := blk7 hn1
      clear b hn1 ht1 hb1 HN
      go_wp2_with fail
      refine (HR.out _).mono ?_; rintro e w2 ⟨rfl, hb2⟩
      have HB2 := hid (HB1.out.trans (hb2.mono HB1.out.size))
      have b2 := blk7 (heap_below hb2 HN1.out (blk_lt HN1.out))
      clear b1 hb2 HN1
      go_wp2
      go_ret2
      exact ⟨rfl, HB2.out⟩
    · have HR := hid (right_no cf c2)
      clear h c1 c2
      unfold Cf.v at HR ⊢
      go_enter Tryz.func24, Tryz.ntmps24
      go_wp2_with fail
      refine (tide_new _ _ _ HO.out _).mono ?_; rintro e w1 ⟨rfl, ht1, hb1⟩
      have HB1 := hid (HB.out.trans (hb1.mono HB.out.size))
      have b1 := blk7 (heap_below hb1 HN.out (blk_lt HN.out))
      clear b ht1 hb1 HN
      go_wp2_with fail
      refine (HR.out _).mono ?_; rintro e w2 ⟨rfl, hb2⟩
      have HB2 := hid (HB1.out.trans (hb2.mono HB1.out.size))
      clear b1 hb2
      go_wp2
      go_ret2
      exact ⟨rfl, HB2.out⟩
  · have HO := hid c1
    clear h c1
    unfold Cf.v
    go_enter Tryz.func24, Tryz.ntmps24
    go_wp2_with fail
    refine (tide_new_no _ _ _ HO.out _).mono ?_; rintro e w1 ⟨rfl, rfl⟩
    go_wp2
    go_ret2
    exact ⟨rfl, HB.out⟩
set_option maxRecDepth 100000 in
set_option maxHeartbeats 4000000 in
theorem call_new (id life : Int) (cf : Cf) (c1 : newOK id life cf.ho) (c2 : rightP cf) (c3 : id ≤ cf.cl) (w : World) : Calls Tryz.prog 24 #[.int .i64 id, .int .i64 life, cf.v] w fun e w' => ∃ c t B p, e = .returned (.tuple #[.pointer (some ⟨c, 0, none⟩), .int .i64 0]) ∧ CliAt w' c t B p 0 (cl0 id life cf) (td0 id life cf.ho) [] (fun _ => false) ∧ w.heap.size ≤ c ∧ w.heap.size ≤ t ∧ w.heap.size ≤ B ∧ Below w.heap.size w w' := by
  have b := blk7 (heap_new w (.cells #[.int .i64 cf.cl, .int .i64 cf.de, .int .i64 cf.ne, .int .i64 cf.li, .int .i64 cf.pr, .int .i64 cf.qu, .int .i64 cf.ho] 23))
  have HN := hid (heap_new w (.cells #[.int .i64 cf.cl, .int .i64 cf.de, .int .i64 cf.ne, .int .i64 cf.li, .int .i64 cf.pr, .int .i64 cf.qu, .int .i64 cf.ho] 23))
  have HB := hid (bl1 w (.cells #[.int .i64 cf.cl, .int .i64 cf.de, .int .i64 cf.ne, .int .i64 cf.li, .int .i64 cf.pr, .int .i64 cf.qu, .int .i64 cf.ho] 23))
  have HO := hid c1
  have HR := hid (right_yes cf c2)
  have d1 : decide (id > cf.cl) = false := by simp; omega
  have d2 : decide (cf.cl < id) = false := by simp; omega
  clear c1 c2 c3
  unfold Cf.v at HR ⊢
  go_enter Tryz.func24, Tryz.ntmps24
  go_wp2_with fail
  refine (tide_new _ _ _ HO.out _).mono ?_; rintro e w1 ⟨rfl, ht1, hb1⟩
  have HB1 := hid (HB.out.trans (hb1.mono HB.out.size))
  have hn1 := heap_below hb1 HN.out (blk_lt HN.out)
  have HN1 := hid hn1
  have HT1 := hid ht1
  obtain ⟨q, hq⟩ : ∃ q, q = (w.alloc (.cells #[.int .i64 cf.cl, .int .i64 cf.de, .int .i64 cf.ne, .int .i64 cf.li, .int .i64 cf.pr, .int .i64 cf.qu, .int .i64 cf.ho] 23)).heap.size := ⟨_, rfl⟩
  have HQ := hid (show w.heap.size ≤ q by rw [hq]; simp)
  rw [← hq] at HT1 ⊢
  have b1 := blk7 hn1
  clear b hn1 ht1 hb1 HN hq
  go_wp2_with fail
  refine (HR.out _).mono ?_; rintro e w2 ⟨rfl, hb2⟩
  have HB2 := hid (HB1.out.trans (hb2.mono HB1.out.size))
  have hn2 := heap_below hb2 HN1.out (blk_lt HN1.out)
  have HN2 := hid hn2
  have HT2 := hid (HT1.out.below hb2)
  have b2 := blk7 hn2
  have KR : w2.cell? ⟨w.heap.size, 0, none⟩ = some (.int .i64 cf.cl) ∧ w2.cell? ⟨w.heap.size, 1, none⟩ = some (.int .i64 cf.de) ∧ w2.cell? ⟨w.heap.size, 2, none⟩ = some (.int .i64 cf.ne) ∧ w2.cell? ⟨w.heap.size, 3, none⟩ = some (.int .i64 cf.li) ∧ w2.cell? ⟨w.heap.size, 4, none⟩ = some (.int .i64 cf.pr) ∧ w2.cell? ⟨w.heap.size, 5, none⟩ = some (.int .i64 cf.qu) ∧ w2.cell? ⟨w.heap.size, 6, none⟩ = some (.int .i64 cf.ho) := ⟨b2.1, b2.2.1, b2.2.2.1, b2.2.2.2.1, b2.2.2.2.2.1, b2.2.2.2.2.2.1, b2.2.2.2.2.2.2.1⟩
  have KRd : w2.drew.cell? ⟨w.heap.size, 0, none⟩ = some (.int .i64 cf.cl) ∧ w2.drew.cell? ⟨w.heap.size, 1, none⟩ = some (.int .i64 cf.de) ∧ w2.drew.cell? ⟨w.heap.size, 2, none⟩ = some (.int .i64 cf.ne) ∧ w2.drew.cell? ⟨w.heap.size, 3, none⟩ = some (.int .i64 cf.li) ∧ w2.drew.cell? ⟨w.heap.size, 4, none⟩ = some (.int .i64 cf.pr) ∧ w2.drew.cell? ⟨w.heap.size, 5, none⟩ = some (.int .i64 cf.qu) ∧ w2.drew.cell? ⟨w.heap.size, 6, none⟩ = some (.int .i64 cf.ho) := KR
  clear b1 hn2 hb2 HN1 HT1
  go_wp2_with fail
  go_region_held3 (fun w' => w'.cell? ⟨w.heap.size, 0, none⟩ = some (.int .i64 cf.cl) ∧ w'.cell? ⟨w.heap.size, 1, none⟩ = some (.int .i64 cf.de) ∧ w'.cell? ⟨w.heap.size, 2, none⟩ = some (.int .i64 cf.ne) ∧ w'.cell? ⟨w.heap.size, 3, none⟩ = some (.int .i64 cf.li) ∧ w'.cell? ⟨w.heap.size, 4, none⟩ = some (.int .i64 cf.pr) ∧ w'.cell? ⟨w.heap.size, 5, none⟩ = some (.int .i64 cf.qu) ∧ w'.cell? ⟨w.heap.size, 6, none⟩ = some (.int .i64 cf.ho))
    (first | with_reducible exact KR | with_reducible exact KRd | with_reducible exact K3 | with_reducible exact blk7c HN3.out _)
    (first | (go_at_call 47; refine (c_new _).mono ?_; rintro e w3 ⟨rfl, hc3, hb3⟩; (have HC3 := hid hc3); (have HB3 := hid (HB2.out.drew.trans (hb3.mono HB2.out.drew.size))); (have HT3 := hid (TidAt.below (w := w2.drew) HT2.out hb3)); (have hn3 := heap_below (w := w2.drew) hb3 HN2.out (blk_lt HN2.out)); (have HN3 := hid hn3); (have n3 := blk7 hn3); (have K3 : w3.cell? ⟨w.heap.size, 0, none⟩ = some (.int .i64 cf.cl) ∧ w3.cell? ⟨w.heap.size, 1, none⟩ = some (.int .i64 cf.de) ∧ w3.cell? ⟨w.heap.size, 2, none⟩ = some (.int .i64 cf.ne) ∧ w3.cell? ⟨w.heap.size, 3, none⟩ = some (.int .i64 cf.li) ∧ w3.cell? ⟨w.heap.size, 4, none⟩ = some (.int .i64 cf.pr) ∧ w3.cell? ⟨w.heap.size, 5, none⟩ = some (.int .i64 cf.qu) ∧ w3.cell? ⟨w.heap.size, 6, none⟩ = some (.int .i64 cf.ho) := ⟨n3.1, n3.2.1, n3.2.2.1, n3.2.2.2.1, n3.2.2.2.2.1, n3.2.2.2.2.2.1, n3.2.2.2.2.2.2.1⟩); clear hc3 hb3 n3 hn3))
  have hlt := HC3.out.lt
  have hqt := HT2.out.lt
  have hz2 : w.heap.size ≤ w2.heap.size := HB2.out.size
  have hz3 : w.heap.size ≤ w3.heap.size := HB3.out.size
  go_wp2
  go_ret2
  refine ⟨w3.heap.size, q, w2.heap.size, w2.heap.size + 2, rfl, ⟨?_, ?_, ?_, ?_, ?_⟩, hz3, HQ.out, hz2, ?_⟩
  · exact heap_new w3 _
  · exact heap_old HT3.out _
  · exact CAt.below HC3.out (bl1 w3 _)
  · intro h; have := h.2; exact absurd this (by have : w2.drew.heap.size + 2 < w3.heap.size := hlt; show ¬ (w3.heap.size ≤ w2.drew.heap.size + 2); omega)
  · intro h; have := h.1; omega
  · exact HB3.out.trans ((bl1 w3 _).mono HB3.out.size)
end Go.Proofs.YtbjibkjenleloaaGreatDoor

end

section
namespace Go.Proofs.YtbjibkjenleloaaGreatDoor
set_option linter.unusedVariables false
set_option linter.unusedSimpArgs false
open Go.RowKit
attribute [local go_sem ↓] Go.wp_at_zero Go.wp_at_succ
attribute [local go_sem] run_store_complex run_store_float


theorem heap_drew {w : World} {k : Nat} {x : Option Obj} (h : w.heap[k]? = x) : w.drew.heap[k]? = x := h
theorem CliAt.drew {w : World} {c t B p n : Nat} {s : Cl} {td : Td} {L : List En} {wh : Int → Bool} (h : CliAt w c t B p n s td L wh) : CliAt w.drew c t B p n s td L wh :=
  ⟨h.hc, h.ht, h.hp.below (Below.refl _ w).drew, h.ncp, h.ntp⟩
def Op7.v (op : Op7) : Value := .agg #[.int .i64 op.kind, .int .i64 op.dir, .string op.name, .int .i64 op.to_, .string op.new_, .int .i64 op.mode, .string op.target]
/-- an ask -/
def askMs (s : Cl) (td : Td) (seq : Int) (op : Op7) : Ms := ⟨1, s.id, s.life, seq, td.me, td.mn, 0, 0, op, none, 0, 0, none, 0, 0⟩
set_option maxRecDepth 100000 in
set_option maxHeartbeats 4000000 in
theorem cli_message (w : World) (c t B p n : Nat) (s : Cl) (td : Td) (L : List En) (wh : Int → Bool) (seq : Int) (op : Op7) (h : CliAt w c t B p n s td L wh) : Calls Tryz.prog 39 #[.pointer (some ⟨c, 0, none⟩), .int .i64 seq, op.v] w fun e w' => e = .returned (askMs s td seq op).v ∧ Below w.heap.size w w' := by
  have HO := hid (heap_old (heap_new w (.cells #[.int .i64 op.kind, .int .i64 op.dir, .string op.name, .int .i64 op.to_, .string op.new_, .int .i64 op.mode, .string op.target] 37)) (.cells #[.int .i64 0, .int .i64 0, .int .i64 0, .int .i64 0, .complex .f64 0 0, .int .i64 0, .int .i64 0, .int .i64 0, .int .i64 0, .string { data := #[] }, .int .i64 0, .string { data := #[] }, .int .i64 0, .string { data := #[] }, .slice none 0 0, .slice none 0 0] 50))
  have hR := heap_new (w.alloc (.cells #[.int .i64 op.kind, .int .i64 op.dir, .string op.name, .int .i64 op.to_, .string op.new_, .int .i64 op.mode, .string op.target] 37)) (.cells #[.int .i64 0, .int .i64 0, .int .i64 0, .int .i64 0, .complex .f64 0 0, .int .i64 0, .int .i64 0, .int .i64 0, .int .i64 0, .string { data := #[] }, .int .i64 0, .string { data := #[] }, .int .i64 0, .string { data := #[] }, .slice none 0 0, .slice none 0 0] 50)
  rw [World.size_alloc] at hR
  have HR := hid hR
  have HB := hid (bl2 w (.cells #[.int .i64 op.kind, .int .i64 op.dir, .string op.name, .int .i64 op.to_, .string op.new_, .int .i64 op.mode, .string op.target] 37) (.cells #[.int .i64 0, .int .i64 0, .int .i64 0, .int .i64 0, .complex .f64 0 0, .int .i64 0, .int .i64 0, .int .i64 0, .int .i64 0, .string { data := #[] }, .int .i64 0, .string { data := #[] }, .int .i64 0, .string { data := #[] }, .slice none 0 0, .slice none 0 0] 50))
  have HH := hid (h.below HB.out)
  have hcl : c < w.heap.size := blk_lt h.hc
  have hc0 := cell_of HH.out.hc 0 (.int .i64 s.id) rfl
  have hc1 := cell_of HH.out.hc 1 (.int .i64 s.life) rfl
  have b7 := blk7 HO.out
  have b16 := blk16 hR
  obtain ⟨w1, hw1⟩ : ∃ w1, w1 = (w.alloc (.cells #[.int .i64 op.kind, .int .i64 op.dir, .string op.name, .int .i64 op.to_, .string op.new_, .int .i64 op.mode, .string op.target] 37)).alloc (.cells #[.int .i64 0, .int .i64 0, .int .i64 0, .int .i64 0, .complex .f64 0 0, .int .i64 0, .int .i64 0, .int .i64 0, .int .i64 0, .string { data := #[] }, .int .i64 0, .string { data := #[] }, .int .i64 0, .string { data := #[] }, .slice none 0 0, .slice none 0 0] 50) := ⟨_, rfl⟩
  rw [← hw1] at HO HR HB HH hc0 hc1 b7 b16
  have HW1 := hid hw1
  have KR : w1.cell? ⟨c, 0, none⟩ = some (.int .i64 s.id) ∧ w1.cell? ⟨c, 1, none⟩ = some (.int .i64 s.life) ∧ w1.cell? ⟨w.heap.size, 0, none⟩ = some (.int .i64 op.kind) ∧ w1.cell? ⟨w.heap.size, 1, none⟩ = some (.int .i64 op.dir) ∧ w1.cell? ⟨w.heap.size, 2, none⟩ = some (.string op.name) ∧ w1.cell? ⟨w.heap.size, 3, none⟩ = some (.int .i64 op.to_) ∧ w1.cell? ⟨w.heap.size, 4, none⟩ = some (.string op.new_) ∧ w1.cell? ⟨w.heap.size, 5, none⟩ = some (.int .i64 op.mode) ∧ w1.cell? ⟨w.heap.size, 6, none⟩ = some (.string op.target) := ⟨hc0.1, hc1.1, b7.1, b7.2.1, b7.2.2.1, b7.2.2.2.1, b7.2.2.2.2.1, b7.2.2.2.2.2.1, b7.2.2.2.2.2.2.1⟩
  have KRd : w1.drew.cell? ⟨c, 0, none⟩ = some (.int .i64 s.id) ∧ w1.drew.cell? ⟨c, 1, none⟩ = some (.int .i64 s.life) ∧ w1.drew.cell? ⟨w.heap.size, 0, none⟩ = some (.int .i64 op.kind) ∧ w1.drew.cell? ⟨w.heap.size, 1, none⟩ = some (.int .i64 op.dir) ∧ w1.drew.cell? ⟨w.heap.size, 2, none⟩ = some (.string op.name) ∧ w1.drew.cell? ⟨w.heap.size, 3, none⟩ = some (.int .i64 op.to_) ∧ w1.drew.cell? ⟨w.heap.size, 4, none⟩ = some (.string op.new_) ∧ w1.drew.cell? ⟨w.heap.size, 5, none⟩ = some (.int .i64 op.mode) ∧ w1.drew.cell? ⟨w.heap.size, 6, none⟩ = some (.string op.target) := KR
  have KS : ∀ W : World, Chg (fun j => j = w.heap.size + 1) w1 W → W.cell? ⟨c, 0, none⟩ = some (.int .i64 s.id) ∧ W.cell? ⟨c, 1, none⟩ = some (.int .i64 s.life) ∧ W.cell? ⟨w.heap.size, 0, none⟩ = some (.int .i64 op.kind) ∧ W.cell? ⟨w.heap.size, 1, none⟩ = some (.int .i64 op.dir) ∧ W.cell? ⟨w.heap.size, 2, none⟩ = some (.string op.name) ∧ W.cell? ⟨w.heap.size, 3, none⟩ = some (.int .i64 op.to_) ∧ W.cell? ⟨w.heap.size, 4, none⟩ = some (.string op.new_) ∧ W.cell? ⟨w.heap.size, 5, none⟩ = some (.int .i64 op.mode) ∧ W.cell? ⟨w.heap.size, 6, none⟩ = some (.string op.target) := fun W hW => by
    have q0 := cell_of (heap_chg hW HH.out.hc (by omega)) 0 (.int .i64 s.id) rfl
    have q1 := cell_of (heap_chg hW HH.out.hc (by omega)) 1 (.int .i64 s.life) rfl
    have q7 := blk7 (heap_chg hW HO.out (by omega))
    exact ⟨q0.1, q1.1, q7.1, q7.2.1, q7.2.2.1, q7.2.2.2.1, q7.2.2.2.2.1, q7.2.2.2.2.2.1, q7.2.2.2.2.2.2.1⟩
  clear h hc0 hc1 b7 hR hw1
  unfold Op7.v
  go_enter Tryz.func39, Tryz.ntmps39
  go_wp2_with fail
  rw [← HW1.out]
  have KC := hid (show Chg (fun j => j = w.heap.size + 1) w1 (((((((((((((((((w1.setCell ⟨w.heap.size + 1, 0, none⟩ (.int .i64 1)).setCell ⟨w.heap.size + 1, 1, none⟩ (.int .i64 s.id)).setCell ⟨w.heap.size + 1, 2, none⟩ (.int .i64 s.life)).setCell ⟨w.heap.size + 1, 3, none⟩ (.int .i64 seq)).setCell ⟨w.heap.size + 1, 4, none⟩ (.complex .f64 (fl td.me) (fl td.mn))).setCell ⟨w.heap.size + 1, 5, none⟩ (.int .i64 0)).setCell ⟨w.heap.size + 1, 6, none⟩ (.int .i64 0)).setCell ⟨w.heap.size + 1, 7, none⟩ (.int .i64 op.kind)).setCell ⟨w.heap.size + 1, 8, none⟩ (.int .i64 op.dir)).setCell ⟨w.heap.size + 1, 9, none⟩ (.string op.name)).setCell ⟨w.heap.size + 1, 10, none⟩ (.int .i64 op.to_)).setCell ⟨w.heap.size + 1, 11, none⟩ (.string op.new_)).setCell ⟨w.heap.size + 1, 12, none⟩ (.int .i64 op.mode)).setCell ⟨w.heap.size + 1, 13, none⟩ (.string op.target)).setCell ⟨w.heap.size + 1, 14, none⟩ (.slice none 0 0)).setCell ⟨w.heap.size + 1, 15, none⟩ (.slice none 0 0))).drew from Chg.drew (by
    iterate 16 refine Chg.set1 ?_ _ _ rfl
    exact Chg.refl _ _))
  go_region_held3 (fun w' => w'.cell? ⟨c, 0, none⟩ = some (.int .i64 s.id) ∧ w'.cell? ⟨c, 1, none⟩ = some (.int .i64 s.life) ∧ w'.cell? ⟨w.heap.size, 0, none⟩ = some (.int .i64 op.kind) ∧ w'.cell? ⟨w.heap.size, 1, none⟩ = some (.int .i64 op.dir) ∧ w'.cell? ⟨w.heap.size, 2, none⟩ = some (.string op.name) ∧ w'.cell? ⟨w.heap.size, 3, none⟩ = some (.int .i64 op.to_) ∧ w'.cell? ⟨w.heap.size, 4, none⟩ = some (.string op.new_) ∧ w'.cell? ⟨w.heap.size, 5, none⟩ = some (.int .i64 op.mode) ∧ w'.cell? ⟨w.heap.size, 6, none⟩ = some (.string op.target))
    (first | with_reducible exact KR | with_reducible exact KRd | exact KS _ KC.out)
    (first | (go_at_call 21; refine (cli_mark _ c t B p n s td L wh HH.out.drew).mono ?_; rintro e w2 ⟨rfl, rfl⟩))
  refine gen_w (P := fun w' => Exit.then _ _ _ _ w') (S := fun w4 => Chg (fun j => j = w.heap.size + 1) w1 w4 ∧ w4.heap[w.heap.size + 1]? = some (.cells #[.int .i64 1, .int .i64 s.id, .int .i64 s.life, .int .i64 seq, .complex .f64 (fl td.me) (fl td.mn), .int .i64 0, .int .i64 0, .int .i64 op.kind, .int .i64 op.dir, .string op.name, .int .i64 op.to_, .string op.new_, .int .i64 op.mode, .string op.target, .slice none 0 0, .slice none 0 0] 50 (0, 0))) _ ⟨?_, ?_⟩ ?_
  · exact KC.out
  · refine heap_drew ?_
    have h9 := (heap_set (heap_set (heap_set (heap_set (heap_set (heap_set (heap_set (heap_set (heap_set (heap_set (heap_set (heap_set (heap_set (heap_set (heap_set (heap_set HR.out 0 (.int .i64 1)) 1 (.int .i64 s.id)) 2 (.int .i64 s.life)) 3 (.int .i64 seq)) 4 (.complex .f64 (fl td.me) (fl td.mn))) 5 (.int .i64 0)) 6 (.int .i64 0)) 7 (.int .i64 op.kind)) 8 (.int .i64 op.dir)) 9 (.string op.name)) 10 (.int .i64 op.to_)) 11 (.string op.new_)) 12 (.int .i64 op.mode)) 13 (.string op.target)) 14 (.slice none 0 0)) 15 (.slice none 0 0))
    simp only [List.setIfInBounds_toArray, List.set_cons_zero, List.set_cons_succ] at h9
    exact h9
  rintro w4 ⟨hc4, hr4⟩
  have b4 := blk16 hr4
  have HB4 := hid (HB.out.trans (hc4.toBelow HB.out.size fun i hi hf => by omega))
  clear KR KRd KS KC b16 hc4 hr4
  go_wp2
  refine bodyPost_ret (v := (askMs s td seq op).v) (by simp [results, Tryz.results39, go_sem, b4, askMs, Ms.v, Ms.cs]) rfl ⟨rfl, HB4.out⟩
end Go.Proofs.YtbjibkjenleloaaGreatDoor

end

section
namespace Go.Proofs.YtbjibkjenleloaaGreatDoor
set_option linter.unusedVariables false
set_option linter.unusedSimpArgs false
open Go.RowKit
attribute [local go_sem ↓] Go.wp_at_zero Go.wp_at_succ
attribute [local go_sem] run_store_complex run_store_float

open Go.ChangeMaps (setBlock)
/-- an entry of a map of values by ints -/
structure Fe where
  k : Int
  v : Value
  born : Nat
def Fe.me (x : Fe) : MapEntry := ⟨.int .i64 x.k, x.v, x.born⟩
def fes (F : List Fe) : Array MapEntry := (F.map Fe.me).toArray
theorem fes_toList (F : List Fe) : (fes F).toList = F.map Fe.me := rfl
def atF (k : Int) (F : List Fe) : Option Nat := F.findIdx? fun x => k = x.k
theorem findNow_fe (d : Int) : ∀ (F : List Fe) (i : Nat), Instr.findNow (.int .i64) (.int .i64 d) (F.map Fe.me) i = some ((F.findIdx? fun x => decide (d = x.k)).bind fun j => (F[j]?).map fun x => (i + j, x.v))
  | [], i => by simp [Instr.findNow]
  | x :: F, i => by
    rw [List.map_cons, Instr.findNow]
    simp only [Fe.me, Instr.sameNow, if_true, List.findIdx?_cons]
    by_cases h : d = x.k
    · simp [h]
    · have ih := findNow_fe d F (i + 1)
      have h' : (d == x.k) = false := by simpa using h
      simp only [h, h', decide_false, Bool.false_eq_true, if_false]
      rw [ih]
      cases hf : F.findIdx? (fun x => decide (d = x.k)) with
      | none => simp
      | some j => simp [Nat.add_assoc, Nat.add_comm 1]
theorem findKey_fe (d : Int) (w : World) (F : List Fe) : (Instr.findKey 3 (.int .i64 d) (F.map Fe.me)).run Tryz.prog w = .ok ((atF d F).bind fun j => (F[j]?).map fun x => (j, x.v)) w := by
  simp only [Instr.findKey, Sem.run_bind, run_underlying Tryz.underlying3, Result.andThen_ok, findNow_fe, Nat.zero_add]
  rfl
theorem run_lookf {w : World} {mw cl j : Nat} {F : List Fe} {d : Int} {x : Fe} (h : w.heap[mw]? = some (.map (fes F) cl)) (hj : atF d F = some j) (hx : F[j]? = some x) :
    (Instr.lookup 123 (.map (some mw)) (.int .i64 d) false).run Tryz.prog w = .ok x.v w := by
  have hf := findKey_fe d w F
  simp only [Instr.lookup, Sem.run_bind, run_underlying Tryz.underlying123, Result.andThen_ok, getObj, Sem.run, h, ckI]
  simp [fes_toList, hf, hj, hx]
theorem run_ins {w : World} {mw cl : Nat} {F : List Fe} (d : Int) (v : Value) (h : w.heap[mw]? = some (.map (fes F) cl)) (hj : atF d F = none) :
    ∃ w', (Instr.mapUpdate 123 (.map (some mw)) (.int .i64 d) v).run Tryz.prog w = .ok () w' ∧ w'.heap[mw]? = some (.map (fes (F ++ [⟨d, v, cl⟩])) (cl + 1)) ∧ Chg (fun j => j = mw) w w' := by
  have hf := findKey_fe d w F
  have hm : (fes F).push { key := .int .i64 d, val := v, born := cl } = fes (F ++ [⟨d, v, cl⟩]) := by simp [fes, Fe.me]
  refine ⟨setBlock w mw (.map (fes (F ++ [⟨d, v, cl⟩])) (cl + 1)), ?_, heap_setBlock h, ?_⟩
  · simp only [Instr.mapUpdate, Sem.run_bind, run_underlying Tryz.underlying123, Result.andThen_ok, getObj, Sem.run, h, ckI, fes_toList, hf, hj]
    simp only [Option.bind_none, setObj, Sem.run, h, hm]
    rfl
  · exact chg_setBlock w mw _
def kindsF (c : Nat) : List Fe := [⟨1, .func (Fn.func 80) #[.pointer (some ⟨c, 0, none⟩)] #[], 0⟩, ⟨2, .func (Fn.func 81) #[.pointer (some ⟨c, 0, none⟩)] #[], 1⟩, ⟨3, .func (Fn.func 82) #[.pointer (some ⟨c, 0, none⟩)] #[], 2⟩, ⟨4, .func (Fn.func 83) #[.pointer (some ⟨c, 0, none⟩)] #[], 3⟩, ⟨5, .func (Fn.func 84) #[.pointer (some ⟨c, 0, none⟩)] #[], 4⟩, ⟨6, .func (Fn.func 84) #[.pointer (some ⟨c, 0, none⟩)] #[], 5⟩, ⟨7, .func (Fn.func 84) #[.pointer (some ⟨c, 0, none⟩)] #[], 6⟩, ⟨8, .func (Fn.func 84) #[.pointer (some ⟨c, 0, none⟩)] #[], 7⟩, ⟨9, .func (Fn.func 84) #[.pointer (some ⟨c, 0, none⟩)] #[], 8⟩, ⟨10, .func (Fn.func 84) #[.pointer (some ⟨c, 0, none⟩)] #[], 9⟩, ⟨11, .func (Fn.func 84) #[.pointer (some ⟨c, 0, none⟩)] #[], 10⟩, ⟨12, .func (Fn.func 85) #[.pointer (some ⟨c, 0, none⟩)] #[], 11⟩]
set_option maxRecDepth 100000 in
set_option maxHeartbeats 4000000 in
theorem cli_kinds (w : World) (c : Nat) : Calls Tryz.prog 57 #[.pointer (some ⟨c, 0, none⟩)] w fun e w' => e = .returned (.map (some w.heap.size)) ∧ w'.heap[w.heap.size]? = some (.map (fes (kindsF c)) 12) ∧ Below w.heap.size w w' := by
  have hmm := @run_makeMap Tryz.prog
  have HK := hid (show (w.alloc (.map #[] 0)).heap[w.heap.size]? = some (.map (fes []) 0) from heap_new w _)
  obtain ⟨W1, h1, k1, c1⟩ := run_ins (1) (.func (Fn.func 80) #[.pointer (some ⟨c, 0, none⟩)] #[]) HK.out (by rfl)
  have HK0 := hid k1
  have HC0 := hid c1
  clear k1 c1
  obtain ⟨W2, h2, k2, c2⟩ := run_ins (2) (.func (Fn.func 81) #[.pointer (some ⟨c, 0, none⟩)] #[]) (HK0.out) (by rfl)
  have HK1 := hid k2
  have HC1 := hid c2
  clear k2 c2
  obtain ⟨W3, h3, k3, c3⟩ := run_ins (3) (.func (Fn.func 82) #[.pointer (some ⟨c, 0, none⟩)] #[]) (HK1.out) (by rfl)
  have HK2 := hid k3
  have HC2 := hid c3
  clear k3 c3
  obtain ⟨W4, h4, k4, c4⟩ := run_ins (4) (.func (Fn.func 83) #[.pointer (some ⟨c, 0, none⟩)] #[]) (HK2.out) (by rfl)
  have HK3 := hid k4
  have HC3 := hid c4
  clear k4 c4
  obtain ⟨W5, h5, k5, c5⟩ := run_ins (5) (.func (Fn.func 84) #[.pointer (some ⟨c, 0, none⟩)] #[]) (HK3.out) (by rfl)
  have HK4 := hid k5
  have HC4 := hid c5
  clear k5 c5
  obtain ⟨W6, h6, k6, c6⟩ := run_ins (6) (.func (Fn.func 84) #[.pointer (some ⟨c, 0, none⟩)] #[]) (HK4.out) (by rfl)
  have HK5 := hid k6
  have HC5 := hid c6
  clear k6 c6
  obtain ⟨W7, h7, k7, c7⟩ := run_ins (7) (.func (Fn.func 84) #[.pointer (some ⟨c, 0, none⟩)] #[]) (HK5.out) (by rfl)
  have HK6 := hid k7
  have HC6 := hid c7
  clear k7 c7
  obtain ⟨W8, h8, k8, c8⟩ := run_ins (8) (.func (Fn.func 84) #[.pointer (some ⟨c, 0, none⟩)] #[]) (HK6.out) (by rfl)
  have HK7 := hid k8
  have HC7 := hid c8
  clear k8 c8
  obtain ⟨W9, h9, k9, c9⟩ := run_ins (9) (.func (Fn.func 84) #[.pointer (some ⟨c, 0, none⟩)] #[]) (HK7.out) (by rfl)
  have HK8 := hid k9
  have HC8 := hid c9
  clear k9 c9
  obtain ⟨W10, h10, k10, c10⟩ := run_ins (10) (.func (Fn.func 84) #[.pointer (some ⟨c, 0, none⟩)] #[]) (HK8.out) (by rfl)
  have HK9 := hid k10
  have HC9 := hid c10
  clear k10 c10
  obtain ⟨W11, h11, k11, c11⟩ := run_ins (11) (.func (Fn.func 84) #[.pointer (some ⟨c, 0, none⟩)] #[]) (HK9.out) (by rfl)
  have HK10 := hid k11
  have HC10 := hid c11
  clear k11 c11
  obtain ⟨W12, h12, k12, c12⟩ := run_ins (12) (.func (Fn.func 85) #[.pointer (some ⟨c, 0, none⟩)] #[]) (HK10.out) (by rfl)
  have HK11 := hid k12
  have HC11 := hid c12
  clear k12 c12
  go_enter Tryz.func57, Tryz.ntmps57
  go_wp2
  go_ret
  refine ⟨rfl, HK11.out, ?_⟩
  have hc := (Chg.trans (Chg.trans (Chg.trans (Chg.trans (Chg.trans (Chg.trans (Chg.trans (Chg.trans (Chg.trans (Chg.trans (Chg.trans HC0.out HC1.out (fun _ _ h => h) (fun _ _ h => h)) HC2.out (fun _ _ h => h) (fun _ _ h => h)) HC3.out (fun _ _ h => h) (fun _ _ h => h)) HC4.out (fun _ _ h => h) (fun _ _ h => h)) HC5.out (fun _ _ h => h) (fun _ _ h => h)) HC6.out (fun _ _ h => h) (fun _ _ h => h)) HC7.out (fun _ _ h => h) (fun _ _ h => h)) HC8.out (fun _ _ h => h) (fun _ _ h => h)) HC9.out (fun _ _ h => h) (fun _ _ h => h)) HC10.out (fun _ _ h => h) (fun _ _ h => h)) HC11.out (fun _ _ h => h) (fun _ _ h => h))
  exact (bl1 w _).trans (hc.toBelow (by simp) fun i hi hf => by omega)
end Go.Proofs.YtbjibkjenleloaaGreatDoor

end
