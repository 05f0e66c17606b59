/- Parts of a proof about the given program, in build order: CalA, CalB. No condition. -/
import Derived.Test.YtbjibkjenleloaaGreatDoorMg16
import Derived.Test.YtbjibkjenleloaaGreatDoorMg17
section
namespace Go.Proofs.YtbjibkjenleloaaGreatDoor
set_option linter.unusedVariables false
set_option linter.unusedSimpArgs false
open Go.RowKit
attribute [local go_sem ↓] Go.wp_at_zero Go.wp_at_succ
attribute [local go_sem] run_store_complex run_store_float


set_option maxHeartbeats 400000 in
theorem within_yes (x lo hi : Int) (h1 : lo ≤ x) (h2 : x ≤ hi) (w : World) : Calls Tryz.prog 53 #[.int .i64 x, .int .i64 lo, .int .i64 hi] w fun e w' => e = .returned (.bool true) ∧ w = w' := by
  have d1 : decide (x ≥ lo) = true := by simp; omega
  have d2 : decide (x ≤ hi) = true := by simp; omega
  have d3 : decide (lo ≤ x) = true := by simp; omega
  clear h1 h2
  go_enter Tryz.func53, Tryz.ntmps53
  go_wp2
  go_ret
  exact ⟨rfl, rfl⟩
set_option maxHeartbeats 400000 in
theorem within_no (x lo hi : Int) (h : ¬ (lo ≤ x ∧ x ≤ hi)) (w : World) : Calls Tryz.prog 53 #[.int .i64 x, .int .i64 lo, .int .i64 hi] w fun e w' => e = .returned (.bool false) ∧ w = w' := by
  by_cases h1 : lo ≤ x
  · have d1 : decide (x ≥ lo) = true := by simp; omega
    have d2 : decide (x ≤ hi) = false := by simp; omega
    have d3 : decide (lo ≤ x) = true := by simp; omega
    clear h h1
    go_enter Tryz.func53, Tryz.ntmps53
    go_wp2
    go_ret
    exact ⟨rfl, rfl⟩
  · have d1 : decide (x ≥ lo) = false := by simp; omega
    have d3 : decide (lo ≤ x) = false := by simp; omega
    clear h h1
    go_enter Tryz.func53, Tryz.ntmps53
    go_wp2
    go_ret
    exact ⟨rfl, rfl⟩
/-- limits -/
structure Cf where
  cl : Int
  de : Int
  ne : Int
  li : Int
  pr : Int
  qu : Int
  ho : Int
def Cf.v (s : Cf) : Value := .agg #[.int .i64 s.cl, .int .i64 s.de, .int .i64 s.ne, .int .i64 s.li, .int .i64 s.pr, .int .i64 s.qu, .int .i64 s.ho]
def rightP (s : Cf) : Prop := (1 ≤ s.cl ∧ s.cl ≤ 4) ∧ (1 ≤ s.de ∧ s.de ≤ 64) ∧ (1 ≤ s.ne ∧ s.ne ≤ 16) ∧ (0 ≤ s.li ∧ s.li ≤ 8) ∧ (1 ≤ s.pr ∧ s.pr ≤ 32) ∧ (1 ≤ s.qu ∧ s.qu ≤ 16) ∧ (0 ≤ s.ho ∧ s.ho ≤ 8)
set_option maxHeartbeats 4000000 in
theorem right_yes (s : Cf) (h : rightP s) (w : World) : Calls Tryz.prog 46 #[s.v] w fun e w' => e = .returned (.bool true) ∧ Below w.heap.size w w' := by
  obtain ⟨c0, c1, c2, c3, c4, c5, c6⟩ := h
  have b := blk7 (heap_new w (.cells #[.int .i64 s.cl, .int .i64 s.de, .int .i64 s.ne, .int .i64 s.li, .int .i64 s.pr, .int .i64 s.qu, .int .i64 s.ho] 23))
  have HB := hid (bl1 w (.cells #[.int .i64 s.cl, .int .i64 s.de, .int .i64 s.ne, .int .i64 s.li, .int .i64 s.pr, .int .i64 s.qu, .int .i64 s.ho] 23))
  unfold Cf.v
  go_enter Tryz.func46, Tryz.ntmps46
  go_wp2_with fail
  refine (within_yes _ _ _ (by omega) (by omega) _).mono ?_; rintro e w1 ⟨rfl, rfl⟩
  go_wp2_with fail
  refine (within_yes _ _ _ (by omega) (by omega) _).mono ?_; rintro e w1 ⟨rfl, rfl⟩
  go_wp2_with fail
  refine (within_yes _ _ _ (by omega) (by omega) _).mono ?_; rintro e w1 ⟨rfl, rfl⟩
  go_wp2_with fail
  refine (within_yes _ _ _ (by omega) (by omega) _).mono ?_; rintro e w1 ⟨rfl, rfl⟩
  go_wp2_with fail
  refine (within_yes _ _ _ (by omega) (by omega) _).mono ?_; rintro e w1 ⟨rfl, rfl⟩
  go_wp2_with fail
  refine (within_yes _ _ _ (by omega) (by omega) _).mono ?_; rintro e w1 ⟨rfl, rfl⟩
  go_wp2_with fail
  refine (within_yes _ _ _ (by omega) (by omega) _).mono ?_; rintro e w1 ⟨rfl, rfl⟩
  go_wp2_with fail
  go_ret
  exact ⟨rfl, HB.out⟩
set_option maxHeartbeats 8000000 in
theorem right_no (s : Cf) (h : ¬ rightP s) (w : World) : Calls Tryz.prog 46 #[s.v] w fun e w' => e = .returned (.bool false) ∧ Below w.heap.size w w' := by
  have b := blk7 (heap_new w (.cells #[.int .i64 s.cl, .int .i64 s.de, .int .i64 s.ne, .int .i64 s.li, .int .i64 s.pr, .int .i64 s.qu, .int .i64 s.ho] 23))
  have HB := hid (bl1 w (.cells #[.int .i64 s.cl, .int .i64 s.de, .int .i64 s.ne, .int .i64 s.li, .int .i64 s.pr, .int .i64 s.qu, .int .i64 s.ho] 23))
  unfold rightP at h
  unfold Cf.v
  by_cases c0 : 1 ≤ s.cl ∧ s.cl ≤ 4
  · by_cases c1 : 1 ≤ s.de ∧ s.de ≤ 64
    · by_cases c2 : 1 ≤ s.ne ∧ s.ne ≤ 16
      · by_cases c3 : 0 ≤ s.li ∧ s.li ≤ 8
        · by_cases c4 : 1 ≤ s.pr ∧ s.pr ≤ 32
          · by_cases c5 : 1 ≤ s.qu ∧ s.qu ≤ 16
            · by_cases c6 : 0 ≤ s.ho ∧ s.ho ≤ 8
              · exact absurd ⟨c0, c1, c2, c3, c4, c5, c6⟩ h
              · clear h
                go_enter Tryz.func46, Tryz.ntmps46
                go_wp2_with fail
                refine (within_yes _ _ _ (by omega) (by omega) _).mono ?_; rintro e w1 ⟨rfl, rfl⟩
                go_wp2_with fail
                refine (within_yes _ _ _ (by omega) (by omega) _).mono ?_; rintro e w1 ⟨rfl, rfl⟩
                go_wp2_with fail
                refine (within_yes _ _ _ (by omega) (by omega) _).mono ?_; rintro e w1 ⟨rfl, rfl⟩
                go_wp2_with fail
                refine (within_yes _ _ _ (by omega) (by omega) _).mono ?_; rintro e w1 ⟨rfl, rfl⟩
                go_wp2_with fail
                refine (within_yes _ _ _ (by omega) (by omega) _).mono ?_; rintro e w1 ⟨rfl, rfl⟩
                go_wp2_with fail
                refine (within_yes _ _ _ (by omega) (by omega) _).mono ?_; rintro e w1 ⟨rfl, rfl⟩
                go_wp2_with fail
                refine (within_no _ _ _ (by omega) _).mono ?_; rintro e w1 ⟨rfl, rfl⟩
                go_wp2_with fail
                go_ret
                exact ⟨rfl, HB.out⟩
            · clear h
              go_enter Tryz.func46, Tryz.ntmps46
              go_wp2_with fail
              refine (within_yes _ _ _ (by omega) (by omega) _).mono ?_; rintro e w1 ⟨rfl, rfl⟩
              go_wp2_with fail
              refine (within_yes _ _ _ (by omega) (by omega) _).mono ?_; rintro e w1 ⟨rfl, rfl⟩
              go_wp2_with fail
              refine (within_yes _ _ _ (by omega) (by omega) _).mono ?_; rintro e w1 ⟨rfl, rfl⟩
              go_wp2_with fail
              refine (within_yes _ _ _ (by omega) (by omega) _).mono ?_; rintro e w1 ⟨rfl, rfl⟩
              go_wp2_with fail
              refine (within_yes _ _ _ (by omega) (by omega) _).mono ?_; rintro e w1 ⟨rfl, rfl⟩
              go_wp2_with fail
              refine (within_no _ _ _ (by omega) _).mono ?_; rintro e w1 ⟨rfl, rfl⟩
              go_wp2_with fail
              go_ret
              exact ⟨rfl, HB.out⟩
          · clear h
            go_enter Tryz.func46, Tryz.ntmps46
            go_wp2_with fail
            refine (within_yes _ _ _ (by omega) (by omega) _).mono ?_; rintro e w1 ⟨rfl, rfl⟩
            go_wp2_with fail
            refine (within_yes _ _ _ (by omega) (by omega) _).mono ?_; rintro e w1 ⟨rfl, rfl⟩
            go_wp2_with fail
            refine (within_yes _ _ _ (by omega) (by omega) _).mono ?_; rintro e w1 ⟨rfl, rfl⟩
            go_wp2_with fail
            refine (within_yes _ _ _ (by omega) (by omega) _).mono ?_; rintro e w1 ⟨rfl, rfl⟩
            go_wp2_with fail
            refine (within_no _ _ _ (by omega) _).mono ?_; rintro e w1 ⟨rfl, rfl⟩
            go_wp2_with fail
            go_ret
            exact ⟨rfl, HB.out⟩
        · clear h
          go_enter Tryz.func46, Tryz.ntmps46
          go_wp2_with fail
          refine (within_yes _ _ _ (by omega) (by omega) _).mono ?_; rintro e w1 ⟨rfl, rfl⟩
          go_wp2_with fail
          refine (within_yes _ _ _ (by omega) (by omega) _).mono ?_; rintro e w1 ⟨rfl, rfl⟩
          go_wp2_with fail
          refine (within_yes _ _ _ (by omega) (by omega) _).mono ?_; rintro e w1 ⟨rfl, rfl⟩
          go_wp2_with fail
          refine (within_no _ _ _ (by omega) _).mono ?_; rintro e w1 ⟨rfl, rfl⟩
          go_wp2_with fail
          go_ret
          exact ⟨rfl, HB.out⟩
      · clear h
        go_enter Tryz.func46, Tryz.ntmps46
        go_wp2_with fail
        refine (within_yes _ _ _ (by omega) (by omega) _).mono ?_; rintro e w1 ⟨rfl, rfl⟩
        go_wp2_with fail
        refine (within_yes _ _ _ (by omega) (by omega) _).mono ?_; rintro e w1 ⟨rfl, rfl⟩
        go_wp2_with fail
        refine (within_no _ _ _ (by omega) _).mono ?_; rintro e w1 ⟨rfl, rfl⟩
        go_wp2_with fail
        go_ret
        exact ⟨rfl, HB.out⟩
    · clear h
      go_enter Tryz.func46, Tryz.ntmps46
      go_wp2_with fail
      refine (within_yes _ _ _ (by omega) (by omega) _).mono ?_; rintro e w1 ⟨rfl, rfl⟩
      go_wp2_with fail
      refine (within_no _ _ _ (by omega) _).mono ?_; rintro e w1 ⟨rfl, rfl⟩
      go_wp2_with fail
      go_ret
      exact ⟨rfl, HB.out⟩
  · clear h
    go_enter Tryz.func46, Tryz.ntmps46
    go_wp2_with fail
    refine (within_no _ _ _ (by omega) _).mono ?_; rintro e w1 ⟨rfl, rfl⟩
    go_wp2_with fail
    go_ret
    exact ⟨rfl, HB.out⟩
/-- a client; what it asked -/
structure Cl where
  id : Int
  life : Int
  cf : Cf
  seq : Int
  busy : Bool
  ck : Int
  cp : ByteArray
  co : ByteArray
  cm : Int
  am : Ms
def cli (t p : Nat) (s : Cl) : Array Value := #[.int .i64 s.id, .int .i64 s.life, .int .i64 s.cf.cl, .int .i64 s.cf.de, .int .i64 s.cf.ne, .int .i64 s.cf.li, .int .i64 s.cf.pr, .int .i64 s.cf.qu, .int .i64 s.cf.ho, .pointer (some ⟨t, 0, none⟩), .pointer (some ⟨p, 0, none⟩), .int .i64 s.seq, .bool s.busy, .int .i64 s.ck, .string s.cp, .string s.co, .int .i64 s.cm, .int .i64 s.am.kind, .int .i64 s.am.client, .int .i64 s.am.life, .int .i64 s.am.seq, .complex .f64 (fl s.am.me) (fl s.am.mn), .int .i64 s.am.ver, .int .i64 s.am.err, .int .i64 s.am.op.kind, .int .i64 s.am.op.dir, .string s.am.op.name, .int .i64 s.am.op.to_, .string s.am.op.new_, .int .i64 s.am.op.mode, .string s.am.op.target, .slice none 0 0, .slice none 0 0]
structure CliAt (w : World) (c t B p n : Nat) (s : Cl) (td : Td) (L : List En) (wh : Int → Bool) : Prop where
  hc : w.heap[c]? = some (.cells (cli t p s) 86 (0, 0))
  ht : TidAt w t td
  hp : CAt w B p n L wh
  ncp : ¬ CF B p c
  ntp : ¬ CF B p t
theorem cell_of {w : World} {k T : Nat} {cs : Array Value} (h : w.heap[k]? = some (.cells cs T (0, 0))) (i : Nat) (v : Value) (hi : cs[i]? = some v) : w.cell? ⟨k, i, none⟩ = some v ∧ w.frozen? ⟨k, i, none⟩ = false := by
  simp [World.cell?, World.frozen?, h, hi]
theorem CliAt.below {w w' : World} {c t B p n : Nat} {s : Cl} {td : Td} {L : List En} {wh : Int → Bool} (h : CliAt w c t B p n s td L wh) (hb : Below w.heap.size w w') : CliAt w' c t B p n s td L wh :=
  ⟨heap_below hb h.hc (blk_lt h.hc), h.ht.below hb, h.hp.below hb, h.ncp, h.ntp⟩
set_option maxHeartbeats 400000 in
theorem cli_busy (w : World) (c t B p n : Nat) (s : Cl) (td : Td) (L : List En) (wh : Int → Bool) (h : CliAt w c t B p n s td L wh) : Calls Tryz.prog 12 #[.pointer (some ⟨c, 0, none⟩)] w fun e w' => e = .returned (.bool s.busy) ∧ w = w' := by
  have b := cell_of h.hc 12 (.bool s.busy) rfl
  clear h
  go_enter Tryz.func12, Tryz.ntmps12
  go_wp2
  go_ret
  exact ⟨rfl, rfl⟩
set_option maxHeartbeats 400000 in
theorem cli_version (w : World) (c t B p n : Nat) (s : Cl) (td : Td) (L : List En) (wh : Int → Bool) (h : CliAt w c t B p n s td L wh) : Calls Tryz.prog 25 #[.pointer (some ⟨c, 0, none⟩)] w fun e w' => e = .returned (.int .i64 td.ver) ∧ w = w' := by
  have b := cell_of h.hc 9 (.pointer (some ⟨t, 0, none⟩)) rfl
  have HT := hid h.ht
  clear h
  go_enter Tryz.func25, Tryz.ntmps25
  go_wp2_with fail
  refine (tide_version _ t td HT.out).mono ?_; rintro e w1 ⟨rfl, rfl⟩
  go_wp2
  go_ret
  exact ⟨rfl, rfl⟩
set_option maxHeartbeats 400000 in
theorem cli_mark (w : World) (c t B p n : Nat) (s : Cl) (td : Td) (L : List En) (wh : Int → Bool) (h : CliAt w c t B p n s td L wh) : Calls Tryz.prog 21 #[.pointer (some ⟨c, 0, none⟩)] w fun e w' => e = .returned (.complex .f64 (fl td.me) (fl td.mn)) ∧ w = w' := by
  have b := cell_of h.hc 9 (.pointer (some ⟨t, 0, none⟩)) rfl
  have HT := hid h.ht
  clear h
  go_enter Tryz.func21, Tryz.ntmps21
  go_wp2_with fail
  refine (tide_mark _ t td HT.out).mono ?_; rintro e w1 ⟨rfl, rfl⟩
  go_wp2
  go_ret
  exact ⟨rfl, rfl⟩
set_option maxHeartbeats 400000 in
theorem cli_held (w : World) (c t B p n : Nat) (s : Cl) (td : Td) (L : List En) (wh : Int → Bool) (h : CliAt w c t B p n s td L wh) : Calls Tryz.prog 26 #[.pointer (some ⟨c, 0, none⟩)] w fun e w' => e = .returned (.int .i64 0) ∧ w = w' := by
  have b := cell_of h.hc 9 (.pointer (some ⟨t, 0, none⟩)) rfl
  have HT := hid h.ht
  clear h
  go_enter Tryz.func26, Tryz.ntmps26
  go_wp2_with fail
  refine (tide_held _ t td HT.out).mono ?_; rintro e w1 ⟨rfl, rfl⟩
  go_wp2
  go_ret
  exact ⟨rfl, rfl⟩
set_option maxHeartbeats 400000 in
theorem cli_whole (w : World) (c t B p n : Nat) (s : Cl) (td : Td) (L : List En) (wh : Int → Bool) (d : Int) (h : CliAt w c t B p n s td L wh) : Calls Tryz.prog 16 #[.pointer (some ⟨c, 0, none⟩), .int .i64 d] w fun e w' => e = .returned (.bool (wh d)) ∧ w = w' := by
  have b := cell_of h.hc 10 (.pointer (some ⟨p, 0, none⟩)) rfl
  have HP := hid h.hp
  clear h
  go_enter Tryz.func16, Tryz.ntmps16
  go_wp2_with fail
  refine (c_whole _ B p n L wh d HP.out).mono ?_; rintro e w1 ⟨rfl, rfl⟩
  go_wp2
  go_ret
  exact ⟨rfl, rfl⟩
set_option maxHeartbeats 400000 in
theorem cli_entries (w : World) (c t B p n : Nat) (s : Cl) (td : Td) (L : List En) (wh : Int → Bool) (h : CliAt w c t B p n s td L wh) (hn : n * 80 ≤ 140737488351232) : Calls Tryz.prog 14 #[.pointer (some ⟨c, 0, none⟩)] w fun e w' => ∃ a c, e = .returned (.slice a L.length c) ∧ w'.ownsRow w.heap.size 55 7 (.slice a L.length c) L.length (ecs L) ∧ Below w.heap.size w w' := by
  have b := cell_of h.hc 10 (.pointer (some ⟨p, 0, none⟩)) rfl
  have HP := hid h.hp
  clear h
  go_enter Tryz.func14, Tryz.ntmps14
  go_wp2_with fail
  refine (c_entries _ B p n L wh HP.out hn).mono ?_; rintro e w1 ⟨a, c1, rfl, h1, h2⟩
  have H1 := hid (And.intro h1 h2)
  clear h1 h2
  go_wp2
  go_ret
  exact ⟨a, c1, rfl, H1.out.1, H1.out.2⟩
end Go.Proofs.YtbjibkjenleloaaGreatDoor

end

section
namespace Go.Proofs.YtbjibkjenleloaaGreatDoor
set_option linter.unusedVariables false
set_option linter.unusedSimpArgs false
open Go.RowKit
attribute [local go_sem ↓] Go.wp_at_zero Go.wp_at_succ
attribute [local go_sem] run_store_complex run_store_float


theorem blk7c {w : World} {k t : Nat} {x0 x1 x2 x3 x4 x5 x6 : Value} (h : w.heap[k]? = some (.cells #[x0, x1, x2, x3, x4, x5, x6] t (0, 0))) (o : Obj) :
    (w.alloc o).cell? ⟨k, 0, none⟩ = some x0 ∧ (w.alloc o).cell? ⟨k, 1, none⟩ = some x1 ∧ (w.alloc o).cell? ⟨k, 2, none⟩ = some x2 ∧ (w.alloc o).cell? ⟨k, 3, none⟩ = some x3 ∧ (w.alloc o).cell? ⟨k, 4, none⟩ = some x4 ∧ (w.alloc o).cell? ⟨k, 5, none⟩ = some x5 ∧ (w.alloc o).cell? ⟨k, 6, none⟩ = some x6 := by
  have n3 := blk7 (heap_old h o)
  exact ⟨n3.1, n3.2.1, n3.2.2.1, n3.2.2.2.1, n3.2.2.2.2.1, n3.2.2.2.2.2.1, n3.2.2.2.2.2.2.1⟩
def op0 : Op7 := ⟨0, 0, ByteArray.empty, 0, ByteArray.empty, 0, ByteArray.empty⟩
def ms0 : Ms := ⟨0, 0, 0, 0, 0, 0, 0, 0, op0, none, 0, 0, none, 0, 0⟩
def cl0 (id life : Int) (cf : Cf) : Cl := ⟨id, life, cf, 0, false, 0, ByteArray.empty, ByteArray.empty, 0, ms0⟩
def td0 (id life ho : Int) : Td := ⟨id, life, ho, 0, 0, 0, 0⟩
set_option maxHeartbeats 2000000 in
theorem call_new_no (id life : Int) (cf : Cf) (h : ¬ (newOK id life cf.ho ∧ rightP cf ∧ id ≤ cf.cl)) (w : World) : Calls Tryz.prog 24 #[.int .i64 id, .int .i64 life, cf.v] w fun e w' => e = .returned (.tuple #[.pointer none, .int .i64 1]) ∧ Below w.heap.size w w' := by
  have b := blk7 (heap_new w (.cells #[.int .i64 cf.cl, .int .i64 cf.de, .int .i64 cf.ne, .int .i64 cf.li, .int .i64 cf.pr, .int .i64 cf.qu, .int .i64 cf.ho] 23))
  have HN := hid (heap_new w (.cells #[.int .i64 cf.cl, .int .i64 cf.de, .int .i64 cf.ne, .int .i64 cf.li, .int .i64 cf.pr, .int .i64 cf.qu, .int .i64 cf.ho] 23))
  have HB := hid (bl1 w (.cells #[.int .i64 cf.cl, .int .i64 cf.de, .int .i64 cf.ne, .int .i64 cf.li, .int .i64 cf.pr, .int .i64 cf.qu, .int .i64 cf.ho] 23))
  by_cases c1 : newOK id life cf.ho
  · have HO := hid c1
    by_cases c2 : rightP cf
    · have HR := hid (right_yes cf c2)
      have c3 : ¬ id ≤ cf.cl := fun c3 => h ⟨c1, c2, c3⟩
      have d1 : decide (id > cf.cl) = true := by simp; omega
      have d2 : decide (cf.cl < id) = true := by simp; omega
      clear h c1 c2 c3
      unfold Cf.v at HR ⊢
      go_enter Tryz.func24, Tryz.ntmps24
      go_wp2_with fail
      refine (tide_new _ _ _ HO.out _).mono ?_; rintro e w1 ⟨rfl, ht1, hb1⟩
      have HB1 := hid (HB.out.trans (hb1.mono HB.out.size))
      have hn1 := heap_below hb1 HN.out (blk_lt HN.out)
      have HN1 := hid hn1
      have b1 := blk7 hn1
      clear b hn1 ht1 hb1 HN
      go_wp2_with fail
      refine (HR.out _).mono ?_; rintro e w2 ⟨rfl, hb2⟩
      have HB2 := hid (HB1.out.trans (hb2.mono HB1.out.size))
      have b2 := blk7 (heap_below hb2 HN1.out (blk_lt HN1.out))
      clear b1 hb2 HN1
      go_wp2
      go_ret2
      exact ⟨rfl, HB2.out⟩
    · have HR := hid (right_no cf c2)
      clear h c1 c2
      unfold Cf.v at HR ⊢
      go_enter Tryz.func24, Tryz.ntmps24
      go_wp2_with fail
      refine (tide_new _ _ _ HO.out _).mono ?_; rintro e w1 ⟨rfl, ht1, hb1⟩
      have HB1 := hid (HB.out.trans (hb1.mono HB.out.size))
      have b1 := blk7 (heap_below hb1 HN.out (blk_lt HN.out))
      clear b ht1 hb1 HN
      go_wp2_with fail
      refine (HR.out _).mono ?_; rintro e w2 ⟨rfl, hb2⟩
      have HB2 := hid (HB1.out.trans (hb2.mono HB1.out.size))
      clear b1 hb2
      go_wp2
      go_ret2
      exact ⟨rfl, HB2.out⟩
  · have HO := hid c1
    clear h c1
    unfold Cf.v
    go_enter Tryz.func24, Tryz.ntmps24
    go_wp2_with fail
    refine (tide_new_no _ _ _ HO.out _).mono ?_; rintro e w1 ⟨rfl, rfl⟩
    go_wp2
    go_ret2
    exact ⟨rfl, HB.out⟩
set_option maxRecDepth 100000 in
set_option maxHeartbeats 4000000 in
theorem call_new (id life : Int) (cf : Cf) (c1 : newOK id life cf.ho) (c2 : rightP cf) (c3 : id ≤ cf.cl) (w : World) : Calls Tryz.prog 24 #[.int .i64 id, .int .i64 life, cf.v] w fun e w' => ∃ c t B p, e = .returned (.tuple #[.pointer (some ⟨c, 0, none⟩), .int .i64 0]) ∧ CliAt w' c t B p 0 (cl0 id life cf) (td0 id life cf.ho) [] (fun _ => false) ∧ w.heap.size ≤ c ∧ w.heap.size ≤ t ∧ w.heap.size ≤ B ∧ Below w.heap.size w w' := by
  have b := blk7 (heap_new w (.cells #[.int .i64 cf.cl, .int .i64 cf.de, .int .i64 cf.ne, .int .i64 cf.li, .int .i64 cf.pr, .int .i64 cf.qu, .int .i64 cf.ho] 23))
  have HN := hid (heap_new w (.cells #[.int .i64 cf.cl, .int .i64 cf.de, .int .i64 cf.ne, .int .i64 cf.li, .int .i64 cf.pr, .int .i64 cf.qu, .int .i64 cf.ho] 23))
  have HB := hid (bl1 w (.cells #[.int .i64 cf.cl, .int .i64 cf.de, .int .i64 cf.ne, .int .i64 cf.li, .int .i64 cf.pr, .int .i64 cf.qu, .int .i64 cf.ho] 23))
  have HO := hid c1
  have HR := hid (right_yes cf c2)
  have d1 : decide (id > cf.cl) = false := by simp; omega
  have d2 : decide (cf.cl < id) = false := by simp; omega
  clear c1 c2 c3
  unfold Cf.v at HR ⊢
  go_enter Tryz.func24, Tryz.ntmps24
  go_wp2_with fail
  refine (tide_new _ _ _ HO.out _).mono ?_; rintro e w1 ⟨rfl, ht1, hb1⟩
  have HB1 := hid (HB.out.trans (hb1.mono HB.out.size))
  have hn1 := heap_below hb1 HN.out (blk_lt HN.out)
  have HN1 := hid hn1
  have HT1 := hid ht1
  obtain ⟨q, hq⟩ : ∃ q, q = (w.alloc (.cells #[.int .i64 cf.cl, .int .i64 cf.de, .int .i64 cf.ne, .int .i64 cf.li, .int .i64 cf.pr, .int .i64 cf.qu, .int .i64 cf.ho] 23)).heap.size := ⟨_, rfl⟩
  have HQ := hid (show w.heap.size ≤ q by rw [hq]; simp)
  rw [← hq] at HT1 ⊢
  have b1 := blk7 hn1
  clear b hn1 ht1 hb1 HN hq
  go_wp2_with fail
  refine (HR.out _).mono ?_; rintro e w2 ⟨rfl, hb2⟩
  have HB2 := hid (HB1.out.trans (hb2.mono HB1.out.size))
  have hn2 := heap_below hb2 HN1.out (blk_lt HN1.out)
  have HN2 := hid hn2
  have HT2 := hid (HT1.out.below hb2)
  have b2 := blk7 hn2
  have KR : w2.cell? ⟨w.heap.size, 0, none⟩ = some (.int .i64 cf.cl) ∧ w2.cell? ⟨w.heap.size, 1, none⟩ = some (.int .i64 cf.de) ∧ w2.cell? ⟨w.heap.size, 2, none⟩ = some (.int .i64 cf.ne) ∧ w2.cell? ⟨w.heap.size, 3, none⟩ = some (.int .i64 cf.li) ∧ w2.cell? ⟨w.heap.size, 4, none⟩ = some (.int .i64 cf.pr) ∧ w2.cell? ⟨w.heap.size, 5, none⟩ = some (.int .i64 cf.qu) ∧ w2.cell? ⟨w.heap.size, 6, none⟩ = some (.int .i64 cf.ho) := ⟨b2.1, b2.2.1, b2.2.2.1, b2.2.2.2.1, b2.2.2.2.2.1, b2.2.2.2.2.2.1, b2.2.2.2.2.2.2.1⟩
  have KRd : w2.drew.cell? ⟨w.heap.size, 0, none⟩ = some (.int .i64 cf.cl) ∧ w2.drew.cell? ⟨w.heap.size, 1, none⟩ = some (.int .i64 cf.de) ∧ w2.drew.cell? ⟨w.heap.size, 2, none⟩ = some (.int .i64 cf.ne) ∧ w2.drew.cell? ⟨w.heap.size, 3, none⟩ = some (.int .i64 cf.li) ∧ w2.drew.cell? ⟨w.heap.size, 4, none⟩ = some (.int .i64 cf.pr) ∧ w2.drew.cell? ⟨w.heap.size, 5, none⟩ = some (.int .i64 cf.qu) ∧ w2.drew.cell? ⟨w.heap.size, 6, none⟩ = some (.int .i64 cf.ho) := KR
  clear b1 hn2 hb2 HN1 HT1
  go_wp2_with fail
  go_region_held3 (fun w' => w'.cell? ⟨w.heap.size, 0, none⟩ = some (.int .i64 cf.cl) ∧ w'.cell? ⟨w.heap.size, 1, none⟩ = some (.int .i64 cf.de) ∧ w'.cell? ⟨w.heap.size, 2, none⟩ = some (.int .i64 cf.ne) ∧ w'.cell? ⟨w.heap.size, 3, none⟩ = some (.int .i64 cf.li) ∧ w'.cell? ⟨w.heap.size, 4, none⟩ = some (.int .i64 cf.pr) ∧ w'.cell? ⟨w.heap.size, 5, none⟩ = some (.int .i64 cf.qu) ∧ w'.cell? ⟨w.heap.size, 6, none⟩ = some (.int .i64 cf.ho))
    (first | with_reducible exact KR | with_reducible exact KRd | with_reducible exact K3 | with_reducible exact blk7c HN3.out _)
    (first | (go_at_call 47; refine (c_new _).mono ?_; rintro e w3 ⟨rfl, hc3, hb3⟩; (have HC3 := hid hc3); (have HB3 := hid (HB2.out.drew.trans (hb3.mono HB2.out.drew.size))); (have HT3 := hid (TidAt.below (w := w2.drew) HT2.out hb3)); (have hn3 := heap_below (w := w2.drew) hb3 HN2.out (blk_lt HN2.out)); (have HN3 := hid hn3); (have n3 := blk7 hn3); (have K3 : w3.cell? ⟨w.heap.size, 0, none⟩ = some (.int .i64 cf.cl) ∧ w3.cell? ⟨w.heap.size, 1, none⟩ = some (.int .i64 cf.de) ∧ w3.cell? ⟨w.heap.size, 2, none⟩ = some (.int .i64 cf.ne) ∧ w3.cell? ⟨w.heap.size, 3, none⟩ = some (.int .i64 cf.li) ∧ w3.cell? ⟨w.heap.size, 4, none⟩ = some (.int .i64 cf.pr) ∧ w3.cell? ⟨w.heap.size, 5, none⟩ = some (.int .i64 cf.qu) ∧ w3.cell? ⟨w.heap.size, 6, none⟩ = some (.int .i64 cf.ho) := ⟨n3.1, n3.2.1, n3.2.2.1, n3.2.2.2.1, n3.2.2.2.2.1, n3.2.2.2.2.2.1, n3.2.2.2.2.2.2.1⟩); clear hc3 hb3 n3 hn3))
  have hlt := HC3.out.lt
  have hqt := HT2.out.lt
  have hz2 : w.heap.size ≤ w2.heap.size := HB2.out.size
  have hz3 : w.heap.size ≤ w3.heap.size := HB3.out.size
  go_wp2
  go_ret2
  refine ⟨w3.heap.size, q, w2.heap.size, w2.heap.size + 2, rfl, ⟨?_, ?_, ?_, ?_, ?_⟩, hz3, HQ.out, hz2, ?_⟩
  · exact heap_new w3 _
  · exact heap_old HT3.out _
  · exact CAt.below HC3.out (bl1 w3 _)
  · intro h; have := h.2; exact absurd this (by have : w2.drew.heap.size + 2 < w3.heap.size := hlt; show ¬ (w3.heap.size ≤ w2.drew.heap.size + 2); omega)
  · intro h; have := h.1; omega
  · exact HB3.out.trans ((bl1 w3 _).mono HB3.out.size)
end Go.Proofs.YtbjibkjenleloaaGreatDoor

end
