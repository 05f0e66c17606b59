/- Parts of a proof about the given program, in build order: CalA. No condition. -/
import Derived.Test.YtbjibkjenleloaaGreatDoorMg09
import Derived.Test.YtbjibkjenleloaaGreatDoorMg10
section
namespace Go.Proofs.YtbjibkjenleloaaGreatDoor
set_option linter.unusedVariables false
set_option linter.unusedSimpArgs false
open Go.RowKit
attribute [local go_sem ↓] Go.wp_at_zero Go.wp_at_succ
attribute [local go_sem] run_store_complex run_store_float


set_option maxHeartbeats 400000 in
theorem within_yes (x lo hi : Int) (h1 : lo ≤ x) (h2 : x ≤ hi) (w : World) : Calls Tryz.prog 53 #[.int .i64 x, .int .i64 lo, .int .i64 hi] w fun e w' => e = .returned (.bool true) ∧ w = w' := by
  have d1 : decide (x ≥ lo) = true := by simp; omega
  have d2 : decide (x ≤ hi) = true := by simp; omega
  have d3 : decide (lo ≤ x) = true := by simp; omega
  clear h1 h2
  go_enter Tryz.func53, Tryz.ntmps53
  go_wp2
  go_ret
  exact ⟨rfl, rfl⟩
set_option maxHeartbeats 400000 in
theorem within_no (x lo hi : Int) (h : ¬ (lo ≤ x ∧ x ≤ hi)) (w : World) : Calls Tryz.prog 53 #[.int .i64 x, .int .i64 lo, .int .i64 hi] w fun e w' => e = .returned (.bool false) ∧ w = w' := by
  by_cases h1 : lo ≤ x
  · have d1 : decide (x ≥ lo) = true := by simp; omega
    have d2 : decide (x ≤ hi) = false := by simp; omega
    have d3 : decide (lo ≤ x) = true := by simp; omega
    clear h h1
    go_enter Tryz.func53, Tryz.ntmps53
    go_wp2
    go_ret
    exact ⟨rfl, rfl⟩
  · have d1 : decide (x ≥ lo) = false := by simp; omega
    have d3 : decide (lo ≤ x) = false := by simp; omega
    clear h h1
    go_enter Tryz.func53, Tryz.ntmps53
    go_wp2
    go_ret
    exact ⟨rfl, rfl⟩
/-- limits -/
structure Cf where
  cl : Int
  de : Int
  ne : Int
  li : Int
  pr : Int
  qu : Int
  ho : Int
def Cf.v (s : Cf) : Value := .agg #[.int .i64 s.cl, .int .i64 s.de, .int .i64 s.ne, .int .i64 s.li, .int .i64 s.pr, .int .i64 s.qu, .int .i64 s.ho]
def rightP (s : Cf) : Prop := (1 ≤ s.cl ∧ s.cl ≤ 4) ∧ (1 ≤ s.de ∧ s.de ≤ 64) ∧ (1 ≤ s.ne ∧ s.ne ≤ 16) ∧ (0 ≤ s.li ∧ s.li ≤ 8) ∧ (1 ≤ s.pr ∧ s.pr ≤ 32) ∧ (1 ≤ s.qu ∧ s.qu ≤ 16) ∧ (0 ≤ s.ho ∧ s.ho ≤ 8)
set_option maxHeartbeats 4000000 in
theorem right_yes (s : Cf) (h : rightP s) (w : World) : Calls Tryz.prog 46 #[s.v] w fun e w' => e = .returned (.bool true) ∧ Below w.heap.size w w' := by
  obtain ⟨c0, c1, c2, c3, c4, c5, c6⟩ := h
  have b := blk7 (heap_new w (.cells #[.int .i64 s.cl, .int .i64 s.de, .int .i64 s.ne, .int .i64 s.li, .int .i64 s.pr, .int .i64 s.qu, .int .i64 s.ho] 23))
  have HB := hid (bl1 w (.cells #[.int .i64 s.cl, .int .i64 s.de, .int .i64 s.ne, .int .i64 s.li, .int .i64 s.pr, .int .i64 s.qu, .int .i64 s.ho] 23))
  unfold Cf.v
  go_enter Tryz.func46, Tryz.ntmps46
  go_wp2_with fail
  refine (within_yes _ _ _ (by omega) (by omega) _).mono ?_; rintro e w1 ⟨rfl, rfl⟩
  go_wp2_with fail
  refine (within_yes _ _ _ (by omega) (by omega) _).mono ?_; rintro e w1 ⟨rfl, rfl⟩
  go_wp2_with fail
  refine (within_yes _ _ _ (by omega) (by omega) _).mono ?_; rintro e w1 ⟨rfl, rfl⟩
  go_wp2_with fail
  refine (within_yes _ _ _ (by omega) (by omega) _).mono ?_; rintro e w1 ⟨rfl, rfl⟩
  go_wp2_with fail
  refine (within_yes _ _ _ (by omega) (by omega) _).mono ?_; rintro e w1 ⟨rfl, rfl⟩
  go_wp2_with fail
  refine (within_yes _ _ _ (by omega) (by omega) _).mono ?_; rintro e w1 ⟨rfl, rfl⟩
  go_wp2_with fail
  refine (within_yes _ _ _ (by omega) (by omega) _).mono ?_; rintro e w1 ⟨rfl, rfl⟩
  go_wp2_with fail
  go_ret
  exact ⟨rfl, HB.out⟩
set_option maxHeartbeats 8000000 in
theorem right_no (s : Cf) (h : ¬ rightP s) (w : World) : Calls Tryz.prog 46 #[s.v] w fun e w' => e = .returned (.bool false) ∧ Below w.heap.size w w' := by
  have b := blk7 (heap_new w (.cells #[.int .i64 s.cl, .int .i64 s.de, .int .i64 s.ne, .int .i64 s.li, .int .i64 s.pr, .int .i64 s.qu, .int .i64 s.ho] 23))
  have HB := hid (bl1 w (.cells #[.int .i64 s.cl, .int .i64 s.de, .int .i64 s.ne, .int .i64 s.li, .int .i64 s.pr, .int .i64 s.qu, .int .i64 s.ho] 23))
  unfold rightP at h
  unfold Cf.v
  by_cases c0 : 1 ≤ s.cl ∧ s.cl ≤ 4
  · by_cases c1 : 1 ≤ s.de ∧ s.de ≤ 64
    · by_cases c2 : 1 ≤ s.ne ∧ s.ne ≤ 16
      · by_cases c3 : 0 ≤ s.li ∧ s.li ≤ 8
        · by_cases c4 : 1 ≤ s.pr ∧ s.pr ≤ 32
          · by_cases c5 : 1 ≤ s.qu ∧ s.qu ≤ 16
            · by_cases c6 : 0 ≤ s.ho ∧ s.ho ≤ 8
              · exact absurd ⟨c0, c1, c2, c3, c4, c5, c6⟩ h
              · clear h
                go_enter Tryz.func46, Tryz.ntmps46
                go_wp2_with fail
                refine (within_yes _ _ _ (by omega) (by omega) _).mono ?_; rintro e w1 ⟨rfl, rfl⟩
                go_wp2_with fail
                refine (within_yes _ _ _ (by omega) (by omega) _).mono ?_; rintro e w1 ⟨rfl, rfl⟩
                go_wp2_with fail
                refine (within_yes _ _ _ (by omega) (by omega) _).mono ?_; rintro e w1 ⟨rfl, rfl⟩
                go_wp2_with fail
                refine (within_yes _ _ _ (by omega) (by omega) _).mono ?_; rintro e w1 ⟨rfl, rfl⟩
                go_wp2_with fail
                refine (within_yes _ _ _ (by omega) (by omega) _).mono ?_; rintro e w1 ⟨rfl, rfl⟩
                go_wp2_with fail
                refine (within_yes _ _ _ (by omega) (by omega) _).mono ?_; rintro e w1 ⟨rfl, rfl⟩
                go_wp2_with fail
                refine (within_no _ _ _ (by omega) _).mono ?_; rintro e w1 ⟨rfl, rfl⟩
                go_wp2_with fail
                go_ret
                exact ⟨rfl, HB.out⟩
            · clear h
              go_enter Tryz.func46, Tryz.ntmps46
              go_wp2_with fail
              refine (within_yes _ _ _ (by omega) (by omega) _).mono ?_; rintro e w1 ⟨rfl, rfl⟩
              go_wp2_with fail
              refine (within_yes _ _ _ (by omega) (by omega) _).mono ?_; rintro e w1 ⟨rfl, rfl⟩
              go_wp2_with fail
              refine (within_yes _ _ _ (by omega) (by omega) _).mono ?_; rintro e w1 ⟨rfl, rfl⟩
              go_wp2_with fail
              refine (within_yes _ _ _ (by omega) (by omega) _).mono ?_; rintro e w1 ⟨rfl, rfl⟩
              go_wp2_with fail
              refine (within_yes _ _ _ (by omega) (by omega) _).mono ?_; rintro e w1 ⟨rfl, rfl⟩
              go_wp2_with fail
              refine (within_no _ _ _ (by omega) _).mono ?_; rintro e w1 ⟨rfl, rfl⟩
              go_wp2_with fail
              go_ret
              exact ⟨rfl, HB.out⟩
          · clear h
            go_enter Tryz.func46, Tryz.ntmps46
            go_wp2_with fail
            refine (within_yes _ _ _ (by omega) (by omega) _).mono ?_; rintro e w1 ⟨rfl, rfl⟩
            go_wp2_with fail
            refine (within_yes _ _ _ (by omega) (by omega) _).mono ?_; rintro e w1 ⟨rfl, rfl⟩
            go_wp2_with fail
            refine (within_yes _ _ _ (by omega) (by omega) _).mono ?_; rintro e w1 ⟨rfl, rfl⟩
            go_wp2_with fail
            refine (within_yes _ _ _ (by omega) (by omega) _).mono ?_; rintro e w1 ⟨rfl, rfl⟩
            go_wp2_with fail
            refine (within_no _ _ _ (by omega) _).mono ?_; rintro e w1 ⟨rfl, rfl⟩
            go_wp2_with fail
            go_ret
            exact ⟨rfl, HB.out⟩
        · clear h
          go_enter Tryz.func46, Tryz.ntmps46
          go_wp2_with fail
          refine (within_yes _ _ _ (by omega) (by omega) _).mono ?_; rintro e w1 ⟨rfl, rfl⟩
          go_wp2_with fail
          refine (within_yes _ _ _ (by omega) (by omega) _).mono ?_; rintro e w1 ⟨rfl, rfl⟩
          go_wp2_with fail
          refine (within_yes _ _ _ (by omega) (by omega) _).mono ?_; rintro e w1 ⟨rfl, rfl⟩
          go_wp2_with fail
          refine (within_no _ _ _ (by omega) _).mono ?_; rintro e w1 ⟨rfl, rfl⟩
          go_wp2_with fail
          go_ret
          exact ⟨rfl, HB.out⟩
      · clear h
        go_enter Tryz.func46, Tryz.ntmps46
        go_wp2_with fail
        refine (within_yes _ _ _ (by omega) (by omega) _).mono ?_; rintro e w1 ⟨rfl, rfl⟩
        go_wp2_with fail
        refine (within_yes _ _ _ (by omega) (by omega) _).mono ?_; rintro e w1 ⟨rfl, rfl⟩
        go_wp2_with fail
        refine (within_no _ _ _ (by omega) _).mono ?_; rintro e w1 ⟨rfl, rfl⟩
        go_wp2_with fail
        go_ret
        exact ⟨rfl, HB.out⟩
    · clear h
      go_enter Tryz.func46, Tryz.ntmps46
      go_wp2_with fail
      refine (within_yes _ _ _ (by omega) (by omega) _).mono ?_; rintro e w1 ⟨rfl, rfl⟩
      go_wp2_with fail
      refine (within_no _ _ _ (by omega) _).mono ?_; rintro e w1 ⟨rfl, rfl⟩
      go_wp2_with fail
      go_ret
      exact ⟨rfl, HB.out⟩
  · clear h
    go_enter Tryz.func46, Tryz.ntmps46
    go_wp2_with fail
    refine (within_no _ _ _ (by omega) _).mono ?_; rintro e w1 ⟨rfl, rfl⟩
    go_wp2_with fail
    go_ret
    exact ⟨rfl, HB.out⟩
/-- a client; what it asked -/
structure Cl where
  id : Int
  life : Int
  cf : Cf
  seq : Int
  busy : Bool
  ck : Int
  cp : ByteArray
  co : ByteArray
  cm : Int
  am : Ms
def cli (t p : Nat) (s : Cl) : Array Value := #[.int .i64 s.id, .int .i64 s.life, .int .i64 s.cf.cl, .int .i64 s.cf.de, .int .i64 s.cf.ne, .int .i64 s.cf.li, .int .i64 s.cf.pr, .int .i64 s.cf.qu, .int .i64 s.cf.ho, .pointer (some ⟨t, 0, none⟩), .pointer (some ⟨p, 0, none⟩), .int .i64 s.seq, .bool s.busy, .int .i64 s.ck, .string s.cp, .string s.co, .int .i64 s.cm, .int .i64 s.am.kind, .int .i64 s.am.client, .int .i64 s.am.life, .int .i64 s.am.seq, .complex .f64 (fl s.am.me) (fl s.am.mn), .int .i64 s.am.ver, .int .i64 s.am.err, .int .i64 s.am.op.kind, .int .i64 s.am.op.dir, .string s.am.op.name, .int .i64 s.am.op.to_, .string s.am.op.new_, .int .i64 s.am.op.mode, .string s.am.op.target, .slice none 0 0, .slice none 0 0]
structure CliAt (w : World) (c t B p n : Nat) (s : Cl) (td : Td) (L : List En) (wh : Int → Bool) : Prop where
  hc : w.heap[c]? = some (.cells (cli t p s) 86 (0, 0))
  ht : TidAt w t td
  hp : CAt w B p n L wh
  ncp : ¬ CF B p c
  ntp : ¬ CF B p t
theorem cell_of {w : World} {k T : Nat} {cs : Array Value} (h : w.heap[k]? = some (.cells cs T (0, 0))) (i : Nat) (v : Value) (hi : cs[i]? = some v) : w.cell? ⟨k, i, none⟩ = some v ∧ w.frozen? ⟨k, i, none⟩ = false := by
  simp [World.cell?, World.frozen?, h, hi]
theorem CliAt.below {w w' : World} {c t B p n : Nat} {s : Cl} {td : Td} {L : List En} {wh : Int → Bool} (h : CliAt w c t B p n s td L wh) (hb : Below w.heap.size w w') : CliAt w' c t B p n s td L wh :=
  ⟨heap_below hb h.hc (blk_lt h.hc), h.ht.below hb, h.hp.below hb, h.ncp, h.ntp⟩
set_option maxHeartbeats 400000 in
theorem cli_busy (w : World) (c t B p n : Nat) (s : Cl) (td : Td) (L : List En) (wh : Int → Bool) (h : CliAt w c t B p n s td L wh) : Calls Tryz.prog 12 #[.pointer (some ⟨c, 0, none⟩)] w fun e w' => e = .returned (.bool s.busy) ∧ w = w' := by
  have b := cell_of h.hc 12 (.bool s.busy) rfl
  clear h
  go_enter Tryz.func12, Tryz.ntmps12
  go_wp2
  go_ret
  exact ⟨rfl, rfl⟩
set_option maxHeartbeats 400000 in
theorem cli_version (w : World) (c t B p n : Nat) (s : Cl) (td : Td) (L : List En) (wh : Int → Bool) (h : CliAt w c t B p n s td L wh) : Calls Tryz.prog 25 #[.pointer (some ⟨c, 0, none⟩)] w fun e w' => e = .returned (.int .i64 td.ver) ∧ w = w' := by
  have b := cell_of h.hc 9 (.pointer (some ⟨t, 0, none⟩)) rfl
  have HT := hid h.ht
  clear h
  go_enter Tryz.func25, Tryz.ntmps25
  go_wp2_with fail
  refine (tide_version _ t td HT.out).mono ?_; rintro e w1 ⟨rfl, rfl⟩
  go_wp2
  go_ret
  exact ⟨rfl, rfl⟩
set_option maxHeartbeats 400000 in
theorem cli_mark (w : World) (c t B p n : Nat) (s : Cl) (td : Td) (L : List En) (wh : Int → Bool) (h : CliAt w c t B p n s td L wh) : Calls Tryz.prog 21 #[.pointer (some ⟨c, 0, none⟩)] w fun e w' => e = .returned (.complex .f64 (fl td.me) (fl td.mn)) ∧ w = w' := by
  have b := cell_of h.hc 9 (.pointer (some ⟨t, 0, none⟩)) rfl
  have HT := hid h.ht
  clear h
  go_enter Tryz.func21, Tryz.ntmps21
  go_wp2_with fail
  refine (tide_mark _ t td HT.out).mono ?_; rintro e w1 ⟨rfl, rfl⟩
  go_wp2
  go_ret
  exact ⟨rfl, rfl⟩
set_option maxHeartbeats 400000 in
theorem cli_held (w : World) (c t B p n : Nat) (s : Cl) (td : Td) (L : List En) (wh : Int → Bool) (h : CliAt w c t B p n s td L wh) : Calls Tryz.prog 26 #[.pointer (some ⟨c, 0, none⟩)] w fun e w' => e = .returned (.int .i64 0) ∧ w = w' := by
  have b := cell_of h.hc 9 (.pointer (some ⟨t, 0, none⟩)) rfl
  have HT := hid h.ht
  clear h
  go_enter Tryz.func26, Tryz.ntmps26
  go_wp2_with fail
  refine (tide_held _ t td HT.out).mono ?_; rintro e w1 ⟨rfl, rfl⟩
  go_wp2
  go_ret
  exact ⟨rfl, rfl⟩
set_option maxHeartbeats 400000 in
theorem cli_whole (w : World) (c t B p n : Nat) (s : Cl) (td : Td) (L : List En) (wh : Int → Bool) (d : Int) (h : CliAt w c t B p n s td L wh) : Calls Tryz.prog 16 #[.pointer (some ⟨c, 0, none⟩), .int .i64 d] w fun e w' => e = .returned (.bool (wh d)) ∧ w = w' := by
  have b := cell_of h.hc 10 (.pointer (some ⟨p, 0, none⟩)) rfl
  have HP := hid h.hp
  clear h
  go_enter Tryz.func16, Tryz.ntmps16
  go_wp2_with fail
  refine (c_whole _ B p n L wh d HP.out).mono ?_; rintro e w1 ⟨rfl, rfl⟩
  go_wp2
  go_ret
  exact ⟨rfl, rfl⟩
set_option maxHeartbeats 400000 in
theorem cli_entries (w : World) (c t B p n : Nat) (s : Cl) (td : Td) (L : List En) (wh : Int → Bool) (h : CliAt w c t B p n s td L wh) (hn : n * 80 ≤ 140737488351232) : Calls Tryz.prog 14 #[.pointer (some ⟨c, 0, none⟩)] w fun e w' => ∃ a c, e = .returned (.slice a L.length c) ∧ w'.ownsRow w.heap.size 55 7 (.slice a L.length c) L.length (ecs L) ∧ Below w.heap.size w w' := by
  have b := cell_of h.hc 10 (.pointer (some ⟨p, 0, none⟩)) rfl
  have HP := hid h.hp
  clear h
  go_enter Tryz.func14, Tryz.ntmps14
  go_wp2_with fail
  refine (c_entries _ B p n L wh HP.out hn).mono ?_; rintro e w1 ⟨a, c1, rfl, h1, h2⟩
  have H1 := hid (And.intro h1 h2)
  clear h1 h2
  go_wp2
  go_ret
  exact ⟨a, c1, rfl, H1.out.1, H1.out.2⟩
end Go.Proofs.YtbjibkjenleloaaGreatDoor

end
