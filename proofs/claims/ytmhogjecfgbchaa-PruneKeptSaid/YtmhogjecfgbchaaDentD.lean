import Derived.Test.YtmhogjecfgbchaaDentC
namespace Go.Proofs.Ytmhogjecfgbchaa
set_option linter.unusedVariables false
set_option linter.unusedSimpArgs false
open Go.RowKit
open Go.ChangeMaps (setBlock)
attribute [local go_sem ↓] Go.wp_at_zero Go.wp_at_succ

theorem name_empty (s : ByteArray) : s = ByteArray.empty ↔ s.toList = [] := by
  have h := bytes_beq s ByteArray.empty
  rw [Bool.eq_iff_iff, beq_iff_eq, decide_eq_true_iff] at h
  rw [← h]
  simp [ByteArray.toList_eq]

set_option maxHeartbeats 1000000 in
theorem dent_put_arg (w : World) (p : Nat) (e : En) (h : e.key.name = ByteArray.empty) :
    Calls Try.prog 21 #[.pointer (some ⟨p, 0, none⟩), .agg #[.int .i64 e.key.dir, .string e.key.name, .bool e.neg, .int .i64 e.node.id, .int .i64 e.node.kind, .int .i64 e.node.mode, .string e.node.target]] w fun r w' => r = .returned (.int .i64 1) ∧ Below w.heap.size w w' := by
  have h1 := (name_empty _).1 h
  have h2 : e.key.name.toList.isEmpty = true := by simp [h1]
  clear h
  go_enter Try.func21, Try.ntmps21
  go_wp2
  go_ret
  exact ⟨rfl, bl1 w _⟩

set_option maxHeartbeats 1000000 in
theorem dent_put_old (w : World) (B : Nat) (s : Ca) (e : En) (j : Nat) (x : Ke) (hk : atK e.key s.K = some j) (hx : s.K[j]? = some x) (h : CacheAt w B s) (hn : e.key.name ≠ ByteArray.empty) (h1 : 0 ≤ s.ck) (h2 : s.ck < 9223372036854775807) :
    Calls Try.prog 21 #[.pointer (some ⟨s.p, 0, none⟩), .agg #[.int .i64 e.key.dir, .string e.key.name, .bool e.neg, .int .i64 e.node.id, .int .i64 e.node.kind, .int .i64 e.node.mode, .string e.node.target]] w fun r w' => r = .returned (.int .i64 0) ∧ CacheAt w' B { s with K := s.K.set j ⟨e, s.ck + 1, x.born⟩, ck := s.ck + 1 } ∧ Chg (CaF s) w w' := by
  have hne : e.key.name.toList ≠ [] := fun h3 => hn ((name_empty _).2 h3)
  have hne2 : e.key.name.toList.isEmpty = false := by simpa using hne
  have b0 := blk3 h.hp
  have hpz := blk_lt h.hp
  have hmz := blk_lt h.he
  have BX := blk7 (heap_new w (.cells #[.int .i64 e.key.dir, .string e.key.name, .bool e.neg, .int .i64 e.node.id, .int .i64 e.node.kind, .int .i64 e.node.mode, .string e.node.target] 30))
  have HH := hid h
  have HK := hid hk
  have HX := hid hx
  clear hx
  clear h hk hn hne
  go_enter Try.func21, Try.ntmps21
  go_wp2_with fail
  go_region_held3 (fun w' => w'.cell? ⟨s.p, 0, none⟩ = some (.map (some s.me)) ∧ w'.cell? ⟨w.heap.size, 0, none⟩ = some (.int .i64 e.key.dir) ∧ w'.cell? ⟨w.heap.size, 1, none⟩ = some (.string e.key.name) ∧ w'.cell? ⟨w.heap.size, 2, none⟩ = some (.bool e.neg) ∧ w'.cell? ⟨w.heap.size, 3, none⟩ = some (.int .i64 e.node.id) ∧ w'.cell? ⟨w.heap.size, 4, none⟩ = some (.int .i64 e.node.kind) ∧ w'.cell? ⟨w.heap.size, 5, none⟩ = some (.int .i64 e.node.mode) ∧ w'.cell? ⟨w.heap.size, 6, none⟩ = some (.string e.node.target))
    (first | exact ⟨cellA b0.1 _, BX.1, BX.2.1, BX.2.2.1, BX.2.2.2.1, BX.2.2.2.2.1, BX.2.2.2.2.2.1, BX.2.2.2.2.2.2.1⟩ | exact KS | exact KT)
    (first
      | (go_at_call 50; refine (dent_tick _ B s (HH.out.below (bl1 w _).drew) h1 h2).mono ?_; rintro r w1 ⟨rfl, hc1, hg1⟩; (have hup := run_put_old (w := w1) ⟨e, s.ck + 1, x.born⟩ hc1.he HK.out HX.out rfl (atK_key HK.out HX.out)); simp only [Ke.val] at hup; (have kb0 := heap_chg hg1 (heap_new w (.cells #[.int .i64 e.key.dir, .string e.key.name, .bool e.neg, .int .i64 e.node.id, .int .i64 e.node.kind, .int .i64 e.node.mode, .string e.node.target] 30)) (by omega)); (have bp := blk3 hc1.hp); (have q0 := blk7 kb0); (have KS := And.intro bp.1 (And.intro q0.1 (And.intro q0.2.1 (And.intro q0.2.2.1 (And.intro q0.2.2.2.1 (And.intro q0.2.2.2.2.1 (And.intro q0.2.2.2.2.2.1 q0.2.2.2.2.2.2.1)))))))
        ; (obtain ⟨M, hM⟩ : ∃ M, M = Obj.map (kes (s.K.set j ⟨e, s.ck + 1, x.born⟩)) s.c1 := ⟨_, rfl⟩)
        ; (have bp' := blk3 (heap_setBlock_ne (o := M) hc1.hp hc1.pe)); (have q0' := blk7 (heap_setBlock_ne (o := M) (r := s.me) kb0 (by omega))); (have KT := And.intro bp'.1 (And.intro q0'.1 (And.intro q0'.2.1 (And.intro q0'.2.2.1 (And.intro q0'.2.2.2.1 (And.intro q0'.2.2.2.2.1 (And.intro q0'.2.2.2.2.2.1 q0'.2.2.2.2.2.2.1)))))))
        ; rw [hM] at KT; clear hM bp' q0'))
  go_wp2
  go_ret
  exact ⟨rfl, CacheAt.putOld (x := x) _ hc1 HX.out rfl (atK_key HK.out HX.out).symm, Chg.trans (Chg.below (bl1 w _).drew) (chg_tick_set hg1) (fun _ _ h => h.elim) (fun _ _ h => h)⟩

set_option maxHeartbeats 1000000 in
theorem dent_put_new (w : World) (B : Nat) (s : Ca) (e : En) (hk : atK e.key s.K = none) (h : CacheAt w B s) (hn : e.key.name ≠ ByteArray.empty) (h1 : 0 ≤ s.ck) (h2 : s.ck < 9223372036854775807) :
    Calls Try.prog 21 #[.pointer (some ⟨s.p, 0, none⟩), .agg #[.int .i64 e.key.dir, .string e.key.name, .bool e.neg, .int .i64 e.node.id, .int .i64 e.node.kind, .int .i64 e.node.mode, .string e.node.target]] w fun r w' => r = .returned (.int .i64 0) ∧ CacheAt w' B { s with K := s.K ++ [⟨e, s.ck + 1, s.c1⟩], ck := s.ck + 1, c1 := s.c1 + 1 } ∧ Chg (CaF s) w w' := by
  have hne : e.key.name.toList ≠ [] := fun h3 => hn ((name_empty _).2 h3)
  have hne2 : e.key.name.toList.isEmpty = false := by simpa using hne
  have b0 := blk3 h.hp
  have hpz := blk_lt h.hp
  have hmz := blk_lt h.he
  have BX := blk7 (heap_new w (.cells #[.int .i64 e.key.dir, .string e.key.name, .bool e.neg, .int .i64 e.node.id, .int .i64 e.node.kind, .int .i64 e.node.mode, .string e.node.target] 30))
  have HH := hid h
  have HK := hid hk
  clear h hk hn hne
  go_enter Try.func21, Try.ntmps21
  go_wp2_with fail
  go_region_held3 (fun w' => w'.cell? ⟨s.p, 0, none⟩ = some (.map (some s.me)) ∧ w'.cell? ⟨w.heap.size, 0, none⟩ = some (.int .i64 e.key.dir) ∧ w'.cell? ⟨w.heap.size, 1, none⟩ = some (.string e.key.name) ∧ w'.cell? ⟨w.heap.size, 2, none⟩ = some (.bool e.neg) ∧ w'.cell? ⟨w.heap.size, 3, none⟩ = some (.int .i64 e.node.id) ∧ w'.cell? ⟨w.heap.size, 4, none⟩ = some (.int .i64 e.node.kind) ∧ w'.cell? ⟨w.heap.size, 5, none⟩ = some (.int .i64 e.node.mode) ∧ w'.cell? ⟨w.heap.size, 6, none⟩ = some (.string e.node.target))
    (first | exact ⟨cellA b0.1 _, BX.1, BX.2.1, BX.2.2.1, BX.2.2.2.1, BX.2.2.2.2.1, BX.2.2.2.2.2.1, BX.2.2.2.2.2.2.1⟩ | exact KS | exact KT)
    (first
      | (go_at_call 50; refine (dent_tick _ B s (HH.out.below (bl1 w _).drew) h1 h2).mono ?_; rintro r w1 ⟨rfl, hc1, hg1⟩; (have hup := run_put_new (w := w1) ⟨e, s.ck + 1, s.c1⟩ hc1.he HK.out rfl); simp only [Ke.val] at hup; (have kb0 := heap_chg hg1 (heap_new w (.cells #[.int .i64 e.key.dir, .string e.key.name, .bool e.neg, .int .i64 e.node.id, .int .i64 e.node.kind, .int .i64 e.node.mode, .string e.node.target] 30)) (by omega)); (have bp := blk3 hc1.hp); (have q0 := blk7 kb0); (have KS := And.intro bp.1 (And.intro q0.1 (And.intro q0.2.1 (And.intro q0.2.2.1 (And.intro q0.2.2.2.1 (And.intro q0.2.2.2.2.1 (And.intro q0.2.2.2.2.2.1 q0.2.2.2.2.2.2.1)))))))
        ; (obtain ⟨M, hM⟩ : ∃ M, M = Obj.map (kes (s.K ++ [⟨e, s.ck + 1, s.c1⟩])) (s.c1 + 1) := ⟨_, rfl⟩)
        ; (have bp' := blk3 (heap_setBlock_ne (o := M) hc1.hp hc1.pe)); (have q0' := blk7 (heap_setBlock_ne (o := M) (r := s.me) kb0 (by omega))); (have KT := And.intro bp'.1 (And.intro q0'.1 (And.intro q0'.2.1 (And.intro q0'.2.2.1 (And.intro q0'.2.2.2.1 (And.intro q0'.2.2.2.2.1 (And.intro q0'.2.2.2.2.2.1 q0'.2.2.2.2.2.2.1)))))))
        ; rw [hM] at KT; clear hM bp' q0'))
  go_wp2
  go_ret
  exact ⟨rfl, CacheAt.putNew _ hc1 HK.out rfl, Chg.trans (Chg.below (bl1 w _).drew) (chg_tick_set hg1) (fun _ _ h => h.elim) (fun _ _ h => h)⟩

def addW (d : Int) (s : Ca) : Ca := match atW d s.W with | some _ => s | none => { s with W := s.W ++ [⟨d, s.c2⟩], c2 := s.c2 + 1 }

theorem CacheAt.addW {w1 : World} {B : Nat} {s : Ca} {d : Int} (h : CacheAt w1 B s) :
    CacheAt (setBlock w1 s.mw (.map (wes (addW d s).W) (addW d s).c2)) B (addW d s) := by
  unfold Go.Proofs.Ytmhogjecfgbchaa.addW
  cases hj : atW d s.W with
  | some j =>
    exact ⟨h.hB, h.hBe, h.hBw, heap_setBlock_ne h.hp h.pw, heap_setBlock_ne h.he h.hne, heap_setBlock h.hw, h.hne, h.b1, h.n1, h.k1, h.b2, h.n2, h.k2⟩
  | none =>
    refine ⟨h.hB, h.hBe, h.hBw, heap_setBlock_ne h.hp h.pw, heap_setBlock_ne h.he h.hne, heap_setBlock h.hw, h.hne, h.b1, h.n1, h.k1, fun z hz => ?_, ?_, ?_⟩
    · rcases List.mem_append.1 hz with hz | hz
      · exact Nat.lt_succ_of_lt (h.b2 z hz)
      · obtain rfl := List.mem_singleton.1 hz; exact Nat.lt_succ_self _
    · rw [List.map_append, List.nodup_append]
      refine ⟨h.n2, by simp, fun a ha b hb' => ?_⟩
      obtain ⟨z, hz, rfl⟩ := List.mem_map.1 ha
      simp at hb'; subst hb'
      have := h.b2 z hz
      omega
    · rw [List.map_append, List.nodup_append]
      refine ⟨h.k2, by simp, fun a ha b hb' => ?_⟩
      obtain ⟨z, hz, rfl⟩ := List.mem_map.1 ha
      simp at hb'; subst hb'
      have := List.findIdx?_eq_none_iff.1 hj z hz
      simp at this
      exact fun e => this e.symm

set_option maxHeartbeats 1000000 in
theorem dent_setwhole (w : World) (B : Nat) (s : Ca) (d : Int) (h : CacheAt w B s) :
    Calls Try.prog 28 #[.pointer (some ⟨s.p, 0, none⟩), .int .i64 d] w fun r w' => r = .returned (.tuple #[]) ∧ CacheAt w' B (addW d s) ∧ Chg (CaF s) w w' := by
  have b0 := blk3 h.hp
  have hup : (Instr.mapUpdate 74 (.map (some s.mw)) (.int .i64 d) (.bool true)).run Try.prog w = .ok () (setBlock w s.mw (.map (wes (addW d s).W) (addW d s).c2)) := by
    unfold addW
    cases hj : atW d s.W with
    | some j => exact run_setw_old h.hw hj
    | none => exact run_setw_new h.hw hj
  have HH := hid h
  clear h
  go_enter Try.func28, Try.ntmps28
  go_wp2
  go_end0
  exact ⟨rfl, HH.out.addW, (chg_setBlock w s.mw _).mono fun _ _ h => .inr (.inr h)⟩

set_option maxHeartbeats 1000000 in
theorem dent_clear (w : World) (B : Nat) (s : Ca) (h : CacheAt w B s) :
    Calls Try.prog 25 #[.pointer (some ⟨s.p, 0, none⟩)] w fun r w' => r = .returned (.tuple #[]) ∧ CacheAt w' B { s with K := [], W := [] } ∧ Chg (CaF s) w w' := by
  have b0 := blk3 h.hp
  have b1 := blk3 (heap_setBlock_ne (o := .map (kes []) s.c1) h.hp h.pe)
  have HH := hid h
  clear h
  go_enter Try.func25, Try.ntmps25
  go_wp2_with (first
    | (with_reducible refine wpList_clear_k rfl (.tmp 5) rfl s.me s.c1 rfl s.K HH.out.he ?_)
    | (with_reducible refine wpList_clear_w rfl (.tmp 9) rfl s.mw s.c2 rfl s.W (heap_setBlock_ne HH.out.hw (Ne.symm HH.out.hne)) ?_))
  go_end0
  have hh := HH.out
  refine ⟨rfl, ⟨hh.hB, hh.hBe, hh.hBw, heap_setBlock_ne (heap_setBlock_ne hh.hp hh.pe) hh.pw, heap_setBlock_ne (heap_setBlock hh.he) hh.hne, heap_setBlock (heap_setBlock_ne hh.hw (Ne.symm hh.hne)), hh.hne, by simp, by simp, by simp, by simp, by simp, by simp⟩, ?_⟩
  exact Chg.trans (chg_setBlock w s.me _) (chg_setBlock _ s.mw _) (fun _ _ h => .inr (.inl h)) (fun _ _ h => .inr (.inr h))

end Go.Proofs.Ytmhogjecfgbchaa
