/- Parts of a proof about the given program, in build order: DentD, DentE, DentF, DentG, DentH. No condition. -/
import Derived.Test.YtbjibkjenleloaaGreatDoorMg00
section
namespace Go.Proofs.YtbjibkjenleloaaGreatDoor
set_option linter.unusedVariables false
set_option linter.unusedSimpArgs false
open Go.RowKit
open Go.ChangeMaps (setBlock)
attribute [local go_sem ↓] Go.wp_at_zero Go.wp_at_succ

theorem name_empty (s : ByteArray) : s = ByteArray.empty ↔ s.toList = [] := by
  have h := bytes_beq s ByteArray.empty
  rw [Bool.eq_iff_iff, beq_iff_eq, decide_eq_true_iff] at h
  rw [← h]
  simp [ByteArray.toList_eq]

set_option maxHeartbeats 1000000 in
theorem dent_put_arg (w : World) (p : Nat) (e : En) (h : e.key.name = ByteArray.empty) :
    Calls Tryz.prog 66 #[.pointer (some ⟨p, 0, none⟩), .agg #[.int .i64 e.key.dir, .string e.key.name, .bool e.neg, .int .i64 e.node.id, .int .i64 e.node.kind, .int .i64 e.node.mode, .string e.node.target]] w fun r w' => r = .returned (.int .i64 1) ∧ Below w.heap.size w w' := by
  have h1 := (name_empty _).1 h
  have h2 : e.key.name.toList.isEmpty = true := by simp [h1]
  clear h
  go_enter Tryz.func66, Tryz.ntmps66
  go_wp2
  go_ret
  exact ⟨rfl, bl1 w _⟩

set_option maxHeartbeats 1000000 in
theorem dent_put_old (w : World) (B : Nat) (s : Ca) (e : En) (j : Nat) (x : Ke) (hk : atK e.key s.K = some j) (hx : s.K[j]? = some x) (h : CacheAt w B s) (hn : e.key.name ≠ ByteArray.empty) (h1 : 0 ≤ s.ck) (h2 : s.ck < 9223372036854775807) :
    Calls Tryz.prog 66 #[.pointer (some ⟨s.p, 0, none⟩), .agg #[.int .i64 e.key.dir, .string e.key.name, .bool e.neg, .int .i64 e.node.id, .int .i64 e.node.kind, .int .i64 e.node.mode, .string e.node.target]] w fun r w' => r = .returned (.int .i64 0) ∧ CacheAt w' B { s with K := s.K.set j ⟨e, s.ck + 1, x.born⟩, ck := s.ck + 1 } ∧ Chg (CaF s) w w' := by
  have hne : e.key.name.toList ≠ [] := fun h3 => hn ((name_empty _).2 h3)
  have hne2 : e.key.name.toList.isEmpty = false := by simpa using hne
  have b0 := blk3 h.hp
  have hpz := blk_lt h.hp
  have hmz := blk_lt h.he
  have BX := blk7 (heap_new w (.cells #[.int .i64 e.key.dir, .string e.key.name, .bool e.neg, .int .i64 e.node.id, .int .i64 e.node.kind, .int .i64 e.node.mode, .string e.node.target] 55))
  have HH := hid h
  have HK := hid hk
  have HX := hid hx
  clear hx
  clear h hk hn hne
  go_enter Tryz.func66, Tryz.ntmps66
  go_wp2_with fail
  go_region_held3 (fun w' => w'.cell? ⟨s.p, 0, none⟩ = some (.map (some s.me)) ∧ w'.cell? ⟨w.heap.size, 0, none⟩ = some (.int .i64 e.key.dir) ∧ w'.cell? ⟨w.heap.size, 1, none⟩ = some (.string e.key.name) ∧ w'.cell? ⟨w.heap.size, 2, none⟩ = some (.bool e.neg) ∧ w'.cell? ⟨w.heap.size, 3, none⟩ = some (.int .i64 e.node.id) ∧ w'.cell? ⟨w.heap.size, 4, none⟩ = some (.int .i64 e.node.kind) ∧ w'.cell? ⟨w.heap.size, 5, none⟩ = some (.int .i64 e.node.mode) ∧ w'.cell? ⟨w.heap.size, 6, none⟩ = some (.string e.node.target))
    (first | exact ⟨cellA b0.1 _, BX.1, BX.2.1, BX.2.2.1, BX.2.2.2.1, BX.2.2.2.2.1, BX.2.2.2.2.2.1, BX.2.2.2.2.2.2.1⟩ | exact KS | exact KT)
    (first
      | (go_at_call 100; refine (dent_tick _ B s (HH.out.below (bl1 w _).drew) h1 h2).mono ?_; rintro r w1 ⟨rfl, hc1, hg1⟩; (have hup := run_put_old (w := w1) ⟨e, s.ck + 1, x.born⟩ hc1.he HK.out HX.out rfl (atK_key HK.out HX.out)); simp only [Ke.val] at hup; (have kb0 := heap_chg hg1 (heap_new w (.cells #[.int .i64 e.key.dir, .string e.key.name, .bool e.neg, .int .i64 e.node.id, .int .i64 e.node.kind, .int .i64 e.node.mode, .string e.node.target] 55)) (by omega)); (have bp := blk3 hc1.hp); (have q0 := blk7 kb0); (have KS := And.intro bp.1 (And.intro q0.1 (And.intro q0.2.1 (And.intro q0.2.2.1 (And.intro q0.2.2.2.1 (And.intro q0.2.2.2.2.1 (And.intro q0.2.2.2.2.2.1 q0.2.2.2.2.2.2.1)))))))
        ; (obtain ⟨M, hM⟩ : ∃ M, M = Obj.map (kes (s.K.set j ⟨e, s.ck + 1, x.born⟩)) s.c1 := ⟨_, rfl⟩)
        ; (have bp' := blk3 (heap_setBlock_ne (o := M) hc1.hp hc1.pe)); (have q0' := blk7 (heap_setBlock_ne (o := M) (r := s.me) kb0 (by omega))); (have KT := And.intro bp'.1 (And.intro q0'.1 (And.intro q0'.2.1 (And.intro q0'.2.2.1 (And.intro q0'.2.2.2.1 (And.intro q0'.2.2.2.2.1 (And.intro q0'.2.2.2.2.2.1 q0'.2.2.2.2.2.2.1)))))))
        ; rw [hM] at KT; clear hM bp' q0'))
  go_wp2
  go_ret
  exact ⟨rfl, CacheAt.putOld (x := x) _ hc1 HX.out rfl (atK_key HK.out HX.out).symm, Chg.trans (Chg.below (bl1 w _).drew) (chg_tick_set hg1) (fun _ _ h => h.elim) (fun _ _ h => h)⟩

set_option maxHeartbeats 1000000 in
theorem dent_put_new (w : World) (B : Nat) (s : Ca) (e : En) (hk : atK e.key s.K = none) (h : CacheAt w B s) (hn : e.key.name ≠ ByteArray.empty) (h1 : 0 ≤ s.ck) (h2 : s.ck < 9223372036854775807) :
    Calls Tryz.prog 66 #[.pointer (some ⟨s.p, 0, none⟩), .agg #[.int .i64 e.key.dir, .string e.key.name, .bool e.neg, .int .i64 e.node.id, .int .i64 e.node.kind, .int .i64 e.node.mode, .string e.node.target]] w fun r w' => r = .returned (.int .i64 0) ∧ CacheAt w' B { s with K := s.K ++ [⟨e, s.ck + 1, s.c1⟩], ck := s.ck + 1, c1 := s.c1 + 1 } ∧ Chg (CaF s) w w' := by
  have hne : e.key.name.toList ≠ [] := fun h3 => hn ((name_empty _).2 h3)
  have hne2 : e.key.name.toList.isEmpty = false := by simpa using hne
  have b0 := blk3 h.hp
  have hpz := blk_lt h.hp
  have hmz := blk_lt h.he
  have BX := blk7 (heap_new w (.cells #[.int .i64 e.key.dir, .string e.key.name, .bool e.neg, .int .i64 e.node.id, .int .i64 e.node.kind, .int .i64 e.node.mode, .string e.node.target] 55))
  have HH := hid h
  have HK := hid hk
  clear h hk hn hne
  go_enter Tryz.func66, Tryz.ntmps66
  go_wp2_with fail
  go_region_held3 (fun w' => w'.cell? ⟨s.p, 0, none⟩ = some (.map (some s.me)) ∧ w'.cell? ⟨w.heap.size, 0, none⟩ = some (.int .i64 e.key.dir) ∧ w'.cell? ⟨w.heap.size, 1, none⟩ = some (.string e.key.name) ∧ w'.cell? ⟨w.heap.size, 2, none⟩ = some (.bool e.neg) ∧ w'.cell? ⟨w.heap.size, 3, none⟩ = some (.int .i64 e.node.id) ∧ w'.cell? ⟨w.heap.size, 4, none⟩ = some (.int .i64 e.node.kind) ∧ w'.cell? ⟨w.heap.size, 5, none⟩ = some (.int .i64 e.node.mode) ∧ w'.cell? ⟨w.heap.size, 6, none⟩ = some (.string e.node.target))
    (first | exact ⟨cellA b0.1 _, BX.1, BX.2.1, BX.2.2.1, BX.2.2.2.1, BX.2.2.2.2.1, BX.2.2.2.2.2.1, BX.2.2.2.2.2.2.1⟩ | exact KS | exact KT)
    (first
      | (go_at_call 100; refine (dent_tick _ B s (HH.out.below (bl1 w _).drew) h1 h2).mono ?_; rintro r w1 ⟨rfl, hc1, hg1⟩; (have hup := run_put_new (w := w1) ⟨e, s.ck + 1, s.c1⟩ hc1.he HK.out rfl); simp only [Ke.val] at hup; (have kb0 := heap_chg hg1 (heap_new w (.cells #[.int .i64 e.key.dir, .string e.key.name, .bool e.neg, .int .i64 e.node.id, .int .i64 e.node.kind, .int .i64 e.node.mode, .string e.node.target] 55)) (by omega)); (have bp := blk3 hc1.hp); (have q0 := blk7 kb0); (have KS := And.intro bp.1 (And.intro q0.1 (And.intro q0.2.1 (And.intro q0.2.2.1 (And.intro q0.2.2.2.1 (And.intro q0.2.2.2.2.1 (And.intro q0.2.2.2.2.2.1 q0.2.2.2.2.2.2.1)))))))
        ; (obtain ⟨M, hM⟩ : ∃ M, M = Obj.map (kes (s.K ++ [⟨e, s.ck + 1, s.c1⟩])) (s.c1 + 1) := ⟨_, rfl⟩)
        ; (have bp' := blk3 (heap_setBlock_ne (o := M) hc1.hp hc1.pe)); (have q0' := blk7 (heap_setBlock_ne (o := M) (r := s.me) kb0 (by omega))); (have KT := And.intro bp'.1 (And.intro q0'.1 (And.intro q0'.2.1 (And.intro q0'.2.2.1 (And.intro q0'.2.2.2.1 (And.intro q0'.2.2.2.2.1 (And.intro q0'.2.2.2.2.2.1 q0'.2.2.2.2.2.2.1)))))))
        ; rw [hM] at KT; clear hM bp' q0'))
  go_wp2
  go_ret
  exact ⟨rfl, CacheAt.putNew _ hc1 HK.out rfl, Chg.trans (Chg.below (bl1 w _).drew) (chg_tick_set hg1) (fun _ _ h => h.elim) (fun _ _ h => h)⟩

def addW (d : Int) (s : Ca) : Ca := match atW d s.W with | some _ => s | none => { s with W := s.W ++ [⟨d, s.c2⟩], c2 := s.c2 + 1 }

theorem CacheAt.addW {w1 : World} {B : Nat} {s : Ca} {d : Int} (h : CacheAt w1 B s) :
    CacheAt (setBlock w1 s.mw (.map (wes (addW d s).W) (addW d s).c2)) B (addW d s) := by
  unfold Go.Proofs.YtbjibkjenleloaaGreatDoor.addW
  cases hj : atW d s.W with
  | some j =>
    exact ⟨h.hB, h.hBe, h.hBw, heap_setBlock_ne h.hp h.pw, heap_setBlock_ne h.he h.hne, heap_setBlock h.hw, h.hne, h.b1, h.n1, h.k1, h.b2, h.n2, h.k2⟩
  | none =>
    refine ⟨h.hB, h.hBe, h.hBw, heap_setBlock_ne h.hp h.pw, heap_setBlock_ne h.he h.hne, heap_setBlock h.hw, h.hne, h.b1, h.n1, h.k1, fun z hz => ?_, ?_, ?_⟩
    · rcases List.mem_append.1 hz with hz | hz
      · exact Nat.lt_succ_of_lt (h.b2 z hz)
      · obtain rfl := List.mem_singleton.1 hz; exact Nat.lt_succ_self _
    · rw [List.map_append, List.nodup_append]
      refine ⟨h.n2, by simp, fun a ha b hb' => ?_⟩
      obtain ⟨z, hz, rfl⟩ := List.mem_map.1 ha
      simp at hb'; subst hb'
      have := h.b2 z hz
      omega
    · rw [List.map_append, List.nodup_append]
      refine ⟨h.k2, by simp, fun a ha b hb' => ?_⟩
      obtain ⟨z, hz, rfl⟩ := List.mem_map.1 ha
      simp at hb'; subst hb'
      have := List.findIdx?_eq_none_iff.1 hj z hz
      simp at this
      exact fun e => this e.symm

set_option maxHeartbeats 1000000 in
theorem dent_setwhole (w : World) (B : Nat) (s : Ca) (d : Int) (h : CacheAt w B s) :
    Calls Tryz.prog 67 #[.pointer (some ⟨s.p, 0, none⟩), .int .i64 d] w fun r w' => r = .returned (.tuple #[]) ∧ CacheAt w' B (addW d s) ∧ Chg (CaF s) w w' := by
  have b0 := blk3 h.hp
  have hup : (Instr.mapUpdate 135 (.map (some s.mw)) (.int .i64 d) (.bool true)).run Tryz.prog w = .ok () (setBlock w s.mw (.map (wes (addW d s).W) (addW d s).c2)) := by
    unfold addW
    cases hj : atW d s.W with
    | some j => exact run_setw_old h.hw hj
    | none => exact run_setw_new h.hw hj
  have HH := hid h
  clear h
  go_enter Tryz.func67, Tryz.ntmps67
  go_wp2
  go_end0
  exact ⟨rfl, HH.out.addW, (chg_setBlock w s.mw _).mono fun _ _ h => .inr (.inr h)⟩

set_option maxHeartbeats 1000000 in
theorem dent_clear (w : World) (B : Nat) (s : Ca) (h : CacheAt w B s) :
    Calls Tryz.prog 33 #[.pointer (some ⟨s.p, 0, none⟩)] w fun r w' => r = .returned (.tuple #[]) ∧ CacheAt w' B { s with K := [], W := [] } ∧ Chg (CaF s) w w' := by
  have b0 := blk3 h.hp
  have b1 := blk3 (heap_setBlock_ne (o := .map (kes []) s.c1) h.hp h.pe)
  have HH := hid h
  clear h
  go_enter Tryz.func33, Tryz.ntmps33
  go_wp2_with (first
    | (with_reducible refine wpList_clear_k rfl (.tmp 5) rfl s.me s.c1 rfl s.K HH.out.he ?_)
    | (with_reducible refine wpList_clear_w rfl (.tmp 9) rfl s.mw s.c2 rfl s.W (heap_setBlock_ne HH.out.hw (Ne.symm HH.out.hne)) ?_))
  go_end0
  have hh := HH.out
  refine ⟨rfl, ⟨hh.hB, hh.hBe, hh.hBw, heap_setBlock_ne (heap_setBlock_ne hh.hp hh.pe) hh.pw, heap_setBlock_ne (heap_setBlock hh.he) hh.hne, heap_setBlock (heap_setBlock_ne hh.hw (Ne.symm hh.hne)), hh.hne, by simp, by simp, by simp, by simp, by simp, by simp⟩, ?_⟩
  exact Chg.trans (chg_setBlock w s.me _) (chg_setBlock _ s.mw _) (fun _ _ h => .inr (.inl h)) (fun _ _ h => .inr (.inr h))

end Go.Proofs.YtbjibkjenleloaaGreatDoor

end

section
namespace Go.Proofs.YtbjibkjenleloaaGreatDoor
set_option linter.unusedVariables false
set_option linter.unusedSimpArgs false
open Go.RowKit
open Go.ChangeMaps (setBlock)
attribute [local go_sem ↓] Go.wp_at_zero Go.wp_at_succ

theorem mem_delK {k : Ky} {K : List Ke} {x : Ke} (h : x ∈ delK k K) : x ∈ K := by
  unfold delK at h; split at h
  · exact List.mem_of_mem_eraseIdx h
  · exact h
theorem sub_delK (k : Ky) (K : List Ke) : (delK k K).Sublist K := by
  unfold delK; split
  · exact List.eraseIdx_sublist ..
  · exact List.Sublist.refl _
theorem sub_delW (d : Int) (W : List Wh) : (delW d W).Sublist W := by
  unfold delW; split
  · exact List.eraseIdx_sublist ..
  · exact List.Sublist.refl _

theorem CacheAt.delE {w1 : World} {B : Nat} {s : Ca} (k : Ky) (h : CacheAt w1 B s) : CacheAt (setBlock w1 s.me (.map (kes (delK k s.K)) s.c1)) B { s with K := delK k s.K } :=
  ⟨h.hB, h.hBe, h.hBw, heap_setBlock_ne h.hp h.pe, heap_setBlock h.he, heap_setBlock_ne h.hw (Ne.symm h.hne), h.hne, fun z hz => h.b1 z (mem_delK hz), h.n1.sublist ((sub_delK k s.K).map _), h.k1.sublist ((sub_delK k s.K).map _), h.b2, h.n2, h.k2⟩
theorem CacheAt.delD {w1 : World} {B : Nat} {s : Ca} (d : Int) (h : CacheAt w1 B s) : CacheAt (setBlock w1 s.mw (.map (wes (delW d s.W)) s.c2)) B { s with W := delW d s.W } :=
  ⟨h.hB, h.hBe, h.hBw, heap_setBlock_ne h.hp h.pw, heap_setBlock_ne h.he h.hne, heap_setBlock h.hw, h.hne, h.b1, h.n1, h.k1, fun z hz => h.b2 z ((sub_delW d s.W).subset hz), h.n2.sublist ((sub_delW d s.W).map _), h.k2.sublist ((sub_delW d s.W).map _)⟩

theorem CacheAt.drew {w : World} {B : Nat} {s : Ca} (h : CacheAt w B s) : CacheAt w.drew B s :=
  ⟨h.hB, h.hBe, h.hBw, h.hp, h.he, h.hw, h.hne, h.b1, h.n1, h.k1, h.b2, h.n2, h.k2⟩

theorem delK_none {k : Ky} {K : List Ke} (h : atK k K = none) : delK k K = K := by simp [delK, h]

set_option maxHeartbeats 1000000 in
theorem dent_evict_no (w : World) (B : Nat) (s : Ca) (k : Ky) (h : CacheAt w B s) (hk : atK k s.K = none) :
    Calls Tryz.prog 103 #[.pointer (some ⟨s.p, 0, none⟩), k.v] w fun e w' => e = .returned (.bool false) ∧ CacheAt w' B s ∧ Chg (CaF s) w w' := by
  have HK := hid hk
  have b0 := blk3 h.hp
  have hpz := blk_lt h.hp
  have hmz := blk_lt h.he
  have HL : ∀ W : World, W.heap[s.me]? = some (.map (kes s.K) s.c1) → (Instr.lookup 134 (.map (some s.me)) (.agg #[.int .i64 k.dir, .string k.name]) true).run Tryz.prog W = .ok (.tuple #[.agg #[.int .i64 0, .string ByteArray.empty, .bool false, .int .i64 0, .int .i64 0, .int .i64 0, .string ByteArray.empty, .int .i64 0], .bool false]) W := fun W hW => run_look_no hW hk
  have he := h.he
  have BX := blk2 (heap_new w (.cells #[.int .i64 k.dir, .string k.name] 53))
  have HE := hid he
  have HH := hid h
  clear h he hk
  unfold Ky.v
  go_enter Tryz.func103, Tryz.ntmps103
  go_upto_region 1 with fail
  go_cut [5, 6] (fun v5 v6 wx => v5 = .pointer (some ⟨w.heap.size + 1, 0, none⟩) ∧ v6 = .bool false ∧ wx = ((w.alloc (.cells #[.int .i64 k.dir, .string k.name] 53)).alloc (.cells #[.int .i64 0, .string ByteArray.empty, .bool false, .int .i64 0, .int .i64 0, .int .i64 0, .string ByteArray.empty, .int .i64 0] 142)).drew)
  case first =>
    go_region_held3 (fun w' => w'.cell? ⟨s.p, 0, none⟩ = some (.map (some s.me)) ∧ w'.cell? ⟨w.heap.size, 0, none⟩ = some (.int .i64 k.dir) ∧ w'.cell? ⟨w.heap.size, 1, none⟩ = some (.string k.name) ∧ w'.heap[s.me]? = some (.map (kes s.K) s.c1))
      (refine ⟨?_, ?_, ?_, ?_⟩ <;> first | exact cellA (b0.1) _ | exact BX.1 | exact BX.2.1 | exact heap_old (HE.out) _ | exact cellA (cellA (b0.1) _) _ | exact cellA (BX.1) _ | exact cellA (BX.2.1) _ | exact heap_old (heap_old (HE.out) _) _)
      (fail)
    all_goals (go_wp2_with fail; go_meet; exact ⟨rfl, rfl, rfl⟩)
  case rest =>
    clear HL
    obtain ⟨rfl, rfl, rfl⟩ := hcut
    have hh := HH.out.below ((bl2 w (.cells #[.int .i64 k.dir, .string k.name] 53) (.cells #[.int .i64 0, .string ByteArray.empty, .bool false, .int .i64 0, .int .i64 0, .int .i64 0, .string ByteArray.empty, .int .i64 0] 142)).drew)
    have HC := hid hh
    have c0 := blk3 hh.hp
    have kbx := heap_old (heap_new w (.cells #[.int .i64 k.dir, .string k.name] 53)) (.cells #[.int .i64 0, .string ByteArray.empty, .bool false, .int .i64 0, .int .i64 0, .int .i64 0, .string ByteArray.empty, .int .i64 0] 142)
    have BY := blk2 kbx
    have BZ := blk8 (heap_new (w.alloc (.cells #[.int .i64 k.dir, .string k.name] 53)) (.cells #[.int .i64 0, .string ByteArray.empty, .bool false, .int .i64 0, .int .i64 0, .int .i64 0, .string ByteArray.empty, .int .i64 0] 142))
    have KBX := hid kbx
    simp only [World.size_alloc] at BZ
    clear hh kbx BX b0
    go_wp2_with fail
    go_region_law (refine step_delete_k (by rfl) (.tmp 32) (.tmp 33) _ (by rfl) s.me s.c1 (by rfl) k.dir k.name (by rfl) s.K (by exact HC.out.he) ?_)
    all_goals
      go_wp2
      go_ret
      have h1 := HC.out.drew.delE k
      have h2 : ({ s with K := delK k s.K } : Ca) = s := by rw [delK_none HK.out]
      rw [h2] at h1
      exact ⟨rfl, ⟨h1.hB, h1.hBe, h1.hBw, h1.hp, h1.he, h1.hw, h1.hne, h1.b1, h1.n1, h1.k1, h1.b2, h1.n2, h1.k2⟩, Chg.trans (Chg.below (bl2 w _ _).drew.drew) (chg_setBlock _ s.me _) (fun _ _ h => h.elim) (fun _ _ h => .inr (.inl h))⟩

set_option maxHeartbeats 1000000 in
theorem dent_evict_neg (w : World) (B : Nat) (s : Ca) (k : Ky) (j : Nat) (x : Ke) (h : CacheAt w B s) (hk : atK k s.K = some j) (hx : s.K[j]? = some x) (hneg : x.e.neg = true) :
    Calls Tryz.prog 103 #[.pointer (some ⟨s.p, 0, none⟩), k.v] w fun e w' => e = .returned (.bool true) ∧ CacheAt w' B { s with K := delK k s.K } ∧ Chg (CaF s) w w' := by
  have HN := hid hneg
  have b0 := blk3 h.hp
  have hpz := blk_lt h.hp
  have hmz := blk_lt h.he
  have HL : ∀ W : World, W.heap[s.me]? = some (.map (kes s.K) s.c1) → (Instr.lookup 134 (.map (some s.me)) (.agg #[.int .i64 k.dir, .string k.name]) true).run Tryz.prog W = .ok (.tuple #[.agg #[.int .i64 x.e.key.dir, .string x.e.key.name, .bool x.e.neg, .int .i64 x.e.node.id, .int .i64 x.e.node.kind, .int .i64 x.e.node.mode, .string x.e.node.target, .int .i64 x.used], .bool true]) W := fun W hW => run_look_yes hW hk hx
  have he := h.he
  have BX := blk2 (heap_new w (.cells #[.int .i64 k.dir, .string k.name] 53))
  have HE := hid he
  have HH := hid h
  simp only [hneg] at HL
  clear h he hk hx hneg
  unfold Ky.v
  go_enter Tryz.func103, Tryz.ntmps103
  go_upto_region 1 with fail
  go_cut [5, 6] (fun v5 v6 wx => v5 = .pointer (some ⟨w.heap.size + 1, 0, none⟩) ∧ v6 = .bool true ∧ wx = ((w.alloc (.cells #[.int .i64 k.dir, .string k.name] 53)).alloc (.cells #[.int .i64 x.e.key.dir, .string x.e.key.name, .bool true, .int .i64 x.e.node.id, .int .i64 x.e.node.kind, .int .i64 x.e.node.mode, .string x.e.node.target, .int .i64 x.used] 142)).drew)
  case first =>
    go_region_held3 (fun w' => w'.cell? ⟨s.p, 0, none⟩ = some (.map (some s.me)) ∧ w'.cell? ⟨w.heap.size, 0, none⟩ = some (.int .i64 k.dir) ∧ w'.cell? ⟨w.heap.size, 1, none⟩ = some (.string k.name) ∧ w'.heap[s.me]? = some (.map (kes s.K) s.c1))
      (refine ⟨?_, ?_, ?_, ?_⟩ <;> first | exact cellA (b0.1) _ | exact BX.1 | exact BX.2.1 | exact heap_old (HE.out) _ | exact cellA (cellA (b0.1) _) _ | exact cellA (BX.1) _ | exact cellA (BX.2.1) _ | exact heap_old (heap_old (HE.out) _) _)
      (fail)
    all_goals (go_wp2_with fail; go_meet; exact ⟨rfl, rfl, rfl⟩)
  case rest =>
    clear HL
    obtain ⟨rfl, rfl, rfl⟩ := hcut
    have hh := HH.out.below ((bl2 w (.cells #[.int .i64 k.dir, .string k.name] 53) (.cells #[.int .i64 x.e.key.dir, .string x.e.key.name, .bool true, .int .i64 x.e.node.id, .int .i64 x.e.node.kind, .int .i64 x.e.node.mode, .string x.e.node.target, .int .i64 x.used] 142)).drew)
    have HC := hid hh
    have c0 := blk3 hh.hp
    have kbx := heap_old (heap_new w (.cells #[.int .i64 k.dir, .string k.name] 53)) (.cells #[.int .i64 x.e.key.dir, .string x.e.key.name, .bool true, .int .i64 x.e.node.id, .int .i64 x.e.node.kind, .int .i64 x.e.node.mode, .string x.e.node.target, .int .i64 x.used] 142)
    have BY := blk2 kbx
    have BZ := blk8 (heap_new (w.alloc (.cells #[.int .i64 k.dir, .string k.name] 53)) (.cells #[.int .i64 x.e.key.dir, .string x.e.key.name, .bool true, .int .i64 x.e.node.id, .int .i64 x.e.node.kind, .int .i64 x.e.node.mode, .string x.e.node.target, .int .i64 x.used] 142))
    have KBX := hid kbx
    simp only [World.size_alloc] at BZ
    clear hh kbx BX b0
    go_wp2_with fail
    go_region_law (refine step_delete_k (by rfl) (.tmp 32) (.tmp 33) _ (by rfl) s.me s.c1 (by rfl) k.dir k.name (by rfl) s.K (by exact HC.out.he) ?_)
    all_goals
      go_wp2
      go_ret
      exact ⟨rfl, HC.out.drew.delE k, Chg.trans (Chg.below (bl2 w _ _).drew.drew) (chg_setBlock _ s.me _) (fun _ _ h => h.elim) (fun _ _ h => .inr (.inl h))⟩

set_option maxHeartbeats 1000000 in
theorem dent_evict_pos (w : World) (B : Nat) (s : Ca) (k : Ky) (j : Nat) (x : Ke) (h : CacheAt w B s) (hk : atK k s.K = some j) (hx : s.K[j]? = some x) (hneg : x.e.neg = false) :
    Calls Tryz.prog 103 #[.pointer (some ⟨s.p, 0, none⟩), k.v] w fun e w' => e = .returned (.bool true) ∧ CacheAt w' B { s with K := delK k s.K, W := delW k.dir s.W } ∧ Chg (CaF s) w w' := by
  have HN := hid hneg
  have b0 := blk3 h.hp
  have hpz := blk_lt h.hp
  have hmz := blk_lt h.he
  have HL : ∀ W : World, W.heap[s.me]? = some (.map (kes s.K) s.c1) → (Instr.lookup 134 (.map (some s.me)) (.agg #[.int .i64 k.dir, .string k.name]) true).run Tryz.prog W = .ok (.tuple #[.agg #[.int .i64 x.e.key.dir, .string x.e.key.name, .bool x.e.neg, .int .i64 x.e.node.id, .int .i64 x.e.node.kind, .int .i64 x.e.node.mode, .string x.e.node.target, .int .i64 x.used], .bool true]) W := fun W hW => run_look_yes hW hk hx
  have he := h.he
  have BX := blk2 (heap_new w (.cells #[.int .i64 k.dir, .string k.name] 53))
  have HE := hid he
  have HH := hid h
  simp only [hneg] at HL
  clear h he hk hx hneg
  unfold Ky.v
  go_enter Tryz.func103, Tryz.ntmps103
  go_upto_region 1 with fail
  go_cut [5, 6] (fun v5 v6 wx => v5 = .pointer (some ⟨w.heap.size + 1, 0, none⟩) ∧ v6 = .bool true ∧ wx = ((w.alloc (.cells #[.int .i64 k.dir, .string k.name] 53)).alloc (.cells #[.int .i64 x.e.key.dir, .string x.e.key.name, .bool false, .int .i64 x.e.node.id, .int .i64 x.e.node.kind, .int .i64 x.e.node.mode, .string x.e.node.target, .int .i64 x.used] 142)).drew)
  case first =>
    go_region_held3 (fun w' => w'.cell? ⟨s.p, 0, none⟩ = some (.map (some s.me)) ∧ w'.cell? ⟨w.heap.size, 0, none⟩ = some (.int .i64 k.dir) ∧ w'.cell? ⟨w.heap.size, 1, none⟩ = some (.string k.name) ∧ w'.heap[s.me]? = some (.map (kes s.K) s.c1))
      (refine ⟨?_, ?_, ?_, ?_⟩ <;> first | exact cellA (b0.1) _ | exact BX.1 | exact BX.2.1 | exact heap_old (HE.out) _ | exact cellA (cellA (b0.1) _) _ | exact cellA (BX.1) _ | exact cellA (BX.2.1) _ | exact heap_old (heap_old (HE.out) _) _)
      (fail)
    all_goals (go_wp2_with fail; go_meet; exact ⟨rfl, rfl, rfl⟩)
  case rest =>
    clear HL
    obtain ⟨rfl, rfl, rfl⟩ := hcut
    have hh := HH.out.below ((bl2 w (.cells #[.int .i64 k.dir, .string k.name] 53) (.cells #[.int .i64 x.e.key.dir, .string x.e.key.name, .bool false, .int .i64 x.e.node.id, .int .i64 x.e.node.kind, .int .i64 x.e.node.mode, .string x.e.node.target, .int .i64 x.used] 142)).drew)
    have HC := hid hh
    have c0 := blk3 hh.hp
    have kbx := heap_old (heap_new w (.cells #[.int .i64 k.dir, .string k.name] 53)) (.cells #[.int .i64 x.e.key.dir, .string x.e.key.name, .bool false, .int .i64 x.e.node.id, .int .i64 x.e.node.kind, .int .i64 x.e.node.mode, .string x.e.node.target, .int .i64 x.used] 142)
    have BY := blk2 kbx
    have BZ := blk8 (heap_new (w.alloc (.cells #[.int .i64 k.dir, .string k.name] 53)) (.cells #[.int .i64 x.e.key.dir, .string x.e.key.name, .bool false, .int .i64 x.e.node.id, .int .i64 x.e.node.kind, .int .i64 x.e.node.mode, .string x.e.node.target, .int .i64 x.used] 142))
    have KBX := hid kbx
    simp only [World.size_alloc] at BZ
    clear hh kbx BX b0
    have hd := CacheAt.delD (w1 := (((w.alloc (.cells #[.int .i64 k.dir, .string k.name] 53)).alloc (.cells #[.int .i64 x.e.key.dir, .string x.e.key.name, .bool false, .int .i64 x.e.node.id, .int .i64 x.e.node.kind, .int .i64 x.e.node.mode, .string x.e.node.target, .int .i64 x.used] 142)).drew).drew) (s := s) (B := B) k.dir HC.out.drew
    have HD := hid hd
    have c1 := blk3 hd.hp
    have ky := blk2 (heap_setBlock_ne (w := (((w.alloc (.cells #[.int .i64 k.dir, .string k.name] 53)).alloc (.cells #[.int .i64 x.e.key.dir, .string x.e.key.name, .bool false, .int .i64 x.e.node.id, .int .i64 x.e.node.kind, .int .i64 x.e.node.mode, .string x.e.node.target, .int .i64 x.used] 142)).drew).drew) (r := s.mw) (o := .map (wes (delW k.dir s.W)) s.c2) KBX.out (by have := blk_lt HH.out.hw; omega))
    clear hd
    go_wp2_with fail
    go_region_law (refine step_delete_w (by rfl) (.tmp 26) (.tmp 28) _ (by rfl) s.mw s.c2 (by rfl) k.dir (by rfl) s.W (by exact HC.out.hw) ?_)
    all_goals
      go_wp2_with fail
      go_region_law (refine step_delete_k (by rfl) (.tmp 32) (.tmp 33) _ (by rfl) s.me s.c1 (by rfl) k.dir k.name (by rfl) s.K (by exact HD.out.he) ?_)
      all_goals
        go_wp2
        go_ret
        exact ⟨rfl, HD.out.drew.delE k, Chg.trans (Chg.below (bl2 w _ _).drew.drew) (Chg.trans (chg_setBlock _ s.mw _).drew (chg_setBlock _ s.me _) (fun _ _ h => .inr (.inr h)) (fun _ _ h => .inr (.inl h))) (fun _ _ h => h.elim) (fun _ _ h => h)⟩

end Go.Proofs.YtbjibkjenleloaaGreatDoor

end

section
namespace Go.Proofs.YtbjibkjenleloaaGreatDoor
set_option linter.unusedVariables false
set_option linter.unusedSimpArgs false
open Go.RowKit
open Go.ChangeMaps (setBlock)
attribute [local go_sem ↓] Go.wp_at_zero Go.wp_at_succ

theorem run_range_k {w : World} {me cl : Nat} {K : List Ke} (h : w.heap[me]? = some (.map (kes K) cl)) :
    (Instr.range 134 (.map (some me))).run Tryz.prog w = .ok (.pointer (some ⟨w.heap.size, 0, none⟩)) (w.alloc (.mapIter (some me) cl #[] cl)) := by
  simp [Instr.range, run_underlying Tryz.underlying134, getObj, Sem.run, h, newObj]

/-- an iterator over the entries: D is done, rest is to come -/
structure ItAt (w : World) (r me cl : Nat) (K D rest : List Ke) : Prop where
  it : ∃ c0, cl ≤ c0 ∧ w.heap[r]? = some (.mapIter (some me) cl (D.map Ke.born).toArray c0)
  pm : (D ++ rest).Perm K

theorem left_mem {K D rest : List Ke} (hp : (D ++ rest).Perm K) (hn : (K.map Ke.born).Nodup) (e : MapEntry) : e ∈ (leftOf (kes K) (D.map Ke.born).toArray).toList ↔ ∃ x ∈ rest, x.me = e := by
  have hn2 : ((D ++ rest).map Ke.born).Nodup := (hp.map _).nodup_iff.2 hn
  rw [List.map_append, List.nodup_append] at hn2
  simp only [leftOf, Array.toList_filter, kes_toList, List.mem_filter, List.mem_map]
  constructor
  · rintro ⟨⟨x, hx, rfl⟩, h2⟩
    rcases List.mem_append.1 (hp.mem_iff.2 hx) with h | h
    · simp [Ke.me] at h2
      exact absurd rfl (h2 x h)
    · exact ⟨x, h, rfl⟩
  · rintro ⟨x, hx, rfl⟩
    refine ⟨⟨x, hp.mem_iff.1 (List.mem_append.2 (.inr hx)), rfl⟩, ?_⟩
    simp [Ke.me]
    intro y hy e
    exact hn2.2.2 _ (List.mem_map.2 ⟨y, hy, rfl⟩) _ (List.mem_map.2 ⟨x, hx, rfl⟩) e

theorem perm_out {α : Type} {l : List α} {x : α} (h : x ∈ l) : ∃ l', l.Perm (x :: l') := by
  obtain ⟨a, b, rfl⟩ := List.append_of_mem h
  exact ⟨a ++ b, List.perm_middle⟩

theorem run_next_k {w : World} {r me cl : Nat} {K D rest : List Ke} (ty : TypeId) (hi : ItAt w r me cl K D rest) (he : w.heap[me]? = some (.map (kes K) cl)) (hb : ∀ x ∈ K, x.born < cl) (hn : (K.map Ke.born).Nodup) :
    (rest = [] ∧ (Instr.next (.pointer (some ⟨r, 0, none⟩)) false ty).run Tryz.prog w = .ok (.tuple #[.bool false]) w) ∨
    ∃ x rest' W, (Instr.next (.pointer (some ⟨r, 0, none⟩)) false ty).run Tryz.prog w = .ok (.tuple #[.bool true, x.e.key.v, x.val]) W ∧ ItAt W r me cl K (D ++ [x]) rest' ∧ Chg (fun k => k = r) w W ∧ x ∈ K ∧
      (W.heap[r]? = some (.mapIter (some me) cl ((D.map Ke.born).toArray.push x.born) cl)) ∧ rest.Perm (x :: rest') := by
  obtain ⟨⟨c0, hc0, hr⟩, hp⟩ := hi
  have hold : ∀ x ∈ (kes K).toList, x.born < cl := by
    intro x hx
    rw [kes_toList] at hx
    obtain ⟨y, hy, rfl⟩ := List.mem_map.1 hx
    exact hb y hy
  rcases run_next_at (P := Tryz.prog) w ty r me cl c0 (D.map Ke.born).toArray (kes K) cl hr he hold hc0 with ⟨h0, h1⟩ | ⟨e, hme, w1, hw1, hrun⟩
  · left
    refine ⟨?_, h1⟩
    cases rest with
    | nil => rfl
    | cons x rest =>
      have := (left_mem hp hn x.me).2 ⟨x, by simp, rfl⟩
      have h2 : (leftOf (kes K) (D.map Ke.born).toArray) = #[] := Array.eq_empty_of_size_eq_zero h0
      rw [h2] at this; simp at this
  · right
    obtain ⟨x, hx, rfl⟩ := (left_mem hp hn e).1 hme
    obtain ⟨rest', hr'⟩ := perm_out hx
    have hh : w1.heap = w.heap := by rcases hw1 with rfl | rfl <;> rfl
    have hdr : Dr w w1 := by rcases hw1 with rfl | rfl; exact Dr.refl _; exact ⟨1, rfl⟩
    have hr1 : w1.heap[r]? = some (.mapIter (some me) cl (D.map Ke.born).toArray c0) := by rw [hh]; exact hr
    refine ⟨x, rest', _, hrun, ⟨⟨cl, Nat.le_refl _, ?_⟩, ?_⟩, ?_, hp.mem_iff.1 (List.mem_append.2 (.inr hx)), heap_setBlock hr1, hr'⟩
    · rw [heap_setBlock hr1]; simp [Ke.me]
    · refine List.Perm.trans ?_ hp
      rw [List.append_assoc]
      exact (List.Perm.append_left D hr'.symm)
    · exact Chg.trans (Chg.mono (Chg.below (hdr.below _)) (fun _ _ h => h.elim)) (chg_setBlock w1 r _) (fun _ _ h => h) (fun _ _ h => h)

theorem wpList_next_k {w : World} {ops : Array Oper} {rest0 : List Oper} {o : Oper} {a : Act} {Q : Exit → Act → World → Prop} (hgd : o.guard = none) (it : Operand) (hop : o.op = Op.next it false) (r me cl : Nat) (K D rest : List Ke) (hv : a.eval it = .pointer (some ⟨r, 0, none⟩))
    (hi : ItAt w r me cl K D rest) (he : w.heap[me]? = some (.map (kes K) cl)) (hb : ∀ x ∈ K, x.born < cl) (hn : (K.map Ke.born).Nodup)
    (h : (∀ u : Unit, rest = [] → wpList Tryz.prog ops Q rest0 (a.put o.dst (.tuple #[.bool false])) w) ∧
      ∀ x rest' W, ItAt W r me cl K (D ++ [x]) rest' → Chg (fun k => k = r) w W → x ∈ K → (W.heap[r]? = some (.mapIter (some me) cl ((D.map Ke.born).toArray.push x.born) cl)) → rest.Perm (x :: rest') → wpList Tryz.prog ops Q rest0 (a.put o.dst (.tuple #[.bool true, x.e.key.v, x.val])) W) :
    wpList Tryz.prog ops Q (o :: rest0) a w := by
  refine wpList_plain hgd fun _ hK => ?_
  unfold Oper.wp
  rcases run_next_k o.type hi he hb hn with ⟨h1, hrun⟩ | ⟨x, rest', W, hrun, h1, h2, h3, h4, h5⟩
  · simp only [execOp, hop, hv, Sem.run_bind, hrun, Result.andThen_ok, Sem.run_pure]
    exact hK _ _ (h.1 () h1)
  · simp only [execOp, hop, hv, Sem.run_bind, hrun, Result.andThen_ok, Sem.run_pure]
    exact hK _ _ (h.2 x rest' W h1 h2 h3 h4 h5)

theorem run_entry_k {w : World} {r me cl : Nat} {K D : List Ke} {x : Ke} (hr : w.heap[r]? = some (.mapIter (some me) cl ((D.map Ke.born).toArray.push x.born) cl)) (he : w.heap[me]? = some (.map (kes K) cl)) (hx : x ∈ K) (hn : (K.map Ke.born).Nodup) :
    (Instr.entry (.pointer (some ⟨r, 0, none⟩))).run Tryz.prog w = .ok (.tuple #[x.e.key.v, x.val]) w :=
  run_entry_at (P := Tryz.prog) w r me cl (D.map Ke.born).toArray (kes K) cl x.me hr he (by rw [kes_toList]; exact List.mem_map.2 ⟨x, hx, rfl⟩) (by rw [kes_toList, List.map_map]; exact hn)

end Go.Proofs.YtbjibkjenleloaaGreatDoor

end

section
namespace Go.Proofs.YtbjibkjenleloaaGreatDoor
set_option linter.unusedVariables false
set_option linter.unusedSimpArgs false
open Go.RowKit
open Go.ChangeMaps (setBlock)
attribute [local go_sem ↓] Go.wp_at_zero Go.wp_at_succ


theorem ItAt.seen {w : World} {r me cl : Nat} {K D rest : List Ke} (h : ItAt w r me cl K D rest) : (w.iterSeen r).size = D.length := by
  obtain ⟨c0, _, hr⟩ := h.it
  simp [World.iterSeen, hr]
theorem ItAt.len {w : World} {r me cl : Nat} {K D rest : List Ke} (h : ItAt w r me cl K D rest) : D.length + rest.length = K.length := by
  have := h.pm.length_eq; rw [List.length_append] at this; exact this
theorem ItAt.below {w w' : World} {r me cl : Nat} {K D rest : List Ke} (h : ItAt w r me cl K D rest) (hb : Below w.heap.size w w') : ItAt w' r me cl K D rest := by
  obtain ⟨⟨c0, h0, hr⟩, hp⟩ := h
  exact ⟨⟨c0, h0, heap_below hb hr (blk_lt hr)⟩, hp⟩

theorem chg_to_below {w wr W : World} {F : Nat → Prop} {B : Nat} (h : Below B w wr) (hc : Chg F wr W) (hF : ∀ k, F k → B ≤ k) (hB : B ≤ w.heap.size) : Below B w W :=
  ⟨hc.os.trans h.os, hc.tape.trans h.tape, hc.output.trans h.output, Nat.le_trans h.size hc.size, fun k hk => (hc.block k (by have := h.size; omega) (fun hf => by have := hF k hf; omega)).trans (h.block k hk)⟩
theorem ItAt.step {w W : World} {r me cl : Nat} {K D rest rest' : List Ke} {x : Ke} (h : ItAt w r me cl K D rest) (h2 : ItAt W r me cl K (D ++ [x]) rest') : K.length - (W.iterSeen r).size < K.length - (w.iterSeen r).size := by
  have a := h2.len
  rw [h2.seen, h.seen]
  simp at a ⊢; omega

/-- one step of a loop over the entries, as equations for the walk -/
theorem next_k {w : World} {r me cl : Nat} {K D rest : List Ke} (hi : ItAt w r me cl K D rest) (he : w.heap[me]? = some (.map (kes K) cl)) (hne : r ≠ me) (hb : ∀ x ∈ K, x.born < cl) (hn : (K.map Ke.born).Nodup) :
    (rest = [] ∧ ∀ ty, (Instr.next (.pointer (some ⟨r, 0, none⟩)) false ty).run Tryz.prog w = .ok (.tuple #[.bool false]) w) ∨
    ∃ x rest' W, (∀ ty, (Instr.next (.pointer (some ⟨r, 0, none⟩)) false ty).run Tryz.prog w = .ok (.tuple #[.bool true, .agg #[.int .i64 x.e.key.dir, .string x.e.key.name], (.agg #[.int .i64 x.e.key.dir, .string x.e.key.name, .bool x.e.neg, .int .i64 x.e.node.id, .int .i64 x.e.node.kind, .int .i64 x.e.node.mode, .string x.e.node.target, .int .i64 x.used])]) W) ∧
      ((Instr.entry (.pointer (some ⟨r, 0, none⟩))).run Tryz.prog W = .ok (.tuple #[.agg #[.int .i64 x.e.key.dir, .string x.e.key.name], (.agg #[.int .i64 x.e.key.dir, .string x.e.key.name, .bool x.e.neg, .int .i64 x.e.node.id, .int .i64 x.e.node.kind, .int .i64 x.e.node.mode, .string x.e.node.target, .int .i64 x.used])]) W) ∧
      ItAt W r me cl K (D ++ [x]) rest' ∧ Chg (fun k => k = r) w W ∧ x ∈ K ∧ rest.Perm (x :: rest') := by
  rcases run_next_k 0 hi he hb hn with ⟨h1, h2⟩ | ⟨x, rest', W, h1, h2, h3, h4, h5, h6⟩
  · exact .inl ⟨h1, fun _ => h2⟩
  · refine .inr ⟨x, rest', W, fun _ => h1, run_entry_k h5 (heap_chg h3 he (Ne.symm hne)) h4 hn, h2, h3, h4, h6⟩

def negs (K : List Ke) : Nat := K.countP fun x => x.e.neg

theorem negs_perm {K L : List Ke} (h : K.Perm L) : negs K = negs L := h.countP_eq _
theorem negs_le (K : List Ke) : negs K ≤ K.length := List.countP_le_length

set_option maxHeartbeats 1000000 in
theorem dent_negatives (w : World) (B : Nat) (s : Ca) (h : CacheAt w B s) (hlen : s.K.length < 4611686018427387904) :
    Calls Tryz.prog 104 #[.pointer (some ⟨s.p, 0, none⟩)] w fun e w' => e = .returned (.int .i64 (negs s.K)) ∧ Below w.heap.size w w' := by
  have b0 := blk3 h.hp
  have hrg := run_range_k h.he
  have HH := hid h
  clear h
  go_enter Tryz.func104, Tryz.ntmps104
  go_wp2_with fail
  go_loopw [3] (fun v wr => ∃ (D rest : List Ke), v = .int .i64 (negs D) ∧ Hid (ItAt wr w.heap.size s.me s.c1 s.K D rest) ∧ Below w.heap.size w wr) (fun _ wr => s.K.length - (wr.iterSeen w.heap.size).size)
  case atStart => exact ⟨[], s.K, rfl, hid ⟨⟨_, Nat.le_refl _, heap_new w _⟩, List.Perm.refl _⟩, bl1 w _⟩
  case round =>
    obtain ⟨D, rest, rfl, HI, hb⟩ := hrel
    have hh := HH.out.below hb
    have hme : w.heap.size ≠ s.me := fun e => by have := blk_lt HH.out.he; omega
    rcases next_k HI.out hh.he hme hh.b1 hh.n1 with ⟨h0, hnx⟩ | ⟨x, rest', W, hnx, hen, hit, hchg, hxm, hpm⟩
    · have HN := hid (show negs D = negs s.K by have := HI.out.pm; rw [h0, List.append_nil] at this; exact negs_perm this)
      clear h0 hh
      go_wp2
      go_ret
      exact ⟨by rw [HN.out]; rfl, hb⟩
    · have HT := hid hit
      have HC := hid hchg
      have HM := hid hxm
      have hle : negs D ≤ s.K.length := by have := HI.out.len; have := negs_le D; omega
      have BX := blk8 (heap_new W (.cells #[.int .i64 x.e.key.dir, .string x.e.key.name, .bool x.e.neg, .int .i64 x.e.node.id, .int .i64 x.e.node.kind, .int .i64 x.e.node.mode, .string x.e.node.target, .int .i64 x.used] 142))
      cases hng : x.e.neg
      · simp only [hng] at hnx hen BX
        have HN := hid (show negs (D ++ [x]) = negs D by simp [negs, hng])
        clear hh hit hchg hxm hpm hng
        go_wp2
        refine ⟨⟨D ++ [x], rest', by rw [HN.out], hid (HT.out.below (bl1 W _)), (chg_to_below hb HC.out (fun k hk => by omega) (Nat.le_refl _)).trans ((bl1 W _).mono (by have := hb.size; have := HC.out.size; omega))⟩, HI.out.step (HT.out.below (bl1 W _))⟩
      · simp only [hng] at hnx hen BX
        have HN := hid (show negs (D ++ [x]) = negs D + 1 by simp [negs, hng])
        clear hh hit hchg hxm hpm hng
        go_wp2
        refine ⟨⟨D ++ [x], rest', by rw [HN.out]; go_num, hid (HT.out.below (bl1 W _)), (chg_to_below hb HC.out (fun k hk => by omega) (Nat.le_refl _)).trans ((bl1 W _).mono (by have := hb.size; have := HC.out.size; omega))⟩, HI.out.step (HT.out.below (bl1 W _))⟩

/-- does an entry hang below a directory -/
def hangs (d : Int) (K : List Ke) : Bool := K.any fun x => x.e.key.dir == d
def leafId (x : Ke) : Int := if x.e.neg then 0 else x.e.node.id
theorem hangs_perm {K L : List Ke} (d : Int) (h : K.Perm L) : hangs d K = hangs d L := by
  unfold hangs
  rw [Bool.eq_iff_iff, List.any_eq_true, List.any_eq_true]
  exact ⟨fun ⟨x, hx, h2⟩ => ⟨x, h.mem_iff.1 hx, h2⟩, fun ⟨x, hx, h2⟩ => ⟨x, h.mem_iff.2 hx, h2⟩⟩
theorem hangs_snoc (d : Int) (K : List Ke) (x : Ke) : hangs d (K ++ [x]) = (hangs d K || x.e.key.dir == d) := by simp [hangs]
theorem hangs_mem {d : Int} {K : List Ke} {x : Ke} (h : x ∈ K) (he : x.e.key.dir = d) : hangs d K = true := List.any_eq_true.2 ⟨x, h, by simp [he]⟩

theorem ItAt.chgd {w w' : World} {r me cl : Nat} {K D rest : List Ke} (h : ItAt w r me cl K D rest) {F : Nat → Prop} (hc : Chg F w w') (hF : ¬ F r) : ItAt w' r me cl K D rest := by
  obtain ⟨⟨c0, h0, hr⟩, hp⟩ := h
  exact ⟨⟨c0, h0, heap_chg hc hr hF⟩, hp⟩

set_option maxHeartbeats 1000000 in
theorem dent_leaf_no (w : World) (B : Nat) (s : Ca) (k : Ky) (h : CacheAt w B s) (hk : atK k s.K = none) :
    Calls Tryz.prog 121 #[.pointer (some ⟨s.p, 0, none⟩), k.v] w fun e w' => e = .returned (.bool (false)) ∧ Below w.heap.size w w' := by
  have b0 := blk3 h.hp
  have hpz := blk_lt h.hp
  have hmz := blk_lt h.he
  have HL : ∀ W : World, W.heap[s.me]? = some (.map (kes s.K) s.c1) → (Instr.lookup 134 (.map (some s.me)) (.agg #[.int .i64 k.dir, .string k.name]) true).run Tryz.prog W = .ok (.tuple #[.agg #[.int .i64 0, .string ByteArray.empty, .bool false, .int .i64 0, .int .i64 0, .int .i64 0, .string ByteArray.empty, .int .i64 0], .bool false]) W := fun W hW => run_look_no hW hk
  have he := h.he
  have BX := blk2 (heap_new w (.cells #[.int .i64 k.dir, .string k.name] 53))
  have HE := hid he
  have HH := hid h
  clear h he hk
  unfold Ky.v
  go_enter Tryz.func121, Tryz.ntmps121
  go_upto_region 1 with fail
  go_cut [5, 6] (fun v5 v6 wx => v5 = .pointer (some ⟨w.heap.size + 1, 0, none⟩) ∧ v6 = .bool false ∧ Hid (Below w.heap.size w wx) ∧ Hid (wx.heap.size = w.heap.size + 2) ∧ Hid (wx.heap[w.heap.size + 1]? = some (.cells #[.int .i64 0, .string ByteArray.empty, .bool false, .int .i64 0, .int .i64 0, .int .i64 0, .string ByteArray.empty, .int .i64 0] 142)))
  case first =>
    go_region_held3 (fun w' => w'.cell? ⟨s.p, 0, none⟩ = some (.map (some s.me)) ∧ w'.cell? ⟨w.heap.size, 0, none⟩ = some (.int .i64 k.dir) ∧ w'.cell? ⟨w.heap.size, 1, none⟩ = some (.string k.name) ∧ w'.heap[s.me]? = some (.map (kes s.K) s.c1))
      (refine ⟨?_, ?_, ?_, ?_⟩ <;> first | exact cellA (b0.1) _ | exact BX.1 | exact BX.2.1 | exact heap_old (HE.out) _ | exact cellA (cellA (b0.1) _) _ | exact cellA (BX.1) _ | exact cellA (BX.2.1) _ | exact heap_old (heap_old (HE.out) _) _)
      (fail)
    all_goals
      go_wp2_with fail
      go_meet
      have e1 := heap_new (w.alloc (.cells #[.int .i64 k.dir, .string k.name] 53)) (.cells #[.int .i64 0, .string ByteArray.empty, .bool false, .int .i64 0, .int .i64 0, .int .i64 0, .string ByteArray.empty, .int .i64 0] 142)
      simp only [World.size_alloc] at e1
      exact ⟨rfl, rfl, hid (bl2 w (.cells #[.int .i64 k.dir, .string k.name] 53) (.cells #[.int .i64 0, .string ByteArray.empty, .bool false, .int .i64 0, .int .i64 0, .int .i64 0, .string ByteArray.empty, .int .i64 0] 142)).drew, hid (by simp), hid e1⟩
  case rest =>
    clear HL
    obtain ⟨rfl, rfl, HB, HZ, HX⟩ := hcut
    have hh := HH.out.below HB.out
    have HC := hid hh
    have c0 := blk3 hh.hp
    have BZ := blk8 HX.out
    have hrg := run_range_k hh.he
    clear hh BX b0
    go_wp2_with fail
    go_loopw [31] (fun _ wr => ∃ (D rest : List Ke), Hid (ItAt wr wc.heap.size s.me s.c1 s.K D rest) ∧ Hid (Below wc.heap.size wc wr) ∧ Hid (hangs (0) D = false)) (fun _ wr => s.K.length - (wr.iterSeen wc.heap.size).size)
    case atStart => exact ⟨[], s.K, hid ⟨⟨_, Nat.le_refl _, heap_new wc _⟩, List.Perm.refl _⟩, hid (bl1 wc _), hid rfl⟩
    case round =>
      clear hrg c0 BZ
      obtain ⟨D, rest, HI, HBB, HD⟩ := hrel
      have hh := HC.out.below HBB.out
      have hme : wc.heap.size ≠ s.me := fun e => by have := blk_lt HC.out.he; omega
      rcases next_k HI.out hh.he hme hh.b1 hh.n1 with ⟨h0, hnx⟩ | ⟨y, rest', W, hnx, hen, hit, hchg, hxm, hpm⟩
      · have HN := hid (show hangs (0) s.K = false by have := HI.out.pm; rw [h0, List.append_nil] at this; rw [← hangs_perm _ this]; exact HD.out)
        clear h0 hh
        go_wp2
        go_ret
        exact ⟨by simp [HN.out], HB.out.trans (HBB.out.mono (by have := HB.out.size; omega))⟩
      · have HT := hid hit
        have HG := hid hchg
        have HM := hid hxm
        have BX := blk2 (heap_new W (.cells #[.int .i64 y.e.key.dir, .string y.e.key.name] 53))
        have hbe := (chg_to_below HBB.out HG.out (fun k hk => by omega) (Nat.le_refl _)).trans ((bl1 W (.cells #[.int .i64 y.e.key.dir, .string y.e.key.name] 53)).mono (by have := HBB.out.size; have := HG.out.size; omega))
        have HE2 := hid hbe
        by_cases hd : y.e.key.dir = 0
        · have hd' : (y.e.key.dir == 0) = true := by simpa using hd
          have HN := hid (show hangs (0) s.K = true from hangs_mem HM.out hd)
          clear hh hit hchg hxm hpm hd hbe
          go_wp2
          go_ret
          exact ⟨by simp [HN.out], HB.out.trans (HE2.out.mono (by have := HB.out.size; omega))⟩
        · have hd' : (y.e.key.dir == 0) = false := by simpa using hd
          have HN := hid (show hangs (0) (D ++ [y]) = false by rw [hangs_snoc, HD.out, hd']; rfl)
          clear hh hit hchg hxm hpm hd hbe
          go_wp2
          refine ⟨⟨D ++ [y], rest', hid (HT.out.below (bl1 W _)), hid HE2.out, HN⟩, HI.out.step (HT.out.below (bl1 W _))⟩

set_option maxHeartbeats 1000000 in
theorem dent_leaf_neg (w : World) (B : Nat) (s : Ca) (k : Ky) (j : Nat) (x : Ke) (h : CacheAt w B s) (hk : atK k s.K = some j) (hx : s.K[j]? = some x) (hneg : x.e.neg = true) :
    Calls Tryz.prog 121 #[.pointer (some ⟨s.p, 0, none⟩), k.v] w fun e w' => e = .returned (.bool (!hangs 0 s.K)) ∧ Below w.heap.size w w' := by
  have b0 := blk3 h.hp
  have hpz := blk_lt h.hp
  have hmz := blk_lt h.he
  have HL : ∀ W : World, W.heap[s.me]? = some (.map (kes s.K) s.c1) → (Instr.lookup 134 (.map (some s.me)) (.agg #[.int .i64 k.dir, .string k.name]) true).run Tryz.prog W = .ok (.tuple #[.agg #[.int .i64 x.e.key.dir, .string x.e.key.name, .bool x.e.neg, .int .i64 x.e.node.id, .int .i64 x.e.node.kind, .int .i64 x.e.node.mode, .string x.e.node.target, .int .i64 x.used], .bool true]) W := fun W hW => run_look_yes hW hk hx
  have he := h.he
  have BX := blk2 (heap_new w (.cells #[.int .i64 k.dir, .string k.name] 53))
  have HE := hid he
  have HH := hid h
  simp only [hneg] at HL
  clear h he hk hx hneg
  unfold Ky.v
  go_enter Tryz.func121, Tryz.ntmps121
  go_upto_region 1 with fail
  go_cut [5, 6] (fun v5 v6 wx => v5 = .pointer (some ⟨w.heap.size + 1, 0, none⟩) ∧ v6 = .bool true ∧ Hid (Below w.heap.size w wx) ∧ Hid (wx.heap.size = w.heap.size + 2) ∧ Hid (wx.heap[w.heap.size + 1]? = some (.cells #[.int .i64 x.e.key.dir, .string x.e.key.name, .bool true, .int .i64 x.e.node.id, .int .i64 x.e.node.kind, .int .i64 x.e.node.mode, .string x.e.node.target, .int .i64 x.used] 142)))
  case first =>
    go_region_held3 (fun w' => w'.cell? ⟨s.p, 0, none⟩ = some (.map (some s.me)) ∧ w'.cell? ⟨w.heap.size, 0, none⟩ = some (.int .i64 k.dir) ∧ w'.cell? ⟨w.heap.size, 1, none⟩ = some (.string k.name) ∧ w'.heap[s.me]? = some (.map (kes s.K) s.c1))
      (refine ⟨?_, ?_, ?_, ?_⟩ <;> first | exact cellA (b0.1) _ | exact BX.1 | exact BX.2.1 | exact heap_old (HE.out) _ | exact cellA (cellA (b0.1) _) _ | exact cellA (BX.1) _ | exact cellA (BX.2.1) _ | exact heap_old (heap_old (HE.out) _) _)
      (fail)
    all_goals
      go_wp2_with fail
      go_meet
      have e1 := heap_new (w.alloc (.cells #[.int .i64 k.dir, .string k.name] 53)) (.cells #[.int .i64 x.e.key.dir, .string x.e.key.name, .bool true, .int .i64 x.e.node.id, .int .i64 x.e.node.kind, .int .i64 x.e.node.mode, .string x.e.node.target, .int .i64 x.used] 142)
      simp only [World.size_alloc] at e1
      exact ⟨rfl, rfl, hid (bl2 w (.cells #[.int .i64 k.dir, .string k.name] 53) (.cells #[.int .i64 x.e.key.dir, .string x.e.key.name, .bool true, .int .i64 x.e.node.id, .int .i64 x.e.node.kind, .int .i64 x.e.node.mode, .string x.e.node.target, .int .i64 x.used] 142)).drew, hid (by simp), hid e1⟩
  case rest =>
    clear HL
    obtain ⟨rfl, rfl, HB, HZ, HX⟩ := hcut
    have hh := HH.out.below HB.out
    have HC := hid hh
    have c0 := blk3 hh.hp
    have BZ := blk8 HX.out
    have hrg := run_range_k hh.he
    clear hh BX b0
    go_wp2_with fail
    go_loopw [31] (fun _ wr => ∃ (D rest : List Ke), Hid (ItAt wr wc.heap.size s.me s.c1 s.K D rest) ∧ Hid (Below wc.heap.size wc wr) ∧ Hid (hangs (0) D = false)) (fun _ wr => s.K.length - (wr.iterSeen wc.heap.size).size)
    case atStart => exact ⟨[], s.K, hid ⟨⟨_, Nat.le_refl _, heap_new wc _⟩, List.Perm.refl _⟩, hid (bl1 wc _), hid rfl⟩
    case round =>
      clear hrg c0 BZ
      obtain ⟨D, rest, HI, HBB, HD⟩ := hrel
      have hh := HC.out.below HBB.out
      have hme : wc.heap.size ≠ s.me := fun e => by have := blk_lt HC.out.he; omega
      rcases next_k HI.out hh.he hme hh.b1 hh.n1 with ⟨h0, hnx⟩ | ⟨y, rest', W, hnx, hen, hit, hchg, hxm, hpm⟩
      · have HN := hid (show hangs (0) s.K = false by have := HI.out.pm; rw [h0, List.append_nil] at this; rw [← hangs_perm _ this]; exact HD.out)
        clear h0 hh
        go_wp2
        go_ret
        exact ⟨by simp [HN.out], HB.out.trans (HBB.out.mono (by have := HB.out.size; omega))⟩
      · have HT := hid hit
        have HG := hid hchg
        have HM := hid hxm
        have BX := blk2 (heap_new W (.cells #[.int .i64 y.e.key.dir, .string y.e.key.name] 53))
        have hbe := (chg_to_below HBB.out HG.out (fun k hk => by omega) (Nat.le_refl _)).trans ((bl1 W (.cells #[.int .i64 y.e.key.dir, .string y.e.key.name] 53)).mono (by have := HBB.out.size; have := HG.out.size; omega))
        have HE2 := hid hbe
        by_cases hd : y.e.key.dir = 0
        · have hd' : (y.e.key.dir == 0) = true := by simpa using hd
          have HN := hid (show hangs (0) s.K = true from hangs_mem HM.out hd)
          clear hh hit hchg hxm hpm hd hbe
          go_wp2
          go_ret
          exact ⟨by simp [HN.out], HB.out.trans (HE2.out.mono (by have := HB.out.size; omega))⟩
        · have hd' : (y.e.key.dir == 0) = false := by simpa using hd
          have HN := hid (show hangs (0) (D ++ [y]) = false by rw [hangs_snoc, HD.out, hd']; rfl)
          clear hh hit hchg hxm hpm hd hbe
          go_wp2
          refine ⟨⟨D ++ [y], rest', hid (HT.out.below (bl1 W _)), hid HE2.out, HN⟩, HI.out.step (HT.out.below (bl1 W _))⟩

set_option maxHeartbeats 1000000 in
theorem dent_leaf_pos (w : World) (B : Nat) (s : Ca) (k : Ky) (j : Nat) (x : Ke) (h : CacheAt w B s) (hk : atK k s.K = some j) (hx : s.K[j]? = some x) (hneg : x.e.neg = false) :
    Calls Tryz.prog 121 #[.pointer (some ⟨s.p, 0, none⟩), k.v] w fun e w' => e = .returned (.bool (!hangs x.e.node.id s.K)) ∧ Below w.heap.size w w' := by
  have b0 := blk3 h.hp
  have hpz := blk_lt h.hp
  have hmz := blk_lt h.he
  have HL : ∀ W : World, W.heap[s.me]? = some (.map (kes s.K) s.c1) → (Instr.lookup 134 (.map (some s.me)) (.agg #[.int .i64 k.dir, .string k.name]) true).run Tryz.prog W = .ok (.tuple #[.agg #[.int .i64 x.e.key.dir, .string x.e.key.name, .bool x.e.neg, .int .i64 x.e.node.id, .int .i64 x.e.node.kind, .int .i64 x.e.node.mode, .string x.e.node.target, .int .i64 x.used], .bool true]) W := fun W hW => run_look_yes hW hk hx
  have he := h.he
  have BX := blk2 (heap_new w (.cells #[.int .i64 k.dir, .string k.name] 53))
  have HE := hid he
  have HH := hid h
  simp only [hneg] at HL
  clear h he hk hx hneg
  unfold Ky.v
  go_enter Tryz.func121, Tryz.ntmps121
  go_upto_region 1 with fail
  go_cut [5, 6] (fun v5 v6 wx => v5 = .pointer (some ⟨w.heap.size + 1, 0, none⟩) ∧ v6 = .bool true ∧ Hid (Below w.heap.size w wx) ∧ Hid (wx.heap.size = w.heap.size + 2) ∧ Hid (wx.heap[w.heap.size + 1]? = some (.cells #[.int .i64 x.e.key.dir, .string x.e.key.name, .bool false, .int .i64 x.e.node.id, .int .i64 x.e.node.kind, .int .i64 x.e.node.mode, .string x.e.node.target, .int .i64 x.used] 142)))
  case first =>
    go_region_held3 (fun w' => w'.cell? ⟨s.p, 0, none⟩ = some (.map (some s.me)) ∧ w'.cell? ⟨w.heap.size, 0, none⟩ = some (.int .i64 k.dir) ∧ w'.cell? ⟨w.heap.size, 1, none⟩ = some (.string k.name) ∧ w'.heap[s.me]? = some (.map (kes s.K) s.c1))
      (refine ⟨?_, ?_, ?_, ?_⟩ <;> first | exact cellA (b0.1) _ | exact BX.1 | exact BX.2.1 | exact heap_old (HE.out) _ | exact cellA (cellA (b0.1) _) _ | exact cellA (BX.1) _ | exact cellA (BX.2.1) _ | exact heap_old (heap_old (HE.out) _) _)
      (fail)
    all_goals
      go_wp2_with fail
      go_meet
      have e1 := heap_new (w.alloc (.cells #[.int .i64 k.dir, .string k.name] 53)) (.cells #[.int .i64 x.e.key.dir, .string x.e.key.name, .bool false, .int .i64 x.e.node.id, .int .i64 x.e.node.kind, .int .i64 x.e.node.mode, .string x.e.node.target, .int .i64 x.used] 142)
      simp only [World.size_alloc] at e1
      exact ⟨rfl, rfl, hid (bl2 w (.cells #[.int .i64 k.dir, .string k.name] 53) (.cells #[.int .i64 x.e.key.dir, .string x.e.key.name, .bool false, .int .i64 x.e.node.id, .int .i64 x.e.node.kind, .int .i64 x.e.node.mode, .string x.e.node.target, .int .i64 x.used] 142)).drew, hid (by simp), hid e1⟩
  case rest =>
    clear HL
    obtain ⟨rfl, rfl, HB, HZ, HX⟩ := hcut
    have hh := HH.out.below HB.out
    have HC := hid hh
    have c0 := blk3 hh.hp
    have BZ := blk8 HX.out
    have hrg := run_range_k hh.he
    clear hh BX b0
    go_wp2_with fail
    go_loopw [31] (fun _ wr => ∃ (D rest : List Ke), Hid (ItAt wr wc.heap.size s.me s.c1 s.K D rest) ∧ Hid (Below wc.heap.size wc wr) ∧ Hid (hangs (x.e.node.id) D = false)) (fun _ wr => s.K.length - (wr.iterSeen wc.heap.size).size)
    case atStart => exact ⟨[], s.K, hid ⟨⟨_, Nat.le_refl _, heap_new wc _⟩, List.Perm.refl _⟩, hid (bl1 wc _), hid rfl⟩
    case round =>
      clear hrg c0 BZ
      obtain ⟨D, rest, HI, HBB, HD⟩ := hrel
      have hh := HC.out.below HBB.out
      have hme : wc.heap.size ≠ s.me := fun e => by have := blk_lt HC.out.he; omega
      rcases next_k HI.out hh.he hme hh.b1 hh.n1 with ⟨h0, hnx⟩ | ⟨y, rest', W, hnx, hen, hit, hchg, hxm, hpm⟩
      · have HN := hid (show hangs (x.e.node.id) s.K = false by have := HI.out.pm; rw [h0, List.append_nil] at this; rw [← hangs_perm _ this]; exact HD.out)
        clear h0 hh
        go_wp2
        go_ret
        exact ⟨by simp [HN.out], HB.out.trans (HBB.out.mono (by have := HB.out.size; omega))⟩
      · have HT := hid hit
        have HG := hid hchg
        have HM := hid hxm
        have BX := blk2 (heap_new W (.cells #[.int .i64 y.e.key.dir, .string y.e.key.name] 53))
        have hbe := (chg_to_below HBB.out HG.out (fun k hk => by omega) (Nat.le_refl _)).trans ((bl1 W (.cells #[.int .i64 y.e.key.dir, .string y.e.key.name] 53)).mono (by have := HBB.out.size; have := HG.out.size; omega))
        have HE2 := hid hbe
        by_cases hd : y.e.key.dir = x.e.node.id
        · have hd' : (y.e.key.dir == x.e.node.id) = true := by simpa using hd
          have HN := hid (show hangs (x.e.node.id) s.K = true from hangs_mem HM.out hd)
          clear hh hit hchg hxm hpm hd hbe
          go_wp2
          go_ret
          exact ⟨by simp [HN.out], HB.out.trans (HE2.out.mono (by have := HB.out.size; omega))⟩
        · have hd' : (y.e.key.dir == x.e.node.id) = false := by simpa using hd
          have HN := hid (show hangs (x.e.node.id) (D ++ [y]) = false by rw [hangs_snoc, HD.out, hd']; rfl)
          clear hh hit hchg hxm hpm hd hbe
          go_wp2
          refine ⟨⟨D ++ [y], rest', hid (HT.out.below (bl1 W _)), hid HE2.out, HN⟩, HI.out.step (HT.out.below (bl1 W _))⟩

end Go.Proofs.YtbjibkjenleloaaGreatDoor

end

section
namespace Go.Proofs.YtbjibkjenleloaaGreatDoor
set_option linter.unusedVariables false
set_option linter.unusedSimpArgs false
open Go.RowKit
open Go.ChangeMaps (setBlock)
attribute [local go_sem ↓] Go.wp_at_zero Go.wp_at_succ

/-- the cells of a row of keys -/
def kyc (L : List Ky) : List Value := L.flatMap Ky.cells
theorem kyc_len (L : List Ky) : (kyc L).length = L.length * 2 := by
  induction L with
  | nil => rfl
  | cons x L ih => simp [kyc, Ky.cells] at ih ⊢; omega
theorem kyc_snoc (L : List Ky) (x : Ky) : kyc (L ++ [x]) = kyc L ++ [.int .i64 x.dir, .string x.name] := by simp [kyc, Ky.cells]
theorem kyc_append (L M : List Ky) : kyc (L ++ M) = kyc L ++ kyc M := by simp [kyc]
theorem kyc_at {L : List Ky} {k : Nat} {x : Ky} (h : L[k]? = some x) : (kyc L)[k * 2]? = some (.int .i64 x.dir) ∧ (kyc L)[k * 2 + 1]? = some (.string x.name) := by
  induction L generalizing k with
  | nil => simp at h
  | cons y L ih =>
    cases k with
    | zero => simp at h; subst h; simp [kyc, Ky.cells]
    | succ k =>
      have := ih (by simpa using h)
      have e1 : (k + 1) * 2 = k * 2 + 1 + 1 := by omega
      have e2 : (k + 1) * 2 + 1 = k * 2 + 1 + 1 + 1 := by omega
      simp only [kyc, List.flatMap_cons, Ky.cells, List.cons_append, List.nil_append, e1, e2, List.getElem?_cons_succ] at this ⊢
      exact this
theorem kyc_one (L : List Ky) : ∀ u ∈ kyc L, u.oneCell' = true := by
  intro u hu
  simp only [kyc, List.mem_flatMap, Ky.cells] at hu
  obtain ⟨x, _, hx⟩ := hu
  simp at hx
  rcases hx with rfl | rfl <;> rfl
theorem keys_at {w : World} {b n c m : Nat} {L : List Ky} {k : Nat} {x : Ky} (h : Rd w (.slice (some ⟨b, 0, none⟩) n c) m (kyc L)) (hx : L[k]? = some x) :
    w.cell? ⟨b, k * 2, none⟩ = some (.int .i64 x.dir) ∧ w.cell? ⟨b, k * 2 + 1, none⟩ = some (.string x.name) := by
  have h1 := h.at
  have h2 := kyc_at hx
  have h3 := h1 _ _ h2.1
  have h4 := h1 _ _ h2.2
  simp only [Nat.zero_add] at h3 h4
  exact ⟨h3, h4⟩
theorem own_loc {w : World} {B e sz n : Nat} {a : Option Addr} {m c : Nat} {xs : List Value} (h : w.ownsRow B e sz (.slice a m c) n xs) (hL : 0 < n) : ∃ g, a = some ⟨g, 0, none⟩ ∧ B ≤ g ∧ g < w.heap.size ∧ n ≤ c ∧ c ≤ maxLen := by
  rcases h.2 with ⟨hv, h0⟩ | ⟨g, cap, cur, hv, hB, hg, h1, h2, _⟩
  · omega
  · simp only [Value.slice.injEq] at hv
    obtain ⟨rfl, _, rfl⟩ := hv
    exact ⟨g, rfl, hB, blk_lt hg, h1, h2⟩

theorem infoKy : (Tryz.prog.info? 53).map (fun i => (i.zero, i.size, i.bytes)) = some (some (.agg #[.int .i64 0, .string ByteArray.empty]), 2, 24) := by kernel_rfl


theorem delK_filter {K : List Ke} (k : Ky) (hn : (K.map fun x => x.e.key).Nodup) : delK k K = K.filter fun x => !decide (k = x.e.key) := by
  unfold delK atK
  induction K with
  | nil => simp
  | cons x K ih =>
    simp only [List.map_cons, List.nodup_cons] at hn
    have ih := ih hn.2
    rw [List.findIdx?_cons]
    by_cases h : k = x.e.key
    · have hno : ∀ y ∈ K, (!decide (k = y.e.key)) = true := fun y hy => by
        have : k ≠ y.e.key := fun e => hn.1 (List.mem_map.2 ⟨y, hy, by rw [← e, h]⟩)
        simp [this]
      simp [h]
      rw [← h]; exact (List.filter_eq_self.2 hno).symm
    · simp only [h, decide_false, Bool.false_eq_true, if_false]
      rw [List.filter_cons_of_pos (by simp [h])]
      cases hf : List.findIdx? (fun x => decide (k = x.e.key)) K with
      | none => rw [hf] at ih; simp at ih ⊢; exact ih
      | some j => rw [hf] at ih; simp at ih ⊢; exact ih

/-- what a running Cut of a directory leaves -/
def leftD (d : Int) (K D : List Ke) : List Ke := K.filter fun x => !(x.e.key.dir == d && (D.map Ke.born).contains x.born)

theorem leftD_nil (d : Int) (K : List Ke) : leftD d K [] = K := by
  unfold leftD; rw [List.filter_eq_self]; intro x _; simp

theorem map_inj {α β : Type} {f : α → β} {K : List α} {x y : α} (hn : (K.map f).Nodup) (hx : x ∈ K) (hy : y ∈ K) (h : f x = f y) : x = y := by
  induction K with
  | nil => simp at hx
  | cons z K ih =>
    simp only [List.map_cons, List.nodup_cons] at hn
    rcases List.mem_cons.1 hx with hx1 | hx1 <;> rcases List.mem_cons.1 hy with hy1 | hy1
    · rw [hx1, hy1]
    · exact absurd (List.mem_map.2 ⟨y, hy1, by rw [← h, hx1]⟩) hn.1
    · exact absurd (List.mem_map.2 ⟨x, hx1, by rw [h, hy1]⟩) hn.1
    · exact ih hn.2 hx1 hy1
theorem born_inj {K : List Ke} {x y : Ke} (hn : (K.map Ke.born).Nodup) (hx : x ∈ K) (hy : y ∈ K) (h : x.born = y.born) : x = y := map_inj hn hx hy h
theorem key_inj {K : List Ke} {x y : Ke} (hn : (K.map fun x => x.e.key).Nodup) (hx : x ∈ K) (hy : y ∈ K) (h : x.e.key = y.e.key) : x = y := map_inj hn hx hy h

theorem leftD_keep {d : Int} {K D : List Ke} {x : Ke} (hn : (K.map Ke.born).Nodup) (hx : x ∈ K) (hd : x.e.key.dir ≠ d) : leftD d K (D ++ [x]) = leftD d K D := by
  unfold leftD
  apply List.filter_congr
  intro y hy
  by_cases h : y.born = x.born
  · have := born_inj hn hy hx h; subst this
    have : (y.e.key.dir == d) = false := by simpa using hd
    simp [this]
  · simp [h]

theorem leftD_drop {d : Int} {K D : List Ke} {x : Ke} (hn : (K.map Ke.born).Nodup) (hk : (K.map fun x => x.e.key).Nodup) (hx : x ∈ K) (hd : x.e.key.dir = d) : leftD d K (D ++ [x]) = delK x.e.key (leftD d K D) := by
  rw [delK_filter (K := leftD d K D) _ (hk.sublist ((List.filter_sublist ..).map _))]
  unfold leftD
  rw [List.filter_filter]
  apply List.filter_congr
  intro y hy
  by_cases h : x.e.key = y.e.key
  · have := key_inj hk hx hy h; subst this
    simp [hd]
  · have hb : y.born ≠ x.born := fun e => h (by rw [born_inj hn hy hx e])
    simp [h, hb]

theorem leftD_end {d : Int} {K D : List Ke} (hp : D.Perm K) : leftD d K D = K.filter fun x => !(x.e.key.dir == d) := by
  unfold leftD
  apply List.filter_congr
  intro y hy
  have : (D.map Ke.born).contains y.born = true := by
    rw [List.contains_iff_mem]; exact List.mem_map.2 ⟨y, hp.mem_iff.2 hy, rfl⟩
  rw [this, Bool.and_true]

theorem leftD_rest {d : Int} {K D rest : List Ke} (hp : (D ++ rest).Perm K) (hn : (K.map Ke.born).Nodup) (e : MapEntry) : e ∈ (leftOf (kes (leftD d K D)) (D.map Ke.born).toArray).toList ↔ ∃ x ∈ rest, x.me = e := by
  have h1 := left_mem hp hn e
  rw [← h1]
  simp only [leftOf, Array.toList_filter, kes_toList, List.mem_filter, List.mem_map, leftD]
  constructor
  · rintro ⟨⟨x, ⟨hx, _⟩, rfl⟩, h2⟩
    exact ⟨⟨x, hx, rfl⟩, h2⟩
  · rintro ⟨⟨x, hx, rfl⟩, h2⟩
    refine ⟨⟨x, ⟨hx, ?_⟩, rfl⟩, h2⟩
    simp [Ke.me] at h2
    simp
    exact .inr fun y hy => h2 y hy

/-- one step of Cut's inner loop, as equations for the walk -/
theorem next_d {w : World} {r me cl : Nat} {d : Int} {K D rest : List Ke} (hi : ItAt w r me cl K D rest) (he : w.heap[me]? = some (.map (kes (leftD d K D)) cl)) (hne : r ≠ me) (hb : ∀ x ∈ K, x.born < cl) (hn : (K.map Ke.born).Nodup) :
    (rest = [] ∧ ∀ ty, (Instr.next (.pointer (some ⟨r, 0, none⟩)) false ty).run Tryz.prog w = .ok (.tuple #[.bool false]) w) ∨
    ∃ x rest' W, (∀ ty, (Instr.next (.pointer (some ⟨r, 0, none⟩)) false ty).run Tryz.prog w = .ok (.tuple #[.bool true, .agg #[.int .i64 x.e.key.dir, .string x.e.key.name], x.val]) W) ∧
      ((Instr.entry (.pointer (some ⟨r, 0, none⟩))).run Tryz.prog W = .ok (.tuple #[.agg #[.int .i64 x.e.key.dir, .string x.e.key.name], x.val]) W) ∧
      ItAt W r me cl K (D ++ [x]) rest' ∧ Chg (fun k => k = r) w W ∧ x ∈ K ∧ rest.Perm (x :: rest') := by
  obtain ⟨⟨c0, hc0, hr⟩, hp⟩ := hi
  have hold : ∀ x ∈ (kes (leftD d K D)).toList, x.born < cl := by
    intro x hx
    rw [kes_toList] at hx
    obtain ⟨y, hy, rfl⟩ := List.mem_map.1 hx
    exact hb y (List.mem_filter.1 hy).1
  rcases run_next_at (P := Tryz.prog) w 0 r me cl c0 (D.map Ke.born).toArray (kes (leftD d K D)) cl hr he hold hc0 with ⟨h0, h1⟩ | ⟨e, hme, w1, hw1, hrun⟩
  · left
    refine ⟨?_, fun _ => h1⟩
    cases rest with
    | nil => rfl
    | cons x rest =>
      have := (leftD_rest (d := d) hp hn x.me).2 ⟨x, by simp, rfl⟩
      have h2 : (leftOf (kes (leftD d K D)) (D.map Ke.born).toArray) = #[] := Array.eq_empty_of_size_eq_zero h0
      rw [h2] at this; simp at this
  · right
    obtain ⟨x, hx, rfl⟩ := (leftD_rest hp hn e).1 hme
    obtain ⟨rest', hr'⟩ := perm_out hx
    have hh : w1.heap = w.heap := by rcases hw1 with rfl | rfl <;> rfl
    have hdr : Dr w w1 := by rcases hw1 with rfl | rfl; exact Dr.refl _; exact ⟨1, rfl⟩
    have hr1 : w1.heap[r]? = some (.mapIter (some me) cl (D.map Ke.born).toArray c0) := by rw [hh]; exact hr
    have hxK : x ∈ K := hp.mem_iff.1 (List.mem_append.2 (.inr hx))
    have hchg : Chg (fun k => k = r) w (setBlock w1 r (.mapIter (some me) cl ((D.map Ke.born).toArray.push x.me.born) cl)) := Chg.trans (Chg.mono (Chg.below (hdr.below _)) (fun _ _ h => h.elim)) (chg_setBlock w1 r _) (fun _ _ h => h) (fun _ _ h => h)
    refine ⟨x, rest', _, fun _ => hrun, ?_, ⟨⟨cl, Nat.le_refl _, ?_⟩, ?_⟩, hchg, hxK, hr'⟩
    · have hxD : x ∈ leftD d K D := by
        have h3 : x.me ∈ (kes (leftD d K D)).toList := by
          have := hme; unfold leftOf at this; rw [Array.toList_filter] at this; exact (List.mem_filter.1 this).1
        rw [kes_toList] at h3
        obtain ⟨y, hy, h4⟩ := List.mem_map.1 h3
        have hyb : y.born = x.born := congrArg MapEntry.born h4
        have hyK : y ∈ K := (List.mem_filter.1 hy).1
        rw [← born_inj hn hyK hxK hyb]; exact hy
      exact run_entry_k (D := D) (heap_setBlock hr1) (heap_chg hchg he (Ne.symm hne)) hxD (hn.sublist ((List.filter_sublist ..).map _))
    · rw [heap_setBlock hr1]; simp [Ke.me]
    · refine List.Perm.trans ?_ hp
      rw [List.append_assoc]
      exact (List.Perm.append_left D hr'.symm)

/-- Cut, of one key -/
def cut1 (s : Ca) (k : Ky) : Ca := { s with W := delW k.dir s.W, K := if k.name = ByteArray.empty then s.K.filter (fun x => !(x.e.key.dir == k.dir)) else delK k s.K }
def cutL (s : Ca) (L : List Ky) : Ca := L.foldl cut1 s
theorem cutL_form (s : Ca) (L : List Ky) : ∃ K1 W1, cutL s L = { s with K := K1, W := W1 } := by
  unfold cutL
  induction L generalizing s with
  | nil => exact ⟨s.K, s.W, rfl⟩
  | cons k L ih => obtain ⟨K1, W1, h⟩ := ih (cut1 s k); exact ⟨K1, W1, by rw [List.foldl_cons, h]; rfl⟩
theorem cutL_take {s : Ca} {L : List Ky} {k : Nat} {x : Ky} (hx : L[k]? = some x) : cutL s (L.take (k + 1)) = cut1 (cutL s (L.take k)) x := by
  rw [List.take_add_one, hx]; simp [cutL]

theorem CacheAt.sub {w1 : World} {B : Nat} {s : Ca} (K1 : List Ke) (h : CacheAt w1 B s) (hs : K1.Sublist s.K) : CacheAt (setBlock w1 s.me (.map (kes K1) s.c1)) B { s with K := K1 } :=
  ⟨h.hB, h.hBe, h.hBw, heap_setBlock_ne h.hp h.pe, heap_setBlock h.he, heap_setBlock_ne h.hw (Ne.symm h.hne), h.hne, fun z hz => h.b1 z (hs.subset hz), h.n1.sublist (hs.map _), h.k1.sublist (hs.map _), h.b2, h.n2, h.k2⟩



theorem below_drew0 (w : World) : Below w.heap.size w w.drew := ⟨rfl, rfl, rfl, Nat.le_refl _, fun _ _ => rfl⟩

set_option maxHeartbeats 2000000 in
theorem dent_cut (w : World) (B : Nat) (s : Ca) (L : List Ky) (a : Option Addr) (c B' : Nat) (h : CacheAt w B s) (hv : w.ownsRow B' 53 2 (.slice a L.length c) L.length (kyc L)) (hF : ∀ k, CaF s k → k < B') (hL : L.length ≤ 140737488351232) :
    Calls Tryz.prog 35 #[.pointer (some ⟨s.p, 0, none⟩), .slice a L.length c] w fun e w' => e = .returned (.tuple #[]) ∧ CacheAt w' B (cutL s L) ∧ Chg (CaF s) w w' := by
  have HV := hid hv
  have HH := hid h
  have HFF := hid hF
  clear hv h hF
  go_enter Tryz.func35, Tryz.ntmps35
  go_wp2_with fail
  go_loopw [9] (fun v wr => ∃ (k : Nat) (K1 : List Ke) (W1 : List Wh), k ≤ L.length ∧ v = .int .i64 k ∧ Hid (cutL s (L.take k) = { s with K := K1, W := W1 }) ∧ Hid (CacheAt wr B { s with K := K1, W := W1 }) ∧ Hid (Chg (CaF s) w wr)) (fun v _ => L.length - (intOf v).toNat)
  case atStart => exact ⟨0, s.K, s.W, Nat.zero_le _, rfl, hid rfl, hid HH.out, hid (Chg.refl _ _)⟩
  case round =>
    obtain ⟨k, K1, W1, hk, rfl, HS, HA, HC⟩ := hrel
    by_cases hlt : k < L.length
    · have hk0 : (0 : Int) ≤ (k : Int) := by omega
      have hk1 : (k : Int) < (L.length : Int) := by omega
      obtain ⟨g, hag, hBg, hgz, hc1, hc2⟩ := own_loc HV.out (by omega)
      obtain ⟨x, hx⟩ : ∃ x, L[k]? = some x := ⟨_, List.getElem?_eq_getElem hlt⟩
      subst hag
      have hvr : wr.ownsRow B' 53 2 (.slice (some ⟨g, 0, none⟩) L.length c) L.length (kyc L) := ownsRow_chg HV.out fun k hk h => HC.out.block k h (fun hf => by have := HFF.out k hf; have := (own_lt HV.out hk).1; omega)
      have b1 := keys_at (Rd.own hvr) hx
      have HVR := hid hvr
      have HX := hid hx
      clear hvr hx
      have c0 := blk3 (heap_old HA.out.hp (.cells #[.int .i64 x.dir, .string x.name] 53))
      have BX := blk2 (heap_new wr (.cells #[.int .i64 x.dir, .string x.name] 53))
      go_upto_region 3 with fail
      go_cut [18] (fun _ wx => Hid (CacheAt wx B { s with K := K1, W := delW x.dir W1 }) ∧ Hid (wx.heap[wr.heap.size]? = some (.cells #[.int .i64 x.dir, .string x.name] 53 (0, 0))) ∧ Hid (Chg (CaF s) wr wx))
      case first =>
        go_region_law (refine step_delete_w (by rfl) (.tmp 16) (.tmp 18) _ (by rfl) s.mw s.c2 (by rfl) x.dir (by rfl) W1 (by exact heap_old HA.out.hw _) ?_)
        all_goals
          go_wp2_with fail
          go_meet
          exact ⟨hid (CacheAt.delD (s := { s with K := K1, W := W1 }) x.dir (HA.out.below (bl1 wr _)).drew), hid (heap_setBlock_ne (w := (wr.alloc _).drew) (heap_new wr _) (Nat.ne_of_gt (blk_lt HA.out.hw))), hid (Chg.trans (Chg.below (bl1 wr _).drew) (chg_setBlock _ s.mw _) (fun _ _ h => h.elim) (fun _ _ h => .inr (.inr h)))⟩
      case rest =>
        obtain ⟨HA2, HX2, HC2⟩ := hcut
        have d0 := blk3 HA2.out.hp
        have BY := blk2 HX2.out
        clear c0 BX b1
        by_cases hn : x.name = ByteArray.empty
        · have hne2 : x.name.toList = [] := (name_empty _).1 hn
          have hne3 : x.name.toList.isEmpty = true := by rw [hne2]; rfl
          have hrg := run_range_k HA2.out.he
          have HNE := hid hn
          clear hn hne2
          go_wp2_with fail
          go_loopw [33] (fun _ wi => ∃ (D rest : List Ke), Hid (ItAt wi wc.heap.size s.me s.c1 K1 D rest) ∧ Hid (CacheAt wi B { s with K := leftD x.dir K1 D, W := delW x.dir W1 }) ∧ Hid (Chg (CaF s) wc wi)) (fun _ wi => K1.length - (wi.iterSeen wc.heap.size).size)
          case atStart => exact ⟨[], K1, hid ⟨⟨_, Nat.le_refl _, heap_new wc _⟩, List.Perm.refl _⟩, hid (by rw [leftD_nil]; exact HA2.out.below (bl1 wc _)), hid (Chg.mono (Chg.below (bl1 wc _)) (fun _ _ h => h.elim))⟩
          case round =>
            clear hrg d0 BY
            obtain ⟨D, rest, HI, HAI, HCI⟩ := hrel
            have hme : wc.heap.size ≠ s.me := fun e => by have := blk_lt HA2.out.he; simp at this; omega
            rcases next_d HI.out HAI.out.he hme HA2.out.b1 HA2.out.n1 with ⟨h0, hnx⟩ | ⟨y, rest', W, hnx, hen, hit, hchg, hxm, hpm⟩
            · have HN := hid (show leftD x.dir K1 D = K1.filter (fun x_1 => !(x_1.e.key.dir == x.dir)) by have := HI.out.pm; rw [h0, List.append_nil] at this; exact leftD_end this)
              clear h0
              go_wp2
              refine ⟨⟨k + 1, _, _, by omega, by go_num, hid (by rw [cutL_take HX.out, HS.out]; simp only [cut1, HNE.out, if_true]; try rfl), hid (by rw [← HN.out]; exact HAI.out), hid ?_⟩, by simp [intOf]; omega⟩
              exact Chg.trans (Chg.trans HC.out HC2.out (fun _ _ h => h) (fun _ _ h => h)) HCI.out (fun _ _ h => h) (fun _ _ h => h)
            · have HT := hid hit
              have HG := hid hchg
              have HM := hid hxm
              clear hit hchg hxm hpm
              have hz1 := HC.out.size
              have hz2 := HC2.out.size
              have hz3 := HCI.out.size
              have hz4 := HG.out.size
              have hzx := blk_lt HX2.out
              have cold := HA.out.old
              have he0 := heap_chg HG.out HAI.out.he (fun e => hme e.symm)
              have hp0 := heap_chg HG.out HAI.out.hp (Nat.ne_of_lt (blk_lt HA2.out.hp))
              have hx0 := heap_chg HG.out (heap_chg HCI.out HX2.out (cold _ (Nat.le_refl _))) (fun e => by omega)
              have P1 := blk3 (heap_old hp0 (.cells #[.int .i64 y.e.key.dir, .string y.e.key.name] 53))
              have P2 := blk2 (heap_old hx0 (.cells #[.int .i64 y.e.key.dir, .string y.e.key.name] 53))
              have P3 := blk2 (heap_new W (.cells #[.int .i64 y.e.key.dir, .string y.e.key.name] 53))
              have hac := (HAI.out.chg HG.out (fun k hk e => cold wc.heap.size (by omega) (e ▸ hk))).below (bl1 W (.cells #[.int .i64 y.e.key.dir, .string y.e.key.name] 53))
              have hcc : Chg (CaF s) wc (W.alloc (.cells #[.int .i64 y.e.key.dir, .string y.e.key.name] 53)) := Chg.trans (Chg.trans HCI.out HG.out (fun _ _ h => h) (fun i hi h => by omega)) (Chg.below (bl1 W _)) (fun _ _ h => h) (fun _ _ h => h.elim)
              have HAC := hid hac
              have HCC := hid hcc
              have HE0 := hid he0
              clear hac hcc he0 hp0 hx0
              by_cases hd : y.e.key.dir = x.dir
              · have hd' : (y.e.key.dir == x.dir) = true := by simpa using hd
                have HN := hid (leftD_drop (D := D) HA2.out.n1 HA2.out.k1 HM.out hd)
                have HD' := hid hd
                clear hd
                go_wp2_with fail
                go_region_law (refine step_delete_k (by rfl) (.tmp 44) (.tmp 45) _ (by rfl) s.me s.c1 (by rfl) y.e.key.dir y.e.key.name (by rfl) (leftD x.dir K1 D) (by exact heap_old HE0.out _) ?_)
                all_goals
                  go_wp2
                  have hI2 := ItAt.chgd (w := (W.alloc (.cells #[.int .i64 y.e.key.dir, .string y.e.key.name] 53)).drew) (HT.out.below (bl1 W _).drew) (chg_setBlock _ s.me (.map (kes (delK { dir := y.e.key.dir, name := y.e.key.name } (leftD x.dir K1 D))) s.c1)) hme
                  refine ⟨⟨D ++ [y], rest', hid hI2, hid (by rw [HN.out]; exact CacheAt.delE (s := { s with K := leftD x.dir K1 D, W := delW x.dir W1 }) y.e.key HAC.out.drew), hid (Chg.trans HCC.out.drew (chg_setBlock _ s.me _) (fun _ _ h => h) (fun _ _ h => .inr (.inl h)))⟩, HI.out.step hI2⟩
              · have hd' : (y.e.key.dir == x.dir) = false := by simpa using hd
                have HN := hid (leftD_keep (D := D) HA2.out.n1 HM.out hd)
                clear hd
                go_wp2
                refine ⟨⟨D ++ [y], rest', hid (HT.out.below (bl1 W _)), hid (by rw [HN.out]; exact HAC.out), HCC⟩, HI.out.step (HT.out.below (bl1 W _))⟩
        · have hne : x.name.toList ≠ [] := fun h3 => hn ((name_empty _).2 h3)
          have hne2 : x.name.toList.isEmpty = false := by simpa using hne
          go_wp2_with fail
          go_region_law (refine step_delete_k (by rfl) (.tmp 25) (.tmp 26) _ (by rfl) s.me s.c1 (by rfl) x.dir x.name (by rfl) K1 (by exact HA2.out.he) ?_)
          all_goals
            go_wp2
            refine ⟨⟨k + 1, _, _, by omega, by go_num, hid (by rw [cutL_take HX.out, HS.out]; simp only [cut1, hn, if_false]; try rfl), hid (CacheAt.delE (s := { s with K := K1, W := delW x.dir W1 }) x HA2.out.drew), hid ?_⟩, by simp [intOf]; omega⟩
            exact Chg.trans (Chg.trans HC.out HC2.out (fun _ _ h => h) (fun _ _ h => h)) (Chg.trans (Chg.below (below_drew0 wc)) (chg_setBlock _ s.me _) (fun _ _ h => h.elim) (fun _ _ h => h)) (fun _ _ h => h) (fun _ _ h => .inr (.inl h))
    · have hkk : k = L.length := by omega
      have HF := hid (show cutL s L = { s with K := K1, W := W1 } by rw [← HS.out, hkk, List.take_length])
      clear hkk
      go_wp2
      go_end0
      exact ⟨rfl, by rw [HF.out]; exact HA.out, HC.out⟩

end Go.Proofs.YtbjibkjenleloaaGreatDoor

end
