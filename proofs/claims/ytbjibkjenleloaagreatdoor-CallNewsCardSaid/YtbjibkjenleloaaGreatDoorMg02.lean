/- Parts of a proof about the given program, in build order: DentC, DentD, DentE. No condition. -/
import Derived.Test.YtbjibkjenleloaaGreatDoorMg01
section
namespace Go.Proofs.YtbjibkjenleloaaGreatDoor
set_option linter.unusedVariables false
set_option linter.unusedSimpArgs false
open Go.RowKit
open Go.ChangeMaps (setBlock)
attribute [local go_sem ↓] Go.wp_at_zero Go.wp_at_succ

def zeroEn : Value := .agg #[.int .i64 0, .string ByteArray.empty, .bool false, .int .i64 0, .int .i64 0, .int .i64 0, .string ByteArray.empty]

theorem atK_at {k : Ky} {K : List Ke} {j : Nat} (h : atK k K = some j) : ∃ x, K[j]? = some x ∧ x.e.key = k := by
  obtain ⟨hjl, h1, _⟩ := List.findIdx?_eq_some_iff_getElem.1 h
  exact ⟨K[j], List.getElem?_eq_getElem hjl, by simpa using (of_decide_eq_true h1).symm⟩

set_option maxHeartbeats 1000000 in
theorem dent_get_no (w : World) (B : Nat) (s : Ca) (k : Ky) (h : CacheAt w B s) (hk : atK k s.K = none) :
    Calls Tryz.prog 210 #[.pointer (some ⟨s.p, 0, none⟩), k.v] w fun e w' => e = .returned (.tuple #[zeroEn, .bool false]) ∧ Below w.heap.size w w' := by
  have b0 := blk3 h.hp
  have hpz := blk_lt h.hp
  have hmz := blk_lt h.he
  have HL : ∀ W : World, W.heap[s.me]? = some (.map (kes s.K) s.c1) → (Instr.lookup 134 (.map (some s.me)) (.agg #[.int .i64 k.dir, .string k.name]) true).run Tryz.prog W = .ok (.tuple #[.agg #[.int .i64 0, .string ByteArray.empty, .bool false, .int .i64 0, .int .i64 0, .int .i64 0, .string ByteArray.empty, .int .i64 0], .bool false]) W := fun W hW => run_look_no hW hk
  have he := h.he
  have BX := blk2 (heap_new w (.cells #[.int .i64 k.dir, .string k.name] 53))
  have HE := hid he
  have HH := hid h
  clear h he hk
  unfold Ky.v
  go_enter Tryz.func210, Tryz.ntmps210
  go_wp2_with fail
  go_region_held3 (fun w' => w'.cell? ⟨s.p, 0, none⟩ = some (.map (some s.me)) ∧ w'.cell? ⟨w.heap.size, 0, none⟩ = some (.int .i64 k.dir) ∧ w'.cell? ⟨w.heap.size, 1, none⟩ = some (.string k.name) ∧ w'.heap[s.me]? = some (.map (kes s.K) s.c1))
    (refine ⟨?_, ?_, ?_, ?_⟩ <;> first | exact cellA (cellA (b0.1) _) _ | exact cellA (BX.1) _ | exact cellA (BX.2.1) _ | exact heap_old (heap_old (HE.out) _) _ | exact cellA (cellA (cellA (b0.1) _) _) _ | exact cellA (cellA (BX.1) _) _ | exact cellA (cellA (BX.2.1) _) _ | exact heap_old (heap_old (heap_old (HE.out) _) _) _)
    (fail)
  all_goals
    go_wp2
    refine bodyPost_ret (v := .tuple #[zeroEn, .bool false]) (by simp [results, Tryz.results210, go_sem, zeroEn]) rfl ⟨rfl, ?_⟩
    exact (bl3 w _ _ _).drew

set_option maxHeartbeats 1000000 in
theorem dent_get_yes (w : World) (B : Nat) (s : Ca) (k : Ky) (j : Nat) (x : Ke) (h : CacheAt w B s) (hk : atK k s.K = some j) (hx : s.K[j]? = some x) :
    Calls Tryz.prog 210 #[.pointer (some ⟨s.p, 0, none⟩), k.v] w fun e w' => e = .returned (.tuple #[x.e.v, .bool true]) ∧ Below w.heap.size w w' := by
  have b0 := blk3 h.hp
  have hpz := blk_lt h.hp
  have hmz := blk_lt h.he
  have HL : ∀ W : World, W.heap[s.me]? = some (.map (kes s.K) s.c1) → (Instr.lookup 134 (.map (some s.me)) (.agg #[.int .i64 k.dir, .string k.name]) true).run Tryz.prog W = .ok (.tuple #[.agg #[.int .i64 x.e.key.dir, .string x.e.key.name, .bool x.e.neg, .int .i64 x.e.node.id, .int .i64 x.e.node.kind, .int .i64 x.e.node.mode, .string x.e.node.target, .int .i64 x.used], .bool true]) W := fun W hW => run_look_yes hW hk hx
  have he := h.he
  have BX := blk2 (heap_new w (.cells #[.int .i64 k.dir, .string k.name] 53))
  have HE := hid he
  have HH := hid h
  clear h he hk hx
  unfold Ky.v
  go_enter Tryz.func210, Tryz.ntmps210
  go_wp2_with fail
  go_region_held3 (fun w' => w'.cell? ⟨s.p, 0, none⟩ = some (.map (some s.me)) ∧ w'.cell? ⟨w.heap.size, 0, none⟩ = some (.int .i64 k.dir) ∧ w'.cell? ⟨w.heap.size, 1, none⟩ = some (.string k.name) ∧ w'.heap[s.me]? = some (.map (kes s.K) s.c1))
    (refine ⟨?_, ?_, ?_, ?_⟩ <;> first | exact cellA (cellA (b0.1) _) _ | exact cellA (BX.1) _ | exact cellA (BX.2.1) _ | exact heap_old (heap_old (HE.out) _) _ | exact cellA (cellA (cellA (b0.1) _) _) _ | exact cellA (cellA (BX.1) _) _ | exact cellA (cellA (BX.2.1) _) _ | exact heap_old (heap_old (heap_old (HE.out) _) _) _)
    (fail)
  all_goals
    go_wp2
    refine bodyPost_ret (v := .tuple #[x.e.v, .bool true]) (by simp [results, Tryz.results210, go_sem, En.v]) rfl ⟨rfl, ?_⟩
    exact (bl3 w _ _ _).drew

theorem atK_key {k : Ky} {K : List Ke} {j : Nat} {x : Ke} (h : atK k K = some j) (hx : K[j]? = some x) : x.e.key = k := by
  obtain ⟨y, hy, h2⟩ := atK_at h
  rw [hx] at hy; cases hy; exact h2

theorem CacheAt.putOld {w1 : World} {B j : Nat} {s : Ca} {x : Ke} {ck' : Int} (y : Ke) (h : CacheAt w1 B { s with ck := ck' }) (hx : s.K[j]? = some x) (hb : y.born = x.born) (hk : y.e.key = x.e.key) :
    CacheAt (setBlock w1 s.me (.map (kes (s.K.set j y)) s.c1)) B { s with K := s.K.set j y, ck := ck' } := by
  have hj : j < s.K.length := (List.getElem?_eq_some_iff.1 hx).1
  have hxx : s.K[j] = x := (List.getElem?_eq_some_iff.1 hx).2
  refine ⟨h.hB, h.hBe, h.hBw, heap_setBlock_ne h.hp h.pe, heap_setBlock h.he, heap_setBlock_ne h.hw (Ne.symm h.hne), h.hne, fun z hz => ?_, ?_, ?_, h.b2, h.n2, h.k2⟩
  · rcases List.mem_or_eq_of_mem_set hz with hz | rfl
    · exact h.b1 z hz
    · rw [hb]; exact h.b1 x (List.mem_of_getElem? hx)
  · have : (s.K.set j y).map Ke.born = s.K.map Ke.born := by
      rw [List.map_set, hb, ← hxx, ← List.map_set, List.set_getElem_self]
    rw [this]; exact h.n1
  · have : (s.K.set j y).map (fun x => x.e.key) = s.K.map (fun x => x.e.key) := by
      rw [List.map_set, hk, ← hxx]
      rw [← List.map_set (f := fun x : Ke => x.e.key), List.set_getElem_self]
    rw [this]; exact h.k1

theorem CacheAt.putNew {w1 : World} {B : Nat} {s : Ca} {ck' : Int} (y : Ke) (h : CacheAt w1 B { s with ck := ck' }) (hk : atK y.e.key s.K = none) (hb : y.born = s.c1) :
    CacheAt (setBlock w1 s.me (.map (kes (s.K ++ [y])) (s.c1 + 1))) B { s with K := s.K ++ [y], ck := ck', c1 := s.c1 + 1 } := by
  refine ⟨h.hB, h.hBe, h.hBw, heap_setBlock_ne h.hp h.pe, heap_setBlock h.he, heap_setBlock_ne h.hw (Ne.symm h.hne), h.hne, fun z hz => ?_, ?_, ?_, h.b2, h.n2, h.k2⟩
  · rcases List.mem_append.1 hz with hz | hz
    · exact Nat.lt_succ_of_lt (h.b1 z hz)
    · obtain rfl := List.mem_singleton.1 hz; rw [hb]; exact Nat.lt_succ_self _
  · rw [List.map_append, List.nodup_append]
    refine ⟨h.n1, by simp, fun a ha b hb' => ?_⟩
    obtain ⟨z, hz, rfl⟩ := List.mem_map.1 ha
    simp at hb'; subst hb'
    have := h.b1 z hz
    simp only at this
    omega
  · rw [List.map_append, List.nodup_append]
    refine ⟨h.k1, by simp, fun a ha b hb' => ?_⟩
    obtain ⟨z, hz, rfl⟩ := List.mem_map.1 ha
    simp at hb'; subst hb'
    have := List.findIdx?_eq_none_iff.1 hk z hz
    simp at this
    exact fun e => this e.symm

theorem chg_tick_set {s : Ca} {w w1 : World} {o : Obj} (h : Chg (fun k => k = s.p) w w1) : Chg (CaF s) w (setBlock w1 s.me o) :=
  Chg.trans h (chg_setBlock w1 s.me o) (fun _ _ h => .inl h) (fun _ _ h => .inr (.inl h))

set_option maxHeartbeats 1000000 in
theorem dent_use_no (w : World) (B : Nat) (s : Ca) (k : Ky) (h : CacheAt w B s) (hk : atK k s.K = none) :
    Calls Tryz.prog 140 #[.pointer (some ⟨s.p, 0, none⟩), k.v] w fun e w' => e = .returned (.bool false) ∧ Below w.heap.size w w' := by
  have b0 := blk3 h.hp
  have hpz := blk_lt h.hp
  have hmz := blk_lt h.he
  have HL : ∀ W : World, W.heap[s.me]? = some (.map (kes s.K) s.c1) → (Instr.lookup 134 (.map (some s.me)) (.agg #[.int .i64 k.dir, .string k.name]) true).run Tryz.prog W = .ok (.tuple #[.agg #[.int .i64 0, .string ByteArray.empty, .bool false, .int .i64 0, .int .i64 0, .int .i64 0, .string ByteArray.empty, .int .i64 0], .bool false]) W := fun W hW => run_look_no hW hk
  have he := h.he
  have BX := blk2 (heap_new w (.cells #[.int .i64 k.dir, .string k.name] 53))
  have HE := hid he
  have HH := hid h
  clear h he hk
  unfold Ky.v
  go_enter Tryz.func140, Tryz.ntmps140
  go_wp2_with fail
  go_region_held3 (fun w' => w'.cell? ⟨s.p, 0, none⟩ = some (.map (some s.me)) ∧ w'.cell? ⟨w.heap.size, 0, none⟩ = some (.int .i64 k.dir) ∧ w'.cell? ⟨w.heap.size, 1, none⟩ = some (.string k.name) ∧ w'.heap[s.me]? = some (.map (kes s.K) s.c1))
    (refine ⟨?_, ?_, ?_, ?_⟩ <;> first | exact cellA (b0.1) _ | exact BX.1 | exact BX.2.1 | exact heap_old (HE.out) _ | exact cellA (cellA (b0.1) _) _ | exact cellA (BX.1) _ | exact cellA (BX.2.1) _ | exact heap_old (heap_old (HE.out) _) _)
    (fail)
  all_goals
    go_wp2
    go_ret
    exact ⟨rfl, (bl2 w _ _).drew⟩

set_option maxHeartbeats 1000000 in
theorem dent_use_yes (w : World) (B : Nat) (s : Ca) (j : Nat) (x : Ke) (h : CacheAt w B s) (hk : atK x.e.key s.K = some j) (hx : s.K[j]? = some x) (h1 : 0 ≤ s.ck) (h2 : s.ck < 9223372036854775807) :
    Calls Tryz.prog 140 #[.pointer (some ⟨s.p, 0, none⟩), .agg #[.int .i64 x.e.key.dir, .string x.e.key.name]] w fun e w' => e = .returned (.bool true) ∧ CacheAt w' B { s with K := s.K.set j ⟨x.e, s.ck + 1, x.born⟩, ck := s.ck + 1 } ∧ Chg (CaF s) w w' := by
  have HK := hid hk
  have HX := hid hx
  have b0 := blk3 h.hp
  have hpz := blk_lt h.hp
  have hmz := blk_lt h.he
  have HL : ∀ W : World, W.heap[s.me]? = some (.map (kes s.K) s.c1) → (Instr.lookup 134 (.map (some s.me)) (.agg #[.int .i64 x.e.key.dir, .string x.e.key.name]) true).run Tryz.prog W = .ok (.tuple #[.agg #[.int .i64 x.e.key.dir, .string x.e.key.name, .bool x.e.neg, .int .i64 x.e.node.id, .int .i64 x.e.node.kind, .int .i64 x.e.node.mode, .string x.e.node.target, .int .i64 x.used], .bool true]) W := fun W hW => run_look_yes hW hk hx
  have he := h.he
  have BX := blk2 (heap_new w (.cells #[.int .i64 x.e.key.dir, .string x.e.key.name] 53))
  have HE := hid he
  have HH := hid h
  clear h he hk hx
  go_enter Tryz.func140, Tryz.ntmps140
  go_upto_region 1 with fail
  go_cut [5, 6] (fun v5 v6 wx => v5 = .pointer (some ⟨w.heap.size + 1, 0, none⟩) ∧ v6 = .bool true ∧ wx = ((w.alloc (.cells #[.int .i64 x.e.key.dir, .string x.e.key.name] 53)).alloc (.cells #[.int .i64 x.e.key.dir, .string x.e.key.name, .bool x.e.neg, .int .i64 x.e.node.id, .int .i64 x.e.node.kind, .int .i64 x.e.node.mode, .string x.e.node.target, .int .i64 x.used] 142)).drew)
  case first =>
    go_region_held3 (fun w' => w'.cell? ⟨s.p, 0, none⟩ = some (.map (some s.me)) ∧ w'.cell? ⟨w.heap.size, 0, none⟩ = some (.int .i64 x.e.key.dir) ∧ w'.cell? ⟨w.heap.size, 1, none⟩ = some (.string x.e.key.name) ∧ w'.heap[s.me]? = some (.map (kes s.K) s.c1))
      (refine ⟨?_, ?_, ?_, ?_⟩ <;> first | exact cellA (b0.1) _ | exact BX.1 | exact BX.2.1 | exact heap_old (HE.out) _ | exact cellA (cellA (b0.1) _) _ | exact cellA (BX.1) _ | exact cellA (BX.2.1) _ | exact heap_old (heap_old (HE.out) _) _)
      (fail)
    all_goals (go_wp2_with fail; go_meet; exact ⟨rfl, rfl, rfl⟩)
  case rest =>
    clear HL
    obtain ⟨rfl, rfl, rfl⟩ := hcut
    have BY := blk8 (heap_new (w.alloc (.cells #[.int .i64 x.e.key.dir, .string x.e.key.name] 53)) (.cells #[.int .i64 x.e.key.dir, .string x.e.key.name, .bool x.e.neg, .int .i64 x.e.node.id, .int .i64 x.e.node.kind, .int .i64 x.e.node.mode, .string x.e.node.target, .int .i64 x.used] 142))
    simp only [World.size_alloc] at BY
    go_wp2_with fail
    go_region_held3 (fun w' => w'.cell? ⟨s.p, 0, none⟩ = some (.map (some s.me)) ∧ (w'.cell? ⟨w.heap.size, 0, none⟩ = some (.int .i64 x.e.key.dir) ∧ w'.cell? ⟨w.heap.size, 1, none⟩ = some (.string x.e.key.name)) ∧ w'.cell? ⟨w.heap.size + 1, 0, none⟩ = some (.int .i64 x.e.key.dir) ∧ w'.cell? ⟨w.heap.size + 1, 1, none⟩ = some (.string x.e.key.name) ∧ w'.cell? ⟨w.heap.size + 1, 2, none⟩ = some (.bool x.e.neg) ∧ w'.cell? ⟨w.heap.size + 1, 3, none⟩ = some (.int .i64 x.e.node.id) ∧ w'.cell? ⟨w.heap.size + 1, 4, none⟩ = some (.int .i64 x.e.node.kind) ∧ w'.cell? ⟨w.heap.size + 1, 5, none⟩ = some (.int .i64 x.e.node.mode) ∧ w'.cell? ⟨w.heap.size + 1, 6, none⟩ = some (.string x.e.node.target))
      (first | exact ⟨cellA (cellA b0.1 _) _, ⟨cellA BX.1 _, cellA BX.2.1 _⟩, BY.1, BY.2.1, BY.2.2.1, BY.2.2.2.1, BY.2.2.2.2.1, BY.2.2.2.2.2.1, BY.2.2.2.2.2.2.1⟩ | exact KS | exact KT)
      (first
        | (go_at_call 100; refine (dent_tick _ B s (HH.out.below ((bl2 w _ _).drew.drew)) h1 h2).mono ?_; rintro e w1 ⟨rfl, hc1, hg1⟩; (have hup := run_put_old (w := w1) ⟨x.e, s.ck + 1, x.born⟩ hc1.he HK.out HX.out rfl rfl); simp only [Ke.val] at hup; (have kb0 := heap_chg hg1 (heap_old (heap_new w (.cells #[.int .i64 x.e.key.dir, .string x.e.key.name] 53)) (.cells #[.int .i64 x.e.key.dir, .string x.e.key.name, .bool x.e.neg, .int .i64 x.e.node.id, .int .i64 x.e.node.kind, .int .i64 x.e.node.mode, .string x.e.node.target, .int .i64 x.used] 142)) (by omega)); (have kb1 := heap_chg hg1 (heap_new (w.alloc (.cells #[.int .i64 x.e.key.dir, .string x.e.key.name] 53)) (.cells #[.int .i64 x.e.key.dir, .string x.e.key.name, .bool x.e.neg, .int .i64 x.e.node.id, .int .i64 x.e.node.kind, .int .i64 x.e.node.mode, .string x.e.node.target, .int .i64 x.used] 142)) (by rw [World.size_alloc]; omega)); simp only [World.size_alloc] at kb1; (have bp := blk3 hc1.hp); (have q0 := blk2 kb0); (have q1 := blk8 kb1); (have KS := And.intro bp.1 (And.intro (And.intro q0.1 q0.2.1) (And.intro q1.1 (And.intro q1.2.1 (And.intro q1.2.2.1 (And.intro q1.2.2.2.1 (And.intro q1.2.2.2.2.1 (And.intro q1.2.2.2.2.2.1 q1.2.2.2.2.2.2.1)))))))); (have bp' := blk3 (heap_setBlock_ne (o := .map (kes (s.K.set j ⟨x.e, s.ck + 1, x.born⟩)) s.c1) hc1.hp hc1.pe)); (have q0' := blk2 (heap_setBlock_ne (o := .map (kes (s.K.set j ⟨x.e, s.ck + 1, x.born⟩)) s.c1) (r := s.me) kb0 (by omega))); (have q1' := blk8 (heap_setBlock_ne (o := .map (kes (s.K.set j ⟨x.e, s.ck + 1, x.born⟩)) s.c1) (r := s.me) kb1 (by omega))); (have KT := And.intro bp'.1 (And.intro (And.intro q0'.1 q0'.2.1) (And.intro q1'.1 (And.intro q1'.2.1 (And.intro q1'.2.2.1 (And.intro q1'.2.2.2.1 (And.intro q1'.2.2.2.2.1 (And.intro q1'.2.2.2.2.2.1 q1'.2.2.2.2.2.2.1))))))))))
    go_wp2
    go_ret
    exact ⟨rfl, CacheAt.putOld (x := x) _ hc1 HX.out rfl rfl, Chg.trans (Chg.below (bl2 w _ _).drew.drew) (chg_tick_set hg1) (fun _ _ h => h.elim) (fun _ _ h => h)⟩

end Go.Proofs.YtbjibkjenleloaaGreatDoor

end

section
namespace Go.Proofs.YtbjibkjenleloaaGreatDoor
set_option linter.unusedVariables false
set_option linter.unusedSimpArgs false
open Go.RowKit
open Go.ChangeMaps (setBlock)
attribute [local go_sem ↓] Go.wp_at_zero Go.wp_at_succ

theorem name_empty (s : ByteArray) : s = ByteArray.empty ↔ s.toList = [] := by
  have h := bytes_beq s ByteArray.empty
  rw [Bool.eq_iff_iff, beq_iff_eq, decide_eq_true_iff] at h
  rw [← h]
  simp [ByteArray.toList_eq]

set_option maxHeartbeats 1000000 in
theorem dent_put_arg (w : World) (p : Nat) (e : En) (h : e.key.name = ByteArray.empty) :
    Calls Tryz.prog 66 #[.pointer (some ⟨p, 0, none⟩), .agg #[.int .i64 e.key.dir, .string e.key.name, .bool e.neg, .int .i64 e.node.id, .int .i64 e.node.kind, .int .i64 e.node.mode, .string e.node.target]] w fun r w' => r = .returned (.int .i64 1) ∧ Below w.heap.size w w' := by
  have h1 := (name_empty _).1 h
  have h2 : e.key.name.toList.isEmpty = true := by simp [h1]
  clear h
  go_enter Tryz.func66, Tryz.ntmps66
  go_wp2
  go_ret
  exact ⟨rfl, bl1 w _⟩

set_option maxHeartbeats 1000000 in
theorem dent_put_old (w : World) (B : Nat) (s : Ca) (e : En) (j : Nat) (x : Ke) (hk : atK e.key s.K = some j) (hx : s.K[j]? = some x) (h : CacheAt w B s) (hn : e.key.name ≠ ByteArray.empty) (h1 : 0 ≤ s.ck) (h2 : s.ck < 9223372036854775807) :
    Calls Tryz.prog 66 #[.pointer (some ⟨s.p, 0, none⟩), .agg #[.int .i64 e.key.dir, .string e.key.name, .bool e.neg, .int .i64 e.node.id, .int .i64 e.node.kind, .int .i64 e.node.mode, .string e.node.target]] w fun r w' => r = .returned (.int .i64 0) ∧ CacheAt w' B { s with K := s.K.set j ⟨e, s.ck + 1, x.born⟩, ck := s.ck + 1 } ∧ Chg (CaF s) w w' := by
  have hne : e.key.name.toList ≠ [] := fun h3 => hn ((name_empty _).2 h3)
  have hne2 : e.key.name.toList.isEmpty = false := by simpa using hne
  have b0 := blk3 h.hp
  have hpz := blk_lt h.hp
  have hmz := blk_lt h.he
  have BX := blk7 (heap_new w (.cells #[.int .i64 e.key.dir, .string e.key.name, .bool e.neg, .int .i64 e.node.id, .int .i64 e.node.kind, .int .i64 e.node.mode, .string e.node.target] 55))
  have HH := hid h
  have HK := hid hk
  have HX := hid hx
  clear hx
  clear h hk hn hne
  go_enter Tryz.func66, Tryz.ntmps66
  go_wp2_with fail
  go_region_held3 (fun w' => w'.cell? ⟨s.p, 0, none⟩ = some (.map (some s.me)) ∧ w'.cell? ⟨w.heap.size, 0, none⟩ = some (.int .i64 e.key.dir) ∧ w'.cell? ⟨w.heap.size, 1, none⟩ = some (.string e.key.name) ∧ w'.cell? ⟨w.heap.size, 2, none⟩ = some (.bool e.neg) ∧ w'.cell? ⟨w.heap.size, 3, none⟩ = some (.int .i64 e.node.id) ∧ w'.cell? ⟨w.heap.size, 4, none⟩ = some (.int .i64 e.node.kind) ∧ w'.cell? ⟨w.heap.size, 5, none⟩ = some (.int .i64 e.node.mode) ∧ w'.cell? ⟨w.heap.size, 6, none⟩ = some (.string e.node.target))
    (first | exact ⟨cellA b0.1 _, BX.1, BX.2.1, BX.2.2.1, BX.2.2.2.1, BX.2.2.2.2.1, BX.2.2.2.2.2.1, BX.2.2.2.2.2.2.1⟩ | exact KS | exact KT)
    (first
      | (go_at_call 100; refine (dent_tick _ B s (HH.out.below (bl1 w _).drew) h1 h2).mono ?_; rintro r w1 ⟨rfl, hc1, hg1⟩; (have hup := run_put_old (w := w1) ⟨e, s.ck + 1, x.born⟩ hc1.he HK.out HX.out rfl (atK_key HK.out HX.out)); simp only [Ke.val] at hup; (have kb0 := heap_chg hg1 (heap_new w (.cells #[.int .i64 e.key.dir, .string e.key.name, .bool e.neg, .int .i64 e.node.id, .int .i64 e.node.kind, .int .i64 e.node.mode, .string e.node.target] 55)) (by omega)); (have bp := blk3 hc1.hp); (have q0 := blk7 kb0); (have KS := And.intro bp.1 (And.intro q0.1 (And.intro q0.2.1 (And.intro q0.2.2.1 (And.intro q0.2.2.2.1 (And.intro q0.2.2.2.2.1 (And.intro q0.2.2.2.2.2.1 q0.2.2.2.2.2.2.1)))))))
        ; (obtain ⟨M, hM⟩ : ∃ M, M = Obj.map (kes (s.K.set j ⟨e, s.ck + 1, x.born⟩)) s.c1 := ⟨_, rfl⟩)
        ; (have bp' := blk3 (heap_setBlock_ne (o := M) hc1.hp hc1.pe)); (have q0' := blk7 (heap_setBlock_ne (o := M) (r := s.me) kb0 (by omega))); (have KT := And.intro bp'.1 (And.intro q0'.1 (And.intro q0'.2.1 (And.intro q0'.2.2.1 (And.intro q0'.2.2.2.1 (And.intro q0'.2.2.2.2.1 (And.intro q0'.2.2.2.2.2.1 q0'.2.2.2.2.2.2.1)))))))
        ; rw [hM] at KT; clear hM bp' q0'))
  go_wp2
  go_ret
  exact ⟨rfl, CacheAt.putOld (x := x) _ hc1 HX.out rfl (atK_key HK.out HX.out).symm, Chg.trans (Chg.below (bl1 w _).drew) (chg_tick_set hg1) (fun _ _ h => h.elim) (fun _ _ h => h)⟩

set_option maxHeartbeats 1000000 in
theorem dent_put_new (w : World) (B : Nat) (s : Ca) (e : En) (hk : atK e.key s.K = none) (h : CacheAt w B s) (hn : e.key.name ≠ ByteArray.empty) (h1 : 0 ≤ s.ck) (h2 : s.ck < 9223372036854775807) :
    Calls Tryz.prog 66 #[.pointer (some ⟨s.p, 0, none⟩), .agg #[.int .i64 e.key.dir, .string e.key.name, .bool e.neg, .int .i64 e.node.id, .int .i64 e.node.kind, .int .i64 e.node.mode, .string e.node.target]] w fun r w' => r = .returned (.int .i64 0) ∧ CacheAt w' B { s with K := s.K ++ [⟨e, s.ck + 1, s.c1⟩], ck := s.ck + 1, c1 := s.c1 + 1 } ∧ Chg (CaF s) w w' := by
  have hne : e.key.name.toList ≠ [] := fun h3 => hn ((name_empty _).2 h3)
  have hne2 : e.key.name.toList.isEmpty = false := by simpa using hne
  have b0 := blk3 h.hp
  have hpz := blk_lt h.hp
  have hmz := blk_lt h.he
  have BX := blk7 (heap_new w (.cells #[.int .i64 e.key.dir, .string e.key.name, .bool e.neg, .int .i64 e.node.id, .int .i64 e.node.kind, .int .i64 e.node.mode, .string e.node.target] 55))
  have HH := hid h
  have HK := hid hk
  clear h hk hn hne
  go_enter Tryz.func66, Tryz.ntmps66
  go_wp2_with fail
  go_region_held3 (fun w' => w'.cell? ⟨s.p, 0, none⟩ = some (.map (some s.me)) ∧ w'.cell? ⟨w.heap.size, 0, none⟩ = some (.int .i64 e.key.dir) ∧ w'.cell? ⟨w.heap.size, 1, none⟩ = some (.string e.key.name) ∧ w'.cell? ⟨w.heap.size, 2, none⟩ = some (.bool e.neg) ∧ w'.cell? ⟨w.heap.size, 3, none⟩ = some (.int .i64 e.node.id) ∧ w'.cell? ⟨w.heap.size, 4, none⟩ = some (.int .i64 e.node.kind) ∧ w'.cell? ⟨w.heap.size, 5, none⟩ = some (.int .i64 e.node.mode) ∧ w'.cell? ⟨w.heap.size, 6, none⟩ = some (.string e.node.target))
    (first | exact ⟨cellA b0.1 _, BX.1, BX.2.1, BX.2.2.1, BX.2.2.2.1, BX.2.2.2.2.1, BX.2.2.2.2.2.1, BX.2.2.2.2.2.2.1⟩ | exact KS | exact KT)
    (first
      | (go_at_call 100; refine (dent_tick _ B s (HH.out.below (bl1 w _).drew) h1 h2).mono ?_; rintro r w1 ⟨rfl, hc1, hg1⟩; (have hup := run_put_new (w := w1) ⟨e, s.ck + 1, s.c1⟩ hc1.he HK.out rfl); simp only [Ke.val] at hup; (have kb0 := heap_chg hg1 (heap_new w (.cells #[.int .i64 e.key.dir, .string e.key.name, .bool e.neg, .int .i64 e.node.id, .int .i64 e.node.kind, .int .i64 e.node.mode, .string e.node.target] 55)) (by omega)); (have bp := blk3 hc1.hp); (have q0 := blk7 kb0); (have KS := And.intro bp.1 (And.intro q0.1 (And.intro q0.2.1 (And.intro q0.2.2.1 (And.intro q0.2.2.2.1 (And.intro q0.2.2.2.2.1 (And.intro q0.2.2.2.2.2.1 q0.2.2.2.2.2.2.1)))))))
        ; (obtain ⟨M, hM⟩ : ∃ M, M = Obj.map (kes (s.K ++ [⟨e, s.ck + 1, s.c1⟩])) (s.c1 + 1) := ⟨_, rfl⟩)
        ; (have bp' := blk3 (heap_setBlock_ne (o := M) hc1.hp hc1.pe)); (have q0' := blk7 (heap_setBlock_ne (o := M) (r := s.me) kb0 (by omega))); (have KT := And.intro bp'.1 (And.intro q0'.1 (And.intro q0'.2.1 (And.intro q0'.2.2.1 (And.intro q0'.2.2.2.1 (And.intro q0'.2.2.2.2.1 (And.intro q0'.2.2.2.2.2.1 q0'.2.2.2.2.2.2.1)))))))
        ; rw [hM] at KT; clear hM bp' q0'))
  go_wp2
  go_ret
  exact ⟨rfl, CacheAt.putNew _ hc1 HK.out rfl, Chg.trans (Chg.below (bl1 w _).drew) (chg_tick_set hg1) (fun _ _ h => h.elim) (fun _ _ h => h)⟩

def addW (d : Int) (s : Ca) : Ca := match atW d s.W with | some _ => s | none => { s with W := s.W ++ [⟨d, s.c2⟩], c2 := s.c2 + 1 }

theorem CacheAt.addW {w1 : World} {B : Nat} {s : Ca} {d : Int} (h : CacheAt w1 B s) :
    CacheAt (setBlock w1 s.mw (.map (wes (addW d s).W) (addW d s).c2)) B (addW d s) := by
  unfold Go.Proofs.YtbjibkjenleloaaGreatDoor.addW
  cases hj : atW d s.W with
  | some j =>
    exact ⟨h.hB, h.hBe, h.hBw, heap_setBlock_ne h.hp h.pw, heap_setBlock_ne h.he h.hne, heap_setBlock h.hw, h.hne, h.b1, h.n1, h.k1, h.b2, h.n2, h.k2⟩
  | none =>
    refine ⟨h.hB, h.hBe, h.hBw, heap_setBlock_ne h.hp h.pw, heap_setBlock_ne h.he h.hne, heap_setBlock h.hw, h.hne, h.b1, h.n1, h.k1, fun z hz => ?_, ?_, ?_⟩
    · rcases List.mem_append.1 hz with hz | hz
      · exact Nat.lt_succ_of_lt (h.b2 z hz)
      · obtain rfl := List.mem_singleton.1 hz; exact Nat.lt_succ_self _
    · rw [List.map_append, List.nodup_append]
      refine ⟨h.n2, by simp, fun a ha b hb' => ?_⟩
      obtain ⟨z, hz, rfl⟩ := List.mem_map.1 ha
      simp at hb'; subst hb'
      have := h.b2 z hz
      omega
    · rw [List.map_append, List.nodup_append]
      refine ⟨h.k2, by simp, fun a ha b hb' => ?_⟩
      obtain ⟨z, hz, rfl⟩ := List.mem_map.1 ha
      simp at hb'; subst hb'
      have := List.findIdx?_eq_none_iff.1 hj z hz
      simp at this
      exact fun e => this e.symm

set_option maxHeartbeats 1000000 in
theorem dent_setwhole (w : World) (B : Nat) (s : Ca) (d : Int) (h : CacheAt w B s) :
    Calls Tryz.prog 67 #[.pointer (some ⟨s.p, 0, none⟩), .int .i64 d] w fun r w' => r = .returned (.tuple #[]) ∧ CacheAt w' B (addW d s) ∧ Chg (CaF s) w w' := by
  have b0 := blk3 h.hp
  have hup : (Instr.mapUpdate 135 (.map (some s.mw)) (.int .i64 d) (.bool true)).run Tryz.prog w = .ok () (setBlock w s.mw (.map (wes (addW d s).W) (addW d s).c2)) := by
    unfold addW
    cases hj : atW d s.W with
    | some j => exact run_setw_old h.hw hj
    | none => exact run_setw_new h.hw hj
  have HH := hid h
  clear h
  go_enter Tryz.func67, Tryz.ntmps67
  go_wp2
  go_end0
  exact ⟨rfl, HH.out.addW, (chg_setBlock w s.mw _).mono fun _ _ h => .inr (.inr h)⟩

set_option maxHeartbeats 1000000 in
theorem dent_clear (w : World) (B : Nat) (s : Ca) (h : CacheAt w B s) :
    Calls Tryz.prog 33 #[.pointer (some ⟨s.p, 0, none⟩)] w fun r w' => r = .returned (.tuple #[]) ∧ CacheAt w' B { s with K := [], W := [] } ∧ Chg (CaF s) w w' := by
  have b0 := blk3 h.hp
  have b1 := blk3 (heap_setBlock_ne (o := .map (kes []) s.c1) h.hp h.pe)
  have HH := hid h
  clear h
  go_enter Tryz.func33, Tryz.ntmps33
  go_wp2_with (first
    | (with_reducible refine wpList_clear_k rfl (.tmp 5) rfl s.me s.c1 rfl s.K HH.out.he ?_)
    | (with_reducible refine wpList_clear_w rfl (.tmp 9) rfl s.mw s.c2 rfl s.W (heap_setBlock_ne HH.out.hw (Ne.symm HH.out.hne)) ?_))
  go_end0
  have hh := HH.out
  refine ⟨rfl, ⟨hh.hB, hh.hBe, hh.hBw, heap_setBlock_ne (heap_setBlock_ne hh.hp hh.pe) hh.pw, heap_setBlock_ne (heap_setBlock hh.he) hh.hne, heap_setBlock (heap_setBlock_ne hh.hw (Ne.symm hh.hne)), hh.hne, by simp, by simp, by simp, by simp, by simp, by simp⟩, ?_⟩
  exact Chg.trans (chg_setBlock w s.me _) (chg_setBlock _ s.mw _) (fun _ _ h => .inr (.inl h)) (fun _ _ h => .inr (.inr h))

end Go.Proofs.YtbjibkjenleloaaGreatDoor

end

section
namespace Go.Proofs.YtbjibkjenleloaaGreatDoor
set_option linter.unusedVariables false
set_option linter.unusedSimpArgs false
open Go.RowKit
open Go.ChangeMaps (setBlock)
attribute [local go_sem ↓] Go.wp_at_zero Go.wp_at_succ

theorem mem_delK {k : Ky} {K : List Ke} {x : Ke} (h : x ∈ delK k K) : x ∈ K := by
  unfold delK at h; split at h
  · exact List.mem_of_mem_eraseIdx h
  · exact h
theorem sub_delK (k : Ky) (K : List Ke) : (delK k K).Sublist K := by
  unfold delK; split
  · exact List.eraseIdx_sublist ..
  · exact List.Sublist.refl _
theorem sub_delW (d : Int) (W : List Wh) : (delW d W).Sublist W := by
  unfold delW; split
  · exact List.eraseIdx_sublist ..
  · exact List.Sublist.refl _

theorem CacheAt.delE {w1 : World} {B : Nat} {s : Ca} (k : Ky) (h : CacheAt w1 B s) : CacheAt (setBlock w1 s.me (.map (kes (delK k s.K)) s.c1)) B { s with K := delK k s.K } :=
  ⟨h.hB, h.hBe, h.hBw, heap_setBlock_ne h.hp h.pe, heap_setBlock h.he, heap_setBlock_ne h.hw (Ne.symm h.hne), h.hne, fun z hz => h.b1 z (mem_delK hz), h.n1.sublist ((sub_delK k s.K).map _), h.k1.sublist ((sub_delK k s.K).map _), h.b2, h.n2, h.k2⟩
theorem CacheAt.delD {w1 : World} {B : Nat} {s : Ca} (d : Int) (h : CacheAt w1 B s) : CacheAt (setBlock w1 s.mw (.map (wes (delW d s.W)) s.c2)) B { s with W := delW d s.W } :=
  ⟨h.hB, h.hBe, h.hBw, heap_setBlock_ne h.hp h.pw, heap_setBlock_ne h.he h.hne, heap_setBlock h.hw, h.hne, h.b1, h.n1, h.k1, fun z hz => h.b2 z ((sub_delW d s.W).subset hz), h.n2.sublist ((sub_delW d s.W).map _), h.k2.sublist ((sub_delW d s.W).map _)⟩

theorem CacheAt.drew {w : World} {B : Nat} {s : Ca} (h : CacheAt w B s) : CacheAt w.drew B s :=
  ⟨h.hB, h.hBe, h.hBw, h.hp, h.he, h.hw, h.hne, h.b1, h.n1, h.k1, h.b2, h.n2, h.k2⟩

theorem delK_none {k : Ky} {K : List Ke} (h : atK k K = none) : delK k K = K := by simp [delK, h]

set_option maxHeartbeats 1000000 in
theorem dent_evict_no (w : World) (B : Nat) (s : Ca) (k : Ky) (h : CacheAt w B s) (hk : atK k s.K = none) :
    Calls Tryz.prog 103 #[.pointer (some ⟨s.p, 0, none⟩), k.v] w fun e w' => e = .returned (.bool false) ∧ CacheAt w' B s ∧ Chg (CaF s) w w' := by
  have HK := hid hk
  have b0 := blk3 h.hp
  have hpz := blk_lt h.hp
  have hmz := blk_lt h.he
  have HL : ∀ W : World, W.heap[s.me]? = some (.map (kes s.K) s.c1) → (Instr.lookup 134 (.map (some s.me)) (.agg #[.int .i64 k.dir, .string k.name]) true).run Tryz.prog W = .ok (.tuple #[.agg #[.int .i64 0, .string ByteArray.empty, .bool false, .int .i64 0, .int .i64 0, .int .i64 0, .string ByteArray.empty, .int .i64 0], .bool false]) W := fun W hW => run_look_no hW hk
  have he := h.he
  have BX := blk2 (heap_new w (.cells #[.int .i64 k.dir, .string k.name] 53))
  have HE := hid he
  have HH := hid h
  clear h he hk
  unfold Ky.v
  go_enter Tryz.func103, Tryz.ntmps103
  go_upto_region 1 with fail
  go_cut [5, 6] (fun v5 v6 wx => v5 = .pointer (some ⟨w.heap.size + 1, 0, none⟩) ∧ v6 = .bool false ∧ wx = ((w.alloc (.cells #[.int .i64 k.dir, .string k.name] 53)).alloc (.cells #[.int .i64 0, .string ByteArray.empty, .bool false, .int .i64 0, .int .i64 0, .int .i64 0, .string ByteArray.empty, .int .i64 0] 142)).drew)
  case first =>
    go_region_held3 (fun w' => w'.cell? ⟨s.p, 0, none⟩ = some (.map (some s.me)) ∧ w'.cell? ⟨w.heap.size, 0, none⟩ = some (.int .i64 k.dir) ∧ w'.cell? ⟨w.heap.size, 1, none⟩ = some (.string k.name) ∧ w'.heap[s.me]? = some (.map (kes s.K) s.c1))
      (refine ⟨?_, ?_, ?_, ?_⟩ <;> first | exact cellA (b0.1) _ | exact BX.1 | exact BX.2.1 | exact heap_old (HE.out) _ | exact cellA (cellA (b0.1) _) _ | exact cellA (BX.1) _ | exact cellA (BX.2.1) _ | exact heap_old (heap_old (HE.out) _) _)
      (fail)
    all_goals (go_wp2_with fail; go_meet; exact ⟨rfl, rfl, rfl⟩)
  case rest =>
    clear HL
    obtain ⟨rfl, rfl, rfl⟩ := hcut
    have hh := HH.out.below ((bl2 w (.cells #[.int .i64 k.dir, .string k.name] 53) (.cells #[.int .i64 0, .string ByteArray.empty, .bool false, .int .i64 0, .int .i64 0, .int .i64 0, .string ByteArray.empty, .int .i64 0] 142)).drew)
    have HC := hid hh
    have c0 := blk3 hh.hp
    have kbx := heap_old (heap_new w (.cells #[.int .i64 k.dir, .string k.name] 53)) (.cells #[.int .i64 0, .string ByteArray.empty, .bool false, .int .i64 0, .int .i64 0, .int .i64 0, .string ByteArray.empty, .int .i64 0] 142)
    have BY := blk2 kbx
    have BZ := blk8 (heap_new (w.alloc (.cells #[.int .i64 k.dir, .string k.name] 53)) (.cells #[.int .i64 0, .string ByteArray.empty, .bool false, .int .i64 0, .int .i64 0, .int .i64 0, .string ByteArray.empty, .int .i64 0] 142))
    have KBX := hid kbx
    simp only [World.size_alloc] at BZ
    clear hh kbx BX b0
    go_wp2_with fail
    go_region_law (refine step_delete_k (by rfl) (.tmp 32) (.tmp 33) _ (by rfl) s.me s.c1 (by rfl) k.dir k.name (by rfl) s.K (by exact HC.out.he) ?_)
    all_goals
      go_wp2
      go_ret
      have h1 := HC.out.drew.delE k
      have h2 : ({ s with K := delK k s.K } : Ca) = s := by rw [delK_none HK.out]
      rw [h2] at h1
      exact ⟨rfl, ⟨h1.hB, h1.hBe, h1.hBw, h1.hp, h1.he, h1.hw, h1.hne, h1.b1, h1.n1, h1.k1, h1.b2, h1.n2, h1.k2⟩, Chg.trans (Chg.below (bl2 w _ _).drew.drew) (chg_setBlock _ s.me _) (fun _ _ h => h.elim) (fun _ _ h => .inr (.inl h))⟩

set_option maxHeartbeats 1000000 in
theorem dent_evict_neg (w : World) (B : Nat) (s : Ca) (k : Ky) (j : Nat) (x : Ke) (h : CacheAt w B s) (hk : atK k s.K = some j) (hx : s.K[j]? = some x) (hneg : x.e.neg = true) :
    Calls Tryz.prog 103 #[.pointer (some ⟨s.p, 0, none⟩), k.v] w fun e w' => e = .returned (.bool true) ∧ CacheAt w' B { s with K := delK k s.K } ∧ Chg (CaF s) w w' := by
  have HN := hid hneg
  have b0 := blk3 h.hp
  have hpz := blk_lt h.hp
  have hmz := blk_lt h.he
  have HL : ∀ W : World, W.heap[s.me]? = some (.map (kes s.K) s.c1) → (Instr.lookup 134 (.map (some s.me)) (.agg #[.int .i64 k.dir, .string k.name]) true).run Tryz.prog W = .ok (.tuple #[.agg #[.int .i64 x.e.key.dir, .string x.e.key.name, .bool x.e.neg, .int .i64 x.e.node.id, .int .i64 x.e.node.kind, .int .i64 x.e.node.mode, .string x.e.node.target, .int .i64 x.used], .bool true]) W := fun W hW => run_look_yes hW hk hx
  have he := h.he
  have BX := blk2 (heap_new w (.cells #[.int .i64 k.dir, .string k.name] 53))
  have HE := hid he
  have HH := hid h
  simp only [hneg] at HL
  clear h he hk hx hneg
  unfold Ky.v
  go_enter Tryz.func103, Tryz.ntmps103
  go_upto_region 1 with fail
  go_cut [5, 6] (fun v5 v6 wx => v5 = .pointer (some ⟨w.heap.size + 1, 0, none⟩) ∧ v6 = .bool true ∧ wx = ((w.alloc (.cells #[.int .i64 k.dir, .string k.name] 53)).alloc (.cells #[.int .i64 x.e.key.dir, .string x.e.key.name, .bool true, .int .i64 x.e.node.id, .int .i64 x.e.node.kind, .int .i64 x.e.node.mode, .string x.e.node.target, .int .i64 x.used] 142)).drew)
  case first =>
    go_region_held3 (fun w' => w'.cell? ⟨s.p, 0, none⟩ = some (.map (some s.me)) ∧ w'.cell? ⟨w.heap.size, 0, none⟩ = some (.int .i64 k.dir) ∧ w'.cell? ⟨w.heap.size, 1, none⟩ = some (.string k.name) ∧ w'.heap[s.me]? = some (.map (kes s.K) s.c1))
      (refine ⟨?_, ?_, ?_, ?_⟩ <;> first | exact cellA (b0.1) _ | exact BX.1 | exact BX.2.1 | exact heap_old (HE.out) _ | exact cellA (cellA (b0.1) _) _ | exact cellA (BX.1) _ | exact cellA (BX.2.1) _ | exact heap_old (heap_old (HE.out) _) _)
      (fail)
    all_goals (go_wp2_with fail; go_meet; exact ⟨rfl, rfl, rfl⟩)
  case rest =>
    clear HL
    obtain ⟨rfl, rfl, rfl⟩ := hcut
    have hh := HH.out.below ((bl2 w (.cells #[.int .i64 k.dir, .string k.name] 53) (.cells #[.int .i64 x.e.key.dir, .string x.e.key.name, .bool true, .int .i64 x.e.node.id, .int .i64 x.e.node.kind, .int .i64 x.e.node.mode, .string x.e.node.target, .int .i64 x.used] 142)).drew)
    have HC := hid hh
    have c0 := blk3 hh.hp
    have kbx := heap_old (heap_new w (.cells #[.int .i64 k.dir, .string k.name] 53)) (.cells #[.int .i64 x.e.key.dir, .string x.e.key.name, .bool true, .int .i64 x.e.node.id, .int .i64 x.e.node.kind, .int .i64 x.e.node.mode, .string x.e.node.target, .int .i64 x.used] 142)
    have BY := blk2 kbx
    have BZ := blk8 (heap_new (w.alloc (.cells #[.int .i64 k.dir, .string k.name] 53)) (.cells #[.int .i64 x.e.key.dir, .string x.e.key.name, .bool true, .int .i64 x.e.node.id, .int .i64 x.e.node.kind, .int .i64 x.e.node.mode, .string x.e.node.target, .int .i64 x.used] 142))
    have KBX := hid kbx
    simp only [World.size_alloc] at BZ
    clear hh kbx BX b0
    go_wp2_with fail
    go_region_law (refine step_delete_k (by rfl) (.tmp 32) (.tmp 33) _ (by rfl) s.me s.c1 (by rfl) k.dir k.name (by rfl) s.K (by exact HC.out.he) ?_)
    all_goals
      go_wp2
      go_ret
      exact ⟨rfl, HC.out.drew.delE k, Chg.trans (Chg.below (bl2 w _ _).drew.drew) (chg_setBlock _ s.me _) (fun _ _ h => h.elim) (fun _ _ h => .inr (.inl h))⟩

set_option maxHeartbeats 1000000 in
theorem dent_evict_pos (w : World) (B : Nat) (s : Ca) (k : Ky) (j : Nat) (x : Ke) (h : CacheAt w B s) (hk : atK k s.K = some j) (hx : s.K[j]? = some x) (hneg : x.e.neg = false) :
    Calls Tryz.prog 103 #[.pointer (some ⟨s.p, 0, none⟩), k.v] w fun e w' => e = .returned (.bool true) ∧ CacheAt w' B { s with K := delK k s.K, W := delW k.dir s.W } ∧ Chg (CaF s) w w' := by
  have HN := hid hneg
  have b0 := blk3 h.hp
  have hpz := blk_lt h.hp
  have hmz := blk_lt h.he
  have HL : ∀ W : World, W.heap[s.me]? = some (.map (kes s.K) s.c1) → (Instr.lookup 134 (.map (some s.me)) (.agg #[.int .i64 k.dir, .string k.name]) true).run Tryz.prog W = .ok (.tuple #[.agg #[.int .i64 x.e.key.dir, .string x.e.key.name, .bool x.e.neg, .int .i64 x.e.node.id, .int .i64 x.e.node.kind, .int .i64 x.e.node.mode, .string x.e.node.target, .int .i64 x.used], .bool true]) W := fun W hW => run_look_yes hW hk hx
  have he := h.he
  have BX := blk2 (heap_new w (.cells #[.int .i64 k.dir, .string k.name] 53))
  have HE := hid he
  have HH := hid h
  simp only [hneg] at HL
  clear h he hk hx hneg
  unfold Ky.v
  go_enter Tryz.func103, Tryz.ntmps103
  go_upto_region 1 with fail
  go_cut [5, 6] (fun v5 v6 wx => v5 = .pointer (some ⟨w.heap.size + 1, 0, none⟩) ∧ v6 = .bool true ∧ wx = ((w.alloc (.cells #[.int .i64 k.dir, .string k.name] 53)).alloc (.cells #[.int .i64 x.e.key.dir, .string x.e.key.name, .bool false, .int .i64 x.e.node.id, .int .i64 x.e.node.kind, .int .i64 x.e.node.mode, .string x.e.node.target, .int .i64 x.used] 142)).drew)
  case first =>
    go_region_held3 (fun w' => w'.cell? ⟨s.p, 0, none⟩ = some (.map (some s.me)) ∧ w'.cell? ⟨w.heap.size, 0, none⟩ = some (.int .i64 k.dir) ∧ w'.cell? ⟨w.heap.size, 1, none⟩ = some (.string k.name) ∧ w'.heap[s.me]? = some (.map (kes s.K) s.c1))
      (refine ⟨?_, ?_, ?_, ?_⟩ <;> first | exact cellA (b0.1) _ | exact BX.1 | exact BX.2.1 | exact heap_old (HE.out) _ | exact cellA (cellA (b0.1) _) _ | exact cellA (BX.1) _ | exact cellA (BX.2.1) _ | exact heap_old (heap_old (HE.out) _) _)
      (fail)
    all_goals (go_wp2_with fail; go_meet; exact ⟨rfl, rfl, rfl⟩)
  case rest =>
    clear HL
    obtain ⟨rfl, rfl, rfl⟩ := hcut
    have hh := HH.out.below ((bl2 w (.cells #[.int .i64 k.dir, .string k.name] 53) (.cells #[.int .i64 x.e.key.dir, .string x.e.key.name, .bool false, .int .i64 x.e.node.id, .int .i64 x.e.node.kind, .int .i64 x.e.node.mode, .string x.e.node.target, .int .i64 x.used] 142)).drew)
    have HC := hid hh
    have c0 := blk3 hh.hp
    have kbx := heap_old (heap_new w (.cells #[.int .i64 k.dir, .string k.name] 53)) (.cells #[.int .i64 x.e.key.dir, .string x.e.key.name, .bool false, .int .i64 x.e.node.id, .int .i64 x.e.node.kind, .int .i64 x.e.node.mode, .string x.e.node.target, .int .i64 x.used] 142)
    have BY := blk2 kbx
    have BZ := blk8 (heap_new (w.alloc (.cells #[.int .i64 k.dir, .string k.name] 53)) (.cells #[.int .i64 x.e.key.dir, .string x.e.key.name, .bool false, .int .i64 x.e.node.id, .int .i64 x.e.node.kind, .int .i64 x.e.node.mode, .string x.e.node.target, .int .i64 x.used] 142))
    have KBX := hid kbx
    simp only [World.size_alloc] at BZ
    clear hh kbx BX b0
    have hd := CacheAt.delD (w1 := (((w.alloc (.cells #[.int .i64 k.dir, .string k.name] 53)).alloc (.cells #[.int .i64 x.e.key.dir, .string x.e.key.name, .bool false, .int .i64 x.e.node.id, .int .i64 x.e.node.kind, .int .i64 x.e.node.mode, .string x.e.node.target, .int .i64 x.used] 142)).drew).drew) (s := s) (B := B) k.dir HC.out.drew
    have HD := hid hd
    have c1 := blk3 hd.hp
    have ky := blk2 (heap_setBlock_ne (w := (((w.alloc (.cells #[.int .i64 k.dir, .string k.name] 53)).alloc (.cells #[.int .i64 x.e.key.dir, .string x.e.key.name, .bool false, .int .i64 x.e.node.id, .int .i64 x.e.node.kind, .int .i64 x.e.node.mode, .string x.e.node.target, .int .i64 x.used] 142)).drew).drew) (r := s.mw) (o := .map (wes (delW k.dir s.W)) s.c2) KBX.out (by have := blk_lt HH.out.hw; omega))
    clear hd
    go_wp2_with fail
    go_region_law (refine step_delete_w (by rfl) (.tmp 26) (.tmp 28) _ (by rfl) s.mw s.c2 (by rfl) k.dir (by rfl) s.W (by exact HC.out.hw) ?_)
    all_goals
      go_wp2_with fail
      go_region_law (refine step_delete_k (by rfl) (.tmp 32) (.tmp 33) _ (by rfl) s.me s.c1 (by rfl) k.dir k.name (by rfl) s.K (by exact HD.out.he) ?_)
      all_goals
        go_wp2
        go_ret
        exact ⟨rfl, HD.out.drew.delE k, Chg.trans (Chg.below (bl2 w _ _).drew.drew) (Chg.trans (chg_setBlock _ s.mw _).drew (chg_setBlock _ s.me _) (fun _ _ h => .inr (.inr h)) (fun _ _ h => .inr (.inl h))) (fun _ _ h => h.elim) (fun _ _ h => h)⟩

end Go.Proofs.YtbjibkjenleloaaGreatDoor

end
