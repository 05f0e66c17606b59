import Derived.Test.YtmhogjecfgbchaaDentB
namespace Go.Proofs.Ytmhogjecfgbchaa
set_option linter.unusedVariables false
set_option linter.unusedSimpArgs false
open Go.RowKit
open Go.ChangeMaps (setBlock)
attribute [local go_sem ↓] Go.wp_at_zero Go.wp_at_succ

def zeroEn : Value := .agg #[.int .i64 0, .string ByteArray.empty, .bool false, .int .i64 0, .int .i64 0, .int .i64 0, .string ByteArray.empty]

theorem atK_at {k : Ky} {K : List Ke} {j : Nat} (h : atK k K = some j) : ∃ x, K[j]? = some x ∧ x.e.key = k := by
  obtain ⟨hjl, h1, _⟩ := List.findIdx?_eq_some_iff_getElem.1 h
  exact ⟨K[j], List.getElem?_eq_getElem hjl, by simpa using (of_decide_eq_true h1).symm⟩

set_option maxHeartbeats 1000000 in
theorem dent_get_no (w : World) (B : Nat) (s : Ca) (k : Ky) (h : CacheAt w B s) (hk : atK k s.K = none) :
    Calls Try.prog 26 #[.pointer (some ⟨s.p, 0, none⟩), k.v] w fun e w' => e = .returned (.tuple #[zeroEn, .bool false]) ∧ Below w.heap.size w w' := by
  have b0 := blk3 h.hp
  have hpz := blk_lt h.hp
  have hmz := blk_lt h.he
  have HL : ∀ W : World, W.heap[s.me]? = some (.map (kes s.K) s.c1) → (Instr.lookup 73 (.map (some s.me)) (.agg #[.int .i64 k.dir, .string k.name]) true).run Try.prog W = .ok (.tuple #[.agg #[.int .i64 0, .string ByteArray.empty, .bool false, .int .i64 0, .int .i64 0, .int .i64 0, .string ByteArray.empty, .int .i64 0], .bool false]) W := fun W hW => run_look_no hW hk
  have he := h.he
  have BX := blk2 (heap_new w (.cells #[.int .i64 k.dir, .string k.name] 26))
  have HE := hid he
  have HH := hid h
  clear h he hk
  unfold Ky.v
  go_enter Try.func26, Try.ntmps26
  go_wp2_with fail
  go_region_held3 (fun w' => w'.cell? ⟨s.p, 0, none⟩ = some (.map (some s.me)) ∧ w'.cell? ⟨w.heap.size, 0, none⟩ = some (.int .i64 k.dir) ∧ w'.cell? ⟨w.heap.size, 1, none⟩ = some (.string k.name) ∧ w'.heap[s.me]? = some (.map (kes s.K) s.c1))
    (refine ⟨?_, ?_, ?_, ?_⟩ <;> first | exact cellA (cellA (b0.1) _) _ | exact cellA (BX.1) _ | exact cellA (BX.2.1) _ | exact heap_old (heap_old (HE.out) _) _ | exact cellA (cellA (cellA (b0.1) _) _) _ | exact cellA (cellA (BX.1) _) _ | exact cellA (cellA (BX.2.1) _) _ | exact heap_old (heap_old (heap_old (HE.out) _) _) _)
    (fail)
  all_goals
    go_wp2
    refine bodyPost_ret (v := .tuple #[zeroEn, .bool false]) (by simp [results, Try.results26, go_sem, zeroEn]) rfl ⟨rfl, ?_⟩
    exact (bl3 w _ _ _).drew

set_option maxHeartbeats 1000000 in
theorem dent_get_yes (w : World) (B : Nat) (s : Ca) (k : Ky) (j : Nat) (x : Ke) (h : CacheAt w B s) (hk : atK k s.K = some j) (hx : s.K[j]? = some x) :
    Calls Try.prog 26 #[.pointer (some ⟨s.p, 0, none⟩), k.v] w fun e w' => e = .returned (.tuple #[x.e.v, .bool true]) ∧ Below w.heap.size w w' := by
  have b0 := blk3 h.hp
  have hpz := blk_lt h.hp
  have hmz := blk_lt h.he
  have HL : ∀ W : World, W.heap[s.me]? = some (.map (kes s.K) s.c1) → (Instr.lookup 73 (.map (some s.me)) (.agg #[.int .i64 k.dir, .string k.name]) true).run Try.prog W = .ok (.tuple #[.agg #[.int .i64 x.e.key.dir, .string x.e.key.name, .bool x.e.neg, .int .i64 x.e.node.id, .int .i64 x.e.node.kind, .int .i64 x.e.node.mode, .string x.e.node.target, .int .i64 x.used], .bool true]) W := fun W hW => run_look_yes hW hk hx
  have he := h.he
  have BX := blk2 (heap_new w (.cells #[.int .i64 k.dir, .string k.name] 26))
  have HE := hid he
  have HH := hid h
  clear h he hk hx
  unfold Ky.v
  go_enter Try.func26, Try.ntmps26
  go_wp2_with fail
  go_region_held3 (fun w' => w'.cell? ⟨s.p, 0, none⟩ = some (.map (some s.me)) ∧ w'.cell? ⟨w.heap.size, 0, none⟩ = some (.int .i64 k.dir) ∧ w'.cell? ⟨w.heap.size, 1, none⟩ = some (.string k.name) ∧ w'.heap[s.me]? = some (.map (kes s.K) s.c1))
    (refine ⟨?_, ?_, ?_, ?_⟩ <;> first | exact cellA (cellA (b0.1) _) _ | exact cellA (BX.1) _ | exact cellA (BX.2.1) _ | exact heap_old (heap_old (HE.out) _) _ | exact cellA (cellA (cellA (b0.1) _) _) _ | exact cellA (cellA (BX.1) _) _ | exact cellA (cellA (BX.2.1) _) _ | exact heap_old (heap_old (heap_old (HE.out) _) _) _)
    (fail)
  all_goals
    go_wp2
    refine bodyPost_ret (v := .tuple #[x.e.v, .bool true]) (by simp [results, Try.results26, go_sem, En.v]) rfl ⟨rfl, ?_⟩
    exact (bl3 w _ _ _).drew

theorem atK_key {k : Ky} {K : List Ke} {j : Nat} {x : Ke} (h : atK k K = some j) (hx : K[j]? = some x) : x.e.key = k := by
  obtain ⟨y, hy, h2⟩ := atK_at h
  rw [hx] at hy; cases hy; exact h2

theorem CacheAt.putOld {w1 : World} {B j : Nat} {s : Ca} {x : Ke} {ck' : Int} (y : Ke) (h : CacheAt w1 B { s with ck := ck' }) (hx : s.K[j]? = some x) (hb : y.born = x.born) (hk : y.e.key = x.e.key) :
    CacheAt (setBlock w1 s.me (.map (kes (s.K.set j y)) s.c1)) B { s with K := s.K.set j y, ck := ck' } := by
  have hj : j < s.K.length := (List.getElem?_eq_some_iff.1 hx).1
  have hxx : s.K[j] = x := (List.getElem?_eq_some_iff.1 hx).2
  refine ⟨h.hB, h.hBe, h.hBw, heap_setBlock_ne h.hp h.pe, heap_setBlock h.he, heap_setBlock_ne h.hw (Ne.symm h.hne), h.hne, fun z hz => ?_, ?_, ?_, h.b2, h.n2, h.k2⟩
  · rcases List.mem_or_eq_of_mem_set hz with hz | rfl
    · exact h.b1 z hz
    · rw [hb]; exact h.b1 x (List.mem_of_getElem? hx)
  · have : (s.K.set j y).map Ke.born = s.K.map Ke.born := by
      rw [List.map_set, hb, ← hxx, ← List.map_set, List.set_getElem_self]
    rw [this]; exact h.n1
  · have : (s.K.set j y).map (fun x => x.e.key) = s.K.map (fun x => x.e.key) := by
      rw [List.map_set, hk, ← hxx]
      rw [← List.map_set (f := fun x : Ke => x.e.key), List.set_getElem_self]
    rw [this]; exact h.k1

theorem CacheAt.putNew {w1 : World} {B : Nat} {s : Ca} {ck' : Int} (y : Ke) (h : CacheAt w1 B { s with ck := ck' }) (hk : atK y.e.key s.K = none) (hb : y.born = s.c1) :
    CacheAt (setBlock w1 s.me (.map (kes (s.K ++ [y])) (s.c1 + 1))) B { s with K := s.K ++ [y], ck := ck', c1 := s.c1 + 1 } := by
  refine ⟨h.hB, h.hBe, h.hBw, heap_setBlock_ne h.hp h.pe, heap_setBlock h.he, heap_setBlock_ne h.hw (Ne.symm h.hne), h.hne, fun z hz => ?_, ?_, ?_, h.b2, h.n2, h.k2⟩
  · rcases List.mem_append.1 hz with hz | hz
    · exact Nat.lt_succ_of_lt (h.b1 z hz)
    · obtain rfl := List.mem_singleton.1 hz; rw [hb]; exact Nat.lt_succ_self _
  · rw [List.map_append, List.nodup_append]
    refine ⟨h.n1, by simp, fun a ha b hb' => ?_⟩
    obtain ⟨z, hz, rfl⟩ := List.mem_map.1 ha
    simp at hb'; subst hb'
    have := h.b1 z hz
    simp only at this
    omega
  · rw [List.map_append, List.nodup_append]
    refine ⟨h.k1, by simp, fun a ha b hb' => ?_⟩
    obtain ⟨z, hz, rfl⟩ := List.mem_map.1 ha
    simp at hb'; subst hb'
    have := List.findIdx?_eq_none_iff.1 hk z hz
    simp at this
    exact fun e => this e.symm

theorem chg_tick_set {s : Ca} {w w1 : World} {o : Obj} (h : Chg (fun k => k = s.p) w w1) : Chg (CaF s) w (setBlock w1 s.me o) :=
  Chg.trans h (chg_setBlock w1 s.me o) (fun _ _ h => .inl h) (fun _ _ h => .inr (.inl h))

set_option maxHeartbeats 1000000 in
theorem dent_use_no (w : World) (B : Nat) (s : Ca) (k : Ky) (h : CacheAt w B s) (hk : atK k s.K = none) :
    Calls Try.prog 22 #[.pointer (some ⟨s.p, 0, none⟩), k.v] w fun e w' => e = .returned (.bool false) ∧ Below w.heap.size w w' := by
  have b0 := blk3 h.hp
  have hpz := blk_lt h.hp
  have hmz := blk_lt h.he
  have HL : ∀ W : World, W.heap[s.me]? = some (.map (kes s.K) s.c1) → (Instr.lookup 73 (.map (some s.me)) (.agg #[.int .i64 k.dir, .string k.name]) true).run Try.prog W = .ok (.tuple #[.agg #[.int .i64 0, .string ByteArray.empty, .bool false, .int .i64 0, .int .i64 0, .int .i64 0, .string ByteArray.empty, .int .i64 0], .bool false]) W := fun W hW => run_look_no hW hk
  have he := h.he
  have BX := blk2 (heap_new w (.cells #[.int .i64 k.dir, .string k.name] 26))
  have HE := hid he
  have HH := hid h
  clear h he hk
  unfold Ky.v
  go_enter Try.func22, Try.ntmps22
  go_wp2_with fail
  go_region_held3 (fun w' => w'.cell? ⟨s.p, 0, none⟩ = some (.map (some s.me)) ∧ w'.cell? ⟨w.heap.size, 0, none⟩ = some (.int .i64 k.dir) ∧ w'.cell? ⟨w.heap.size, 1, none⟩ = some (.string k.name) ∧ w'.heap[s.me]? = some (.map (kes s.K) s.c1))
    (refine ⟨?_, ?_, ?_, ?_⟩ <;> first | exact cellA (b0.1) _ | exact BX.1 | exact BX.2.1 | exact heap_old (HE.out) _ | exact cellA (cellA (b0.1) _) _ | exact cellA (BX.1) _ | exact cellA (BX.2.1) _ | exact heap_old (heap_old (HE.out) _) _)
    (fail)
  all_goals
    go_wp2
    go_ret
    exact ⟨rfl, (bl2 w _ _).drew⟩

set_option maxHeartbeats 1000000 in
theorem dent_use_yes (w : World) (B : Nat) (s : Ca) (j : Nat) (x : Ke) (h : CacheAt w B s) (hk : atK x.e.key s.K = some j) (hx : s.K[j]? = some x) (h1 : 0 ≤ s.ck) (h2 : s.ck < 9223372036854775807) :
    Calls Try.prog 22 #[.pointer (some ⟨s.p, 0, none⟩), .agg #[.int .i64 x.e.key.dir, .string x.e.key.name]] w fun e w' => e = .returned (.bool true) ∧ CacheAt w' B { s with K := s.K.set j ⟨x.e, s.ck + 1, x.born⟩, ck := s.ck + 1 } ∧ Chg (CaF s) w w' := by
  have HK := hid hk
  have HX := hid hx
  have b0 := blk3 h.hp
  have hpz := blk_lt h.hp
  have hmz := blk_lt h.he
  have HL : ∀ W : World, W.heap[s.me]? = some (.map (kes s.K) s.c1) → (Instr.lookup 73 (.map (some s.me)) (.agg #[.int .i64 x.e.key.dir, .string x.e.key.name]) true).run Try.prog W = .ok (.tuple #[.agg #[.int .i64 x.e.key.dir, .string x.e.key.name, .bool x.e.neg, .int .i64 x.e.node.id, .int .i64 x.e.node.kind, .int .i64 x.e.node.mode, .string x.e.node.target, .int .i64 x.used], .bool true]) W := fun W hW => run_look_yes hW hk hx
  have he := h.he
  have BX := blk2 (heap_new w (.cells #[.int .i64 x.e.key.dir, .string x.e.key.name] 26))
  have HE := hid he
  have HH := hid h
  clear h he hk hx
  go_enter Try.func22, Try.ntmps22
  go_upto_region 1 with fail
  go_cut [5, 6] (fun v5 v6 wx => v5 = .pointer (some ⟨w.heap.size + 1, 0, none⟩) ∧ v6 = .bool true ∧ wx = ((w.alloc (.cells #[.int .i64 x.e.key.dir, .string x.e.key.name] 26)).alloc (.cells #[.int .i64 x.e.key.dir, .string x.e.key.name, .bool x.e.neg, .int .i64 x.e.node.id, .int .i64 x.e.node.kind, .int .i64 x.e.node.mode, .string x.e.node.target, .int .i64 x.used] 78)).drew)
  case first =>
    go_region_held3 (fun w' => w'.cell? ⟨s.p, 0, none⟩ = some (.map (some s.me)) ∧ w'.cell? ⟨w.heap.size, 0, none⟩ = some (.int .i64 x.e.key.dir) ∧ w'.cell? ⟨w.heap.size, 1, none⟩ = some (.string x.e.key.name) ∧ w'.heap[s.me]? = some (.map (kes s.K) s.c1))
      (refine ⟨?_, ?_, ?_, ?_⟩ <;> first | exact cellA (b0.1) _ | exact BX.1 | exact BX.2.1 | exact heap_old (HE.out) _ | exact cellA (cellA (b0.1) _) _ | exact cellA (BX.1) _ | exact cellA (BX.2.1) _ | exact heap_old (heap_old (HE.out) _) _)
      (fail)
    all_goals (go_wp2_with fail; go_meet; exact ⟨rfl, rfl, rfl⟩)
  case rest =>
    clear HL
    obtain ⟨rfl, rfl, rfl⟩ := hcut
    have BY := blk8 (heap_new (w.alloc (.cells #[.int .i64 x.e.key.dir, .string x.e.key.name] 26)) (.cells #[.int .i64 x.e.key.dir, .string x.e.key.name, .bool x.e.neg, .int .i64 x.e.node.id, .int .i64 x.e.node.kind, .int .i64 x.e.node.mode, .string x.e.node.target, .int .i64 x.used] 78))
    simp only [World.size_alloc] at BY
    go_wp2_with fail
    go_region_held3 (fun w' => w'.cell? ⟨s.p, 0, none⟩ = some (.map (some s.me)) ∧ (w'.cell? ⟨w.heap.size, 0, none⟩ = some (.int .i64 x.e.key.dir) ∧ w'.cell? ⟨w.heap.size, 1, none⟩ = some (.string x.e.key.name)) ∧ w'.cell? ⟨w.heap.size + 1, 0, none⟩ = some (.int .i64 x.e.key.dir) ∧ w'.cell? ⟨w.heap.size + 1, 1, none⟩ = some (.string x.e.key.name) ∧ w'.cell? ⟨w.heap.size + 1, 2, none⟩ = some (.bool x.e.neg) ∧ w'.cell? ⟨w.heap.size + 1, 3, none⟩ = some (.int .i64 x.e.node.id) ∧ w'.cell? ⟨w.heap.size + 1, 4, none⟩ = some (.int .i64 x.e.node.kind) ∧ w'.cell? ⟨w.heap.size + 1, 5, none⟩ = some (.int .i64 x.e.node.mode) ∧ w'.cell? ⟨w.heap.size + 1, 6, none⟩ = some (.string x.e.node.target))
      (first | exact ⟨cellA (cellA b0.1 _) _, ⟨cellA BX.1 _, cellA BX.2.1 _⟩, BY.1, BY.2.1, BY.2.2.1, BY.2.2.2.1, BY.2.2.2.2.1, BY.2.2.2.2.2.1, BY.2.2.2.2.2.2.1⟩ | exact KS | exact KT)
      (first
        | (go_at_call 50; refine (dent_tick _ B s (HH.out.below ((bl2 w _ _).drew.drew)) h1 h2).mono ?_; rintro e w1 ⟨rfl, hc1, hg1⟩; (have hup := run_put_old (w := w1) ⟨x.e, s.ck + 1, x.born⟩ hc1.he HK.out HX.out rfl rfl); simp only [Ke.val] at hup; (have kb0 := heap_chg hg1 (heap_old (heap_new w (.cells #[.int .i64 x.e.key.dir, .string x.e.key.name] 26)) (.cells #[.int .i64 x.e.key.dir, .string x.e.key.name, .bool x.e.neg, .int .i64 x.e.node.id, .int .i64 x.e.node.kind, .int .i64 x.e.node.mode, .string x.e.node.target, .int .i64 x.used] 78)) (by omega)); (have kb1 := heap_chg hg1 (heap_new (w.alloc (.cells #[.int .i64 x.e.key.dir, .string x.e.key.name] 26)) (.cells #[.int .i64 x.e.key.dir, .string x.e.key.name, .bool x.e.neg, .int .i64 x.e.node.id, .int .i64 x.e.node.kind, .int .i64 x.e.node.mode, .string x.e.node.target, .int .i64 x.used] 78)) (by rw [World.size_alloc]; omega)); simp only [World.size_alloc] at kb1; (have bp := blk3 hc1.hp); (have q0 := blk2 kb0); (have q1 := blk8 kb1); (have KS := And.intro bp.1 (And.intro (And.intro q0.1 q0.2.1) (And.intro q1.1 (And.intro q1.2.1 (And.intro q1.2.2.1 (And.intro q1.2.2.2.1 (And.intro q1.2.2.2.2.1 (And.intro q1.2.2.2.2.2.1 q1.2.2.2.2.2.2.1)))))))); (have bp' := blk3 (heap_setBlock_ne (o := .map (kes (s.K.set j ⟨x.e, s.ck + 1, x.born⟩)) s.c1) hc1.hp hc1.pe)); (have q0' := blk2 (heap_setBlock_ne (o := .map (kes (s.K.set j ⟨x.e, s.ck + 1, x.born⟩)) s.c1) (r := s.me) kb0 (by omega))); (have q1' := blk8 (heap_setBlock_ne (o := .map (kes (s.K.set j ⟨x.e, s.ck + 1, x.born⟩)) s.c1) (r := s.me) kb1 (by omega))); (have KT := And.intro bp'.1 (And.intro (And.intro q0'.1 q0'.2.1) (And.intro q1'.1 (And.intro q1'.2.1 (And.intro q1'.2.2.1 (And.intro q1'.2.2.2.1 (And.intro q1'.2.2.2.2.1 (And.intro q1'.2.2.2.2.2.1 q1'.2.2.2.2.2.2.1))))))))))
    go_wp2
    go_ret
    exact ⟨rfl, CacheAt.putOld (x := x) _ hc1 HX.out rfl rfl, Chg.trans (Chg.below (bl2 w _ _).drew.drew) (chg_tick_set hg1) (fun _ _ h => h.elim) (fun _ _ h => h)⟩

end Go.Proofs.Ytmhogjecfgbchaa
