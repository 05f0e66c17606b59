import Derived.Test.YtmhogjecfgbchaaDentD
namespace Go.Proofs.Ytmhogjecfgbchaa
set_option linter.unusedVariables false
set_option linter.unusedSimpArgs false
open Go.RowKit
open Go.ChangeMaps (setBlock)
attribute [local go_sem ↓] Go.wp_at_zero Go.wp_at_succ

theorem mem_delK {k : Ky} {K : List Ke} {x : Ke} (h : x ∈ delK k K) : x ∈ K := by
  unfold delK at h; split at h
  · exact List.mem_of_mem_eraseIdx h
  · exact h
theorem sub_delK (k : Ky) (K : List Ke) : (delK k K).Sublist K := by
  unfold delK; split
  · exact List.eraseIdx_sublist ..
  · exact List.Sublist.refl _
theorem sub_delW (d : Int) (W : List Wh) : (delW d W).Sublist W := by
  unfold delW; split
  · exact List.eraseIdx_sublist ..
  · exact List.Sublist.refl _

theorem CacheAt.delE {w1 : World} {B : Nat} {s : Ca} (k : Ky) (h : CacheAt w1 B s) : CacheAt (setBlock w1 s.me (.map (kes (delK k s.K)) s.c1)) B { s with K := delK k s.K } :=
  ⟨h.hB, h.hBe, h.hBw, heap_setBlock_ne h.hp h.pe, heap_setBlock h.he, heap_setBlock_ne h.hw (Ne.symm h.hne), h.hne, fun z hz => h.b1 z (mem_delK hz), h.n1.sublist ((sub_delK k s.K).map _), h.k1.sublist ((sub_delK k s.K).map _), h.b2, h.n2, h.k2⟩
theorem CacheAt.delD {w1 : World} {B : Nat} {s : Ca} (d : Int) (h : CacheAt w1 B s) : CacheAt (setBlock w1 s.mw (.map (wes (delW d s.W)) s.c2)) B { s with W := delW d s.W } :=
  ⟨h.hB, h.hBe, h.hBw, heap_setBlock_ne h.hp h.pw, heap_setBlock_ne h.he h.hne, heap_setBlock h.hw, h.hne, h.b1, h.n1, h.k1, fun z hz => h.b2 z ((sub_delW d s.W).subset hz), h.n2.sublist ((sub_delW d s.W).map _), h.k2.sublist ((sub_delW d s.W).map _)⟩

theorem CacheAt.drew {w : World} {B : Nat} {s : Ca} (h : CacheAt w B s) : CacheAt w.drew B s :=
  ⟨h.hB, h.hBe, h.hBw, h.hp, h.he, h.hw, h.hne, h.b1, h.n1, h.k1, h.b2, h.n2, h.k2⟩

theorem delK_none {k : Ky} {K : List Ke} (h : atK k K = none) : delK k K = K := by simp [delK, h]

set_option maxHeartbeats 1000000 in
theorem dent_evict_no (w : World) (B : Nat) (s : Ca) (k : Ky) (h : CacheAt w B s) (hk : atK k s.K = none) :
    Calls Try.prog 27 #[.pointer (some ⟨s.p, 0, none⟩), k.v] w fun e w' => e = .returned (.bool false) ∧ CacheAt w' B s ∧ Chg (CaF s) w w' := by
  have HK := hid hk
  have b0 := blk3 h.hp
  have hpz := blk_lt h.hp
  have hmz := blk_lt h.he
  have HL : ∀ W : World, W.heap[s.me]? = some (.map (kes s.K) s.c1) → (Instr.lookup 73 (.map (some s.me)) (.agg #[.int .i64 k.dir, .string k.name]) true).run Try.prog W = .ok (.tuple #[.agg #[.int .i64 0, .string ByteArray.empty, .bool false, .int .i64 0, .int .i64 0, .int .i64 0, .string ByteArray.empty, .int .i64 0], .bool false]) W := fun W hW => run_look_no hW hk
  have he := h.he
  have BX := blk2 (heap_new w (.cells #[.int .i64 k.dir, .string k.name] 26))
  have HE := hid he
  have HH := hid h
  clear h he hk
  unfold Ky.v
  go_enter Try.func27, Try.ntmps27
  go_upto_region 1 with fail
  go_cut [5, 6] (fun v5 v6 wx => v5 = .pointer (some ⟨w.heap.size + 1, 0, none⟩) ∧ v6 = .bool false ∧ wx = ((w.alloc (.cells #[.int .i64 k.dir, .string k.name] 26)).alloc (.cells #[.int .i64 0, .string ByteArray.empty, .bool false, .int .i64 0, .int .i64 0, .int .i64 0, .string ByteArray.empty, .int .i64 0] 78)).drew)
  case first =>
    go_region_held3 (fun w' => w'.cell? ⟨s.p, 0, none⟩ = some (.map (some s.me)) ∧ w'.cell? ⟨w.heap.size, 0, none⟩ = some (.int .i64 k.dir) ∧ w'.cell? ⟨w.heap.size, 1, none⟩ = some (.string k.name) ∧ w'.heap[s.me]? = some (.map (kes s.K) s.c1))
      (refine ⟨?_, ?_, ?_, ?_⟩ <;> first | exact cellA (b0.1) _ | exact BX.1 | exact BX.2.1 | exact heap_old (HE.out) _ | exact cellA (cellA (b0.1) _) _ | exact cellA (BX.1) _ | exact cellA (BX.2.1) _ | exact heap_old (heap_old (HE.out) _) _)
      (fail)
    all_goals (go_wp2_with fail; go_meet; exact ⟨rfl, rfl, rfl⟩)
  case rest =>
    clear HL
    obtain ⟨rfl, rfl, rfl⟩ := hcut
    have hh := HH.out.below ((bl2 w (.cells #[.int .i64 k.dir, .string k.name] 26) (.cells #[.int .i64 0, .string ByteArray.empty, .bool false, .int .i64 0, .int .i64 0, .int .i64 0, .string ByteArray.empty, .int .i64 0] 78)).drew)
    have HC := hid hh
    have c0 := blk3 hh.hp
    have kbx := heap_old (heap_new w (.cells #[.int .i64 k.dir, .string k.name] 26)) (.cells #[.int .i64 0, .string ByteArray.empty, .bool false, .int .i64 0, .int .i64 0, .int .i64 0, .string ByteArray.empty, .int .i64 0] 78)
    have BY := blk2 kbx
    have BZ := blk8 (heap_new (w.alloc (.cells #[.int .i64 k.dir, .string k.name] 26)) (.cells #[.int .i64 0, .string ByteArray.empty, .bool false, .int .i64 0, .int .i64 0, .int .i64 0, .string ByteArray.empty, .int .i64 0] 78))
    have KBX := hid kbx
    simp only [World.size_alloc] at BZ
    clear hh kbx BX b0
    go_wp2_with fail
    go_region_law (refine step_delete_k (by rfl) (.tmp 32) (.tmp 33) _ (by rfl) s.me s.c1 (by rfl) k.dir k.name (by rfl) s.K (by exact HC.out.he) ?_)
    all_goals
      go_wp2
      go_ret
      have h1 := HC.out.drew.delE k
      have h2 : ({ s with K := delK k s.K } : Ca) = s := by rw [delK_none HK.out]
      rw [h2] at h1
      exact ⟨rfl, ⟨h1.hB, h1.hBe, h1.hBw, h1.hp, h1.he, h1.hw, h1.hne, h1.b1, h1.n1, h1.k1, h1.b2, h1.n2, h1.k2⟩, Chg.trans (Chg.below (bl2 w _ _).drew.drew) (chg_setBlock _ s.me _) (fun _ _ h => h.elim) (fun _ _ h => .inr (.inl h))⟩

set_option maxHeartbeats 1000000 in
theorem dent_evict_neg (w : World) (B : Nat) (s : Ca) (k : Ky) (j : Nat) (x : Ke) (h : CacheAt w B s) (hk : atK k s.K = some j) (hx : s.K[j]? = some x) (hneg : x.e.neg = true) :
    Calls Try.prog 27 #[.pointer (some ⟨s.p, 0, none⟩), k.v] w fun e w' => e = .returned (.bool true) ∧ CacheAt w' B { s with K := delK k s.K } ∧ Chg (CaF s) w w' := by
  have HN := hid hneg
  have b0 := blk3 h.hp
  have hpz := blk_lt h.hp
  have hmz := blk_lt h.he
  have HL : ∀ W : World, W.heap[s.me]? = some (.map (kes s.K) s.c1) → (Instr.lookup 73 (.map (some s.me)) (.agg #[.int .i64 k.dir, .string k.name]) true).run Try.prog W = .ok (.tuple #[.agg #[.int .i64 x.e.key.dir, .string x.e.key.name, .bool x.e.neg, .int .i64 x.e.node.id, .int .i64 x.e.node.kind, .int .i64 x.e.node.mode, .string x.e.node.target, .int .i64 x.used], .bool true]) W := fun W hW => run_look_yes hW hk hx
  have he := h.he
  have BX := blk2 (heap_new w (.cells #[.int .i64 k.dir, .string k.name] 26))
  have HE := hid he
  have HH := hid h
  simp only [hneg] at HL
  clear h he hk hx hneg
  unfold Ky.v
  go_enter Try.func27, Try.ntmps27
  go_upto_region 1 with fail
  go_cut [5, 6] (fun v5 v6 wx => v5 = .pointer (some ⟨w.heap.size + 1, 0, none⟩) ∧ v6 = .bool true ∧ wx = ((w.alloc (.cells #[.int .i64 k.dir, .string k.name] 26)).alloc (.cells #[.int .i64 x.e.key.dir, .string x.e.key.name, .bool true, .int .i64 x.e.node.id, .int .i64 x.e.node.kind, .int .i64 x.e.node.mode, .string x.e.node.target, .int .i64 x.used] 78)).drew)
  case first =>
    go_region_held3 (fun w' => w'.cell? ⟨s.p, 0, none⟩ = some (.map (some s.me)) ∧ w'.cell? ⟨w.heap.size, 0, none⟩ = some (.int .i64 k.dir) ∧ w'.cell? ⟨w.heap.size, 1, none⟩ = some (.string k.name) ∧ w'.heap[s.me]? = some (.map (kes s.K) s.c1))
      (refine ⟨?_, ?_, ?_, ?_⟩ <;> first | exact cellA (b0.1) _ | exact BX.1 | exact BX.2.1 | exact heap_old (HE.out) _ | exact cellA (cellA (b0.1) _) _ | exact cellA (BX.1) _ | exact cellA (BX.2.1) _ | exact heap_old (heap_old (HE.out) _) _)
      (fail)
    all_goals (go_wp2_with fail; go_meet; exact ⟨rfl, rfl, rfl⟩)
  case rest =>
    clear HL
    obtain ⟨rfl, rfl, rfl⟩ := hcut
    have hh := HH.out.below ((bl2 w (.cells #[.int .i64 k.dir, .string k.name] 26) (.cells #[.int .i64 x.e.key.dir, .string x.e.key.name, .bool true, .int .i64 x.e.node.id, .int .i64 x.e.node.kind, .int .i64 x.e.node.mode, .string x.e.node.target, .int .i64 x.used] 78)).drew)
    have HC := hid hh
    have c0 := blk3 hh.hp
    have kbx := heap_old (heap_new w (.cells #[.int .i64 k.dir, .string k.name] 26)) (.cells #[.int .i64 x.e.key.dir, .string x.e.key.name, .bool true, .int .i64 x.e.node.id, .int .i64 x.e.node.kind, .int .i64 x.e.node.mode, .string x.e.node.target, .int .i64 x.used] 78)
    have BY := blk2 kbx
    have BZ := blk8 (heap_new (w.alloc (.cells #[.int .i64 k.dir, .string k.name] 26)) (.cells #[.int .i64 x.e.key.dir, .string x.e.key.name, .bool true, .int .i64 x.e.node.id, .int .i64 x.e.node.kind, .int .i64 x.e.node.mode, .string x.e.node.target, .int .i64 x.used] 78))
    have KBX := hid kbx
    simp only [World.size_alloc] at BZ
    clear hh kbx BX b0
    go_wp2_with fail
    go_region_law (refine step_delete_k (by rfl) (.tmp 32) (.tmp 33) _ (by rfl) s.me s.c1 (by rfl) k.dir k.name (by rfl) s.K (by exact HC.out.he) ?_)
    all_goals
      go_wp2
      go_ret
      exact ⟨rfl, HC.out.drew.delE k, Chg.trans (Chg.below (bl2 w _ _).drew.drew) (chg_setBlock _ s.me _) (fun _ _ h => h.elim) (fun _ _ h => .inr (.inl h))⟩

set_option maxHeartbeats 1000000 in
theorem dent_evict_pos (w : World) (B : Nat) (s : Ca) (k : Ky) (j : Nat) (x : Ke) (h : CacheAt w B s) (hk : atK k s.K = some j) (hx : s.K[j]? = some x) (hneg : x.e.neg = false) :
    Calls Try.prog 27 #[.pointer (some ⟨s.p, 0, none⟩), k.v] w fun e w' => e = .returned (.bool true) ∧ CacheAt w' B { s with K := delK k s.K, W := delW k.dir s.W } ∧ Chg (CaF s) w w' := by
  have HN := hid hneg
  have b0 := blk3 h.hp
  have hpz := blk_lt h.hp
  have hmz := blk_lt h.he
  have HL : ∀ W : World, W.heap[s.me]? = some (.map (kes s.K) s.c1) → (Instr.lookup 73 (.map (some s.me)) (.agg #[.int .i64 k.dir, .string k.name]) true).run Try.prog W = .ok (.tuple #[.agg #[.int .i64 x.e.key.dir, .string x.e.key.name, .bool x.e.neg, .int .i64 x.e.node.id, .int .i64 x.e.node.kind, .int .i64 x.e.node.mode, .string x.e.node.target, .int .i64 x.used], .bool true]) W := fun W hW => run_look_yes hW hk hx
  have he := h.he
  have BX := blk2 (heap_new w (.cells #[.int .i64 k.dir, .string k.name] 26))
  have HE := hid he
  have HH := hid h
  simp only [hneg] at HL
  clear h he hk hx hneg
  unfold Ky.v
  go_enter Try.func27, Try.ntmps27
  go_upto_region 1 with fail
  go_cut [5, 6] (fun v5 v6 wx => v5 = .pointer (some ⟨w.heap.size + 1, 0, none⟩) ∧ v6 = .bool true ∧ wx = ((w.alloc (.cells #[.int .i64 k.dir, .string k.name] 26)).alloc (.cells #[.int .i64 x.e.key.dir, .string x.e.key.name, .bool false, .int .i64 x.e.node.id, .int .i64 x.e.node.kind, .int .i64 x.e.node.mode, .string x.e.node.target, .int .i64 x.used] 78)).drew)
  case first =>
    go_region_held3 (fun w' => w'.cell? ⟨s.p, 0, none⟩ = some (.map (some s.me)) ∧ w'.cell? ⟨w.heap.size, 0, none⟩ = some (.int .i64 k.dir) ∧ w'.cell? ⟨w.heap.size, 1, none⟩ = some (.string k.name) ∧ w'.heap[s.me]? = some (.map (kes s.K) s.c1))
      (refine ⟨?_, ?_, ?_, ?_⟩ <;> first | exact cellA (b0.1) _ | exact BX.1 | exact BX.2.1 | exact heap_old (HE.out) _ | exact cellA (cellA (b0.1) _) _ | exact cellA (BX.1) _ | exact cellA (BX.2.1) _ | exact heap_old (heap_old (HE.out) _) _)
      (fail)
    all_goals (go_wp2_with fail; go_meet; exact ⟨rfl, rfl, rfl⟩)
  case rest =>
    clear HL
    obtain ⟨rfl, rfl, rfl⟩ := hcut
    have hh := HH.out.below ((bl2 w (.cells #[.int .i64 k.dir, .string k.name] 26) (.cells #[.int .i64 x.e.key.dir, .string x.e.key.name, .bool false, .int .i64 x.e.node.id, .int .i64 x.e.node.kind, .int .i64 x.e.node.mode, .string x.e.node.target, .int .i64 x.used] 78)).drew)
    have HC := hid hh
    have c0 := blk3 hh.hp
    have kbx := heap_old (heap_new w (.cells #[.int .i64 k.dir, .string k.name] 26)) (.cells #[.int .i64 x.e.key.dir, .string x.e.key.name, .bool false, .int .i64 x.e.node.id, .int .i64 x.e.node.kind, .int .i64 x.e.node.mode, .string x.e.node.target, .int .i64 x.used] 78)
    have BY := blk2 kbx
    have BZ := blk8 (heap_new (w.alloc (.cells #[.int .i64 k.dir, .string k.name] 26)) (.cells #[.int .i64 x.e.key.dir, .string x.e.key.name, .bool false, .int .i64 x.e.node.id, .int .i64 x.e.node.kind, .int .i64 x.e.node.mode, .string x.e.node.target, .int .i64 x.used] 78))
    have KBX := hid kbx
    simp only [World.size_alloc] at BZ
    clear hh kbx BX b0
    have hd := CacheAt.delD (w1 := (((w.alloc (.cells #[.int .i64 k.dir, .string k.name] 26)).alloc (.cells #[.int .i64 x.e.key.dir, .string x.e.key.name, .bool false, .int .i64 x.e.node.id, .int .i64 x.e.node.kind, .int .i64 x.e.node.mode, .string x.e.node.target, .int .i64 x.used] 78)).drew).drew) (s := s) (B := B) k.dir HC.out.drew
    have HD := hid hd
    have c1 := blk3 hd.hp
    have ky := blk2 (heap_setBlock_ne (w := (((w.alloc (.cells #[.int .i64 k.dir, .string k.name] 26)).alloc (.cells #[.int .i64 x.e.key.dir, .string x.e.key.name, .bool false, .int .i64 x.e.node.id, .int .i64 x.e.node.kind, .int .i64 x.e.node.mode, .string x.e.node.target, .int .i64 x.used] 78)).drew).drew) (r := s.mw) (o := .map (wes (delW k.dir s.W)) s.c2) KBX.out (by have := blk_lt HH.out.hw; omega))
    clear hd
    go_wp2_with fail
    go_region_law (refine step_delete_w (by rfl) (.tmp 26) (.tmp 28) _ (by rfl) s.mw s.c2 (by rfl) k.dir (by rfl) s.W (by exact HC.out.hw) ?_)
    all_goals
      go_wp2_with fail
      go_region_law (refine step_delete_k (by rfl) (.tmp 32) (.tmp 33) _ (by rfl) s.me s.c1 (by rfl) k.dir k.name (by rfl) s.K (by exact HD.out.he) ?_)
      all_goals
        go_wp2
        go_ret
        exact ⟨rfl, HD.out.drew.delE k, Chg.trans (Chg.below (bl2 w _ _).drew.drew) (Chg.trans (chg_setBlock _ s.mw _).drew (chg_setBlock _ s.me _) (fun _ _ h => .inr (.inr h)) (fun _ _ h => .inr (.inl h))) (fun _ _ h => h.elim) (fun _ _ h => h)⟩

end Go.Proofs.Ytmhogjecfgbchaa
