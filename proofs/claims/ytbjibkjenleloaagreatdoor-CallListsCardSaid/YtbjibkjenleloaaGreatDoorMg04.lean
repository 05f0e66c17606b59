/- Parts of a proof about the given program, in build order: WlkC, WlkD, WlkE, WlkF, WlkG. No condition. -/
import Derived.Test.YtbjibkjenleloaaGreatDoorMg03
import Derived.ScopeJumps
import Derived.WalkMore
section
namespace Go.Proofs.YtbjibkjenleloaaGreatDoor
set_option linter.unusedVariables false
set_option linter.unusedSimpArgs false
open Go.RowKit
attribute [local go_sem ↓] Go.wp_at_zero Go.wp_at_succ

theorem r3cells {w : World} {a b : Nat} {v0 v1 v2 : Value} {T U : TypeId} (h1 : w.heap[a]? = some (.cells #[v0] T (0, 0))) (h2 : w.heap[b]? = some (.cells #[v1, v2] U (0, 0))) : w.cell? ⟨a, 0, none⟩ = some v0 ∧ w.cell? ⟨b, 0, none⟩ = some v1 ∧ w.cell? ⟨b, 1, none⟩ = some v2 := ⟨(blk1 h1).1, (blk2 h2).1, (blk2 h2).2.1⟩
theorem cell_other {w : World} {g i : Nat} {u v : Value} {l : Addr} (h : w.cell? l = some v) (hn : l.block ≠ g) : (w.setCell ⟨g, i, none⟩ u).cell? l = some v := by
  rw [World.cell?_of_block (w := w) (Below.heap_setCell _ _ _ _ hn)]; exact h
theorem cells_other {w : World} {g i : Nat} {u v0 v1 v2 : Value} {a b : Nat} (h : w.cell? ⟨a, 0, none⟩ = some v0 ∧ w.cell? ⟨b, 0, none⟩ = some v1 ∧ w.cell? ⟨b, 1, none⟩ = some v2) (ha : a ≠ g) (hb : b ≠ g) :
    (w.setCell ⟨g, i, none⟩ u).cell? ⟨a, 0, none⟩ = some v0 ∧ (w.setCell ⟨g, i, none⟩ u).cell? ⟨b, 0, none⟩ = some v1 ∧ (w.setCell ⟨g, i, none⟩ u).cell? ⟨b, 1, none⟩ = some v2 := ⟨cell_other h.1 ha, cell_other h.2.1 hb, cell_other h.2.2 hb⟩

set_option maxRecDepth 100000 in
set_option maxHeartbeats 1000000 in
theorem rest_get (w : World) (B p n : Nat) (L : List En) (wh : Int → Bool) (k : Ky) (h : CAt w B p n L wh) :
    Calls Tryz.prog 214 #[.agg #[.pointer (some ⟨p, 0, none⟩)], .agg #[.int .i64 k.dir, .string k.name]] w fun r w' => r = .returned (.tuple #[(En.mk k true ⟨0, 0, 0, ByteArray.empty⟩).v, .bool (wh k.dir)]) ∧ Below w.heap.size w w' := by
  have HB := hid (show Below w.heap.size w (((w.alloc (.cells #[.pointer (some ⟨p, 0, none⟩)] 203)).alloc (.cells #[.int .i64 k.dir, .string k.name] 53)).alloc (.cells #[.int .i64 0, .string { data := #[] }, .bool false, .int .i64 0, .int .i64 0, .int .i64 0, .string { data := #[] }] 55)) from bl3 w _ _ _)
  have HC := hid (show CAt (World.drew (((w.alloc (.cells #[.pointer (some ⟨p, 0, none⟩)] 203)).alloc (.cells #[.int .i64 k.dir, .string k.name] 53)).alloc (.cells #[.int .i64 0, .string { data := #[] }, .bool false, .int .i64 0, .int .i64 0, .int .i64 0, .string { data := #[] }] 55))) B p n L wh from h.below (HB.out.drew))
  have h2 := heap_old (heap_old (heap_new w (.cells #[.pointer (some ⟨p, 0, none⟩)] 203)) (.cells #[.int .i64 k.dir, .string k.name] 53)) (.cells #[.int .i64 0, .string { data := #[] }, .bool false, .int .i64 0, .int .i64 0, .int .i64 0, .string { data := #[] }] 55)
  have h3 := heap_old (heap_new (w.alloc (.cells #[.pointer (some ⟨p, 0, none⟩)] 203)) (.cells #[.int .i64 k.dir, .string k.name] 53)) (.cells #[.int .i64 0, .string { data := #[] }, .bool false, .int .i64 0, .int .i64 0, .int .i64 0, .string { data := #[] }] 55)
  have h4 := heap_new ((w.alloc (.cells #[.pointer (some ⟨p, 0, none⟩)] 203)).alloc (.cells #[.int .i64 k.dir, .string k.name] 53)) (.cells #[.int .i64 0, .string { data := #[] }, .bool false, .int .i64 0, .int .i64 0, .int .i64 0, .string { data := #[] }] 55)
  have hz1 : (w.alloc (.cells #[.pointer (some ⟨p, 0, none⟩)] 203)).heap.size = w.heap.size + 1 := by simp
  have hz2 : ((w.alloc (.cells #[.pointer (some ⟨p, 0, none⟩)] 203)).alloc (.cells #[.int .i64 k.dir, .string k.name] 53)).heap.size = w.heap.size + 1 + 1 := by simp
  rw [hz1] at h3
  rw [hz2] at h4
  have b2 := blk1 h2
  have b3 := blk2 h3
  have b4 := blk7 h4
  have hS0 := r3cells (show (World.drew (((w.alloc (.cells #[.pointer (some ⟨p, 0, none⟩)] 203)).alloc (.cells #[.int .i64 k.dir, .string k.name] 53)).alloc (.cells #[.int .i64 0, .string { data := #[] }, .bool false, .int .i64 0, .int .i64 0, .int .i64 0, .string { data := #[] }] 55))).heap[w.heap.size]? = _ from h2) (show (World.drew (((w.alloc (.cells #[.pointer (some ⟨p, 0, none⟩)] 203)).alloc (.cells #[.int .i64 k.dir, .string k.name] 53)).alloc (.cells #[.int .i64 0, .string { data := #[] }, .bool false, .int .i64 0, .int .i64 0, .int .i64 0, .string { data := #[] }] 55))).heap[w.heap.size + 1]? = _ from h3)
  have h2e := heap_old (heap_old (heap_new w (.cells #[.pointer (some ⟨p, 0, none⟩)] 203)) (.cells #[.int .i64 k.dir, .string k.name] 53)) (.cells #[.int .i64 k.dir, .string k.name, .bool true, .int .i64 0, .int .i64 0, .int .i64 0, .string { data := #[] }] 55)
  have h3e := heap_old (heap_new (w.alloc (.cells #[.pointer (some ⟨p, 0, none⟩)] 203)) (.cells #[.int .i64 k.dir, .string k.name] 53)) (.cells #[.int .i64 k.dir, .string k.name, .bool true, .int .i64 0, .int .i64 0, .int .i64 0, .string { data := #[] }] 55)
  have h4e := heap_new ((w.alloc (.cells #[.pointer (some ⟨p, 0, none⟩)] 203)).alloc (.cells #[.int .i64 k.dir, .string k.name] 53)) (.cells #[.int .i64 k.dir, .string k.name, .bool true, .int .i64 0, .int .i64 0, .int .i64 0, .string { data := #[] }] 55)
  rw [hz1] at h3e
  rw [hz2] at h4e
  have hS1 := r3cells (show (World.drew (((w.alloc (.cells #[.pointer (some ⟨p, 0, none⟩)] 203)).alloc (.cells #[.int .i64 k.dir, .string k.name] 53)).alloc (.cells #[.int .i64 k.dir, .string k.name, .bool true, .int .i64 0, .int .i64 0, .int .i64 0, .string { data := #[] }] 55))).heap[w.heap.size]? = _ from h2e) (show (World.drew (((w.alloc (.cells #[.pointer (some ⟨p, 0, none⟩)] 203)).alloc (.cells #[.int .i64 k.dir, .string k.name] 53)).alloc (.cells #[.int .i64 k.dir, .string k.name, .bool true, .int .i64 0, .int .i64 0, .int .i64 0, .string { data := #[] }] 55))).heap[w.heap.size + 1]? = _ from h3e)
  have b4d := blk7 (show (World.drew (((w.alloc (.cells #[.pointer (some ⟨p, 0, none⟩)] 203)).alloc (.cells #[.int .i64 k.dir, .string k.name] 53)).alloc (.cells #[.int .i64 k.dir, .string k.name, .bool true, .int .i64 0, .int .i64 0, .int .i64 0, .string { data := #[] }] 55))).heap[w.heap.size + 1 + 1]? = _ from h4e)
  have HBE := hid (show Below w.heap.size w (World.drew (((w.alloc (.cells #[.pointer (some ⟨p, 0, none⟩)] 203)).alloc (.cells #[.int .i64 k.dir, .string k.name] 53)).alloc (.cells #[.int .i64 k.dir, .string k.name, .bool true, .int .i64 0, .int .i64 0, .int .i64 0, .string { data := #[] }] 55))) from (bl3 w (.cells #[.pointer (some ⟨p, 0, none⟩)] 203) (.cells #[.int .i64 k.dir, .string k.name] 53) (.cells #[.int .i64 k.dir, .string k.name, .bool true, .int .i64 0, .int .i64 0, .int .i64 0, .string { data := #[] }] 55)).drew)
  clear h h2 h3 h4 hz1 hz2 h2e h3e h4e
  go_enter Tryz.func214, Tryz.ntmps214
  go_wp2_with fail
  refine held_start (fun w' => w'.cell? ⟨w.heap.size, 0, none⟩ = some (.pointer (some ⟨p, 0, none⟩)) ∧ w'.cell? ⟨w.heap.size + 1, 0, none⟩ = some (.int .i64 k.dir) ∧ w'.cell? ⟨w.heap.size + 1, 1, none⟩ = some (.string k.name)) (by kernel_rfl) ?_ (fun hHeld => ?_)
  · with_reducible first | exact hS0 | exact hS1
  refine held_take 0 rfl (by kernel_rfl) (by kernel_rfl) (by kernel_rfl) (fun _ _ _ h => h) hHeld (by rfl) (v := ?_) ?_ ?_
  rotate_left
  · intro w hSw; (try dsimp only at hSw); (try go_simp); (try with_reducible rfl)
  try simp only [Act.put, List.setIfInBounds_toArray, List.set_cons_zero, List.set_cons_succ]
  refine held_take 1 rfl (by kernel_rfl) (by kernel_rfl) (by kernel_rfl) (fun _ _ _ h => h) hHeld (by rfl) (v := ?_) ?_ ?_
  rotate_left
  · intro w hSw; (try dsimp only at hSw); (try go_simp); (try with_reducible rfl)
  try simp only [Act.put, List.setIfInBounds_toArray, List.set_cons_zero, List.set_cons_succ]
  refine held_take 2 rfl (by kernel_rfl) (by kernel_rfl) (by kernel_rfl) (fun _ _ _ h => h) hHeld (by rfl) (v := ?_) ?_ ?_
  rotate_left
  · intro w hSw; (try dsimp only at hSw); (try go_simp); (try with_reducible rfl)
  try simp only [Act.put, List.setIfInBounds_toArray, List.set_cons_zero, List.set_cons_succ]
  refine held_take 3 rfl (by kernel_rfl) (by kernel_rfl) (by kernel_rfl) (fun _ _ _ h => h) hHeld (by rfl) (v := ?_) ?_ ?_
  rotate_left
  · intro w hSw; (try dsimp only at hSw); (try go_simp); (try with_reducible rfl)
  try simp only [Act.put, List.setIfInBounds_toArray, List.set_cons_zero, List.set_cons_succ]
  refine held_take 4 rfl (by kernel_rfl) (by kernel_rfl) (by kernel_rfl) (fun _ _ _ h => h) hHeld (by rfl) (v := ?_) ?_ ?_
  rotate_left
  · intro w hSw; (try dsimp only at hSw); (try go_simp); (try with_reducible rfl)
  try simp only [Act.put, List.setIfInBounds_toArray, List.set_cons_zero, List.set_cons_succ]
  refine held_take 5 rfl (by kernel_rfl) (by kernel_rfl) (by kernel_rfl) (fun _ _ _ h => h) hHeld (by rfl) (v := ?_) ?_ ?_
  rotate_left
  · intro w hSw; (try dsimp only at hSw); (try go_simp); (try with_reducible rfl)
  try simp only [Act.put, List.setIfInBounds_toArray, List.set_cons_zero, List.set_cons_succ]
  refine held_step 6 rfl (by kernel_rfl) (by rfl) (fun Kx hK => ?_)
  go_simp
  go_at_call 37; refine (c_whole _ B p n L wh k.dir HC.out).mono ?_; rintro e wx ⟨rfl, rfl⟩
  refine hK.out _ _ ?_ (fun hHeld2 => ?_)
  · (try dsimp only); with_reducible first | exact hS0 | exact hS1
  clear hK Kx hHeld
  have hHeld := hHeld2
  clear hHeld2
  try simp only [Act.put, List.setIfInBounds_toArray, List.set_cons_zero, List.set_cons_succ]
  refine held_step 7 rfl (by kernel_rfl) (by rfl) (fun Kx hK => ?_)
  go_simp
  refine hK.out _ _ ?_ (fun hHeld2 => ?_)
  · (try dsimp only); with_reducible first | exact hS0 | exact hS1
  clear hK Kx hHeld
  have hHeld := hHeld2
  clear hHeld2
  try simp only [Act.put, List.setIfInBounds_toArray, List.set_cons_zero, List.set_cons_succ]
  refine held_take 8 rfl (by kernel_rfl) (by kernel_rfl) (by kernel_rfl) (fun _ _ _ h => h) hHeld (by rfl) (v := ?_) ?_ ?_
  rotate_left
  · intro w hSw; (try dsimp only at hSw); (try go_simp); (try with_reducible rfl)
  try simp only [Act.put, List.setIfInBounds_toArray, List.set_cons_zero, List.set_cons_succ]
  refine wpAnyH_done (by kernel_rfl) ?_ _
  clear hHeld
  go_wp2_with fail
  refine bodyPost_ret (v := .tuple #[(En.mk k true ⟨0, 0, 0, ByteArray.empty⟩).v, .bool (wh k.dir)]) (by simp [results, Tryz.results214, go_sem, En.v, b4d]; rfl) rfl ⟨rfl, ?_⟩
  exact HBE.out

/-- what is known of a key: by the first source that knows it -/
def knW (fresh L : List En) (wh : Int → Bool) (k : Ky) : Option En :=
  match findL k fresh with
  | some x => some x
  | none => match findL k L with
    | some x => some x
    | none => if wh k.dir = true then some ⟨k, true, ⟨0, 0, 0, ByteArray.empty⟩⟩ else none
def srcs (fv : Value) (p : Nat) : List Value := [.iface 201 fv, .iface 84 (.pointer (some ⟨p, 0, none⟩)), .iface 203 (.agg #[.pointer (some ⟨p, 0, none⟩)])]

set_option maxRecDepth 100000 in
set_option maxHeartbeats 4000000 in
theorem known_any (w : World) (B p n : Nat) (L fresh : List En) (wh : Int → Bool) (k : Ky) (g : Nat) (fv : Value) (h : CAt w B p n L wh) (hl : Rd w (.slice (some ⟨g, 0, none⟩) 3 3) 3 (srcs fv p)) (hf : Rd w fv fresh.length (ecs fresh)) :
    Calls Tryz.prog 145 #[.slice (some ⟨g, 0, none⟩) 3 3, .agg #[.int .i64 k.dir, .string k.name]] w fun r w' => r = .returned (.tuple #[((knW fresh L wh k).getD zeroE).v, .bool (knW fresh L wh k).isSome]) ∧ Below w.heap.size w w' := by
  have HC := hid h
  have HF := hid hf
  have HL := hid hl
  have HK := hid (heap_old (heap_new w (.cells #[.int .i64 k.dir, .string k.name] 53)) (.cells #[.int .i64 0, .string { data := #[] }, .bool false, .int .i64 0, .int .i64 0, .int .i64 0, .string { data := #[] }] 55))
  have h4 := heap_new (w.alloc (.cells #[.int .i64 k.dir, .string k.name] 53)) (.cells #[.int .i64 0, .string { data := #[] }, .bool false, .int .i64 0, .int .i64 0, .int .i64 0, .string { data := #[] }] 55)
  rw [show (w.alloc (.cells #[.int .i64 k.dir, .string k.name] 53)).heap.size = w.heap.size + 1 by simp] at h4
  have H4 := hid h4
  have HB0 := hid (bl2 w (.cells #[.int .i64 k.dir, .string k.name] 53) (.cells #[.int .i64 0, .string { data := #[] }, .bool false, .int .i64 0, .int .i64 0, .int .i64 0, .string { data := #[] }] 55))
  obtain ⟨W0, hW0⟩ : ∃ W0, W0 = (w.alloc (.cells #[.int .i64 k.dir, .string k.name] 53)).alloc (.cells #[.int .i64 0, .string { data := #[] }, .bool false, .int .i64 0, .int .i64 0, .int .i64 0, .string { data := #[] }] 55) := ⟨_, rfl⟩
  rw [← hW0] at HK H4 HB0
  have HZ0 := hid (show W0.heap.size = w.heap.size + 2 by rw [hW0]; simp)
  clear h hf hl h4
  go_enter Tryz.func145, Tryz.ntmps145
  go_wp2_with fail
  rw [← hW0]
  clear hW0
  go_loopw [12] (fun v12 wr => ∃ j : Nat, j ≤ 3 ∧ v12 = .int .i64 j ∧ Hid (Below W0.heap.size W0 wr) ∧ Hid (1 ≤ j → findL k fresh = none) ∧ Hid (2 ≤ j → findL k L = none) ∧ Hid (3 ≤ j → wh k.dir = false)) (fun v12 _ => 3 - (intOf v12).toNat)
  case atStart => exact ⟨0, Nat.zero_le _, rfl, hid (Below.refl _ _), hid (fun h => by omega), hid (fun h => by omega), hid (fun h => by omega)⟩
  case round =>
    obtain ⟨j, hj, rfl, HB, H1, H2, H3⟩ := hrel
    obtain ⟨wo, hwo⟩ : ∃ wo, wo = wr := ⟨_, rfl⟩
    subst hwo
    have HBW := hid (HB0.out.trans (HB.out.mono HB0.out.size))
    have hz0 := HZ0.out
    have bk := blk2 (heap_below HB.out HK.out (by omega))
    have c0 := (HL.out.below HBW.out).at 0 _ rfl
    have c1 := (HL.out.below HBW.out).at 1 _ rfl
    have c2 := (HL.out.below HBW.out).at 2 _ rfl
    simp only [Nat.zero_add] at c0 c1 c2
    have HH4 := hid (heap_below HB.out H4.out (by omega))
    clear hz0
    rcases (show j = 0 ∨ j = 1 ∨ j = 2 ∨ j = 3 by omega) with rfl | rfl | rfl | rfl
    · go_wp2_with fail
      refine (list_get fv fresh k _ (HF.out.below HBW.out)).mono ?_; rintro e w2 ⟨rfl, hb2⟩
      have HB2 := hid (HB.out.trans (hb2.mono HB.out.size))
      clear hb2 bk c0 c1 c2
      cases hq : findL k fresh with
      | some y =>
        have HQ := hid hq
        have HN := hid (show knW fresh L wh k = some y by unfold knW; rw [hq])
        have HEQ := hid (show getE k fresh = y by unfold getE; rw [hq]; rfl)
        rw [HEQ.out]
        clear hq
        unfold En.v
        have H4x := hid (heap_old (heap_below HB2.out H4.out (by have := HZ0.out; omega)) (.cells #[.int .i64 y.key.dir, .string y.key.name, .bool y.neg, .int .i64 y.node.id, .int .i64 y.node.kind, .int .i64 y.node.mode, .string y.node.target] 55))
        have b4 := blk7 H4x.out
        obtain ⟨cur, hcur⟩ : ∃ cur, (w2.alloc (.cells #[.int .i64 y.key.dir, .string y.key.name, .bool y.neg, .int .i64 y.node.id, .int .i64 y.node.kind, .int .i64 y.node.mode, .string y.node.target] 55)).heap[w.heap.size + 1]? = some (.cells cur 55 (0, 0)) := ⟨_, H4x.out⟩
        have hfz := fun i => blk_free hcur i
        have bn := blk7 (heap_new w2 (.cells #[.int .i64 y.key.dir, .string y.key.name, .bool y.neg, .int .i64 y.node.id, .int .i64 y.node.kind, .int .i64 y.node.mode, .string y.node.target] 55))
        have HWS := hid ((HB0.out.trans (HB2.out.mono HB0.out.size)).alloc ((HB0.out.trans (HB2.out.mono HB0.out.size)).size) (.cells #[.int .i64 y.key.dir, .string y.key.name, .bool y.neg, .int .i64 y.node.id, .int .i64 y.node.kind, .int .i64 y.node.mode, .string y.node.target] 55))
        clear hcur
        simp only [Option.isSome_some]
        go_wp2_with fail
        rw [HN.out]
        refine bodyPost_ret (v := .tuple #[y.v, .bool true]) (by simp [results, Tryz.results145, go_sem, En.v, b4]) rfl ⟨rfl, ?_⟩
        exact ((((((HWS.out.setCell (by simp) _).setCell (by simp) _).setCell (by simp) _).setCell (by simp) _).setCell (by simp) _).setCell (by simp) _).setCell (by simp) _
      | none =>
        have HQ := hid hq
        clear hq
        unfold En.v
        simp only [Option.isSome_none]
        go_wp2_with fail
        exact ⟨⟨1, by omega, by go_num, hid (HB2.out.alloc HB2.out.size _), hid (fun _ => HQ.out), hid (fun h => by omega), hid (fun h => by omega)⟩, by simp [intOf]⟩
    · go_wp2_with fail
      refine (c_get _ B p n L wh k (HC.out.below HBW.out)).mono ?_; rintro e w2 ⟨rfl, hb2⟩
      have HB2 := hid (HB.out.trans (hb2.mono HB.out.size))
      clear hb2 bk c0 c1 c2
      cases hq : findL k L with
      | some y =>
        have HQ := hid hq
        have HN := hid (show knW fresh L wh k = some y by unfold knW; rw [H1.out (by omega), hq])
        have HEQ := hid (show getE k L = y by unfold getE; rw [hq]; rfl)
        rw [HEQ.out]
        clear hq
        unfold En.v
        have H4x := hid (heap_old (heap_below HB2.out H4.out (by have := HZ0.out; omega)) (.cells #[.int .i64 y.key.dir, .string y.key.name, .bool y.neg, .int .i64 y.node.id, .int .i64 y.node.kind, .int .i64 y.node.mode, .string y.node.target] 55))
        have b4 := blk7 H4x.out
        obtain ⟨cur, hcur⟩ : ∃ cur, (w2.alloc (.cells #[.int .i64 y.key.dir, .string y.key.name, .bool y.neg, .int .i64 y.node.id, .int .i64 y.node.kind, .int .i64 y.node.mode, .string y.node.target] 55)).heap[w.heap.size + 1]? = some (.cells cur 55 (0, 0)) := ⟨_, H4x.out⟩
        have hfz := fun i => blk_free hcur i
        have bn := blk7 (heap_new w2 (.cells #[.int .i64 y.key.dir, .string y.key.name, .bool y.neg, .int .i64 y.node.id, .int .i64 y.node.kind, .int .i64 y.node.mode, .string y.node.target] 55))
        have HWS := hid ((HB0.out.trans (HB2.out.mono HB0.out.size)).alloc ((HB0.out.trans (HB2.out.mono HB0.out.size)).size) (.cells #[.int .i64 y.key.dir, .string y.key.name, .bool y.neg, .int .i64 y.node.id, .int .i64 y.node.kind, .int .i64 y.node.mode, .string y.node.target] 55))
        clear hcur
        simp only [Option.isSome_some]
        go_wp2_with fail
        rw [HN.out]
        refine bodyPost_ret (v := .tuple #[y.v, .bool true]) (by simp [results, Tryz.results145, go_sem, En.v, b4]) rfl ⟨rfl, ?_⟩
        exact ((((((HWS.out.setCell (by simp) _).setCell (by simp) _).setCell (by simp) _).setCell (by simp) _).setCell (by simp) _).setCell (by simp) _).setCell (by simp) _
      | none =>
        have HQ := hid hq
        clear hq
        unfold En.v
        simp only [Option.isSome_none]
        go_wp2_with fail
        exact ⟨⟨2, by omega, by go_num, hid (HB2.out.alloc HB2.out.size _), hid (fun _ => H1.out (by omega)), hid (fun _ => HQ.out), hid (fun h => by omega)⟩, by simp [intOf]⟩
    · go_wp2_with fail
      refine (rest_get _ B p n L wh k (HC.out.below HBW.out)).mono ?_; rintro e w2 ⟨rfl, hb2⟩
      have HB2 := hid (HB.out.trans (hb2.mono HB.out.size))
      clear hb2 bk c0 c1 c2
      cases hq : wh k.dir with
      | true =>
        have HN := hid (show knW fresh L wh k = some ⟨k, true, ⟨0, 0, 0, ByteArray.empty⟩⟩ by unfold knW; rw [H1.out (by omega), H2.out (by omega), hq]; rfl)
        clear hq
        unfold En.v
        have H4x := hid (heap_old (heap_below HB2.out H4.out (by have := HZ0.out; omega)) (.cells #[.int .i64 k.dir, .string k.name, .bool true, .int .i64 0, .int .i64 0, .int .i64 0, .string ByteArray.empty] 55))
        have b4 := blk7 H4x.out
        obtain ⟨cur, hcur⟩ : ∃ cur, (w2.alloc (.cells #[.int .i64 k.dir, .string k.name, .bool true, .int .i64 0, .int .i64 0, .int .i64 0, .string ByteArray.empty] 55)).heap[w.heap.size + 1]? = some (.cells cur 55 (0, 0)) := ⟨_, H4x.out⟩
        have hfz := fun i => blk_free hcur i
        have bn := blk7 (heap_new w2 (.cells #[.int .i64 k.dir, .string k.name, .bool true, .int .i64 0, .int .i64 0, .int .i64 0, .string ByteArray.empty] 55))
        have HWS := hid ((HB0.out.trans (HB2.out.mono HB0.out.size)).alloc ((HB0.out.trans (HB2.out.mono HB0.out.size)).size) (.cells #[.int .i64 k.dir, .string k.name, .bool true, .int .i64 0, .int .i64 0, .int .i64 0, .string ByteArray.empty] 55))
        clear hcur
        go_wp2_with fail
        rw [HN.out]
        refine bodyPost_ret (v := .tuple #[(En.mk k true ⟨0, 0, 0, ByteArray.empty⟩).v, .bool true]) (by simp [results, Tryz.results145, go_sem, En.v, b4]) rfl ⟨rfl, ?_⟩
        exact ((((((HWS.out.setCell (by simp) _).setCell (by simp) _).setCell (by simp) _).setCell (by simp) _).setCell (by simp) _).setCell (by simp) _).setCell (by simp) _
      | false =>
        have HQ := hid hq
        clear hq
        unfold En.v
        go_wp2_with fail
        exact ⟨⟨3, by omega, by go_num, hid (HB2.out.alloc HB2.out.size _), hid (fun _ => H1.out (by omega)), hid (fun _ => H2.out (by omega)), hid (fun _ => HQ.out)⟩, by simp [intOf]⟩
    · have HN := hid (show knW fresh L wh k = none by unfold knW; rw [H1.out (by omega), H2.out (by omega), H3.out (by omega)]; rfl)
      have b4 := blk7 HH4.out
      obtain ⟨cur, hcur⟩ : ∃ cur, wo.heap[w.heap.size + 1]? = some (.cells cur 55 (0, 0)) := ⟨_, HH4.out⟩
      have hfz := fun i => blk_free hcur i
      have HWS := hid HBW.out
      clear hcur c0 c1 c2 bk
      go_wp2_with fail
      rw [HN.out]
      refine bodyPost_ret (v := .tuple #[zeroE.v, .bool false]) (by simp [results, Tryz.results145, go_sem, En.v, zeroE, b4]; rfl) rfl ⟨rfl, ?_⟩
      exact ((((((HWS.out.setCell (by simp) _).setCell (by simp) _).setCell (by simp) _).setCell (by simp) _).setCell (by simp) _).setCell (by simp) _).setCell (by simp) _

end Go.Proofs.YtbjibkjenleloaaGreatDoor

end

section
namespace Go.Proofs.YtbjibkjenleloaaGreatDoor
set_option linter.unusedVariables false
set_option linter.unusedSimpArgs false
open Go.RowKit
attribute [local go_sem ↓] Go.wp_at_zero Go.wp_at_succ

/-! ### a scope with jumps to several labels -/
def jumpM (J : Nat → Act → World → Prop) (Q : Exit → Act → World → Prop) : Exit → Act → World → Prop
  | .goto l, a, w => J l a w
  | e, a, w => Q e a w
theorem wp_scope_multi {P : Program} {a : Act} {w : World} {Q : Exit → Act → World → Prop} {c : Code} (J : Nat → Act → World → Prop) (μ : Nat → Act → World → Nat) (rest : Nat → Code) (hf : ∀ l a w, J l a w → findLabel c l = some (rest l))
    (first : c.wp P (jumpM J Q) a w)
    (pass : ∀ l a w, J l a w → (rest l).wp P (jumpM (fun l' a' w' => J l' a' w' ∧ μ l' a' w' < μ l a w) Q) a w) : (Code.scope c).wp P Q a w := by
  intro b k cs
  have hg : ∀ l a w, J l a w → gotoIn l (.inScope c :: k) = some (.code (rest l) :: .inScope c :: k) := fun l a w h => by simp [gotoIn, hf l a w h]
  have key : ∀ n l a w, μ l a w = n → J l a w → ∃ e a' w', Q e a' w' ∧ Arrives P (lone (b.at a (.code (rest l) :: .inScope c :: k)) cs w) b k cs e a' w' := by
    intro n
    induction n using Nat.strongRecOn with
    | _ n ih =>
      intro l a w hn hJ
      obtain ⟨e, a₁, w₁, hq, harr⟩ := pass l a w hJ b (.inScope c :: k) cs
      cases e with
      | normal => exact ⟨.normal, a₁, w₁, hq, Steps.trans harr (.one step_inScope)⟩
      | exit id => exact ⟨.exit id, a₁, w₁, hq, fun k' hk => harr k' (by simp [exitTo, hk])⟩
      | goto l' =>
        obtain ⟨hJ', hlt⟩ := hq
        obtain ⟨e₂, a₂, w₂, hq₂, harr₂⟩ := ih _ (by omega) l' a₁ w₁ rfl hJ'
        exact ⟨e₂, a₂, w₂, hq₂, .of_steps (harr _ (hg l' a₁ w₁ hJ')) harr₂⟩
      | ret => exact ⟨_, a₁, w₁, hq, harr⟩
      | panic ch => exact ⟨_, a₁, w₁, hq, harr⟩
      | outgrown => exact ⟨_, a₁, w₁, hq, harr⟩
  obtain ⟨e, a₁, w₁, hq, harr⟩ := first b (.inScope c :: k) cs
  cases e with
  | normal => exact ⟨.normal, a₁, w₁, hq, .head step_scope (Steps.trans harr (.one step_inScope))⟩
  | exit id => exact ⟨.exit id, a₁, w₁, hq, fun k' hk => .head step_scope (harr k' (by simp [exitTo, hk]))⟩
  | goto l' =>
    obtain ⟨e₂, a₂, w₂, hq₂, harr₂⟩ := key _ l' a₁ w₁ rfl hq
    exact ⟨e₂, a₂, w₂, hq₂, .of_steps (.head step_scope (harr _ (hg l' a₁ w₁ hq))) harr₂⟩
  | ret => exact ⟨_, a₁, w₁, hq, .of_steps (.one step_scope) harr⟩
  | panic ch => exact ⟨_, a₁, w₁, hq, .of_steps (.one step_scope) harr⟩
  | outgrown => exact ⟨_, a₁, w₁, hq, .of_steps (.one step_scope) harr⟩

/-! ### what a walk comes to -/
structure Ow where
  need : Bool
  key : Ky
  err : Int
  node : Nd
  used : List Ky
def nd0 : Nd := ⟨0, 0, 0, ByteArray.empty⟩
def ky0 : Ky := ⟨0, ByteArray.empty⟩
def dotT (s : ByteArray) : Bool := s.toList == [46]
def dot2T (s : ByteArray) : Bool := s.toList == [46, 46]
/-- a walk's steps: the nodes to where it stands (the last one is there), what is left, whether a directory is wanted, links left, keys used -/
inductive Wk (fresh L : List En) (wh : Int → Bool) (follow : Bool) : List Nd → Nd → List ByteArray → Bool → Int → List Ky → Ow → Prop
  | wrong (A : List Nd) (y : Nd) (dir : Bool) (k : Int) (U : List Ky) : (dir && y.kind != 1) = true → Wk fresh L wh follow A y [] dir k U ⟨false, ky0, 42, nd0, U⟩
  | done (A : List Nd) (y : Nd) (dir : Bool) (k : Int) (U : List Ky) : (dir && y.kind != 1) = false → Wk fresh L wh follow A y [] dir k U ⟨false, ky0, 0, y, U⟩
  | notdir (A : List Nd) (y : Nd) (s : ByteArray) (T : List ByteArray) (dir : Bool) (k : Int) (U : List Ky) : y.kind ≠ 1 → Wk fresh L wh follow A y (s :: T) dir k U ⟨false, ky0, 42, nd0, U⟩
  | dot (A : List Nd) (y : Nd) (s : ByteArray) (T : List ByteArray) (dir : Bool) (k : Int) (U : List Ky) (o : Ow) : y.kind = 1 → dotT s = true → Wk fresh L wh follow A y T dir k U o → Wk fresh L wh follow A y (s :: T) dir k U o
  | upRoot (y : Nd) (s : ByteArray) (T : List ByteArray) (dir : Bool) (k : Int) (U : List Ky) (o : Ow) : y.kind = 1 → dot2T s = true → Wk fresh L wh follow [] y T dir k U o → Wk fresh L wh follow [] y (s :: T) dir k U o
  | up (A : List Nd) (z y : Nd) (s : ByteArray) (T : List ByteArray) (dir : Bool) (k : Int) (U : List Ky) (o : Ow) : y.kind = 1 → dot2T s = true → Wk fresh L wh follow A z T dir k U o → Wk fresh L wh follow (A ++ [z]) y (s :: T) dir k U o
  | need (A : List Nd) (y : Nd) (s : ByteArray) (T : List ByteArray) (dir : Bool) (k : Int) (U : List Ky) : y.kind = 1 → dotT s = false → dot2T s = false → knW fresh L wh ⟨y.id, s⟩ = none → Wk fresh L wh follow A y (s :: T) dir k U ⟨true, ⟨y.id, s⟩, 0, nd0, U⟩
  | neg (A : List Nd) (y : Nd) (s : ByteArray) (T : List ByteArray) (dir : Bool) (k : Int) (U : List Ky) (x : En) : y.kind = 1 → dotT s = false → dot2T s = false → knW fresh L wh ⟨y.id, s⟩ = some x → x.neg = true → Wk fresh L wh follow A y (s :: T) dir k U ⟨false, ky0, 40, nd0, U ++ [⟨y.id, s⟩]⟩
  | go (A : List Nd) (y : Nd) (s : ByteArray) (T : List ByteArray) (dir : Bool) (k : Int) (U : List Ky) (x : En) (o : Ow) : y.kind = 1 → dotT s = false → dot2T s = false → knW fresh L wh ⟨y.id, s⟩ = some x → x.neg = false → (x.node.kind != 3 || (T.isEmpty && !dir && !follow)) = true → Wk fresh L wh follow (A ++ [y]) x.node T dir k (U ++ [⟨y.id, s⟩]) o → Wk fresh L wh follow A y (s :: T) dir k U o
  | loop (A : List Nd) (y : Nd) (s : ByteArray) (T : List ByteArray) (dir : Bool) (k : Int) (U : List Ky) (x : En) : y.kind = 1 → dotT s = false → dot2T s = false → knW fresh L wh ⟨y.id, s⟩ = some x → x.neg = false → (x.node.kind != 3 || (T.isEmpty && !dir && !follow)) = false → k ≤ 0 → Wk fresh L wh follow A y (s :: T) dir k U ⟨false, ky0, 49, nd0, U ++ [⟨y.id, s⟩]⟩
  | bad (A : List Nd) (y : Nd) (s : ByteArray) (T : List ByteArray) (dir : Bool) (k : Int) (U : List Ky) (x : En) : y.kind = 1 → dotT s = false → dot2T s = false → knW fresh L wh ⟨y.id, s⟩ = some x → x.neg = false → (x.node.kind != 3 || (T.isEmpty && !dir && !follow)) = false → 0 < k → tgtErr x.node.target ≠ 0 → Wk fresh L wh follow A y (s :: T) dir k U ⟨false, ky0, tgtErr x.node.target, nd0, U ++ [⟨y.id, s⟩]⟩
  | link (A : List Nd) (y : Nd) (s : ByteArray) (T : List ByteArray) (dir : Bool) (k : Int) (U : List Ky) (x : En) (o : Ow) : y.kind = 1 → dotT s = false → dot2T s = false → knW fresh L wh ⟨y.id, s⟩ = some x → x.neg = false → (x.node.kind != 3 || (T.isEmpty && !dir && !follow)) = false → 0 < k → tgtErr x.node.target = 0 → slashHead x.node.target = false →
      Wk fresh L wh follow A y (stepsL x.node.target ++ T) (dir || (T.isEmpty && dirB x.node.target)) (k - 1) (U ++ [⟨y.id, s⟩]) o → Wk fresh L wh follow A y (s :: T) dir k U o
  | linkRoot (A : List Nd) (y : Nd) (s : ByteArray) (T : List ByteArray) (dir : Bool) (k : Int) (U : List Ky) (x : En) (o : Ow) : y.kind = 1 → dotT s = false → dot2T s = false → knW fresh L wh ⟨y.id, s⟩ = some x → x.neg = false → (x.node.kind != 3 || (T.isEmpty && !dir && !follow)) = false → 0 < k → tgtErr x.node.target = 0 → slashHead x.node.target = true →
      Wk fresh L wh follow [] rootNd (stepsL x.node.target ++ T) (dir || (T.isEmpty && dirB x.node.target)) (k - 1) (U ++ [⟨y.id, s⟩]) o → Wk fresh L wh follow A y (s :: T) dir k U o

/-! ### the rest of a row of texts -/
theorem rd_srow_from {w : World} {a : Option Addr} {c : Nat} {T : List ByteArray} {s : ByteArray} (h : Rd w (.slice a (s :: T).length c) (s :: T).length (srow (s :: T))) :
    Rd w (.slice (if c = 1 then a else a.map (·.add 1)) T.length (c - 1)) T.length (srow T) := by
  obtain ⟨b, o, cap, hv, h1, h2, h3⟩ := h.form (by simp [srow])
  simp only [Value.slice.injEq] at hv
  obtain ⟨rfl, _, rfl⟩ := hv
  simp only [List.length_cons] at h1
  by_cases hc : c = 1
  · have hT : T = [] := List.eq_nil_of_length_eq_zero (by omega)
    subst hT
    rw [if_pos hc]
    refine .inr ⟨_, c - 1, rfl, Nat.zero_le _, by omega, fun i x hx => by simp [srow] at hx⟩
  · rw [if_neg hc]
    refine .inr ⟨_, c - 1, rfl, by omega, by omega, fun i x hx => ?_⟩
    have h4 := h3.2 (i + 1) x (by simpa [srow] using hx)
    rw [show o + (i + 1) = o + 1 + i by omega] at h4
    show w.cell? (Addr.add ⟨b, o + 1, none⟩ i) = some x
    rw [add_mid]
    exact h4

set_option maxRecDepth 100000 in
set_option maxHeartbeats 2000000 in
theorem met_any (w : World) (av : Value) (tv : Value) (T : List ByteArray) (dir : Bool) (tg : ByteArray) (hT : Rd w tv T.length (srow T)) (hTl : T.length ≤ 1000000) :
    Calls Tryz.prog 146 #[av, tv, .bool dir, .string tg] w fun e w' => Hid (tgtErr tg ≠ 0 ∧ e = .returned (.tuple #[av, tv, .bool dir, .int .i64 (tgtErr tg)]) ∨
      tgtErr tg = 0 ∧ ∃ a c, w'.ownsRow w.heap.size 9 1 (.slice a (stepsL tg ++ T).length c) (stepsL tg ++ T).length (srow (stepsL tg ++ T)) ∧
        (slashHead tg = false ∧ e = .returned (.tuple #[av, .slice a (stepsL tg ++ T).length c, .bool (dir || (T.isEmpty && dirB tg)), .int .i64 0]) ∨
         slashHead tg = true ∧ ∃ g, e = .returned (.tuple #[.slice (some ⟨g, 0, none⟩) 1 1, .slice a (stepsL tg ++ T).length c, .bool (dir || (T.isEmpty && dirB tg)), .int .i64 0]) ∧ w'.ownsRow w.heap.size 40 4 (.slice (some ⟨g, 0, none⟩) 1 1) 1 (ncs [rootNd]))) ∧ Below w.heap.size w w' := by
  obtain ⟨ta, tc, rfl, _, _⟩ := hT.shape
  obtain ⟨i1, hi1, hy0, hy1, hy2⟩ := info_parts infoStr
  have HI := hid hi1
  have HT := hid hT
  clear hT hi1
  go_enter Tryz.func146, Tryz.ntmps146
  go_wp2_with fail
  refine (target_any tg _).mono ?_; rintro e w1 hc
  rcases hc.out with ⟨h1, rfl, hb1⟩ | ⟨h1, ⟨a, c, rfl, ho1⟩, hb1⟩
  · have HE := hid h1
    have HB := hid hb1
    have t1 : (tgtErr tg != 0) = true := by simp [h1]
    clear h1 hb1 hc
    go_wp2
    (try simp only [Exit.inBlock, Exit.then]); refine bodyPost_ret (results_tmp4 rfl _ _ _) rfl ?_
    exact ⟨hid (.inl ⟨HE.out, rfl⟩), HB.out⟩
  · have HE := hid h1
    have HB := hid hb1
    obtain ⟨SL, hSL⟩ : ∃ SL, SL = stepsL tg := ⟨_, rfl⟩
    have hsl : SL.length ≤ 4097 := by
      rw [hSL]
      have h2 := steps_le tg
      have h3 : tg.size ≤ 96 := by
        unfold tgtErr at h1
        by_cases hb : 96 < tg.size
        · rw [if_pos hb] at h1; exact absurd h1 (by decide)
        · omega
      omega
    have HSL := hid hSL
    rw [← hSL] at ho1 ⊢
    have HO := hid ho1
    clear h1 hb1 hc ho1 hSL
    cases hw : slashHead tg with
    | false =>
      have HW := hid hw
      clear hw
      by_cases hT0 : T = []
      · have hz : T.length = 0 := by rw [hT0]; rfl
        have hz1 : ((T.length : Int) == 0) = true := by simp [hz]
        have hz2 : (T.length == 0) = true := by simp [hz]
        cases hd : dirB tg with
        | true =>
          have HD := hid (show (dir || (T.isEmpty && dirB tg)) = true by rw [hT0, hd]; simp)
          clear hT0 hz
          go_wp2_with (at_builtin; refine wpList_append_rd rfl _ _ 41 rfl w.heap.size 9 i1 _ 1 16 Tryz.underlying41 HI.out hy0 hy1 hy2 rfl (by decide) (.slice a SL.length c) SL.length (srow SL) rfl HO.out (.slice ta T.length tc) T.length (srow T) rfl (HT.out.below HB.out) (srow_len T ▸ by simp [srow]) (srow_one T) (by unfold maxLen; omega) (by omega) HB.out.size ?_; intro a2 c2 w3 hown3 hgrow3 hat3)
          have HB3 := hid (HB.out.grown hgrow3 HB.out.size fun k hk => (own_lt HO.out hk).1)
          have HRD := hid (show w3.ownsRow w.heap.size 9 1 (.slice a2 (SL ++ T).length c2) (SL ++ T).length (srow (SL ++ T)) by rw [List.length_append, show srow (SL ++ T) = srow SL ++ srow T by simp [srow]]; exact hown3)
          have HLL := hid (show SL.length + T.length = (SL ++ T).length by rw [List.length_append])
          clear hown3 hgrow3 hat3
          (try simp only [Exit.inBlock, Exit.then]); refine bodyPost_ret (results_tmp4 rfl _ _ _) rfl ?_
          rw [← HSL.out]
          refine ⟨hid (.inr ⟨HE.out, a2, c2, HRD.out, (.inl ⟨HW.out, ?_⟩)⟩), HB3.out⟩
          rw [← HLL.out, HD.out]; rfl
        | false =>
          have HD := hid (show (dir || (T.isEmpty && dirB tg)) = dir by rw [hd]; simp)
          clear hT0 hz
          go_wp2_with (at_builtin; refine wpList_append_rd rfl _ _ 41 rfl w.heap.size 9 i1 _ 1 16 Tryz.underlying41 HI.out hy0 hy1 hy2 rfl (by decide) (.slice a SL.length c) SL.length (srow SL) rfl HO.out (.slice ta T.length tc) T.length (srow T) rfl (HT.out.below HB.out) (srow_len T ▸ by simp [srow]) (srow_one T) (by unfold maxLen; omega) (by omega) HB.out.size ?_; intro a2 c2 w3 hown3 hgrow3 hat3)
          have HB3 := hid (HB.out.grown hgrow3 HB.out.size fun k hk => (own_lt HO.out hk).1)
          have HRD := hid (show w3.ownsRow w.heap.size 9 1 (.slice a2 (SL ++ T).length c2) (SL ++ T).length (srow (SL ++ T)) by rw [List.length_append, show srow (SL ++ T) = srow SL ++ srow T by simp [srow]]; exact hown3)
          have HLL := hid (show SL.length + T.length = (SL ++ T).length by rw [List.length_append])
          clear hown3 hgrow3 hat3
          (try simp only [Exit.inBlock, Exit.then]); refine bodyPost_ret (results_tmp4 rfl _ _ _) rfl ?_
          rw [← HSL.out]
          refine ⟨hid (.inr ⟨HE.out, a2, c2, HRD.out, (.inl ⟨HW.out, ?_⟩)⟩), HB3.out⟩
          rw [← HLL.out, HD.out]; rfl
      · have hz1 : ((T.length : Int) == 0) = false := by simp [hT0]
        have hz2 : (T.length == 0) = false := by simp [hT0]
        have HD := hid (show (dir || (T.isEmpty && dirB tg)) = dir by cases T with | nil => exact absurd rfl hT0 | cons _ _ => simp)
        clear hT0
        go_wp2_with (at_builtin; refine wpList_append_rd rfl _ _ 41 rfl w.heap.size 9 i1 _ 1 16 Tryz.underlying41 HI.out hy0 hy1 hy2 rfl (by decide) (.slice a SL.length c) SL.length (srow SL) rfl HO.out (.slice ta T.length tc) T.length (srow T) rfl (HT.out.below HB.out) (srow_len T ▸ by simp [srow]) (srow_one T) (by unfold maxLen; omega) (by omega) HB.out.size ?_; intro a2 c2 w3 hown3 hgrow3 hat3)
        have HB3 := hid (HB.out.grown hgrow3 HB.out.size fun k hk => (own_lt HO.out hk).1)
        have HRD := hid (show w3.ownsRow w.heap.size 9 1 (.slice a2 (SL ++ T).length c2) (SL ++ T).length (srow (SL ++ T)) by rw [List.length_append, show srow (SL ++ T) = srow SL ++ srow T by simp [srow]]; exact hown3)
        have HLL := hid (show SL.length + T.length = (SL ++ T).length by rw [List.length_append])
        clear hown3 hgrow3 hat3
        (try simp only [Exit.inBlock, Exit.then]); refine bodyPost_ret (results_tmp4 rfl _ _ _) rfl ?_
        rw [← HSL.out]
        refine ⟨hid (.inr ⟨HE.out, a2, c2, HRD.out, (.inl ⟨HW.out, ?_⟩)⟩), HB3.out⟩
        rw [← HLL.out, HD.out]; rfl
    | true =>
      have HW := hid hw
      clear hw
      go_wp2_with fail
      refine (root_any _).mono ?_; rintro e w2 ⟨rfl, ho2, hb2⟩
      have HB2 := hid (HB.out.trans (hb2.mono HB.out.size))
      have HO2 := hid (own_below HO.out hb2)
      have HR2 := hid (ownsRow_mono ho2 HB.out.size)
      have hrz := (own_lt ho2 (k := w1.heap.size) rfl).2
      clear ho2 hb2
      by_cases hT0 : T = []
      · have hz : T.length = 0 := by rw [hT0]; rfl
        have hz1 : ((T.length : Int) == 0) = true := by simp [hz]
        have hz2 : (T.length == 0) = true := by simp [hz]
        cases hd : dirB tg with
        | true =>
          have HD := hid (show (dir || (T.isEmpty && dirB tg)) = true by rw [hT0, hd]; simp)
          clear hT0 hz
          go_wp2_with (at_builtin; refine wpList_append_rd rfl _ _ 41 rfl w.heap.size 9 i1 _ 1 16 Tryz.underlying41 HI.out hy0 hy1 hy2 rfl (by decide) (.slice a SL.length c) SL.length (srow SL) rfl HO2.out (.slice ta T.length tc) T.length (srow T) rfl (HT.out.below HB2.out) (srow_len T ▸ by simp [srow]) (srow_one T) (by unfold maxLen; omega) (by omega) HB2.out.size ?_; intro a2 c2 w3 hown3 hgrow3 hat3)
          have HB3 := hid (HB2.out.grown hgrow3 HB2.out.size fun k hk => (own_lt HO2.out hk).1)
          have HRD := hid (show w3.ownsRow w.heap.size 9 1 (.slice a2 (SL ++ T).length c2) (SL ++ T).length (srow (SL ++ T)) by rw [List.length_append, show srow (SL ++ T) = srow SL ++ srow T by simp [srow]]; exact hown3)
          have HR3 := hid (own_grown HR2.out hgrow3 fun k hk => own_ne2 HR2.out (ownsRow_mono HO2.out (Nat.zero_le _)) (by decide) k hk)
          have HLL := hid (show SL.length + T.length = (SL ++ T).length by rw [List.length_append])
          clear hown3 hgrow3 hat3
          (try simp only [Exit.inBlock, Exit.then]); refine bodyPost_ret (results_tmp4 rfl _ _ _) rfl ?_
          rw [← HSL.out]
          refine ⟨hid (.inr ⟨HE.out, a2, c2, HRD.out, (.inr ⟨HW.out, w1.heap.size, ?_, HR3.out⟩)⟩), HB3.out⟩
          rw [← HLL.out, HD.out]; rfl
        | false =>
          have HD := hid (show (dir || (T.isEmpty && dirB tg)) = dir by rw [hd]; simp)
          clear hT0 hz
          go_wp2_with (at_builtin; refine wpList_append_rd rfl _ _ 41 rfl w.heap.size 9 i1 _ 1 16 Tryz.underlying41 HI.out hy0 hy1 hy2 rfl (by decide) (.slice a SL.length c) SL.length (srow SL) rfl HO2.out (.slice ta T.length tc) T.length (srow T) rfl (HT.out.below HB2.out) (srow_len T ▸ by simp [srow]) (srow_one T) (by unfold maxLen; omega) (by omega) HB2.out.size ?_; intro a2 c2 w3 hown3 hgrow3 hat3)
          have HB3 := hid (HB2.out.grown hgrow3 HB2.out.size fun k hk => (own_lt HO2.out hk).1)
          have HRD := hid (show w3.ownsRow w.heap.size 9 1 (.slice a2 (SL ++ T).length c2) (SL ++ T).length (srow (SL ++ T)) by rw [List.length_append, show srow (SL ++ T) = srow SL ++ srow T by simp [srow]]; exact hown3)
          have HR3 := hid (own_grown HR2.out hgrow3 fun k hk => own_ne2 HR2.out (ownsRow_mono HO2.out (Nat.zero_le _)) (by decide) k hk)
          have HLL := hid (show SL.length + T.length = (SL ++ T).length by rw [List.length_append])
          clear hown3 hgrow3 hat3
          (try simp only [Exit.inBlock, Exit.then]); refine bodyPost_ret (results_tmp4 rfl _ _ _) rfl ?_
          rw [← HSL.out]
          refine ⟨hid (.inr ⟨HE.out, a2, c2, HRD.out, (.inr ⟨HW.out, w1.heap.size, ?_, HR3.out⟩)⟩), HB3.out⟩
          rw [← HLL.out, HD.out]; rfl
      · have hz1 : ((T.length : Int) == 0) = false := by simp [hT0]
        have hz2 : (T.length == 0) = false := by simp [hT0]
        have HD := hid (show (dir || (T.isEmpty && dirB tg)) = dir by cases T with | nil => exact absurd rfl hT0 | cons _ _ => simp)
        clear hT0
        go_wp2_with (at_builtin; refine wpList_append_rd rfl _ _ 41 rfl w.heap.size 9 i1 _ 1 16 Tryz.underlying41 HI.out hy0 hy1 hy2 rfl (by decide) (.slice a SL.length c) SL.length (srow SL) rfl HO2.out (.slice ta T.length tc) T.length (srow T) rfl (HT.out.below HB2.out) (srow_len T ▸ by simp [srow]) (srow_one T) (by unfold maxLen; omega) (by omega) HB2.out.size ?_; intro a2 c2 w3 hown3 hgrow3 hat3)
        have HB3 := hid (HB2.out.grown hgrow3 HB2.out.size fun k hk => (own_lt HO2.out hk).1)
        have HRD := hid (show w3.ownsRow w.heap.size 9 1 (.slice a2 (SL ++ T).length c2) (SL ++ T).length (srow (SL ++ T)) by rw [List.length_append, show srow (SL ++ T) = srow SL ++ srow T by simp [srow]]; exact hown3)
        have HR3 := hid (own_grown HR2.out hgrow3 fun k hk => own_ne2 HR2.out (ownsRow_mono HO2.out (Nat.zero_le _)) (by decide) k hk)
        have HLL := hid (show SL.length + T.length = (SL ++ T).length by rw [List.length_append])
        clear hown3 hgrow3 hat3
        (try simp only [Exit.inBlock, Exit.then]); refine bodyPost_ret (results_tmp4 rfl _ _ _) rfl ?_
        rw [← HSL.out]
        refine ⟨hid (.inr ⟨HE.out, a2, c2, HRD.out, (.inr ⟨HW.out, w1.heap.size, ?_, HR3.out⟩)⟩), HB3.out⟩
        rw [← HLL.out, HD.out]; rfl

end Go.Proofs.YtbjibkjenleloaaGreatDoor

end

section
namespace Go.Proofs.YtbjibkjenleloaaGreatDoor
set_option linter.unusedVariables false
set_option linter.unusedSimpArgs false
open Go.RowKit
attribute [local go_sem ↓] Go.wp_at_zero Go.wp_at_succ

theorem blk9 {w : World} {k t : Nat} {x0 x1 x2 x3 x4 x5 x6 x7 x8 : Value} (h : w.heap[k]? = some (.cells #[x0, x1, x2, x3, x4, x5, x6, x7, x8] t (0, 0))) :
    w.cell? ⟨k, 0, none⟩ = some x0 ∧ w.cell? ⟨k, 1, none⟩ = some x1 ∧ w.cell? ⟨k, 2, none⟩ = some x2 ∧ w.cell? ⟨k, 3, none⟩ = some x3 ∧ w.cell? ⟨k, 4, none⟩ = some x4 ∧ w.cell? ⟨k, 5, none⟩ = some x5 ∧ w.cell? ⟨k, 6, none⟩ = some x6 ∧ w.cell? ⟨k, 7, none⟩ = some x7 ∧ w.cell? ⟨k, 8, none⟩ = some x8 ∧ w.frozen? ⟨k, 0, none⟩ = false ∧ w.frozen? ⟨k, 1, none⟩ = false ∧ w.frozen? ⟨k, 2, none⟩ = false ∧ w.frozen? ⟨k, 3, none⟩ = false ∧ w.frozen? ⟨k, 4, none⟩ = false ∧ w.frozen? ⟨k, 5, none⟩ = false ∧ w.frozen? ⟨k, 6, none⟩ = false ∧ w.frozen? ⟨k, 7, none⟩ = false ∧ w.frozen? ⟨k, 8, none⟩ = false := by
  simp [World.cell?, World.frozen?, h]

/-- the block of an address is one of a type -/
def TyB (w : World) (a : Option Addr) (T : Nat) : Prop := ∀ k, a.map (·.block) = some k → ∃ cs, w.heap[k]? = some (.cells cs T (0, 0))
theorem TyB.chg {w w' : World} {a : Option Addr} {T : Nat} {F : Nat → Prop} (h : TyB w a T) (hc : Chg F w w') (hF : ∀ k, a.map (·.block) = some k → ¬ F k) : TyB w' a T := fun k hk => by
  obtain ⟨cs, h1⟩ := h k hk
  exact ⟨cs, heap_chg hc h1 (hF k hk)⟩
theorem TyB.own {w : World} {B e sz n : Nat} {a : Option Addr} {m c : Nat} {xs : List Value} (h : w.ownsRow B e sz (.slice a m c) n xs) : TyB w a e := fun k hk => own_type h (by rw [ownBlock_slice]; exact hk)
theorem TyB.ne {w : World} {a : Option Addr} {T U k : Nat} {cs : Array Value} (h : TyB w a T) (hk : w.heap[k]? = some (.cells cs U (0, 0))) (hTU : T ≠ U) : a.map (·.block) ≠ some k := fun e => by
  obtain ⟨ds, h1⟩ := h k e
  rw [hk] at h1
  simp only [Option.some.injEq, Obj.cells.injEq] at h1
  exact hTU h1.2.1.symm

/-- the memory of a walk: r the result, o what comes out, h the key, x the entry; the sources, the place, the keys used, what is left -/
structure SI (w w' : World) (r o h x gs p : Nat) (fv : Value) (A : List Nd) (y : Nd) (ga ca : Nat) (T : List ByteArray) (ta : Option Addr) (tc : Nat) (U : List Ky) (ua : Option Addr) (uc : Nat) (k : Ky) (e : En) : Prop where
  below : Below w.heap.size w w'
  hr : w'.heap[r]? = some (.cells #[.bool false, .int .i64 0, .string { data := #[] }, .int .i64 0, .int .i64 0, .int .i64 0, .int .i64 0, .string { data := #[] }, .slice none 0 0] 176 (0, 0))
  ho : w'.heap[o]? = some (.cells #[.bool false, .int .i64 0, .string { data := #[] }, .int .i64 0, .int .i64 0, .int .i64 0, .int .i64 0, .string { data := #[] }, .slice ua U.length uc] 176 (0, 0))
  hh : w'.heap[h]? = some (.cells #[.int .i64 k.dir, .string k.name] 53 (0, 0))
  hx : w'.heap[x]? = some (.cells #[.int .i64 e.key.dir, .string e.key.name, .bool e.neg, .int .i64 e.node.id, .int .i64 e.node.kind, .int .i64 e.node.mode, .string e.node.target] 55 (0, 0))
  src : Rd w' (.slice (some ⟨gs, 0, none⟩) 3 3) 3 (srcs fv p)
  srct : TyB w' (some ⟨gs, 0, none⟩) 223
  row : w'.ownsRow w.heap.size 40 4 (.slice (some ⟨ga, 0, none⟩) (A.length + 1) ca) (A.length + 1) (ncs (A ++ [y]))
  used : w'.ownsRow w.heap.size 53 2 (.slice ua U.length uc) U.length (kyc U)
  usedh : ua.map (·.block) ≠ some h
  todo : Rd w' (.slice ta T.length tc) T.length (srow T)
  todot : TyB w' ta 9
  hro : r ≠ o
  lo : w.heap.size ≤ r ∧ w.heap.size ≤ o ∧ w.heap.size ≤ h ∧ w.heap.size ≤ x
section
variable {w w' w2 : World} {r o h x gs p : Nat} {fv : Value} {A : List Nd} {y : Nd} {ga ca : Nat} {T : List ByteArray} {ta : Option Addr} {tc : Nat} {U : List Ky} {ua : Option Addr} {uc : Nat} {k : Ky} {e : En}
/-- blocks of F turned: what does not lie there stays -/
theorem SI.src' (s : SI w w' r o h x gs p fv A y ga ca T ta tc U ua uc k e) {F : Nat → Prop} (hc : Chg F w' w2) (hF : ¬ F gs) : Rd w2 (.slice (some ⟨gs, 0, none⟩) 3 3) 3 (srcs fv p) ∧ TyB w2 (some ⟨gs, 0, none⟩) 223 :=
  ⟨s.src.chg (fun k hk hl => hc.block k hl (by simp only [ownBlock_slice, Option.map_some, Option.some.injEq] at hk; subst hk; exact hF)), s.srct.chg hc (fun k hk => by simp only [Option.map_some, Option.some.injEq] at hk; subst hk; exact hF)⟩
theorem SI.upd (s : SI w w' r o h x gs p fv A y ga ca T ta tc U ua uc k e) {F : Nat → Prop} (hc : Chg F w' w2) (hlo : ∀ j, F j → w.heap.size ≤ j) (hr : ¬ F r) (hgs : ¬ F gs) (hta : ∀ j, ta.map (·.block) = some j → ¬ F j)
    {A' : List Nd} {y' : Nd} {ga' ca' : Nat} {U' : List Ky} {ua' : Option Addr} {uc' : Nat} {k' : Ky} {e' : En}
    (ho : w2.heap[o]? = some (.cells #[.bool false, .int .i64 0, .string { data := #[] }, .int .i64 0, .int .i64 0, .int .i64 0, .int .i64 0, .string { data := #[] }, .slice ua' U'.length uc'] 176 (0, 0)))
    (hh : w2.heap[h]? = some (.cells #[.int .i64 k'.dir, .string k'.name] 53 (0, 0)))
    (hx : w2.heap[x]? = some (.cells #[.int .i64 e'.key.dir, .string e'.key.name, .bool e'.neg, .int .i64 e'.node.id, .int .i64 e'.node.kind, .int .i64 e'.node.mode, .string e'.node.target] 55 (0, 0)))
    (row : w2.ownsRow w.heap.size 40 4 (.slice (some ⟨ga', 0, none⟩) (A'.length + 1) ca') (A'.length + 1) (ncs (A' ++ [y'])))
    (used : w2.ownsRow w.heap.size 53 2 (.slice ua' U'.length uc') U'.length (kyc U')) (usedh : ua'.map (·.block) ≠ some h) :
    SI w w2 r o h x gs p fv A' y' ga' ca' T ta tc U' ua' uc' k' e' :=
  ⟨s.below.trans (hc.toBelow s.below.size fun i hi hf => by have := hlo i hf; omega), heap_chg hc s.hr hr, ho, hh, hx, (s.src' hc hgs).1, (s.src' hc hgs).2, row, used, usedh,
   s.todo.chg (fun j hj hl => hc.block j hl (hta j (by rw [← ownBlock_slice]; exact hj))), s.todot.chg hc hta, s.hro, s.lo⟩
theorem SI.alloc (s : SI w w' r o h x gs p fv A y ga ca T ta tc U ua uc k e) (hb : Below w'.heap.size w' w2) : SI w w2 r o h x gs p fv A y ga ca T ta tc U ua uc k e :=
  s.upd (Chg.below hb) (fun j hj => hj.elim) (fun h => h) (fun h => h) (fun _ _ h => h) (heap_below hb s.ho (blk_lt s.ho)) (heap_below hb s.hh (blk_lt s.hh)) (heap_below hb s.hx (blk_lt s.hx)) (own_below s.row hb) (own_below s.used hb) s.usedh
/-- the key is stored -/
theorem SI.seth (s : SI w w' r o h x gs p fv A y ga ca T ta tc U ua uc k e) (k' : Ky) : SI w ((w'.setCell ⟨h, 0, none⟩ (.int .i64 k'.dir)).setCell ⟨h, 1, none⟩ (.string k'.name)) r o h x gs p fv A y ga ca T ta tc U ua uc k' e := by
  have hc : Chg (fun j => j = h) w' ((w'.setCell ⟨h, 0, none⟩ (.int .i64 k'.dir)).setCell ⟨h, 1, none⟩ (.string k'.name)) := ((Chg.refl (fun j => j = h) w').setCell ⟨h, 0, none⟩ _ (.inl rfl)).setCell ⟨h, 1, none⟩ _ (.inl rfl)
  have d1 : r ≠ h := fun e1 => by have h1 := s.hr; have h2 := s.hh; rw [e1, h2] at h1; simp only [Option.some.injEq, Obj.cells.injEq] at h1; exact absurd h1.2.1 (by decide)
  have d2 : o ≠ h := fun e1 => by have h1 := s.ho; have h2 := s.hh; rw [e1, h2] at h1; simp only [Option.some.injEq, Obj.cells.injEq] at h1; exact absurd h1.2.1 (by decide)
  have d3 : x ≠ h := fun e1 => by have h1 := s.hx; have h2 := s.hh; rw [e1, h2] at h1; simp only [Option.some.injEq, Obj.cells.injEq] at h1; exact absurd h1.2.1 (by decide)
  exact s.upd hc (fun j hj => by subst hj; exact s.lo.2.2.1) d1 (fun e1 => s.srct.ne s.hh (by decide) (by rw [e1]; rfl)) (fun j hj e1 => s.todot.ne s.hh (by decide) (by rw [hj, e1]))
    (heap_chg hc s.ho d2) (heap_set (heap_set s.hh 0 _) 1 _) (heap_chg hc s.hx d3) (ownsRow_chg s.row fun j hj hl => hc.block j hl fun e1 => by subst e1; exact own_ne s.row s.hh (by decide) hj)
    (ownsRow_chg s.used fun j hj hl => hc.block j hl fun e1 => by subst e1; exact s.usedh (by rw [← ownBlock_slice]; exact hj)) s.usedh
set_option maxHeartbeats 2000000 in
/-- the entry is stored -/
theorem SI.setx (s : SI w w' r o h x gs p fv A y ga ca T ta tc U ua uc k e) (e' : En) : SI w (((((((w'.setCell ⟨x, 0, none⟩ (.int .i64 e'.key.dir)).setCell ⟨x, 1, none⟩ (.string e'.key.name)).setCell ⟨x, 2, none⟩ (.bool e'.neg)).setCell ⟨x, 3, none⟩ (.int .i64 e'.node.id)).setCell ⟨x, 4, none⟩ (.int .i64 e'.node.kind)).setCell ⟨x, 5, none⟩ (.int .i64 e'.node.mode)).setCell ⟨x, 6, none⟩ (.string e'.node.target)) r o h x gs p fv A y ga ca T ta tc U ua uc k e' := by
  have hc : Chg (fun j => j = x) w' (((((((w'.setCell ⟨x, 0, none⟩ (.int .i64 e'.key.dir)).setCell ⟨x, 1, none⟩ (.string e'.key.name)).setCell ⟨x, 2, none⟩ (.bool e'.neg)).setCell ⟨x, 3, none⟩ (.int .i64 e'.node.id)).setCell ⟨x, 4, none⟩ (.int .i64 e'.node.kind)).setCell ⟨x, 5, none⟩ (.int .i64 e'.node.mode)).setCell ⟨x, 6, none⟩ (.string e'.node.target)) :=
    (((((((Chg.refl (fun j => j = x) w').setCell ⟨x, 0, none⟩ _ (.inl rfl)).setCell ⟨x, 1, none⟩ _ (.inl rfl)).setCell ⟨x, 2, none⟩ _ (.inl rfl)).setCell ⟨x, 3, none⟩ _ (.inl rfl)).setCell ⟨x, 4, none⟩ _ (.inl rfl)).setCell ⟨x, 5, none⟩ _ (.inl rfl)).setCell ⟨x, 6, none⟩ _ (.inl rfl)
  have d1 : r ≠ x := fun e1 => by have h1 := s.hr; have h2 := s.hx; rw [e1, h2] at h1; simp only [Option.some.injEq, Obj.cells.injEq] at h1; exact absurd h1.2.1 (by decide)
  have d2 : o ≠ x := fun e1 => by have h1 := s.ho; have h2 := s.hx; rw [e1, h2] at h1; simp only [Option.some.injEq, Obj.cells.injEq] at h1; exact absurd h1.2.1 (by decide)
  have d3 : h ≠ x := fun e1 => by have h1 := s.hh; have h2 := s.hx; rw [e1, h2] at h1; simp only [Option.some.injEq, Obj.cells.injEq] at h1; exact absurd h1.2.1 (by decide)
  exact s.upd hc (fun j hj => by subst hj; exact s.lo.2.2.2) d1 (fun e1 => s.srct.ne s.hx (by decide) (by rw [e1]; rfl)) (fun j hj e1 => s.todot.ne s.hx (by decide) (by rw [hj, e1]))
    (heap_chg hc s.ho d2) (heap_chg hc s.hh d3) (heap_set (heap_set (heap_set (heap_set (heap_set (heap_set (heap_set s.hx 0 _) 1 _) 2 _) 3 _) 4 _) 5 _) 6 _) (ownsRow_chg s.row fun j hj hl => hc.block j hl fun e1 => by subst e1; exact own_ne s.row s.hx (by decide) hj)
    (ownsRow_chg s.used fun j hj hl => hc.block j hl fun e1 => by subst e1; exact own_ne s.used s.hx (by decide) hj) s.usedh
/-- other texts are left -/
theorem SI.todos (s : SI w w' r o h x gs p fv A y ga ca T ta tc U ua uc k e) {T' : List ByteArray} {ta' : Option Addr} {tc' : Nat} (h1 : Rd w' (.slice ta' T'.length tc') T'.length (srow T')) (h2 : TyB w' ta' 9) : SI w w' r o h x gs p fv A y ga ca T' ta' tc' U ua uc k e :=
  { s with todo := h1, todot := h2 }
/-- another place -/
theorem SI.place (s : SI w w' r o h x gs p fv A y ga ca T ta tc U ua uc k e) {A' : List Nd} {y' : Nd} {ga' ca' : Nat} (h1 : w'.ownsRow w.heap.size 40 4 (.slice (some ⟨ga', 0, none⟩) (A'.length + 1) ca') (A'.length + 1) (ncs (A' ++ [y']))) : SI w w' r o h x gs p fv A' y' ga' ca' T ta tc U ua uc k e :=
  { s with row := h1 }
end
theorem TyB.from {w : World} {a : Option Addr} {T : Nat} {c i : Nat} (h : TyB w a T) : TyB w (if c = i then a else a.map (·.add 1)) T := fun k hk => by
  split at hk
  · exact h k hk
  · refine h k ?_
    cases a with
    | none => simp at hk
    | some a => simpa [Addr.add] using hk

end Go.Proofs.YtbjibkjenleloaaGreatDoor

end

section
namespace Go.Proofs.YtbjibkjenleloaaGreatDoor
set_option linter.unusedVariables false
set_option linter.unusedSimpArgs false
open Go.RowKit
attribute [local go_sem ↓] Go.wp_at_zero Go.wp_at_succ

section
variable {w w' w2 : World} {r o h x gs p : Nat} {fv : Value} {A : List Nd} {y : Nd} {ga ca : Nat} {T : List ByteArray} {ta : Option Addr} {tc : Nat} {U : List Ky} {ua : Option Addr} {uc : Nat} {k : Ky} {e : En}
theorem heap_ty {w : World} {a b T U : Nat} {cs ds : Array Value} (h1 : w.heap[a]? = some (.cells cs T (0, 0))) (h2 : w.heap[b]? = some (.cells ds U (0, 0))) (hTU : T ≠ U) : a ≠ b := fun e => by
  rw [e, h2] at h1; simp only [Option.some.injEq, Obj.cells.injEq] at h1; exact hTU h1.2.1.symm
/-- the place grows -/
theorem SI.push (s : SI w w' r o h x gs p fv A y ga ca T ta tc U ua uc k e) {ob : Obj} {nd : Nd} {a2 : Option Addr} {c2 : Nat} (hg : (w'.alloc ob).grownBy w2 (Value.slice (some ⟨ga, 0, none⟩) (A.length + 1) ca).ownBlock)
    (hown : w2.ownsRow w.heap.size 40 4 (.slice a2 (A.length + 1 + 1) c2) (A.length + 1 + 1) (ncs (A ++ [y]) ++ [.int .i64 nd.id, .int .i64 nd.kind, .int .i64 nd.mode, .string nd.target])) :
    ∃ ga2, a2 = some ⟨ga2, 0, none⟩ ∧ SI w w2 r o h x gs p fv (A ++ [y]) nd ga2 c2 T ta tc U ua uc k e := by
  have s1 := s.alloc (bl1 w' ob)
  have hc : Chg (fun j => j = ga) (w'.alloc ob) w2 := (Chg.refl _ _).grown hg (fun j hj => by simp only [ownBlock_slice, Option.map_some, Option.some.injEq] at hj; exact .inl hj.symm)
  obtain ⟨cur, hga⟩ := own_type s1.row (k := ga) rfl
  obtain ⟨ga2, rfl, _⟩ := row_loc hown (by omega)
  refine ⟨ga2, rfl, s1.upd hc (fun j hj => by subst hj; exact (own_lt s1.row (k := j) rfl).1) (heap_ty s1.hr hga (by decide)) (fun e1 => s1.srct.ne hga (by decide) (by rw [e1]; rfl)) (fun j hj e1 => s1.todot.ne hga (by decide) (by rw [hj, e1]))
    (heap_chg hc s1.ho (heap_ty s1.ho hga (by decide))) (heap_chg hc s1.hh (heap_ty s1.hh hga (by decide))) (heap_chg hc s1.hx (heap_ty s1.hx hga (by decide))) ?_ (ownsRow_chg s1.used fun j hj hl => hc.block j hl fun e1 => by subst e1; exact own_ne s1.used hga (by decide) hj) s1.usedh⟩
  rw [ncs_snoc (A ++ [y]) nd, List.length_append]
  exact hown
/-- the keys used grow -/
theorem SI.use (s : SI w w' r o h x gs p fv A y ga ca T ta tc U ua uc k e) {ob : Obj} {a2 : Option Addr} {c2 : Nat} (hg : (w'.alloc ob).grownBy w2 (Value.slice ua U.length uc).ownBlock)
    (hown : w2.ownsRow w.heap.size 53 2 (.slice a2 (U.length + 1) c2) (U.length + 1) (kyc U ++ [.int .i64 k.dir, .string k.name]))
    (hat : (Value.slice a2 (U.length + 1) c2).ownBlock = (Value.slice ua U.length uc).ownBlock ∨ (Value.slice a2 (U.length + 1) c2).ownBlock = some (w'.alloc ob).heap.size) :
    SI w (w2.setCell ⟨o, 8, none⟩ (.slice a2 (U.length + 1) c2)) r o h x gs p fv A y ga ca T ta tc (U ++ [k]) a2 c2 k e := by
  have s1 := s.alloc (bl1 w' ob)
  have hc1 : Chg (fun j => ua.map (·.block) = some j) (w'.alloc ob) w2 := (Chg.refl _ _).grown hg (fun j hj => by rw [ownBlock_slice] at hj; exact .inl hj)
  have hc : Chg (fun j => ua.map (·.block) = some j ∨ j = o) (w'.alloc ob) (w2.setCell ⟨o, 8, none⟩ (.slice a2 (U.length + 1) c2)) := (hc1.mono (fun _ _ h => .inl h)).setCell _ _ (.inl (.inr rfl))
  have tu : TyB (w'.alloc ob) ua 53 := TyB.own s1.used
  have n1 : ∀ {b T : Nat} {cs : Array Value}, (w'.alloc ob).heap[b]? = some (.cells cs T (0, 0)) → 53 ≠ T → ua.map (·.block) ≠ some b := fun hb hT => tu.ne hb hT
  have ho1 := heap_chg hc1 s1.ho (n1 s1.ho (by decide))
  have hh1 := heap_chg hc1 s1.hh s1.usedh
  have hox : o ≠ h := heap_ty s1.ho s1.hh (by decide)
  have hown2 := own_set hown (own_ne hown ho1 (by decide)) 8 (.slice a2 (U.length + 1) c2)
  refine s1.upd hc (fun j hj => by rcases hj with hj | rfl; exact (own_lt s1.used (by rw [ownBlock_slice]; exact hj)).1; exact s1.lo.2.1) (fun hj => by rcases hj with hj | hj; exact n1 s1.hr (by decide) hj; exact s1.hro hj)
    (fun hj => by
      rcases hj with hj | hj
      · obtain ⟨cs, h3⟩ := s1.srct gs rfl
        exact n1 h3 (by decide) hj
      · exact s1.srct.ne s1.ho (by decide) (by rw [hj]; rfl))
    (fun j hj hf => by
      rcases hf with hf | hf
      · obtain ⟨cs, h3⟩ := s1.todot j hj
        exact n1 h3 (by decide) hf
      · exact s1.todot.ne s1.ho (by decide) (by rw [hj, hf]))
    ?_ (heap_set_ne hh1 _ _ (fun e1 => hox e1.symm)) (heap_chg hc s1.hx (fun hj => by rcases hj with hj | hj; exact n1 s1.hx (by decide) hj; exact heap_ty s1.hx s1.ho (by decide) hj))
    (ownsRow_chg s1.row fun j hj hl => hc.block j hl fun hf => by
      rcases hf with hf | hf
      · exact own_ne2 s1.row s1.used (by decide) j hj (by rw [ownBlock_slice]; exact hf)
      · subst hf; exact own_ne s1.row s1.ho (by decide) hj) ?_ ?_
  · rw [List.length_append]; exact heap_set ho1 8 _
  · rw [List.length_append, show kyc (U ++ [k]) = kyc U ++ [.int .i64 k.dir, .string k.name] by simp [kyc, Ky.cells]]; exact hown2
  · intro hj
    rw [ownBlock_slice, ownBlock_slice] at hat
    rcases hat with hat | hat
    · exact s1.usedh (by rw [← hat]; exact hj)
    · rw [hj] at hat
      have := Option.some.inj hat
      have := blk_lt s1.hh
      omega
end

end Go.Proofs.YtbjibkjenleloaaGreatDoor

end

section
namespace Go.Proofs.YtbjibkjenleloaaGreatDoor
set_option linter.unusedVariables false
set_option linter.unusedSimpArgs false
open Go.RowKit
attribute [local go_sem ↓] Go.wp_at_zero Go.wp_at_succ

set_option maxHeartbeats 400000 in
theorem clone_strs (v : Value) (L : List ByteArray) (w : World) (hv : Rd w v L.length (srow L)) (hl : L.length * 16 ≤ 140737488355328) :
    Calls Tryz.prog 141 #[v] w fun e w' => ∃ a c, e = .returned (.slice a L.length c) ∧ w'.ownsRow w.heap.size 9 1 (.slice a L.length c) L.length (srow L) ∧ Below w.heap.size w w' := by
  obtain ⟨i0, hi, hz0, hz1, hz2⟩ := info_parts infoStr
  rcases id hv with ⟨rfl, hn, _⟩ | ⟨ad, cap, rfl, h1, h2, h3⟩
  · have hnil := fun (w : World) => Lib.run_eql_slice_nil (P := Tryz.prog) w 41 9 none 0 0 0 0 Tryz.underlying41
    have hL := List.eq_nil_of_length_eq_zero hn
    subst hL
    clear hv hl hn
    go_enter Tryz.func141, Tryz.ntmps141
    go_wp2
    go_ret
    exact ⟨none, 0, rfl, World.ownsRow_nil _ _ _ _, Below.refl _ _⟩
  · obtain ⟨n, hn⟩ : ∃ n, n = L.length := ⟨_, rfl⟩
    rw [← hn] at hv hl h1 ⊢
    have hnil := fun (w : World) => Lib.run_eql_slice_nil (P := Tryz.prog) w 41 9 (some ad) n cap 0 0 Tryz.underlying41
    have HV := hid hv
    have HN := hid (show (srow L).length = n * 1 by rw [srow_len, hn, Nat.mul_one])
    have HB := hid (srow_one L)
    have HI := hid hi
    have hem : (w.alloc (.cells #[] 9)).ownsRow w.heap.size 9 1 (.slice (some ⟨w.heap.size, 0, none⟩) 0 0) 0 [] := ownsRow_of_whole (heap_new w _) rfl (Nat.le_refl _) (by unfold maxLen; omega)
    have HE := hid hem
    clear hv hi h3 hn hem
    go_enter Tryz.func141, Tryz.ntmps141
    go_wp2_with (at_builtin; refine wpList_append_rd rfl _ _ 41 rfl w.heap.size 9 i0 _ 1 16 Tryz.underlying41 HI.out hz0 hz1 hz2 rfl (by decide) (.slice (some ⟨w.heap.size, 0, none⟩) 0 0) 0 [] rfl HE.out _ n (srow L) rfl (HV.out.alloc _) HN.out HB.out (by unfold maxLen; omega) (by omega) (by simp) ?_; intro a' c' w1 hown hgrow hat)
    go_ret
    simp only [Nat.zero_add, List.nil_append] at hown
    exact ⟨_, _, rfl, hown, (bl1 w _).grown hgrow (by simp) (by simp [Value.ownBlock])⟩


theorem skip_seq {P : Program} {a : Act} {w : World} {Q : Exit → Act → World → Prop} {c : Code} (h : c.wp P Q a w) : (Code.skip.seq c).wp P Q a w := wp_seq (wp_skip h)
theorem wp_scope_two {P : Program} {a : Act} {w : World} {Q : Exit → Act → World → Prop} {c r0 r1 : Code} (J : Nat → Act → World → Prop) (μ : Nat → Act → World → Nat) (hJ : ∀ l a w, J l a w → l = 0 ∨ l = 1) (h0 : findLabel c 0 = some (Code.skip.seq r0)) (h1 : findLabel c 1 = some (Code.skip.seq r1))
    (first : (∀ a w, J 1 a w → r1.wp P (jumpM J Q) a w) → c.wp P (jumpM J Q) a w)
    (pass0 : ∀ a w, J 0 a w → r0.wp P (jumpM (fun l' a' w' => J l' a' w' ∧ μ l' a' w' < μ 0 a w) Q) a w)
    (pass1 : ∀ a w, J 1 a w → r1.wp P (jumpM (fun l' a' w' => J l' a' w' ∧ μ l' a' w' < μ 1 a w) Q) a w) : (Code.scope c).wp P Q a w := by
  refine wp_scope_multi J μ (fun l => if l = 0 then Code.skip.seq r0 else Code.skip.seq r1) (fun l a w h => ?_) (first fun a w h => wp_mono (pass1 a w h) fun e a w hq => ?_) (fun l a w h => ?_)
  · rcases hJ l a w h with rfl | rfl
    · exact h0
    · exact h1
  · cases e with
    | goto l => exact hq.1
    | _ => exact hq
  · rcases hJ l a w h with rfl | rfl
    · exact skip_seq (pass0 a w h)
    · exact skip_seq (pass1 a w h)
theorem arr_range (a : Array Value) (n : Nat) (h : a.size = n) : a = ((List.range n).map fun i => a.getD i undef).toArray := by
  subst h
  apply Array.ext
  · simp
  · intro i h1 h2
    simp [Array.getD, h1]
theorem frame_all (a : Act) (h : a.tmps.size = 143) (hd : a.defers = []) : a = { tmps := #[a.tmps.getD 0 undef, a.tmps.getD 1 undef, a.tmps.getD 2 undef, a.tmps.getD 3 undef, a.tmps.getD 4 undef, a.tmps.getD 5 undef, a.tmps.getD 6 undef, a.tmps.getD 7 undef, a.tmps.getD 8 undef, a.tmps.getD 9 undef, a.tmps.getD 10 undef, a.tmps.getD 11 undef, a.tmps.getD 12 undef, a.tmps.getD 13 undef, a.tmps.getD 14 undef, a.tmps.getD 15 undef, a.tmps.getD 16 undef, a.tmps.getD 17 undef, a.tmps.getD 18 undef, a.tmps.getD 19 undef, a.tmps.getD 20 undef, a.tmps.getD 21 undef, a.tmps.getD 22 undef, a.tmps.getD 23 undef, a.tmps.getD 24 undef, a.tmps.getD 25 undef, a.tmps.getD 26 undef, a.tmps.getD 27 undef, a.tmps.getD 28 undef, a.tmps.getD 29 undef, a.tmps.getD 30 undef, a.tmps.getD 31 undef, a.tmps.getD 32 undef, a.tmps.getD 33 undef, a.tmps.getD 34 undef, a.tmps.getD 35 undef, a.tmps.getD 36 undef, a.tmps.getD 37 undef, a.tmps.getD 38 undef, a.tmps.getD 39 undef, a.tmps.getD 40 undef, a.tmps.getD 41 undef, a.tmps.getD 42 undef, a.tmps.getD 43 undef, a.tmps.getD 44 undef, a.tmps.getD 45 undef, a.tmps.getD 46 undef, a.tmps.getD 47 undef, a.tmps.getD 48 undef, a.tmps.getD 49 undef, a.tmps.getD 50 undef, a.tmps.getD 51 undef, a.tmps.getD 52 undef, a.tmps.getD 53 undef, a.tmps.getD 54 undef, a.tmps.getD 55 undef, a.tmps.getD 56 undef, a.tmps.getD 57 undef, a.tmps.getD 58 undef, a.tmps.getD 59 undef, a.tmps.getD 60 undef, a.tmps.getD 61 undef, a.tmps.getD 62 undef, a.tmps.getD 63 undef, a.tmps.getD 64 undef, a.tmps.getD 65 undef, a.tmps.getD 66 undef, a.tmps.getD 67 undef, a.tmps.getD 68 undef, a.tmps.getD 69 undef, a.tmps.getD 70 undef, a.tmps.getD 71 undef, a.tmps.getD 72 undef, a.tmps.getD 73 undef, a.tmps.getD 74 undef, a.tmps.getD 75 undef, a.tmps.getD 76 undef, a.tmps.getD 77 undef, a.tmps.getD 78 undef, a.tmps.getD 79 undef, a.tmps.getD 80 undef, a.tmps.getD 81 undef, a.tmps.getD 82 undef, a.tmps.getD 83 undef, a.tmps.getD 84 undef, a.tmps.getD 85 undef, a.tmps.getD 86 undef, a.tmps.getD 87 undef, a.tmps.getD 88 undef, a.tmps.getD 89 undef, a.tmps.getD 90 undef, a.tmps.getD 91 undef, a.tmps.getD 92 undef, a.tmps.getD 93 undef, a.tmps.getD 94 undef, a.tmps.getD 95 undef, a.tmps.getD 96 undef, a.tmps.getD 97 undef, a.tmps.getD 98 undef, a.tmps.getD 99 undef, a.tmps.getD 100 undef, a.tmps.getD 101 undef, a.tmps.getD 102 undef, a.tmps.getD 103 undef, a.tmps.getD 104 undef, a.tmps.getD 105 undef, a.tmps.getD 106 undef, a.tmps.getD 107 undef, a.tmps.getD 108 undef, a.tmps.getD 109 undef, a.tmps.getD 110 undef, a.tmps.getD 111 undef, a.tmps.getD 112 undef, a.tmps.getD 113 undef, a.tmps.getD 114 undef, a.tmps.getD 115 undef, a.tmps.getD 116 undef, a.tmps.getD 117 undef, a.tmps.getD 118 undef, a.tmps.getD 119 undef, a.tmps.getD 120 undef, a.tmps.getD 121 undef, a.tmps.getD 122 undef, a.tmps.getD 123 undef, a.tmps.getD 124 undef, a.tmps.getD 125 undef, a.tmps.getD 126 undef, a.tmps.getD 127 undef, a.tmps.getD 128 undef, a.tmps.getD 129 undef, a.tmps.getD 130 undef, a.tmps.getD 131 undef, a.tmps.getD 132 undef, a.tmps.getD 133 undef, a.tmps.getD 134 undef, a.tmps.getD 135 undef, a.tmps.getD 136 undef, a.tmps.getD 137 undef, a.tmps.getD 138 undef, a.tmps.getD 139 undef, a.tmps.getD 140 undef, a.tmps.getD 141 undef, a.tmps.getD 142 undef], defers := [] } := by
  obtain ⟨t, d⟩ := a
  simp only at h hd
  subst hd
  have h1 := arr_range t 143 h
  show Act.mk t [] = _
  have h2 : ((List.range 143).map fun i => t.getD i undef).toArray = #[t.getD 0 undef, t.getD 1 undef, t.getD 2 undef, t.getD 3 undef, t.getD 4 undef, t.getD 5 undef, t.getD 6 undef, t.getD 7 undef, t.getD 8 undef, t.getD 9 undef, t.getD 10 undef, t.getD 11 undef, t.getD 12 undef, t.getD 13 undef, t.getD 14 undef, t.getD 15 undef, t.getD 16 undef, t.getD 17 undef, t.getD 18 undef, t.getD 19 undef, t.getD 20 undef, t.getD 21 undef, t.getD 22 undef, t.getD 23 undef, t.getD 24 undef, t.getD 25 undef, t.getD 26 undef, t.getD 27 undef, t.getD 28 undef, t.getD 29 undef, t.getD 30 undef, t.getD 31 undef, t.getD 32 undef, t.getD 33 undef, t.getD 34 undef, t.getD 35 undef, t.getD 36 undef, t.getD 37 undef, t.getD 38 undef, t.getD 39 undef, t.getD 40 undef, t.getD 41 undef, t.getD 42 undef, t.getD 43 undef, t.getD 44 undef, t.getD 45 undef, t.getD 46 undef, t.getD 47 undef, t.getD 48 undef, t.getD 49 undef, t.getD 50 undef, t.getD 51 undef, t.getD 52 undef, t.getD 53 undef, t.getD 54 undef, t.getD 55 undef, t.getD 56 undef, t.getD 57 undef, t.getD 58 undef, t.getD 59 undef, t.getD 60 undef, t.getD 61 undef, t.getD 62 undef, t.getD 63 undef, t.getD 64 undef, t.getD 65 undef, t.getD 66 undef, t.getD 67 undef, t.getD 68 undef, t.getD 69 undef, t.getD 70 undef, t.getD 71 undef, t.getD 72 undef, t.getD 73 undef, t.getD 74 undef, t.getD 75 undef, t.getD 76 undef, t.getD 77 undef, t.getD 78 undef, t.getD 79 undef, t.getD 80 undef, t.getD 81 undef, t.getD 82 undef, t.getD 83 undef, t.getD 84 undef, t.getD 85 undef, t.getD 86 undef, t.getD 87 undef, t.getD 88 undef, t.getD 89 undef, t.getD 90 undef, t.getD 91 undef, t.getD 92 undef, t.getD 93 undef, t.getD 94 undef, t.getD 95 undef, t.getD 96 undef, t.getD 97 undef, t.getD 98 undef, t.getD 99 undef, t.getD 100 undef, t.getD 101 undef, t.getD 102 undef, t.getD 103 undef, t.getD 104 undef, t.getD 105 undef, t.getD 106 undef, t.getD 107 undef, t.getD 108 undef, t.getD 109 undef, t.getD 110 undef, t.getD 111 undef, t.getD 112 undef, t.getD 113 undef, t.getD 114 undef, t.getD 115 undef, t.getD 116 undef, t.getD 117 undef, t.getD 118 undef, t.getD 119 undef, t.getD 120 undef, t.getD 121 undef, t.getD 122 undef, t.getD 123 undef, t.getD 124 undef, t.getD 125 undef, t.getD 126 undef, t.getD 127 undef, t.getD 128 undef, t.getD 129 undef, t.getD 130 undef, t.getD 131 undef, t.getD 132 undef, t.getD 133 undef, t.getD 134 undef, t.getD 135 undef, t.getD 136 undef, t.getD 137 undef, t.getD 138 undef, t.getD 139 undef, t.getD 140 undef, t.getD 141 undef, t.getD 142 undef] := by kernel_rfl
  rw [← h2, ← h1]

def Ow.v (z : Ow) (ua : Option Addr) (uc : Nat) : Value := .agg #[.bool z.need, .agg #[.int .i64 z.key.dir, .string z.key.name], .int .i64 z.err, .agg #[.int .i64 z.node.id, .int .i64 z.node.kind, .int .i64 z.node.mode, .string z.node.target], .slice ua z.used.length uc]
theorem SI.fin {w w' w3 : World} {r o h x gs p : Nat} {fv : Value} {A : List Nd} {y : Nd} {ga ca : Nat} {T : List ByteArray} {ta : Option Addr} {tc : Nat} {U : List Ky} {ua : Option Addr} {uc : Nat} {k : Ky} {e : En}
    (s : SI w w' r o h x gs p fv A y ga ca T ta tc U ua uc k e) (hc : Chg (fun j => j = r ∨ j = o) w' w3) : w3.ownsRow w.heap.size 53 2 (.slice ua U.length uc) U.length (kyc U) ∧ Below w.heap.size w w3 := by
  refine ⟨ownsRow_chg s.used fun j hj hl => hc.block j hl ?_, s.below.trans (hc.toBelow s.below.size ?_)⟩
  · rintro (rfl | rfl)
    · exact own_ne s.used s.hr (by decide) hj
    · exact own_ne s.used s.ho (by decide) hj
  · rintro i hi (rfl | rfl)
    · exact absurd s.lo.1 (by omega)
    · exact absurd s.lo.2.1 (by omega)
theorem Chg.set1 {F : Nat → Prop} {w w' : World} (h : Chg F w w') (a : Addr) (v : Value) (ha : F a.block) : Chg F w (w'.setCell a v) := h.setCell a v (.inl ha)

noncomputable def wScope : Code := match Tryz.f116.body with | some (Code.seq _ (Code.scope c)) => c | _ => Code.skip
noncomputable def wRest (l : Nat) : Code := match findLabel wScope l with | some (Code.seq _ r) => r | _ => Code.skip
/-- the code behind n pieces; the code with something else behind n pieces -/
def sndN : Nat → Code → Code
  | 0, c => c
  | n + 1, .seq _ c => sndN n c
  | _, _ => .skip
def cutN : Nat → Code → Code → Code
  | 0, _, K => K
  | n + 1, .seq a c, K => .seq a (cutN n c K)
  | _, _, K => K
/-- what a return needs -/
def FinQ (Q : Exit → Act → World → Prop) (fresh L : List En) (wh : Int → Bool) (follow : Bool) (w : World) (T0 : List ByteArray) (dir0 : Bool) (links0 : Int) : Prop :=
  ∀ (a : Act) (w3 : World) (r : Nat) (z : Ow) (ua : Option Addr) (uc : Nat), a.tmps.getD 12 undef = .pointer (some ⟨r, 0, none⟩) → a.defers = [] →
    w3.heap[r]? = some (.cells #[.bool z.need, .int .i64 z.key.dir, .string z.key.name, .int .i64 z.err, .int .i64 z.node.id, .int .i64 z.node.kind, .int .i64 z.node.mode, .string z.node.target, .slice ua z.used.length uc] 176 (0, 0)) →
    Wk fresh L wh follow [] rootNd T0 dir0 links0 [] z → w3.ownsRow w.heap.size 53 2 (.slice ua z.used.length uc) z.used.length (kyc z.used) → Below w.heap.size w w3 → Q .ret a w3
set_option maxHeartbeats 2000000 in
theorem SI.ret9 {w w' w2 : World} {r o h x gs p : Nat} {fv : Value} {A : List Nd} {y : Nd} {ga ca : Nat} {T : List ByteArray} {ta : Option Addr} {tc : Nat} {U : List Ky} {ua : Option Addr} {uc : Nat} {k : Ky} {e : En}
    (s : SI w w' r o h x gs p fv A y ga ca T ta tc U ua uc k e) (hc : Chg (fun j => j = o) w' w2) (x0 x1 x2 x3 x4 x5 x6 x7 x8 : Value) :
    ((((((((((w2.setCell ⟨r, 0, none⟩ x0).setCell ⟨r, 1, none⟩ x1).setCell ⟨r, 2, none⟩ x2).setCell ⟨r, 3, none⟩ x3).setCell ⟨r, 4, none⟩ x4).setCell ⟨r, 5, none⟩ x5).setCell ⟨r, 6, none⟩ x6).setCell ⟨r, 7, none⟩ x7).setCell ⟨r, 8, none⟩ x8).heap[r]? = some (.cells #[x0, x1, x2, x3, x4, x5, x6, x7, x8] 176 (0, 0))) ∧
    (((((((((w2.setCell ⟨r, 0, none⟩ x0).setCell ⟨r, 1, none⟩ x1).setCell ⟨r, 2, none⟩ x2).setCell ⟨r, 3, none⟩ x3).setCell ⟨r, 4, none⟩ x4).setCell ⟨r, 5, none⟩ x5).setCell ⟨r, 6, none⟩ x6).setCell ⟨r, 7, none⟩ x7).setCell ⟨r, 8, none⟩ x8).ownsRow w.heap.size 53 2 (.slice ua U.length uc) U.length (kyc U) ∧
    Below w.heap.size w (((((((((w2.setCell ⟨r, 0, none⟩ x0).setCell ⟨r, 1, none⟩ x1).setCell ⟨r, 2, none⟩ x2).setCell ⟨r, 3, none⟩ x3).setCell ⟨r, 4, none⟩ x4).setCell ⟨r, 5, none⟩ x5).setCell ⟨r, 6, none⟩ x6).setCell ⟨r, 7, none⟩ x7).setCell ⟨r, 8, none⟩ x8) := by
  have hr := heap_chg hc s.hr s.hro
  have h9 := heap_set (heap_set (heap_set (heap_set (heap_set (heap_set (heap_set (heap_set (heap_set hr 0 x0) 1 x1) 2 x2) 3 x3) 4 x4) 5 x5) 6 x6) 7 x7) 8 x8
  simp only [List.setIfInBounds_toArray, List.set_cons_zero, List.set_cons_succ] at h9
  refine ⟨h9, s.fin ?_⟩
  iterate 9 refine Chg.set1 ?_ _ _ (.inl rfl)
  exact hc.mono fun _ _ h => .inr h

def muW (l : Nat) (a : Act) (_ : World) : Nat := if l = 0 then 0 else 1 + (intOf (a.tmps.getD 5 undef)).toNat * 100000 + (match a.tmps.getD 13 undef with | .slice _ n _ => n | _ => 0)

def Jst (fresh L : List En) (wh : Int → Bool) (follow : Bool) (w : World) (p : Nat) (fv : Value) (T0 : List ByteArray) (dir0 : Bool) (links0 : Int) (l : Nat) (a : Act) (w1 : World) : Prop :=
  (l = 0 ∨ l = 1) ∧ ∃ (r o h x gs : Nat) (dir : Bool) (links : Int) (A : List Nd) (y : Nd) (ga ca : Nat) (T : List ByteArray) (ta : Option Addr) (tc : Nat) (U : List Ky) (ua : Option Addr) (uc : Nat) (k : Ky) (e : En), (a.tmps.size = 143 ∧ a.defers = []) ∧ (a.tmps.getD 0 undef = .pointer (some ⟨p, 0, none⟩) ∧ a.tmps.getD 1 undef = fv ∧ a.tmps.getD 3 undef = .bool dir ∧ a.tmps.getD 4 undef = .bool follow ∧ a.tmps.getD 5 undef = .int .i64 links ∧ a.tmps.getD 12 undef = .pointer (some ⟨r, 0, none⟩) ∧ a.tmps.getD 13 undef = .slice ta T.length tc ∧ a.tmps.getD 14 undef = .slice (some ⟨gs, 0, none⟩) 3 3 ∧ a.tmps.getD 15 undef = .slice (some ⟨ga, 0, none⟩) (A.length + 1) ca ∧ a.tmps.getD 16 undef = .pointer (some ⟨o, 0, none⟩) ∧ a.tmps.getD 17 undef = .pointer (some ⟨h, 0, none⟩) ∧ a.tmps.getD 18 undef = .pointer (some ⟨x, 0, none⟩)) ∧ (l = 0 → T = []) ∧ Hid (SI w w1 r o h x gs p fv A y ga ca T ta tc U ua uc k e) ∧ 0 ≤ links ∧ links ≤ 8 ∧ T.length + 200 * links.toNat ≤ 10000 ∧ A.length + T.length + 200 * links.toNat ≤ 10000 ∧ U.length + T.length + 200 * links.toNat ≤ 10000 ∧ Hid (∀ z, Wk fresh L wh follow A y T dir links U z → Wk fresh L wh follow [] rootNd T0 dir0 links0 [] z)
theorem Jst.open {fresh L : List En} {wh : Int → Bool} {follow : Bool} {w : World} {p : Nat} {fv : Value} {T0 : List ByteArray} {dir0 : Bool} {links0 : Int} {l : Nat} {a : Act} {w1 : World} (hj : Jst fresh L wh follow w p fv T0 dir0 links0 l a w1) :
    ∃ (r o h x gs : Nat) (dir : Bool) (links : Int) (A : List Nd) (y : Nd) (ga ca : Nat) (T : List ByteArray) (ta : Option Addr) (tc : Nat) (U : List Ky) (ua : Option Addr) (uc : Nat) (k : Ky) (e : En) (u : Nat → Value), a = { tmps := #[.pointer (some ⟨p, 0, none⟩), fv, u 2, .bool dir, .bool follow, .int .i64 links, u 6, u 7, u 8, u 9, u 10, u 11, .pointer (some ⟨r, 0, none⟩), .slice ta T.length tc, .slice (some ⟨gs, 0, none⟩) 3 3, .slice (some ⟨ga, 0, none⟩) (A.length + 1) ca, .pointer (some ⟨o, 0, none⟩), .pointer (some ⟨h, 0, none⟩), .pointer (some ⟨x, 0, none⟩), u 19, u 20, u 21, u 22, u 23, u 24, u 25, u 26, u 27, u 28, u 29, u 30, u 31, u 32, u 33, u 34, u 35, u 36, u 37, u 38, u 39, u 40, u 41, u 42, u 43, u 44, u 45, u 46, u 47, u 48, u 49, u 50, u 51, u 52, u 53, u 54, u 55, u 56, u 57, u 58, u 59, u 60, u 61, u 62, u 63, u 64, u 65, u 66, u 67, u 68, u 69, u 70, u 71, u 72, u 73, u 74, u 75, u 76, u 77, u 78, u 79, u 80, u 81, u 82, u 83, u 84, u 85, u 86, u 87, u 88, u 89, u 90, u 91, u 92, u 93, u 94, u 95, u 96, u 97, u 98, u 99, u 100, u 101, u 102, u 103, u 104, u 105, u 106, u 107, u 108, u 109, u 110, u 111, u 112, u 113, u 114, u 115, u 116, u 117, u 118, u 119, u 120, u 121, u 122, u 123, u 124, u 125, u 126, u 127, u 128, u 129, u 130, u 131, u 132, u 133, u 134, u 135, u 136, u 137, u 138, u 139, u 140, u 141, u 142], defers := [] } ∧ (l = 0 → T = []) ∧ Hid (SI w w1 r o h x gs p fv A y ga ca T ta tc U ua uc k e) ∧ 0 ≤ links ∧ links ≤ 8 ∧ T.length + 200 * links.toNat ≤ 10000 ∧ A.length + T.length + 200 * links.toNat ≤ 10000 ∧ U.length + T.length + 200 * links.toNat ≤ 10000 ∧ Hid (∀ z, Wk fresh L wh follow A y T dir links U z → Wk fresh L wh follow [] rootNd T0 dir0 links0 [] z) := by
  obtain ⟨_, r, o, h, x, gs, dir, links, A, y, ga, ca, T, ta, tc, U, ua, uc, k, e, ⟨hs, hd⟩, ⟨h_0, h_1, h_3, h_4, h_5, h_12, h_13, h_14, h_15, h_16, h_17, h_18⟩, hr⟩ := hj
  refine ⟨r, o, h, x, gs, dir, links, A, y, ga, ca, T, ta, tc, U, ua, uc, k, e, fun i => a.tmps.getD i undef, ?_, hr⟩
  have h1 := frame_all a hs hd
  rw [h_0, h_1, h_3, h_4, h_5, h_12, h_13, h_14, h_15, h_16, h_17, h_18] at h1
  exact h1

/-- a frame of the walk -/
def Fst (a : Act) (r o h x gs p : Nat) (fv : Value) (follow dir : Bool) (links : Int) (A : List Nd) (ga ca : Nat) (T : List ByteArray) (ta : Option Addr) (tc : Nat) : Prop := (a.tmps.size = 143 ∧ a.defers = []) ∧ (a.tmps.getD 0 undef = .pointer (some ⟨p, 0, none⟩) ∧ a.tmps.getD 1 undef = fv ∧ a.tmps.getD 3 undef = .bool dir ∧ a.tmps.getD 4 undef = .bool follow ∧ a.tmps.getD 5 undef = .int .i64 links ∧ a.tmps.getD 12 undef = .pointer (some ⟨r, 0, none⟩) ∧ a.tmps.getD 13 undef = .slice ta T.length tc ∧ a.tmps.getD 14 undef = .slice (some ⟨gs, 0, none⟩) 3 3 ∧ a.tmps.getD 15 undef = .slice (some ⟨ga, 0, none⟩) (A.length + 1) ca ∧ a.tmps.getD 16 undef = .pointer (some ⟨o, 0, none⟩) ∧ a.tmps.getD 17 undef = .pointer (some ⟨h, 0, none⟩) ∧ a.tmps.getD 18 undef = .pointer (some ⟨x, 0, none⟩))
set_option maxHeartbeats 1000000 in
theorem Fst.open {a : Act} {r o h x gs p : Nat} {fv : Value} {follow dir : Bool} {links : Int} {A : List Nd} {ga ca : Nat} {T : List ByteArray} {ta : Option Addr} {tc : Nat} (hj : Fst a r o h x gs p fv follow dir links A ga ca T ta tc) : ∃ u : Nat → Value, a = { tmps := #[.pointer (some ⟨p, 0, none⟩), fv, u 2, .bool dir, .bool follow, .int .i64 links, u 6, u 7, u 8, u 9, u 10, u 11, .pointer (some ⟨r, 0, none⟩), .slice ta T.length tc, .slice (some ⟨gs, 0, none⟩) 3 3, .slice (some ⟨ga, 0, none⟩) (A.length + 1) ca, .pointer (some ⟨o, 0, none⟩), .pointer (some ⟨h, 0, none⟩), .pointer (some ⟨x, 0, none⟩), u 19, u 20, u 21, u 22, u 23, u 24, u 25, u 26, u 27, u 28, u 29, u 30, u 31, u 32, u 33, u 34, u 35, u 36, u 37, u 38, u 39, u 40, u 41, u 42, u 43, u 44, u 45, u 46, u 47, u 48, u 49, u 50, u 51, u 52, u 53, u 54, u 55, u 56, u 57, u 58, u 59, u 60, u 61, u 62, u 63, u 64, u 65, u 66, u 67, u 68, u 69, u 70, u 71, u 72, u 73, u 74, u 75, u 76, u 77, u 78, u 79, u 80, u 81, u 82, u 83, u 84, u 85, u 86, u 87, u 88, u 89, u 90, u 91, u 92, u 93, u 94, u 95, u 96, u 97, u 98, u 99, u 100, u 101, u 102, u 103, u 104, u 105, u 106, u 107, u 108, u 109, u 110, u 111, u 112, u 113, u 114, u 115, u 116, u 117, u 118, u 119, u 120, u 121, u 122, u 123, u 124, u 125, u 126, u 127, u 128, u 129, u 130, u 131, u 132, u 133, u 134, u 135, u 136, u 137, u 138, u 139, u 140, u 141, u 142], defers := [] } := by
  obtain ⟨⟨hs, hd⟩, ⟨h_0, h_1, h_3, h_4, h_5, h_12, h_13, h_14, h_15, h_16, h_17, h_18⟩⟩ := hj
  refine ⟨fun i => a.tmps.getD i undef, ?_⟩
  have h1 := frame_all a hs hd
  rw [h_0, h_1, h_3, h_4, h_5, h_12, h_13, h_14, h_15, h_16, h_17, h_18] at h1
  exact h1

end Go.Proofs.YtbjibkjenleloaaGreatDoor

end
