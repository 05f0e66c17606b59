/- Parts of a proof about the given program, in build order: WlkB, LibG, WlkC. No condition. -/
import Derived.Test.YtbjibkjenleloaaGreatDoorMg06
import Derived.Test.YtbjibkjenleloaaGreatDoorMg07
import Derived.WalkKit
import Derived.Deep.RegionHeld3
section
namespace Go.Proofs.YtbjibkjenleloaaGreatDoor
set_option linter.unusedVariables false
set_option linter.unusedSimpArgs false
open Go.RowKit
attribute [local go_sem ↓] Go.wp_at_zero Go.wp_at_succ

set_option maxHeartbeats 400000 in
theorem close_key (q : Nat) (k : Ky) (x : En) (w : World) (hq : w.heap[q]? = some (.cells #[.int .i64 k.dir, .string k.name] 53 (0, 0))) :
    Calls Tryz.prog 213 #[x.v, .pointer (some ⟨q, 0, none⟩)] w fun e w' => e = .returned (.bool (isK k x)) ∧ Below w.heap.size w w' := by
  have bx := blk7 (heap_new w (.cells #[.int .i64 x.key.dir, .string x.key.name, .bool x.neg, .int .i64 x.node.id, .int .i64 x.node.kind, .int .i64 x.node.mode, .string x.node.target] 55))
  have b0 := blk2 (heap_old hq (.cells #[.int .i64 x.key.dir, .string x.key.name, .bool x.neg, .int .i64 x.node.id, .int .i64 x.node.kind, .int .i64 x.node.mode, .string x.node.target] 55))
  have heq := fun W => eqIn_key x.key.dir k.dir x.key.name k.name W
  have HI := hid (show isK k x = (decide (x.key.dir = k.dir) && decide (x.key.name = k.name)) by
    unfold isK
    rw [Bool.eq_iff_iff, Bool.and_eq_true, decide_eq_true_iff, decide_eq_true_iff, decide_eq_true_iff]
    exact ⟨fun h => by rw [h]; exact ⟨rfl, rfl⟩, fun ⟨h1, h2⟩ => by cases k; cases hx : x.key; rw [hx] at h1 h2; simp only at h1 h2; rw [h1, h2]⟩)
  unfold En.v
  clear hq
  go_enter Tryz.func213, Tryz.ntmps213
  go_wp2_with fail
  go_ret
  exact ⟨by rw [HI.out]; rfl, bl1 w _⟩

/-- a row of entries, at any place -/
theorem ens_at {w wr : World} {b off n c m : Nat} {L : List En} (h : Rd w (.slice (some ⟨b, off, none⟩) n c) m (ecs L)) (hb : Below w.heap.size w wr) {k : Nat} {x : En} (hx : L[k]? = some x) :
    wr.cell? ⟨b, off + k * 7, none⟩ = some (.int .i64 x.key.dir) ∧ wr.cell? ⟨b, off + k * 7 + 1, none⟩ = some (.string x.key.name) ∧ wr.cell? ⟨b, off + k * 7 + 2, none⟩ = some (.bool x.neg) ∧ wr.cell? ⟨b, off + k * 7 + 3, none⟩ = some (.int .i64 x.node.id) ∧ wr.cell? ⟨b, off + k * 7 + 4, none⟩ = some (.int .i64 x.node.kind) ∧ wr.cell? ⟨b, off + k * 7 + 5, none⟩ = some (.int .i64 x.node.mode) ∧ wr.cell? ⟨b, off + k * 7 + 6, none⟩ = some (.string x.node.target) := by
  have g0 : ∀ (i : Nat) (v : Value), x.cells[i]? = some v → wr.cell? ⟨b, off + k * 7 + i, none⟩ = some v := fun i v hi => by
    have := (h.below hb).at _ _ (flatMap_at (f := En.cells) (sz := 7) (fun _ => rfl) hx hi)
    rw [← Nat.add_assoc] at this
    exact this
  exact ⟨g0 0 _ rfl, g0 1 _ rfl, g0 2 _ rfl, g0 3 _ rfl, g0 4 _ rfl, g0 5 _ rfl, g0 6 _ rfl⟩
theorem ens_len (L : List En) : (ecs L).length = L.length * 7 := flatMap_len (f := En.cells) (sz := 7) (fun _ => rfl) L
theorem ens_loc {w : World} {a : Option Addr} {n c m : Nat} {L : List En} (h : Rd w (.slice a n c) m (ecs L)) (hl : 0 < L.length) : ∃ b o, a = some ⟨b, o, none⟩ := by
  obtain ⟨b, o, c', hv, _⟩ := h.form (by rw [ens_len]; omega)
  simp only [Value.slice.injEq] at hv
  exact ⟨b, o, hv.1⟩

set_option maxHeartbeats 1000000 in
theorem index_list (v : Value) (L : List En) (k0 : Ky) (q : Nat) (w : World) (hv : Rd w v L.length (ecs L)) (hq : w.heap[q]? = some (.cells #[.int .i64 k0.dir, .string k0.name] 53 (0, 0))) :
    Calls Tryz.prog 212 #[v, .func (.func 213) #[] #[.pointer (some ⟨q, 0, none⟩)]] w fun e w' => Hid ((∃ (k : Nat) (x : En), L[k]? = some x ∧ e = .returned (.int .i64 k) ∧ findL k0 L = some x) ∨ (e = .returned (.int .i64 (-1)) ∧ findL k0 L = none)) ∧ Below w.heap.size w w' := by
  have hlen := hv.len
  unfold maxLen at hlen
  obtain ⟨a, c, rfl, _, _⟩ := hv.shape
  have HV := hid hv
  have HQ := hid hq
  clear hv hq
  go_enter Tryz.func212, Tryz.ntmps212
  go_wp2_with fail
  go_loopw [8] (fun v8 wr => ∃ k : Nat, k ≤ L.length ∧ v8 = .int .i64 k ∧ Hid ((L.take k).find? (isK k0) = none) ∧ Hid (Below w.heap.size w wr)) (fun v8 _ => L.length - (intOf v8).toNat)
  case atStart => exact ⟨0, Nat.zero_le _, rfl, hid (by simp), hid (Below.refl _ _)⟩
  case round =>
    obtain ⟨k, hk, rfl, HT, HB⟩ := hrel
    by_cases hlt : k < L.length
    · obtain ⟨b, off, rfl⟩ := ens_loc HV.out (by omega)
      obtain ⟨x, hx⟩ : ∃ x, L[k]? = some x := ⟨_, List.getElem?_eq_getElem hlt⟩
      have c1 := ens_at HV.out HB.out hx
      have HX := hid hx
      have HQr := hid (heap_below HB.out HQ.out (blk_lt HQ.out))
      have hk0 : (0 : Int) ≤ (k : Int) := by omega
      have hk1 : (k : Int) < (L.length : Int) := by omega
      have HSP := hid (show L = L.take k ++ x :: L.drop (k + 1) by
        obtain ⟨hl, hz⟩ := List.getElem?_eq_some_iff.1 hx
        rw [← hz, ← List.drop_eq_getElem_cons hl, List.take_append_drop])
      clear hx
      cases hd : isK k0 x with
      | true =>
        have HD := hid hd
        have HF := hid (show findL k0 L = some x by unfold findL; rw [HSP.out, List.find?_append, HT.out]; simp [hd])
        clear hd
        go_wp2_with (go_at_call 213; refine (close_key q k0 x _ HQr.out).mono ?_; rintro e w1 ⟨rfl, hb1⟩; rw [HD.out])
        go_ret
        exact ⟨hid (.inl ⟨k, x, HX.out, rfl, HF.out⟩), HB.out.trans (hb1.mono HB.out.size)⟩
      | false =>
        have HD := hid hd
        have HN := hid (show (L.take (k + 1)).find? (isK k0) = none by rw [List.take_add_one, HX.out, List.find?_append, HT.out]; simp [hd])
        clear hd
        go_wp2_with (go_at_call 213; refine (close_key q k0 x _ HQr.out).mono ?_; rintro e w1 ⟨rfl, hb1⟩; rw [HD.out])
        exact ⟨⟨k + 1, by omega, by go_num, HN, hid (HB.out.trans (hb1.mono HB.out.size))⟩, by simp [intOf]; omega⟩
    · have HE := hid (show findL k0 L = none by have := HT.out; rwa [List.take_of_length_le (by omega)] at this)
      go_wp2
      go_ret
      exact ⟨hid (.inr ⟨rfl, HE.out⟩), HB.out⟩

set_option maxHeartbeats 1000000 in
theorem list_get (v : Value) (L : List En) (k : Ky) (w : World) (hv : Rd w v L.length (ecs L)) :
    Calls Tryz.prog 211 #[v, .agg #[.int .i64 k.dir, .string k.name]] w fun r w' => r = .returned (.tuple #[(getE k L).v, .bool (findL k L).isSome]) ∧ Below w.heap.size w w' := by
  have HV := hid hv
  obtain ⟨a, c, rfl, _, _⟩ := hv.shape
  have HB2 := hid (bl2 w (.cells #[.int .i64 k.dir, .string k.name] 53) (.cells #[.int .i64 0, .string { data := #[] }, .bool false, .int .i64 0, .int .i64 0, .int .i64 0, .string { data := #[] }] 55))
  have HK := hid (heap_old (heap_new w (.cells #[.int .i64 k.dir, .string k.name] 53)) (.cells #[.int .i64 0, .string { data := #[] }, .bool false, .int .i64 0, .int .i64 0, .int .i64 0, .string { data := #[] }] 55))
  have HE4 := hid (heap_new (w.alloc (.cells #[.int .i64 k.dir, .string k.name] 53)) (.cells #[.int .i64 0, .string { data := #[] }, .bool false, .int .i64 0, .int .i64 0, .int .i64 0, .string { data := #[] }] 55))
  clear hv
  go_enter Tryz.func211, Tryz.ntmps211
  go_wp2_with fail
  refine (index_list _ L k w.heap.size _ (HV.out.below HB2.out) HK.out).mono ?_; rintro e w2 ⟨hc, hb2⟩
  have HB3 := hid (HB2.out.trans (hb2.mono (by simp only [World.size_alloc]; omega)))
  have H4 := hid (heap_below hb2 HE4.out (by simp))
  have b4 := blk7 H4.out
  simp only [World.size_alloc] at b4
  rcases hc.out with ⟨j, x, hx, rfl, hf⟩ | ⟨rfl, hf⟩
  · have HG := hid (show getE k L = x by rw [getE, hf]; rfl)
    have HF := hid (show (findL k L).isSome = true by rw [hf]; rfl)
    have hj : j < L.length := (List.getElem?_eq_some_iff.1 hx).1
    obtain ⟨b, o, rfl⟩ := ens_loc HV.out (by omega)
    have c1 := ens_at HV.out HB3.out hx
    have hlen := HV.out.len
    unfold maxLen at hlen
    have hj0 : (0 : Int) ≤ (j : Int) := by omega
    have hj1 : (j : Int) < (L.length : Int) := by omega
    obtain ⟨cur, hcur⟩ : ∃ cur, w2.heap[w.heap.size + 1]? = some (.cells cur 55 (0, 0)) := ⟨_, by have := H4.out; simpa using this⟩
    have hfz := fun i => blk_free hcur i
    clear hx hf hc hb2 hcur
    go_wp2_with fail
    rw [HG.out, HF.out]
    refine bodyPost_ret (v := .tuple #[x.v, .bool true]) (by simp [results, Tryz.results211, go_sem, En.v, b4]) rfl ⟨rfl, ?_⟩
    exact ((((((HB3.out.setCell (by simp) _).setCell (by simp) _).setCell (by simp) _).setCell (by simp) _).setCell (by simp) _).setCell (by simp) _).setCell (by simp) _
  · have HG := hid (show getE k L = zeroE by rw [getE, hf]; rfl)
    have HF := hid (show (findL k L).isSome = false by rw [hf]; rfl)
    obtain ⟨cur, hcur⟩ : ∃ cur, w2.heap[w.heap.size + 1]? = some (.cells cur 55 (0, 0)) := ⟨_, by have := H4.out; simpa using this⟩
    have hfz := fun i => blk_free hcur i
    clear hf hc hb2 hcur
    go_wp2_with fail
    rw [HG.out, HF.out]
    refine bodyPost_ret (v := .tuple #[zeroE.v, .bool false]) (by simp [results, Tryz.results211, go_sem, En.v, zeroE, b4]; rfl) rfl ⟨rfl, ?_⟩
    exact ((((((HB3.out.setCell (by simp) _).setCell (by simp) _).setCell (by simp) _).setCell (by simp) _).setCell (by simp) _).setCell (by simp) _).setCell (by simp) _

end Go.Proofs.YtbjibkjenleloaaGreatDoor

end

/- The moves of a region that draws its order, one by one: for guards that are false, and calls that make memory. -/
section
namespace Go.Proofs.YtbjibkjenleloaaGreatDoor
set_option linter.unusedVariables false
set_option linter.unusedSimpArgs false

section
variable {P : Program} {ol : List Oper} {Q : Exit → Act → World → Prop} {md : Region.Mode} {S : World → Prop}

theorem at_of_drop {i : Nat} {oi : Oper} {rest : List Oper} (h : ol.drop i = oi :: rest) : ol.toArray[i]? = some oi := by
  have h1 : (ol.drop i)[0]? = some oi := by rw [h]; rfl
  rw [List.getElem?_drop, Nat.add_zero] at h1
  simpa using h1

theorem held_take (i : Nat) {oi : Oper} {rest : List Oper} {v : Value} {fuel : Nat} {listed : Array Bool} {a : Act} {w : World} (hi : ol.drop i = oi :: rest)
    (hs : Region.noSelect ol.toArray = true) (hf : Region.free md ol.toArray listed i = true) (hr : (Region.ready md ol.toArray listed).contains i = true)
    (hQ : ∀ c a w, Q (.panic c) (a.put oi.dst v) w → Q (.panic c) a w) (hS : S w) (hw : Region.wanted oi (yielded ol.toArray a.tmps) = true)
    (hy : ∀ w, S w → (execOp a.eval oi).run P w = .ok (.value v) w)
    (h : wpAnyH P md ol.toArray Q S fuel (listed.setIfInBounds i true) (a.put oi.dst v) w) : wpAnyH P md ol.toArray Q S (fuel + 1) listed a w :=
  wpAnyH_take (at_of_drop hi) hs hf hr hQ (.inl ⟨hw, hy⟩) hS h

theorem held_skip (i : Nat) {oi : Oper} {rest : List Oper} {fuel : Nat} {listed : Array Bool} {a : Act} {w : World} (hi : ol.drop i = oi :: rest)
    (hs : Region.noSelect ol.toArray = true) (hf : Region.free md ol.toArray listed i = true) (hr : (Region.ready md ol.toArray listed).contains i = true)
    (hQ : ∀ c a w, Q (.panic c) (a.put oi.dst undef) w → Q (.panic c) a w) (hS : S w) (hw : Region.wanted oi (yielded ol.toArray a.tmps) = false)
    (h : wpAnyH P md ol.toArray Q S fuel (listed.setIfInBounds i true) (a.put oi.dst undef) w) : wpAnyH P md ol.toArray Q S (fuel + 1) listed a w :=
  wpAnyH_take (at_of_drop hi) hs hf hr hQ (.inr ⟨hw, rfl⟩) hS h

/-- what has an effect, where nothing else may come up -/
theorem held_step (i : Nat) {oi : Oper} {rest : List Oper} {fuel : Nat} {listed : Array Bool} {a : Act} {w : World} (hi : ol.drop i = oi :: rest) (hr : Region.ready md ol.toArray listed = [i])
    (hw : Region.wanted oi (yielded ol.toArray a.tmps) = true)
    (h : ∀ K' : Act → World → Prop, Shut (∀ a w, S w → (S w → wpAnyH P md ol.toArray Q S fuel (listed.setIfInBounds i true) a w) → K' a w) → Oper.wp P oi a w K' Q) : wpAnyH P md ol.toArray Q S (fuel + 1) listed a w :=
  wpAnyH_ready hr (by simp) (AllReadyH.cons (at_of_drop hi) (fun K' hK => by rw [if_pos hw]; exact h K' hK) AllReadyH.nil)

theorem held_start {id : Nat} (S : World → Prop) {a : Act} {w : World} (hm : P.follows .mixedOrders = true) (hS : S w.drew)
    (h : S w.drew → wpAnyH P .any ol.toArray Q S ol.toArray.size (Array.replicate ol.toArray.size false) a w.drew) : (Code.region id ol.toArray true).wp P Q a w :=
  wp_region_held_drew hm hS h
end
end Go.Proofs.YtbjibkjenleloaaGreatDoor

end

section
namespace Go.Proofs.YtbjibkjenleloaaGreatDoor
set_option linter.unusedVariables false
set_option linter.unusedSimpArgs false
open Go.RowKit
attribute [local go_sem ↓] Go.wp_at_zero Go.wp_at_succ

theorem r3cells {w : World} {a b : Nat} {v0 v1 v2 : Value} {T U : TypeId} (h1 : w.heap[a]? = some (.cells #[v0] T (0, 0))) (h2 : w.heap[b]? = some (.cells #[v1, v2] U (0, 0))) : w.cell? ⟨a, 0, none⟩ = some v0 ∧ w.cell? ⟨b, 0, none⟩ = some v1 ∧ w.cell? ⟨b, 1, none⟩ = some v2 := ⟨(blk1 h1).1, (blk2 h2).1, (blk2 h2).2.1⟩
theorem cell_other {w : World} {g i : Nat} {u v : Value} {l : Addr} (h : w.cell? l = some v) (hn : l.block ≠ g) : (w.setCell ⟨g, i, none⟩ u).cell? l = some v := by
  rw [World.cell?_of_block (w := w) (Below.heap_setCell _ _ _ _ hn)]; exact h
theorem cells_other {w : World} {g i : Nat} {u v0 v1 v2 : Value} {a b : Nat} (h : w.cell? ⟨a, 0, none⟩ = some v0 ∧ w.cell? ⟨b, 0, none⟩ = some v1 ∧ w.cell? ⟨b, 1, none⟩ = some v2) (ha : a ≠ g) (hb : b ≠ g) :
    (w.setCell ⟨g, i, none⟩ u).cell? ⟨a, 0, none⟩ = some v0 ∧ (w.setCell ⟨g, i, none⟩ u).cell? ⟨b, 0, none⟩ = some v1 ∧ (w.setCell ⟨g, i, none⟩ u).cell? ⟨b, 1, none⟩ = some v2 := ⟨cell_other h.1 ha, cell_other h.2.1 hb, cell_other h.2.2 hb⟩

set_option maxRecDepth 100000 in
set_option maxHeartbeats 1000000 in
theorem rest_get (w : World) (B p n : Nat) (L : List En) (wh : Int → Bool) (k : Ky) (h : CAt w B p n L wh) :
    Calls Tryz.prog 214 #[.agg #[.pointer (some ⟨p, 0, none⟩)], .agg #[.int .i64 k.dir, .string k.name]] w fun r w' => r = .returned (.tuple #[(En.mk k true ⟨0, 0, 0, ByteArray.empty⟩).v, .bool (wh k.dir)]) ∧ Below w.heap.size w w' := by
  have HB := hid (show Below w.heap.size w (((w.alloc (.cells #[.pointer (some ⟨p, 0, none⟩)] 203)).alloc (.cells #[.int .i64 k.dir, .string k.name] 53)).alloc (.cells #[.int .i64 0, .string { data := #[] }, .bool false, .int .i64 0, .int .i64 0, .int .i64 0, .string { data := #[] }] 55)) from bl3 w _ _ _)
  have HC := hid (show CAt (World.drew (((w.alloc (.cells #[.pointer (some ⟨p, 0, none⟩)] 203)).alloc (.cells #[.int .i64 k.dir, .string k.name] 53)).alloc (.cells #[.int .i64 0, .string { data := #[] }, .bool false, .int .i64 0, .int .i64 0, .int .i64 0, .string { data := #[] }] 55))) B p n L wh from h.below (HB.out.drew))
  have h2 := heap_old (heap_old (heap_new w (.cells #[.pointer (some ⟨p, 0, none⟩)] 203)) (.cells #[.int .i64 k.dir, .string k.name] 53)) (.cells #[.int .i64 0, .string { data := #[] }, .bool false, .int .i64 0, .int .i64 0, .int .i64 0, .string { data := #[] }] 55)
  have h3 := heap_old (heap_new (w.alloc (.cells #[.pointer (some ⟨p, 0, none⟩)] 203)) (.cells #[.int .i64 k.dir, .string k.name] 53)) (.cells #[.int .i64 0, .string { data := #[] }, .bool false, .int .i64 0, .int .i64 0, .int .i64 0, .string { data := #[] }] 55)
  have h4 := heap_new ((w.alloc (.cells #[.pointer (some ⟨p, 0, none⟩)] 203)).alloc (.cells #[.int .i64 k.dir, .string k.name] 53)) (.cells #[.int .i64 0, .string { data := #[] }, .bool false, .int .i64 0, .int .i64 0, .int .i64 0, .string { data := #[] }] 55)
  have hz1 : (w.alloc (.cells #[.pointer (some ⟨p, 0, none⟩)] 203)).heap.size = w.heap.size + 1 := by simp
  have hz2 : ((w.alloc (.cells #[.pointer (some ⟨p, 0, none⟩)] 203)).alloc (.cells #[.int .i64 k.dir, .string k.name] 53)).heap.size = w.heap.size + 1 + 1 := by simp
  rw [hz1] at h3
  rw [hz2] at h4
  have b2 := blk1 h2
  have b3 := blk2 h3
  have b4 := blk7 h4
  have hS0 := r3cells (show (World.drew (((w.alloc (.cells #[.pointer (some ⟨p, 0, none⟩)] 203)).alloc (.cells #[.int .i64 k.dir, .string k.name] 53)).alloc (.cells #[.int .i64 0, .string { data := #[] }, .bool false, .int .i64 0, .int .i64 0, .int .i64 0, .string { data := #[] }] 55))).heap[w.heap.size]? = _ from h2) (show (World.drew (((w.alloc (.cells #[.pointer (some ⟨p, 0, none⟩)] 203)).alloc (.cells #[.int .i64 k.dir, .string k.name] 53)).alloc (.cells #[.int .i64 0, .string { data := #[] }, .bool false, .int .i64 0, .int .i64 0, .int .i64 0, .string { data := #[] }] 55))).heap[w.heap.size + 1]? = _ from h3)
  have h2e := heap_old (heap_old (heap_new w (.cells #[.pointer (some ⟨p, 0, none⟩)] 203)) (.cells #[.int .i64 k.dir, .string k.name] 53)) (.cells #[.int .i64 k.dir, .string k.name, .bool true, .int .i64 0, .int .i64 0, .int .i64 0, .string { data := #[] }] 55)
  have h3e := heap_old (heap_new (w.alloc (.cells #[.pointer (some ⟨p, 0, none⟩)] 203)) (.cells #[.int .i64 k.dir, .string k.name] 53)) (.cells #[.int .i64 k.dir, .string k.name, .bool true, .int .i64 0, .int .i64 0, .int .i64 0, .string { data := #[] }] 55)
  have h4e := heap_new ((w.alloc (.cells #[.pointer (some ⟨p, 0, none⟩)] 203)).alloc (.cells #[.int .i64 k.dir, .string k.name] 53)) (.cells #[.int .i64 k.dir, .string k.name, .bool true, .int .i64 0, .int .i64 0, .int .i64 0, .string { data := #[] }] 55)
  rw [hz1] at h3e
  rw [hz2] at h4e
  have hS1 := r3cells (show (World.drew (((w.alloc (.cells #[.pointer (some ⟨p, 0, none⟩)] 203)).alloc (.cells #[.int .i64 k.dir, .string k.name] 53)).alloc (.cells #[.int .i64 k.dir, .string k.name, .bool true, .int .i64 0, .int .i64 0, .int .i64 0, .string { data := #[] }] 55))).heap[w.heap.size]? = _ from h2e) (show (World.drew (((w.alloc (.cells #[.pointer (some ⟨p, 0, none⟩)] 203)).alloc (.cells #[.int .i64 k.dir, .string k.name] 53)).alloc (.cells #[.int .i64 k.dir, .string k.name, .bool true, .int .i64 0, .int .i64 0, .int .i64 0, .string { data := #[] }] 55))).heap[w.heap.size + 1]? = _ from h3e)
  have b4d := blk7 (show (World.drew (((w.alloc (.cells #[.pointer (some ⟨p, 0, none⟩)] 203)).alloc (.cells #[.int .i64 k.dir, .string k.name] 53)).alloc (.cells #[.int .i64 k.dir, .string k.name, .bool true, .int .i64 0, .int .i64 0, .int .i64 0, .string { data := #[] }] 55))).heap[w.heap.size + 1 + 1]? = _ from h4e)
  have HBE := hid (show Below w.heap.size w (World.drew (((w.alloc (.cells #[.pointer (some ⟨p, 0, none⟩)] 203)).alloc (.cells #[.int .i64 k.dir, .string k.name] 53)).alloc (.cells #[.int .i64 k.dir, .string k.name, .bool true, .int .i64 0, .int .i64 0, .int .i64 0, .string { data := #[] }] 55))) from (bl3 w (.cells #[.pointer (some ⟨p, 0, none⟩)] 203) (.cells #[.int .i64 k.dir, .string k.name] 53) (.cells #[.int .i64 k.dir, .string k.name, .bool true, .int .i64 0, .int .i64 0, .int .i64 0, .string { data := #[] }] 55)).drew)
  clear h h2 h3 h4 hz1 hz2 h2e h3e h4e
  go_enter Tryz.func214, Tryz.ntmps214
  go_wp2_with fail
  refine held_start (fun w' => w'.cell? ⟨w.heap.size, 0, none⟩ = some (.pointer (some ⟨p, 0, none⟩)) ∧ w'.cell? ⟨w.heap.size + 1, 0, none⟩ = some (.int .i64 k.dir) ∧ w'.cell? ⟨w.heap.size + 1, 1, none⟩ = some (.string k.name)) (by kernel_rfl) ?_ (fun hHeld => ?_)
  · with_reducible first | exact hS0 | exact hS1
  refine held_take 0 rfl (by kernel_rfl) (by kernel_rfl) (by kernel_rfl) (fun _ _ _ h => h) hHeld (by rfl) (v := ?_) ?_ ?_
  rotate_left
  · intro w hSw; (try dsimp only at hSw); (try go_simp); (try with_reducible rfl)
  try simp only [Act.put, List.setIfInBounds_toArray, List.set_cons_zero, List.set_cons_succ]
  refine held_take 1 rfl (by kernel_rfl) (by kernel_rfl) (by kernel_rfl) (fun _ _ _ h => h) hHeld (by rfl) (v := ?_) ?_ ?_
  rotate_left
  · intro w hSw; (try dsimp only at hSw); (try go_simp); (try with_reducible rfl)
  try simp only [Act.put, List.setIfInBounds_toArray, List.set_cons_zero, List.set_cons_succ]
  refine held_take 2 rfl (by kernel_rfl) (by kernel_rfl) (by kernel_rfl) (fun _ _ _ h => h) hHeld (by rfl) (v := ?_) ?_ ?_
  rotate_left
  · intro w hSw; (try dsimp only at hSw); (try go_simp); (try with_reducible rfl)
  try simp only [Act.put, List.setIfInBounds_toArray, List.set_cons_zero, List.set_cons_succ]
  refine held_take 3 rfl (by kernel_rfl) (by kernel_rfl) (by kernel_rfl) (fun _ _ _ h => h) hHeld (by rfl) (v := ?_) ?_ ?_
  rotate_left
  · intro w hSw; (try dsimp only at hSw); (try go_simp); (try with_reducible rfl)
  try simp only [Act.put, List.setIfInBounds_toArray, List.set_cons_zero, List.set_cons_succ]
  refine held_take 4 rfl (by kernel_rfl) (by kernel_rfl) (by kernel_rfl) (fun _ _ _ h => h) hHeld (by rfl) (v := ?_) ?_ ?_
  rotate_left
  · intro w hSw; (try dsimp only at hSw); (try go_simp); (try with_reducible rfl)
  try simp only [Act.put, List.setIfInBounds_toArray, List.set_cons_zero, List.set_cons_succ]
  refine held_take 5 rfl (by kernel_rfl) (by kernel_rfl) (by kernel_rfl) (fun _ _ _ h => h) hHeld (by rfl) (v := ?_) ?_ ?_
  rotate_left
  · intro w hSw; (try dsimp only at hSw); (try go_simp); (try with_reducible rfl)
  try simp only [Act.put, List.setIfInBounds_toArray, List.set_cons_zero, List.set_cons_succ]
  refine held_step 6 rfl (by kernel_rfl) (by rfl) (fun Kx hK => ?_)
  go_simp
  go_at_call 37; refine (c_whole _ B p n L wh k.dir HC.out).mono ?_; rintro e wx ⟨rfl, rfl⟩
  refine hK.out _ _ ?_ (fun hHeld2 => ?_)
  · (try dsimp only); with_reducible first | exact hS0 | exact hS1
  clear hK Kx hHeld
  have hHeld := hHeld2
  clear hHeld2
  try simp only [Act.put, List.setIfInBounds_toArray, List.set_cons_zero, List.set_cons_succ]
  refine held_step 7 rfl (by kernel_rfl) (by rfl) (fun Kx hK => ?_)
  go_simp
  refine hK.out _ _ ?_ (fun hHeld2 => ?_)
  · (try dsimp only); with_reducible first | exact hS0 | exact hS1
  clear hK Kx hHeld
  have hHeld := hHeld2
  clear hHeld2
  try simp only [Act.put, List.setIfInBounds_toArray, List.set_cons_zero, List.set_cons_succ]
  refine held_take 8 rfl (by kernel_rfl) (by kernel_rfl) (by kernel_rfl) (fun _ _ _ h => h) hHeld (by rfl) (v := ?_) ?_ ?_
  rotate_left
  · intro w hSw; (try dsimp only at hSw); (try go_simp); (try with_reducible rfl)
  try simp only [Act.put, List.setIfInBounds_toArray, List.set_cons_zero, List.set_cons_succ]
  refine wpAnyH_done (by kernel_rfl) ?_ _
  clear hHeld
  go_wp2_with fail
  refine bodyPost_ret (v := .tuple #[(En.mk k true ⟨0, 0, 0, ByteArray.empty⟩).v, .bool (wh k.dir)]) (by simp [results, Tryz.results214, go_sem, En.v, b4d]; rfl) rfl ⟨rfl, ?_⟩
  exact HBE.out

/-- what is known of a key: by the first source that knows it -/
def knW (fresh L : List En) (wh : Int → Bool) (k : Ky) : Option En :=
  match findL k fresh with
  | some x => some x
  | none => match findL k L with
    | some x => some x
    | none => if wh k.dir = true then some ⟨k, true, ⟨0, 0, 0, ByteArray.empty⟩⟩ else none
def srcs (fv : Value) (p : Nat) : List Value := [.iface 201 fv, .iface 84 (.pointer (some ⟨p, 0, none⟩)), .iface 203 (.agg #[.pointer (some ⟨p, 0, none⟩)])]

set_option maxRecDepth 100000 in
set_option maxHeartbeats 4000000 in
theorem known_any (w : World) (B p n : Nat) (L fresh : List En) (wh : Int → Bool) (k : Ky) (g : Nat) (fv : Value) (h : CAt w B p n L wh) (hl : Rd w (.slice (some ⟨g, 0, none⟩) 3 3) 3 (srcs fv p)) (hf : Rd w fv fresh.length (ecs fresh)) :
    Calls Tryz.prog 145 #[.slice (some ⟨g, 0, none⟩) 3 3, .agg #[.int .i64 k.dir, .string k.name]] w fun r w' => r = .returned (.tuple #[((knW fresh L wh k).getD zeroE).v, .bool (knW fresh L wh k).isSome]) ∧ Below w.heap.size w w' := by
  have HC := hid h
  have HF := hid hf
  have HL := hid hl
  have HK := hid (heap_old (heap_new w (.cells #[.int .i64 k.dir, .string k.name] 53)) (.cells #[.int .i64 0, .string { data := #[] }, .bool false, .int .i64 0, .int .i64 0, .int .i64 0, .string { data := #[] }] 55))
  have h4 := heap_new (w.alloc (.cells #[.int .i64 k.dir, .string k.name] 53)) (.cells #[.int .i64 0, .string { data := #[] }, .bool false, .int .i64 0, .int .i64 0, .int .i64 0, .string { data := #[] }] 55)
  rw [show (w.alloc (.cells #[.int .i64 k.dir, .string k.name] 53)).heap.size = w.heap.size + 1 by simp] at h4
  have H4 := hid h4
  have HB0 := hid (bl2 w (.cells #[.int .i64 k.dir, .string k.name] 53) (.cells #[.int .i64 0, .string { data := #[] }, .bool false, .int .i64 0, .int .i64 0, .int .i64 0, .string { data := #[] }] 55))
  obtain ⟨W0, hW0⟩ : ∃ W0, W0 = (w.alloc (.cells #[.int .i64 k.dir, .string k.name] 53)).alloc (.cells #[.int .i64 0, .string { data := #[] }, .bool false, .int .i64 0, .int .i64 0, .int .i64 0, .string { data := #[] }] 55) := ⟨_, rfl⟩
  rw [← hW0] at HK H4 HB0
  have HZ0 := hid (show W0.heap.size = w.heap.size + 2 by rw [hW0]; simp)
  clear h hf hl h4
  go_enter Tryz.func145, Tryz.ntmps145
  go_wp2_with fail
  rw [← hW0]
  clear hW0
  go_loopw [12] (fun v12 wr => ∃ j : Nat, j ≤ 3 ∧ v12 = .int .i64 j ∧ Hid (Below W0.heap.size W0 wr) ∧ Hid (1 ≤ j → findL k fresh = none) ∧ Hid (2 ≤ j → findL k L = none) ∧ Hid (3 ≤ j → wh k.dir = false)) (fun v12 _ => 3 - (intOf v12).toNat)
  case atStart => exact ⟨0, Nat.zero_le _, rfl, hid (Below.refl _ _), hid (fun h => by omega), hid (fun h => by omega), hid (fun h => by omega)⟩
  case round =>
    obtain ⟨j, hj, rfl, HB, H1, H2, H3⟩ := hrel
    obtain ⟨wo, hwo⟩ : ∃ wo, wo = wr := ⟨_, rfl⟩
    subst hwo
    have HBW := hid (HB0.out.trans (HB.out.mono HB0.out.size))
    have hz0 := HZ0.out
    have bk := blk2 (heap_below HB.out HK.out (by omega))
    have c0 := (HL.out.below HBW.out).at 0 _ rfl
    have c1 := (HL.out.below HBW.out).at 1 _ rfl
    have c2 := (HL.out.below HBW.out).at 2 _ rfl
    simp only [Nat.zero_add] at c0 c1 c2
    have HH4 := hid (heap_below HB.out H4.out (by omega))
    clear hz0
    rcases (show j = 0 ∨ j = 1 ∨ j = 2 ∨ j = 3 by omega) with rfl | rfl | rfl | rfl
    · go_wp2_with fail
      refine (list_get fv fresh k _ (HF.out.below HBW.out)).mono ?_; rintro e w2 ⟨rfl, hb2⟩
      have HB2 := hid (HB.out.trans (hb2.mono HB.out.size))
      clear hb2 bk c0 c1 c2
      cases hq : findL k fresh with
      | some y =>
        have HQ := hid hq
        have HN := hid (show knW fresh L wh k = some y by unfold knW; rw [hq])
        have HEQ := hid (show getE k fresh = y by unfold getE; rw [hq]; rfl)
        rw [HEQ.out]
        clear hq
        unfold En.v
        have H4x := hid (heap_old (heap_below HB2.out H4.out (by have := HZ0.out; omega)) (.cells #[.int .i64 y.key.dir, .string y.key.name, .bool y.neg, .int .i64 y.node.id, .int .i64 y.node.kind, .int .i64 y.node.mode, .string y.node.target] 55))
        have b4 := blk7 H4x.out
        obtain ⟨cur, hcur⟩ : ∃ cur, (w2.alloc (.cells #[.int .i64 y.key.dir, .string y.key.name, .bool y.neg, .int .i64 y.node.id, .int .i64 y.node.kind, .int .i64 y.node.mode, .string y.node.target] 55)).heap[w.heap.size + 1]? = some (.cells cur 55 (0, 0)) := ⟨_, H4x.out⟩
        have hfz := fun i => blk_free hcur i
        have bn := blk7 (heap_new w2 (.cells #[.int .i64 y.key.dir, .string y.key.name, .bool y.neg, .int .i64 y.node.id, .int .i64 y.node.kind, .int .i64 y.node.mode, .string y.node.target] 55))
        have HWS := hid ((HB0.out.trans (HB2.out.mono HB0.out.size)).alloc ((HB0.out.trans (HB2.out.mono HB0.out.size)).size) (.cells #[.int .i64 y.key.dir, .string y.key.name, .bool y.neg, .int .i64 y.node.id, .int .i64 y.node.kind, .int .i64 y.node.mode, .string y.node.target] 55))
        clear hcur
        simp only [Option.isSome_some]
        go_wp2_with fail
        rw [HN.out]
        refine bodyPost_ret (v := .tuple #[y.v, .bool true]) (by simp [results, Tryz.results145, go_sem, En.v, b4]) rfl ⟨rfl, ?_⟩
        exact ((((((HWS.out.setCell (by simp) _).setCell (by simp) _).setCell (by simp) _).setCell (by simp) _).setCell (by simp) _).setCell (by simp) _).setCell (by simp) _
      | none =>
        have HQ := hid hq
        clear hq
        unfold En.v
        simp only [Option.isSome_none]
        go_wp2_with fail
        exact ⟨⟨1, by omega, by go_num, hid (HB2.out.alloc HB2.out.size _), hid (fun _ => HQ.out), hid (fun h => by omega), hid (fun h => by omega)⟩, by simp [intOf]⟩
    · go_wp2_with fail
      refine (c_get _ B p n L wh k (HC.out.below HBW.out)).mono ?_; rintro e w2 ⟨rfl, hb2⟩
      have HB2 := hid (HB.out.trans (hb2.mono HB.out.size))
      clear hb2 bk c0 c1 c2
      cases hq : findL k L with
      | some y =>
        have HQ := hid hq
        have HN := hid (show knW fresh L wh k = some y by unfold knW; rw [H1.out (by omega), hq])
        have HEQ := hid (show getE k L = y by unfold getE; rw [hq]; rfl)
        rw [HEQ.out]
        clear hq
        unfold En.v
        have H4x := hid (heap_old (heap_below HB2.out H4.out (by have := HZ0.out; omega)) (.cells #[.int .i64 y.key.dir, .string y.key.name, .bool y.neg, .int .i64 y.node.id, .int .i64 y.node.kind, .int .i64 y.node.mode, .string y.node.target] 55))
        have b4 := blk7 H4x.out
        obtain ⟨cur, hcur⟩ : ∃ cur, (w2.alloc (.cells #[.int .i64 y.key.dir, .string y.key.name, .bool y.neg, .int .i64 y.node.id, .int .i64 y.node.kind, .int .i64 y.node.mode, .string y.node.target] 55)).heap[w.heap.size + 1]? = some (.cells cur 55 (0, 0)) := ⟨_, H4x.out⟩
        have hfz := fun i => blk_free hcur i
        have bn := blk7 (heap_new w2 (.cells #[.int .i64 y.key.dir, .string y.key.name, .bool y.neg, .int .i64 y.node.id, .int .i64 y.node.kind, .int .i64 y.node.mode, .string y.node.target] 55))
        have HWS := hid ((HB0.out.trans (HB2.out.mono HB0.out.size)).alloc ((HB0.out.trans (HB2.out.mono HB0.out.size)).size) (.cells #[.int .i64 y.key.dir, .string y.key.name, .bool y.neg, .int .i64 y.node.id, .int .i64 y.node.kind, .int .i64 y.node.mode, .string y.node.target] 55))
        clear hcur
        simp only [Option.isSome_some]
        go_wp2_with fail
        rw [HN.out]
        refine bodyPost_ret (v := .tuple #[y.v, .bool true]) (by simp [results, Tryz.results145, go_sem, En.v, b4]) rfl ⟨rfl, ?_⟩
        exact ((((((HWS.out.setCell (by simp) _).setCell (by simp) _).setCell (by simp) _).setCell (by simp) _).setCell (by simp) _).setCell (by simp) _).setCell (by simp) _
      | none =>
        have HQ := hid hq
        clear hq
        unfold En.v
        simp only [Option.isSome_none]
        go_wp2_with fail
        exact ⟨⟨2, by omega, by go_num, hid (HB2.out.alloc HB2.out.size _), hid (fun _ => H1.out (by omega)), hid (fun _ => HQ.out), hid (fun h => by omega)⟩, by simp [intOf]⟩
    · go_wp2_with fail
      refine (rest_get _ B p n L wh k (HC.out.below HBW.out)).mono ?_; rintro e w2 ⟨rfl, hb2⟩
      have HB2 := hid (HB.out.trans (hb2.mono HB.out.size))
      clear hb2 bk c0 c1 c2
      cases hq : wh k.dir with
      | true =>
        have HN := hid (show knW fresh L wh k = some ⟨k, true, ⟨0, 0, 0, ByteArray.empty⟩⟩ by unfold knW; rw [H1.out (by omega), H2.out (by omega), hq]; rfl)
        clear hq
        unfold En.v
        have H4x := hid (heap_old (heap_below HB2.out H4.out (by have := HZ0.out; omega)) (.cells #[.int .i64 k.dir, .string k.name, .bool true, .int .i64 0, .int .i64 0, .int .i64 0, .string ByteArray.empty] 55))
        have b4 := blk7 H4x.out
        obtain ⟨cur, hcur⟩ : ∃ cur, (w2.alloc (.cells #[.int .i64 k.dir, .string k.name, .bool true, .int .i64 0, .int .i64 0, .int .i64 0, .string ByteArray.empty] 55)).heap[w.heap.size + 1]? = some (.cells cur 55 (0, 0)) := ⟨_, H4x.out⟩
        have hfz := fun i => blk_free hcur i
        have bn := blk7 (heap_new w2 (.cells #[.int .i64 k.dir, .string k.name, .bool true, .int .i64 0, .int .i64 0, .int .i64 0, .string ByteArray.empty] 55))
        have HWS := hid ((HB0.out.trans (HB2.out.mono HB0.out.size)).alloc ((HB0.out.trans (HB2.out.mono HB0.out.size)).size) (.cells #[.int .i64 k.dir, .string k.name, .bool true, .int .i64 0, .int .i64 0, .int .i64 0, .string ByteArray.empty] 55))
        clear hcur
        go_wp2_with fail
        rw [HN.out]
        refine bodyPost_ret (v := .tuple #[(En.mk k true ⟨0, 0, 0, ByteArray.empty⟩).v, .bool true]) (by simp [results, Tryz.results145, go_sem, En.v, b4]) rfl ⟨rfl, ?_⟩
        exact ((((((HWS.out.setCell (by simp) _).setCell (by simp) _).setCell (by simp) _).setCell (by simp) _).setCell (by simp) _).setCell (by simp) _).setCell (by simp) _
      | false =>
        have HQ := hid hq
        clear hq
        unfold En.v
        go_wp2_with fail
        exact ⟨⟨3, by omega, by go_num, hid (HB2.out.alloc HB2.out.size _), hid (fun _ => H1.out (by omega)), hid (fun _ => H2.out (by omega)), hid (fun _ => HQ.out)⟩, by simp [intOf]⟩
    · have HN := hid (show knW fresh L wh k = none by unfold knW; rw [H1.out (by omega), H2.out (by omega), H3.out (by omega)]; rfl)
      have b4 := blk7 HH4.out
      obtain ⟨cur, hcur⟩ : ∃ cur, wo.heap[w.heap.size + 1]? = some (.cells cur 55 (0, 0)) := ⟨_, HH4.out⟩
      have hfz := fun i => blk_free hcur i
      have HWS := hid HBW.out
      clear hcur c0 c1 c2 bk
      go_wp2_with fail
      rw [HN.out]
      refine bodyPost_ret (v := .tuple #[zeroE.v, .bool false]) (by simp [results, Tryz.results145, go_sem, En.v, zeroE, b4]; rfl) rfl ⟨rfl, ?_⟩
      exact ((((((HWS.out.setCell (by simp) _).setCell (by simp) _).setCell (by simp) _).setCell (by simp) _).setCell (by simp) _).setCell (by simp) _).setCell (by simp) _

end Go.Proofs.YtbjibkjenleloaaGreatDoor

end
