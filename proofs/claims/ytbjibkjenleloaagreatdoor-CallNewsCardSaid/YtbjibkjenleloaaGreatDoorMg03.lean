/- Parts of a proof about the given program, in build order: DentF, DentG. No condition. -/
import Derived.Test.YtbjibkjenleloaaGreatDoorMg02
section
namespace Go.Proofs.YtbjibkjenleloaaGreatDoor
set_option linter.unusedVariables false
set_option linter.unusedSimpArgs false
open Go.RowKit
open Go.ChangeMaps (setBlock)
attribute [local go_sem ↓] Go.wp_at_zero Go.wp_at_succ

theorem run_range_k {w : World} {me cl : Nat} {K : List Ke} (h : w.heap[me]? = some (.map (kes K) cl)) :
    (Instr.range 134 (.map (some me))).run Tryz.prog w = .ok (.pointer (some ⟨w.heap.size, 0, none⟩)) (w.alloc (.mapIter (some me) cl #[] cl)) := by
  simp [Instr.range, run_underlying Tryz.underlying134, getObj, Sem.run, h, newObj]

/-- an iterator over the entries: D is done, rest is to come -/
structure ItAt (w : World) (r me cl : Nat) (K D rest : List Ke) : Prop where
  it : ∃ c0, cl ≤ c0 ∧ w.heap[r]? = some (.mapIter (some me) cl (D.map Ke.born).toArray c0)
  pm : (D ++ rest).Perm K

theorem left_mem {K D rest : List Ke} (hp : (D ++ rest).Perm K) (hn : (K.map Ke.born).Nodup) (e : MapEntry) : e ∈ (leftOf (kes K) (D.map Ke.born).toArray).toList ↔ ∃ x ∈ rest, x.me = e := by
  have hn2 : ((D ++ rest).map Ke.born).Nodup := (hp.map _).nodup_iff.2 hn
  rw [List.map_append, List.nodup_append] at hn2
  simp only [leftOf, Array.toList_filter, kes_toList, List.mem_filter, List.mem_map]
  constructor
  · rintro ⟨⟨x, hx, rfl⟩, h2⟩
    rcases List.mem_append.1 (hp.mem_iff.2 hx) with h | h
    · simp [Ke.me] at h2
      exact absurd rfl (h2 x h)
    · exact ⟨x, h, rfl⟩
  · rintro ⟨x, hx, rfl⟩
    refine ⟨⟨x, hp.mem_iff.1 (List.mem_append.2 (.inr hx)), rfl⟩, ?_⟩
    simp [Ke.me]
    intro y hy e
    exact hn2.2.2 _ (List.mem_map.2 ⟨y, hy, rfl⟩) _ (List.mem_map.2 ⟨x, hx, rfl⟩) e

theorem perm_out {α : Type} {l : List α} {x : α} (h : x ∈ l) : ∃ l', l.Perm (x :: l') := by
  obtain ⟨a, b, rfl⟩ := List.append_of_mem h
  exact ⟨a ++ b, List.perm_middle⟩

theorem run_next_k {w : World} {r me cl : Nat} {K D rest : List Ke} (ty : TypeId) (hi : ItAt w r me cl K D rest) (he : w.heap[me]? = some (.map (kes K) cl)) (hb : ∀ x ∈ K, x.born < cl) (hn : (K.map Ke.born).Nodup) :
    (rest = [] ∧ (Instr.next (.pointer (some ⟨r, 0, none⟩)) false ty).run Tryz.prog w = .ok (.tuple #[.bool false]) w) ∨
    ∃ x rest' W, (Instr.next (.pointer (some ⟨r, 0, none⟩)) false ty).run Tryz.prog w = .ok (.tuple #[.bool true, x.e.key.v, x.val]) W ∧ ItAt W r me cl K (D ++ [x]) rest' ∧ Chg (fun k => k = r) w W ∧ x ∈ K ∧
      (W.heap[r]? = some (.mapIter (some me) cl ((D.map Ke.born).toArray.push x.born) cl)) ∧ rest.Perm (x :: rest') := by
  obtain ⟨⟨c0, hc0, hr⟩, hp⟩ := hi
  have hold : ∀ x ∈ (kes K).toList, x.born < cl := by
    intro x hx
    rw [kes_toList] at hx
    obtain ⟨y, hy, rfl⟩ := List.mem_map.1 hx
    exact hb y hy
  rcases run_next_at (P := Tryz.prog) w ty r me cl c0 (D.map Ke.born).toArray (kes K) cl hr he hold hc0 with ⟨h0, h1⟩ | ⟨e, hme, w1, hw1, hrun⟩
  · left
    refine ⟨?_, h1⟩
    cases rest with
    | nil => rfl
    | cons x rest =>
      have := (left_mem hp hn x.me).2 ⟨x, by simp, rfl⟩
      have h2 : (leftOf (kes K) (D.map Ke.born).toArray) = #[] := Array.eq_empty_of_size_eq_zero h0
      rw [h2] at this; simp at this
  · right
    obtain ⟨x, hx, rfl⟩ := (left_mem hp hn e).1 hme
    obtain ⟨rest', hr'⟩ := perm_out hx
    have hh : w1.heap = w.heap := by rcases hw1 with rfl | rfl <;> rfl
    have hdr : Dr w w1 := by rcases hw1 with rfl | rfl; exact Dr.refl _; exact ⟨1, rfl⟩
    have hr1 : w1.heap[r]? = some (.mapIter (some me) cl (D.map Ke.born).toArray c0) := by rw [hh]; exact hr
    refine ⟨x, rest', _, hrun, ⟨⟨cl, Nat.le_refl _, ?_⟩, ?_⟩, ?_, hp.mem_iff.1 (List.mem_append.2 (.inr hx)), heap_setBlock hr1, hr'⟩
    · rw [heap_setBlock hr1]; simp [Ke.me]
    · refine List.Perm.trans ?_ hp
      rw [List.append_assoc]
      exact (List.Perm.append_left D hr'.symm)
    · exact Chg.trans (Chg.mono (Chg.below (hdr.below _)) (fun _ _ h => h.elim)) (chg_setBlock w1 r _) (fun _ _ h => h) (fun _ _ h => h)

theorem wpList_next_k {w : World} {ops : Array Oper} {rest0 : List Oper} {o : Oper} {a : Act} {Q : Exit → Act → World → Prop} (hgd : o.guard = none) (it : Operand) (hop : o.op = Op.next it false) (r me cl : Nat) (K D rest : List Ke) (hv : a.eval it = .pointer (some ⟨r, 0, none⟩))
    (hi : ItAt w r me cl K D rest) (he : w.heap[me]? = some (.map (kes K) cl)) (hb : ∀ x ∈ K, x.born < cl) (hn : (K.map Ke.born).Nodup)
    (h : (∀ u : Unit, rest = [] → wpList Tryz.prog ops Q rest0 (a.put o.dst (.tuple #[.bool false])) w) ∧
      ∀ x rest' W, ItAt W r me cl K (D ++ [x]) rest' → Chg (fun k => k = r) w W → x ∈ K → (W.heap[r]? = some (.mapIter (some me) cl ((D.map Ke.born).toArray.push x.born) cl)) → rest.Perm (x :: rest') → wpList Tryz.prog ops Q rest0 (a.put o.dst (.tuple #[.bool true, x.e.key.v, x.val])) W) :
    wpList Tryz.prog ops Q (o :: rest0) a w := by
  refine wpList_plain hgd fun _ hK => ?_
  unfold Oper.wp
  rcases run_next_k o.type hi he hb hn with ⟨h1, hrun⟩ | ⟨x, rest', W, hrun, h1, h2, h3, h4, h5⟩
  · simp only [execOp, hop, hv, Sem.run_bind, hrun, Result.andThen_ok, Sem.run_pure]
    exact hK _ _ (h.1 () h1)
  · simp only [execOp, hop, hv, Sem.run_bind, hrun, Result.andThen_ok, Sem.run_pure]
    exact hK _ _ (h.2 x rest' W h1 h2 h3 h4 h5)

theorem run_entry_k {w : World} {r me cl : Nat} {K D : List Ke} {x : Ke} (hr : w.heap[r]? = some (.mapIter (some me) cl ((D.map Ke.born).toArray.push x.born) cl)) (he : w.heap[me]? = some (.map (kes K) cl)) (hx : x ∈ K) (hn : (K.map Ke.born).Nodup) :
    (Instr.entry (.pointer (some ⟨r, 0, none⟩))).run Tryz.prog w = .ok (.tuple #[x.e.key.v, x.val]) w :=
  run_entry_at (P := Tryz.prog) w r me cl (D.map Ke.born).toArray (kes K) cl x.me hr he (by rw [kes_toList]; exact List.mem_map.2 ⟨x, hx, rfl⟩) (by rw [kes_toList, List.map_map]; exact hn)

end Go.Proofs.YtbjibkjenleloaaGreatDoor

end

section
namespace Go.Proofs.YtbjibkjenleloaaGreatDoor
set_option linter.unusedVariables false
set_option linter.unusedSimpArgs false
open Go.RowKit
open Go.ChangeMaps (setBlock)
attribute [local go_sem ↓] Go.wp_at_zero Go.wp_at_succ


theorem ItAt.seen {w : World} {r me cl : Nat} {K D rest : List Ke} (h : ItAt w r me cl K D rest) : (w.iterSeen r).size = D.length := by
  obtain ⟨c0, _, hr⟩ := h.it
  simp [World.iterSeen, hr]
theorem ItAt.len {w : World} {r me cl : Nat} {K D rest : List Ke} (h : ItAt w r me cl K D rest) : D.length + rest.length = K.length := by
  have := h.pm.length_eq; rw [List.length_append] at this; exact this
theorem ItAt.below {w w' : World} {r me cl : Nat} {K D rest : List Ke} (h : ItAt w r me cl K D rest) (hb : Below w.heap.size w w') : ItAt w' r me cl K D rest := by
  obtain ⟨⟨c0, h0, hr⟩, hp⟩ := h
  exact ⟨⟨c0, h0, heap_below hb hr (blk_lt hr)⟩, hp⟩

theorem chg_to_below {w wr W : World} {F : Nat → Prop} {B : Nat} (h : Below B w wr) (hc : Chg F wr W) (hF : ∀ k, F k → B ≤ k) (hB : B ≤ w.heap.size) : Below B w W :=
  ⟨hc.os.trans h.os, hc.tape.trans h.tape, hc.output.trans h.output, Nat.le_trans h.size hc.size, fun k hk => (hc.block k (by have := h.size; omega) (fun hf => by have := hF k hf; omega)).trans (h.block k hk)⟩
theorem ItAt.step {w W : World} {r me cl : Nat} {K D rest rest' : List Ke} {x : Ke} (h : ItAt w r me cl K D rest) (h2 : ItAt W r me cl K (D ++ [x]) rest') : K.length - (W.iterSeen r).size < K.length - (w.iterSeen r).size := by
  have a := h2.len
  rw [h2.seen, h.seen]
  simp at a ⊢; omega

/-- one step of a loop over the entries, as equations for the walk -/
theorem next_k {w : World} {r me cl : Nat} {K D rest : List Ke} (hi : ItAt w r me cl K D rest) (he : w.heap[me]? = some (.map (kes K) cl)) (hne : r ≠ me) (hb : ∀ x ∈ K, x.born < cl) (hn : (K.map Ke.born).Nodup) :
    (rest = [] ∧ ∀ ty, (Instr.next (.pointer (some ⟨r, 0, none⟩)) false ty).run Tryz.prog w = .ok (.tuple #[.bool false]) w) ∨
    ∃ x rest' W, (∀ ty, (Instr.next (.pointer (some ⟨r, 0, none⟩)) false ty).run Tryz.prog w = .ok (.tuple #[.bool true, .agg #[.int .i64 x.e.key.dir, .string x.e.key.name], (.agg #[.int .i64 x.e.key.dir, .string x.e.key.name, .bool x.e.neg, .int .i64 x.e.node.id, .int .i64 x.e.node.kind, .int .i64 x.e.node.mode, .string x.e.node.target, .int .i64 x.used])]) W) ∧
      ((Instr.entry (.pointer (some ⟨r, 0, none⟩))).run Tryz.prog W = .ok (.tuple #[.agg #[.int .i64 x.e.key.dir, .string x.e.key.name], (.agg #[.int .i64 x.e.key.dir, .string x.e.key.name, .bool x.e.neg, .int .i64 x.e.node.id, .int .i64 x.e.node.kind, .int .i64 x.e.node.mode, .string x.e.node.target, .int .i64 x.used])]) W) ∧
      ItAt W r me cl K (D ++ [x]) rest' ∧ Chg (fun k => k = r) w W ∧ x ∈ K ∧ rest.Perm (x :: rest') := by
  rcases run_next_k 0 hi he hb hn with ⟨h1, h2⟩ | ⟨x, rest', W, h1, h2, h3, h4, h5, h6⟩
  · exact .inl ⟨h1, fun _ => h2⟩
  · refine .inr ⟨x, rest', W, fun _ => h1, run_entry_k h5 (heap_chg h3 he (Ne.symm hne)) h4 hn, h2, h3, h4, h6⟩

def negs (K : List Ke) : Nat := K.countP fun x => x.e.neg

theorem negs_perm {K L : List Ke} (h : K.Perm L) : negs K = negs L := h.countP_eq _
theorem negs_le (K : List Ke) : negs K ≤ K.length := List.countP_le_length

set_option maxHeartbeats 1000000 in
theorem dent_negatives (w : World) (B : Nat) (s : Ca) (h : CacheAt w B s) (hlen : s.K.length < 4611686018427387904) :
    Calls Tryz.prog 104 #[.pointer (some ⟨s.p, 0, none⟩)] w fun e w' => e = .returned (.int .i64 (negs s.K)) ∧ Below w.heap.size w w' := by
  have b0 := blk3 h.hp
  have hrg := run_range_k h.he
  have HH := hid h
  clear h
  go_enter Tryz.func104, Tryz.ntmps104
  go_wp2_with fail
  go_loopw [3] (fun v wr => ∃ (D rest : List Ke), v = .int .i64 (negs D) ∧ Hid (ItAt wr w.heap.size s.me s.c1 s.K D rest) ∧ Below w.heap.size w wr) (fun _ wr => s.K.length - (wr.iterSeen w.heap.size).size)
  case atStart => exact ⟨[], s.K, rfl, hid ⟨⟨_, Nat.le_refl _, heap_new w _⟩, List.Perm.refl _⟩, bl1 w _⟩
  case round =>
    obtain ⟨D, rest, rfl, HI, hb⟩ := hrel
    have hh := HH.out.below hb
    have hme : w.heap.size ≠ s.me := fun e => by have := blk_lt HH.out.he; omega
    rcases next_k HI.out hh.he hme hh.b1 hh.n1 with ⟨h0, hnx⟩ | ⟨x, rest', W, hnx, hen, hit, hchg, hxm, hpm⟩
    · have HN := hid (show negs D = negs s.K by have := HI.out.pm; rw [h0, List.append_nil] at this; exact negs_perm this)
      clear h0 hh
      go_wp2
      go_ret
      exact ⟨by rw [HN.out]; rfl, hb⟩
    · have HT := hid hit
      have HC := hid hchg
      have HM := hid hxm
      have hle : negs D ≤ s.K.length := by have := HI.out.len; have := negs_le D; omega
      have BX := blk8 (heap_new W (.cells #[.int .i64 x.e.key.dir, .string x.e.key.name, .bool x.e.neg, .int .i64 x.e.node.id, .int .i64 x.e.node.kind, .int .i64 x.e.node.mode, .string x.e.node.target, .int .i64 x.used] 142))
      cases hng : x.e.neg
      · simp only [hng] at hnx hen BX
        have HN := hid (show negs (D ++ [x]) = negs D by simp [negs, hng])
        clear hh hit hchg hxm hpm hng
        go_wp2
        refine ⟨⟨D ++ [x], rest', by rw [HN.out], hid (HT.out.below (bl1 W _)), (chg_to_below hb HC.out (fun k hk => by omega) (Nat.le_refl _)).trans ((bl1 W _).mono (by have := hb.size; have := HC.out.size; omega))⟩, HI.out.step (HT.out.below (bl1 W _))⟩
      · simp only [hng] at hnx hen BX
        have HN := hid (show negs (D ++ [x]) = negs D + 1 by simp [negs, hng])
        clear hh hit hchg hxm hpm hng
        go_wp2
        refine ⟨⟨D ++ [x], rest', by rw [HN.out]; go_num, hid (HT.out.below (bl1 W _)), (chg_to_below hb HC.out (fun k hk => by omega) (Nat.le_refl _)).trans ((bl1 W _).mono (by have := hb.size; have := HC.out.size; omega))⟩, HI.out.step (HT.out.below (bl1 W _))⟩

/-- does an entry hang below a directory -/
def hangs (d : Int) (K : List Ke) : Bool := K.any fun x => x.e.key.dir == d
def leafId (x : Ke) : Int := if x.e.neg then 0 else x.e.node.id
theorem hangs_perm {K L : List Ke} (d : Int) (h : K.Perm L) : hangs d K = hangs d L := by
  unfold hangs
  rw [Bool.eq_iff_iff, List.any_eq_true, List.any_eq_true]
  exact ⟨fun ⟨x, hx, h2⟩ => ⟨x, h.mem_iff.1 hx, h2⟩, fun ⟨x, hx, h2⟩ => ⟨x, h.mem_iff.2 hx, h2⟩⟩
theorem hangs_snoc (d : Int) (K : List Ke) (x : Ke) : hangs d (K ++ [x]) = (hangs d K || x.e.key.dir == d) := by simp [hangs]
theorem hangs_mem {d : Int} {K : List Ke} {x : Ke} (h : x ∈ K) (he : x.e.key.dir = d) : hangs d K = true := List.any_eq_true.2 ⟨x, h, by simp [he]⟩

theorem ItAt.chgd {w w' : World} {r me cl : Nat} {K D rest : List Ke} (h : ItAt w r me cl K D rest) {F : Nat → Prop} (hc : Chg F w w') (hF : ¬ F r) : ItAt w' r me cl K D rest := by
  obtain ⟨⟨c0, h0, hr⟩, hp⟩ := h
  exact ⟨⟨c0, h0, heap_chg hc hr hF⟩, hp⟩

set_option maxHeartbeats 1000000 in
theorem dent_leaf_no (w : World) (B : Nat) (s : Ca) (k : Ky) (h : CacheAt w B s) (hk : atK k s.K = none) :
    Calls Tryz.prog 121 #[.pointer (some ⟨s.p, 0, none⟩), k.v] w fun e w' => e = .returned (.bool (false)) ∧ Below w.heap.size w w' := by
  have b0 := blk3 h.hp
  have hpz := blk_lt h.hp
  have hmz := blk_lt h.he
  have HL : ∀ W : World, W.heap[s.me]? = some (.map (kes s.K) s.c1) → (Instr.lookup 134 (.map (some s.me)) (.agg #[.int .i64 k.dir, .string k.name]) true).run Tryz.prog W = .ok (.tuple #[.agg #[.int .i64 0, .string ByteArray.empty, .bool false, .int .i64 0, .int .i64 0, .int .i64 0, .string ByteArray.empty, .int .i64 0], .bool false]) W := fun W hW => run_look_no hW hk
  have he := h.he
  have BX := blk2 (heap_new w (.cells #[.int .i64 k.dir, .string k.name] 53))
  have HE := hid he
  have HH := hid h
  clear h he hk
  unfold Ky.v
  go_enter Tryz.func121, Tryz.ntmps121
  go_upto_region 1 with fail
  go_cut [5, 6] (fun v5 v6 wx => v5 = .pointer (some ⟨w.heap.size + 1, 0, none⟩) ∧ v6 = .bool false ∧ Hid (Below w.heap.size w wx) ∧ Hid (wx.heap.size = w.heap.size + 2) ∧ Hid (wx.heap[w.heap.size + 1]? = some (.cells #[.int .i64 0, .string ByteArray.empty, .bool false, .int .i64 0, .int .i64 0, .int .i64 0, .string ByteArray.empty, .int .i64 0] 142)))
  case first =>
    go_region_held3 (fun w' => w'.cell? ⟨s.p, 0, none⟩ = some (.map (some s.me)) ∧ w'.cell? ⟨w.heap.size, 0, none⟩ = some (.int .i64 k.dir) ∧ w'.cell? ⟨w.heap.size, 1, none⟩ = some (.string k.name) ∧ w'.heap[s.me]? = some (.map (kes s.K) s.c1))
      (refine ⟨?_, ?_, ?_, ?_⟩ <;> first | exact cellA (b0.1) _ | exact BX.1 | exact BX.2.1 | exact heap_old (HE.out) _ | exact cellA (cellA (b0.1) _) _ | exact cellA (BX.1) _ | exact cellA (BX.2.1) _ | exact heap_old (heap_old (HE.out) _) _)
      (fail)
    all_goals
      go_wp2_with fail
      go_meet
      have e1 := heap_new (w.alloc (.cells #[.int .i64 k.dir, .string k.name] 53)) (.cells #[.int .i64 0, .string ByteArray.empty, .bool false, .int .i64 0, .int .i64 0, .int .i64 0, .string ByteArray.empty, .int .i64 0] 142)
      simp only [World.size_alloc] at e1
      exact ⟨rfl, rfl, hid (bl2 w (.cells #[.int .i64 k.dir, .string k.name] 53) (.cells #[.int .i64 0, .string ByteArray.empty, .bool false, .int .i64 0, .int .i64 0, .int .i64 0, .string ByteArray.empty, .int .i64 0] 142)).drew, hid (by simp), hid e1⟩
  case rest =>
    clear HL
    obtain ⟨rfl, rfl, HB, HZ, HX⟩ := hcut
    have hh := HH.out.below HB.out
    have HC := hid hh
    have c0 := blk3 hh.hp
    have BZ := blk8 HX.out
    have hrg := run_range_k hh.he
    clear hh BX b0
    go_wp2_with fail
    go_loopw [31] (fun _ wr => ∃ (D rest : List Ke), Hid (ItAt wr wc.heap.size s.me s.c1 s.K D rest) ∧ Hid (Below wc.heap.size wc wr) ∧ Hid (hangs (0) D = false)) (fun _ wr => s.K.length - (wr.iterSeen wc.heap.size).size)
    case atStart => exact ⟨[], s.K, hid ⟨⟨_, Nat.le_refl _, heap_new wc _⟩, List.Perm.refl _⟩, hid (bl1 wc _), hid rfl⟩
    case round =>
      clear hrg c0 BZ
      obtain ⟨D, rest, HI, HBB, HD⟩ := hrel
      have hh := HC.out.below HBB.out
      have hme : wc.heap.size ≠ s.me := fun e => by have := blk_lt HC.out.he; omega
      rcases next_k HI.out hh.he hme hh.b1 hh.n1 with ⟨h0, hnx⟩ | ⟨y, rest', W, hnx, hen, hit, hchg, hxm, hpm⟩
      · have HN := hid (show hangs (0) s.K = false by have := HI.out.pm; rw [h0, List.append_nil] at this; rw [← hangs_perm _ this]; exact HD.out)
        clear h0 hh
        go_wp2
        go_ret
        exact ⟨by simp [HN.out], HB.out.trans (HBB.out.mono (by have := HB.out.size; omega))⟩
      · have HT := hid hit
        have HG := hid hchg
        have HM := hid hxm
        have BX := blk2 (heap_new W (.cells #[.int .i64 y.e.key.dir, .string y.e.key.name] 53))
        have hbe := (chg_to_below HBB.out HG.out (fun k hk => by omega) (Nat.le_refl _)).trans ((bl1 W (.cells #[.int .i64 y.e.key.dir, .string y.e.key.name] 53)).mono (by have := HBB.out.size; have := HG.out.size; omega))
        have HE2 := hid hbe
        by_cases hd : y.e.key.dir = 0
        · have hd' : (y.e.key.dir == 0) = true := by simpa using hd
          have HN := hid (show hangs (0) s.K = true from hangs_mem HM.out hd)
          clear hh hit hchg hxm hpm hd hbe
          go_wp2
          go_ret
          exact ⟨by simp [HN.out], HB.out.trans (HE2.out.mono (by have := HB.out.size; omega))⟩
        · have hd' : (y.e.key.dir == 0) = false := by simpa using hd
          have HN := hid (show hangs (0) (D ++ [y]) = false by rw [hangs_snoc, HD.out, hd']; rfl)
          clear hh hit hchg hxm hpm hd hbe
          go_wp2
          refine ⟨⟨D ++ [y], rest', hid (HT.out.below (bl1 W _)), hid HE2.out, HN⟩, HI.out.step (HT.out.below (bl1 W _))⟩

set_option maxHeartbeats 1000000 in
theorem dent_leaf_neg (w : World) (B : Nat) (s : Ca) (k : Ky) (j : Nat) (x : Ke) (h : CacheAt w B s) (hk : atK k s.K = some j) (hx : s.K[j]? = some x) (hneg : x.e.neg = true) :
    Calls Tryz.prog 121 #[.pointer (some ⟨s.p, 0, none⟩), k.v] w fun e w' => e = .returned (.bool (!hangs 0 s.K)) ∧ Below w.heap.size w w' := by
  have b0 := blk3 h.hp
  have hpz := blk_lt h.hp
  have hmz := blk_lt h.he
  have HL : ∀ W : World, W.heap[s.me]? = some (.map (kes s.K) s.c1) → (Instr.lookup 134 (.map (some s.me)) (.agg #[.int .i64 k.dir, .string k.name]) true).run Tryz.prog W = .ok (.tuple #[.agg #[.int .i64 x.e.key.dir, .string x.e.key.name, .bool x.e.neg, .int .i64 x.e.node.id, .int .i64 x.e.node.kind, .int .i64 x.e.node.mode, .string x.e.node.target, .int .i64 x.used], .bool true]) W := fun W hW => run_look_yes hW hk hx
  have he := h.he
  have BX := blk2 (heap_new w (.cells #[.int .i64 k.dir, .string k.name] 53))
  have HE := hid he
  have HH := hid h
  simp only [hneg] at HL
  clear h he hk hx hneg
  unfold Ky.v
  go_enter Tryz.func121, Tryz.ntmps121
  go_upto_region 1 with fail
  go_cut [5, 6] (fun v5 v6 wx => v5 = .pointer (some ⟨w.heap.size + 1, 0, none⟩) ∧ v6 = .bool true ∧ Hid (Below w.heap.size w wx) ∧ Hid (wx.heap.size = w.heap.size + 2) ∧ Hid (wx.heap[w.heap.size + 1]? = some (.cells #[.int .i64 x.e.key.dir, .string x.e.key.name, .bool true, .int .i64 x.e.node.id, .int .i64 x.e.node.kind, .int .i64 x.e.node.mode, .string x.e.node.target, .int .i64 x.used] 142)))
  case first =>
    go_region_held3 (fun w' => w'.cell? ⟨s.p, 0, none⟩ = some (.map (some s.me)) ∧ w'.cell? ⟨w.heap.size, 0, none⟩ = some (.int .i64 k.dir) ∧ w'.cell? ⟨w.heap.size, 1, none⟩ = some (.string k.name) ∧ w'.heap[s.me]? = some (.map (kes s.K) s.c1))
      (refine ⟨?_, ?_, ?_, ?_⟩ <;> first | exact cellA (b0.1) _ | exact BX.1 | exact BX.2.1 | exact heap_old (HE.out) _ | exact cellA (cellA (b0.1) _) _ | exact cellA (BX.1) _ | exact cellA (BX.2.1) _ | exact heap_old (heap_old (HE.out) _) _)
      (fail)
    all_goals
      go_wp2_with fail
      go_meet
      have e1 := heap_new (w.alloc (.cells #[.int .i64 k.dir, .string k.name] 53)) (.cells #[.int .i64 x.e.key.dir, .string x.e.key.name, .bool true, .int .i64 x.e.node.id, .int .i64 x.e.node.kind, .int .i64 x.e.node.mode, .string x.e.node.target, .int .i64 x.used] 142)
      simp only [World.size_alloc] at e1
      exact ⟨rfl, rfl, hid (bl2 w (.cells #[.int .i64 k.dir, .string k.name] 53) (.cells #[.int .i64 x.e.key.dir, .string x.e.key.name, .bool true, .int .i64 x.e.node.id, .int .i64 x.e.node.kind, .int .i64 x.e.node.mode, .string x.e.node.target, .int .i64 x.used] 142)).drew, hid (by simp), hid e1⟩
  case rest =>
    clear HL
    obtain ⟨rfl, rfl, HB, HZ, HX⟩ := hcut
    have hh := HH.out.below HB.out
    have HC := hid hh
    have c0 := blk3 hh.hp
    have BZ := blk8 HX.out
    have hrg := run_range_k hh.he
    clear hh BX b0
    go_wp2_with fail
    go_loopw [31] (fun _ wr => ∃ (D rest : List Ke), Hid (ItAt wr wc.heap.size s.me s.c1 s.K D rest) ∧ Hid (Below wc.heap.size wc wr) ∧ Hid (hangs (0) D = false)) (fun _ wr => s.K.length - (wr.iterSeen wc.heap.size).size)
    case atStart => exact ⟨[], s.K, hid ⟨⟨_, Nat.le_refl _, heap_new wc _⟩, List.Perm.refl _⟩, hid (bl1 wc _), hid rfl⟩
    case round =>
      clear hrg c0 BZ
      obtain ⟨D, rest, HI, HBB, HD⟩ := hrel
      have hh := HC.out.below HBB.out
      have hme : wc.heap.size ≠ s.me := fun e => by have := blk_lt HC.out.he; omega
      rcases next_k HI.out hh.he hme hh.b1 hh.n1 with ⟨h0, hnx⟩ | ⟨y, rest', W, hnx, hen, hit, hchg, hxm, hpm⟩
      · have HN := hid (show hangs (0) s.K = false by have := HI.out.pm; rw [h0, List.append_nil] at this; rw [← hangs_perm _ this]; exact HD.out)
        clear h0 hh
        go_wp2
        go_ret
        exact ⟨by simp [HN.out], HB.out.trans (HBB.out.mono (by have := HB.out.size; omega))⟩
      · have HT := hid hit
        have HG := hid hchg
        have HM := hid hxm
        have BX := blk2 (heap_new W (.cells #[.int .i64 y.e.key.dir, .string y.e.key.name] 53))
        have hbe := (chg_to_below HBB.out HG.out (fun k hk => by omega) (Nat.le_refl _)).trans ((bl1 W (.cells #[.int .i64 y.e.key.dir, .string y.e.key.name] 53)).mono (by have := HBB.out.size; have := HG.out.size; omega))
        have HE2 := hid hbe
        by_cases hd : y.e.key.dir = 0
        · have hd' : (y.e.key.dir == 0) = true := by simpa using hd
          have HN := hid (show hangs (0) s.K = true from hangs_mem HM.out hd)
          clear hh hit hchg hxm hpm hd hbe
          go_wp2
          go_ret
          exact ⟨by simp [HN.out], HB.out.trans (HE2.out.mono (by have := HB.out.size; omega))⟩
        · have hd' : (y.e.key.dir == 0) = false := by simpa using hd
          have HN := hid (show hangs (0) (D ++ [y]) = false by rw [hangs_snoc, HD.out, hd']; rfl)
          clear hh hit hchg hxm hpm hd hbe
          go_wp2
          refine ⟨⟨D ++ [y], rest', hid (HT.out.below (bl1 W _)), hid HE2.out, HN⟩, HI.out.step (HT.out.below (bl1 W _))⟩

set_option maxHeartbeats 1000000 in
theorem dent_leaf_pos (w : World) (B : Nat) (s : Ca) (k : Ky) (j : Nat) (x : Ke) (h : CacheAt w B s) (hk : atK k s.K = some j) (hx : s.K[j]? = some x) (hneg : x.e.neg = false) :
    Calls Tryz.prog 121 #[.pointer (some ⟨s.p, 0, none⟩), k.v] w fun e w' => e = .returned (.bool (!hangs x.e.node.id s.K)) ∧ Below w.heap.size w w' := by
  have b0 := blk3 h.hp
  have hpz := blk_lt h.hp
  have hmz := blk_lt h.he
  have HL : ∀ W : World, W.heap[s.me]? = some (.map (kes s.K) s.c1) → (Instr.lookup 134 (.map (some s.me)) (.agg #[.int .i64 k.dir, .string k.name]) true).run Tryz.prog W = .ok (.tuple #[.agg #[.int .i64 x.e.key.dir, .string x.e.key.name, .bool x.e.neg, .int .i64 x.e.node.id, .int .i64 x.e.node.kind, .int .i64 x.e.node.mode, .string x.e.node.target, .int .i64 x.used], .bool true]) W := fun W hW => run_look_yes hW hk hx
  have he := h.he
  have BX := blk2 (heap_new w (.cells #[.int .i64 k.dir, .string k.name] 53))
  have HE := hid he
  have HH := hid h
  simp only [hneg] at HL
  clear h he hk hx hneg
  unfold Ky.v
  go_enter Tryz.func121, Tryz.ntmps121
  go_upto_region 1 with fail
  go_cut [5, 6] (fun v5 v6 wx => v5 = .pointer (some ⟨w.heap.size + 1, 0, none⟩) ∧ v6 = .bool true ∧ Hid (Below w.heap.size w wx) ∧ Hid (wx.heap.size = w.heap.size + 2) ∧ Hid (wx.heap[w.heap.size + 1]? = some (.cells #[.int .i64 x.e.key.dir, .string x.e.key.name, .bool false, .int .i64 x.e.node.id, .int .i64 x.e.node.kind, .int .i64 x.e.node.mode, .string x.e.node.target, .int .i64 x.used] 142)))
  case first =>
    go_region_held3 (fun w' => w'.cell? ⟨s.p, 0, none⟩ = some (.map (some s.me)) ∧ w'.cell? ⟨w.heap.size, 0, none⟩ = some (.int .i64 k.dir) ∧ w'.cell? ⟨w.heap.size, 1, none⟩ = some (.string k.name) ∧ w'.heap[s.me]? = some (.map (kes s.K) s.c1))
      (refine ⟨?_, ?_, ?_, ?_⟩ <;> first | exact cellA (b0.1) _ | exact BX.1 | exact BX.2.1 | exact heap_old (HE.out) _ | exact cellA (cellA (b0.1) _) _ | exact cellA (BX.1) _ | exact cellA (BX.2.1) _ | exact heap_old (heap_old (HE.out) _) _)
      (fail)
    all_goals
      go_wp2_with fail
      go_meet
      have e1 := heap_new (w.alloc (.cells #[.int .i64 k.dir, .string k.name] 53)) (.cells #[.int .i64 x.e.key.dir, .string x.e.key.name, .bool false, .int .i64 x.e.node.id, .int .i64 x.e.node.kind, .int .i64 x.e.node.mode, .string x.e.node.target, .int .i64 x.used] 142)
      simp only [World.size_alloc] at e1
      exact ⟨rfl, rfl, hid (bl2 w (.cells #[.int .i64 k.dir, .string k.name] 53) (.cells #[.int .i64 x.e.key.dir, .string x.e.key.name, .bool false, .int .i64 x.e.node.id, .int .i64 x.e.node.kind, .int .i64 x.e.node.mode, .string x.e.node.target, .int .i64 x.used] 142)).drew, hid (by simp), hid e1⟩
  case rest =>
    clear HL
    obtain ⟨rfl, rfl, HB, HZ, HX⟩ := hcut
    have hh := HH.out.below HB.out
    have HC := hid hh
    have c0 := blk3 hh.hp
    have BZ := blk8 HX.out
    have hrg := run_range_k hh.he
    clear hh BX b0
    go_wp2_with fail
    go_loopw [31] (fun _ wr => ∃ (D rest : List Ke), Hid (ItAt wr wc.heap.size s.me s.c1 s.K D rest) ∧ Hid (Below wc.heap.size wc wr) ∧ Hid (hangs (x.e.node.id) D = false)) (fun _ wr => s.K.length - (wr.iterSeen wc.heap.size).size)
    case atStart => exact ⟨[], s.K, hid ⟨⟨_, Nat.le_refl _, heap_new wc _⟩, List.Perm.refl _⟩, hid (bl1 wc _), hid rfl⟩
    case round =>
      clear hrg c0 BZ
      obtain ⟨D, rest, HI, HBB, HD⟩ := hrel
      have hh := HC.out.below HBB.out
      have hme : wc.heap.size ≠ s.me := fun e => by have := blk_lt HC.out.he; omega
      rcases next_k HI.out hh.he hme hh.b1 hh.n1 with ⟨h0, hnx⟩ | ⟨y, rest', W, hnx, hen, hit, hchg, hxm, hpm⟩
      · have HN := hid (show hangs (x.e.node.id) s.K = false by have := HI.out.pm; rw [h0, List.append_nil] at this; rw [← hangs_perm _ this]; exact HD.out)
        clear h0 hh
        go_wp2
        go_ret
        exact ⟨by simp [HN.out], HB.out.trans (HBB.out.mono (by have := HB.out.size; omega))⟩
      · have HT := hid hit
        have HG := hid hchg
        have HM := hid hxm
        have BX := blk2 (heap_new W (.cells #[.int .i64 y.e.key.dir, .string y.e.key.name] 53))
        have hbe := (chg_to_below HBB.out HG.out (fun k hk => by omega) (Nat.le_refl _)).trans ((bl1 W (.cells #[.int .i64 y.e.key.dir, .string y.e.key.name] 53)).mono (by have := HBB.out.size; have := HG.out.size; omega))
        have HE2 := hid hbe
        by_cases hd : y.e.key.dir = x.e.node.id
        · have hd' : (y.e.key.dir == x.e.node.id) = true := by simpa using hd
          have HN := hid (show hangs (x.e.node.id) s.K = true from hangs_mem HM.out hd)
          clear hh hit hchg hxm hpm hd hbe
          go_wp2
          go_ret
          exact ⟨by simp [HN.out], HB.out.trans (HE2.out.mono (by have := HB.out.size; omega))⟩
        · have hd' : (y.e.key.dir == x.e.node.id) = false := by simpa using hd
          have HN := hid (show hangs (x.e.node.id) (D ++ [y]) = false by rw [hangs_snoc, HD.out, hd']; rfl)
          clear hh hit hchg hxm hpm hd hbe
          go_wp2
          refine ⟨⟨D ++ [y], rest', hid (HT.out.below (bl1 W _)), hid HE2.out, HN⟩, HI.out.step (HT.out.below (bl1 W _))⟩

end Go.Proofs.YtbjibkjenleloaaGreatDoor

end
