/- Parts of a proof about the given program, in build order: Lib, LibB, DentA, DentB, DentC. No condition. -/
import Derived.WalkKit
import Derived.WalkSpells
import Derived.WalkLawsBesides
import Derived.Maps.AppendAt
import Derived.Laws.AppendOwnNone
import Derived.Laws.CopyOwn
import Derived.Deep.Draws
import Derived.Deep.MidRow
import Derived.Deep.QuietTactic
import Derived.Test.YtbjibkjenleloaaGreatDoorRows
import Derived.BigQuiet
import Derived.Deep.DeepMust
import Derived.Deep.RegionHeld3
import Derived.Deep.DrawnRows
import Derived.Deep.RegionLaw
import Derived.Maps.RangeRun
import Derived.Deep.DeepCutAuto
import Derived.Deep.CutBlock
/- Plain words for the walks of this seat: what a slice reads as, which blocks may have turned, and the laws for append and copy in those words. -/
section
namespace Go.Proofs.YtbjibkjenleloaaGreatDoor
set_option linter.unusedVariables false
set_option linter.unusedSimpArgs false
open Go.RowKit

theorem hid {p : Prop} (h : p) : Hid p := h

/-- Only blocks of F may have turned, and new ones have come. -/
structure Chg (F : Nat → Prop) (w w' : World) : Prop where
  os : w'.os = w.os
  tape : w'.tape = w.tape
  output : w'.output = w.output
  size : w.heap.size ≤ w'.heap.size
  block : ∀ k, k < w.heap.size → ¬ F k → w'.heap[k]? = w.heap[k]?

def NoB : Nat → Prop := fun _ => False

theorem Chg.refl (F : Nat → Prop) (w : World) : Chg F w w := ⟨rfl, rfl, rfl, Nat.le_refl _, fun _ _ _ => rfl⟩
theorem Chg.trans {F G H : Nat → Prop} {a b c : World} (h : Chg F a b) (k : Chg G b c) (hF : ∀ i, i < a.heap.size → F i → H i) (hG : ∀ i, i < a.heap.size → G i → H i) : Chg H a c :=
  ⟨k.os.trans h.os, k.tape.trans h.tape, k.output.trans h.output, Nat.le_trans h.size k.size, fun i hi hn =>
    (k.block i (Nat.lt_of_lt_of_le hi h.size) (fun hg => hn (hG i hi hg))).trans (h.block i hi (fun hf => hn (hF i hi hf)))⟩
theorem Chg.mono {F G : Nat → Prop} {a b : World} (h : Chg F a b) (hF : ∀ i, i < a.heap.size → F i → G i) : Chg G a b :=
  ⟨h.os, h.tape, h.output, h.size, fun i hi hn => h.block i hi (fun hf => hn (hF i hi hf))⟩
theorem Chg.drewN {F : Nat → Prop} {a b : World} (h : Chg F a b) (n : Nat) : Chg F a (b.drewN n) := ⟨h.os, h.tape, h.output, h.size, h.block⟩
theorem Chg.drew {F : Nat → Prop} {a b : World} (h : Chg F a b) : Chg F a b.drew := ⟨h.os, h.tape, h.output, h.size, h.block⟩
theorem Chg.alloc {F : Nat → Prop} {a b : World} (h : Chg F a b) (o : Obj) : Chg F a (b.alloc o) :=
  ⟨h.os, h.tape, h.output, by simp; have := h.size; omega, fun i hi hn => by
    rw [Below.heap_alloc _ _ _ (Nat.lt_of_lt_of_le hi h.size)]; exact h.block i hi hn⟩
theorem Chg.setCell {F : Nat → Prop} {a b : World} (h : Chg F a b) (p : Addr) (u : Value) (hp : F p.block ∨ a.heap.size ≤ p.block) : Chg F a (b.setCell p u) :=
  ⟨h.os, h.tape, h.output, by simpa [World.setCell] using h.size, fun i hi hn => by
    rw [Below.heap_setCell _ _ _ _ (by rintro rfl; rcases hp with hp | hp; exact hn hp; omega)]; exact h.block i hi hn⟩
theorem Chg.below {w w' : World} (h : Below w.heap.size w w') : Chg NoB w w' := ⟨h.os, h.tape, h.output, h.size, fun i hi _ => h.block i hi⟩
theorem Chg.toBelow {F : Nat → Prop} {w w' : World} (h : Chg F w w') {B : Nat} (hB : B ≤ w.heap.size) (hF : ∀ i, i < B → ¬ F i) : Below B w w' :=
  ⟨h.os, h.tape, h.output, h.size, fun i hi => h.block i (Nat.lt_of_lt_of_le hi hB) (hF i hi)⟩
theorem Chg.grown {F : Nat → Prop} {a b c : World} (h : Chg F a b) {row : Option Nat} (hg : b.grownBy c row) (hr : ∀ k, row = some k → F k ∨ a.heap.size ≤ k) : Chg F a c :=
  ⟨hg.os.trans h.os, hg.tape.trans h.tape, hg.output.trans h.output, Nat.le_trans h.size hg.size, fun i hi hn =>
    (hg.block i (Nat.lt_of_lt_of_le hi h.size) (fun e => by rcases hr i e.symm with h' | h'; exact hn h'; omega)).trans (h.block i hi hn)⟩
theorem Chg.cell {F : Nat → Prop} {w w' : World} (h : Chg F w w') {a : Addr} {v : Value} (hc : w.cell? a = some v) (hn : ¬ F a.block) : w'.cell? a = some v := by
  rw [World.cell?_of_block (h.block a.block (World.block_lt_of_cell? w a hc) hn)]; exact hc

/-- The slice value v has n elements, and its first cells are cs. -/
def Rd (w : World) (v : Value) (n : Nat) (cs : List Value) : Prop :=
  (v = .slice none 0 0 ∧ n = 0 ∧ cs = []) ∨
  ∃ ad cap, v = .slice (some ad) n cap ∧ n ≤ cap ∧ cap ≤ maxLen ∧ ∀ i c, cs[i]? = some c → w.cell? (ad.add i) = some c

theorem add_mid (b o j : Nat) : (⟨b, o, none⟩ : Addr).add j = ⟨b, o + j, none⟩ := by unfold Addr.add; split <;> simp_all

theorem Addr.add_block (a : Addr) (n : Nat) : (a.add n).block = a.block := by unfold Addr.add; split <;> rfl

/-- what the walk wants of it -/
theorem Rd.form {w : World} {v : Value} {n : Nat} {cs : List Value} (h : Rd w v n cs) (hcs : 0 < cs.length) :
    ∃ b off cap, v = .slice (some ⟨b, off, none⟩) n cap ∧ n ≤ cap ∧ cap ≤ maxLen ∧ b < w.heap.size ∧ ∀ i c, cs[i]? = some c → w.cell? ⟨b, off + i, none⟩ = some c := by
  rcases h with ⟨_, _, rfl⟩ | ⟨ad, cap, rfl, h1, h2, h3⟩
  · simp at hcs
  · obtain ⟨b, off, spot⟩ := ad
    have h0 := h3 0 cs[0] (by simp)
    rw [Addr.add_zero'] at h0
    cases spot with
    | some s => simp [World.cell?] at h0; split at h0 <;> simp_all
    | none =>
      refine ⟨b, off, cap, rfl, h1, h2, World.block_lt_of_cell? w _ h0, fun i c hc => ?_⟩
      have := h3 i c hc
      rwa [add_mid] at this

theorem Rd.shape {w : World} {v : Value} {n : Nat} {cs : List Value} (h : Rd w v n cs) : ∃ a cap, v = .slice a n cap ∧ n ≤ cap ∧ cap ≤ maxLen := by
  rcases h with ⟨rfl, rfl, _⟩ | ⟨ad, cap, rfl, h1, h2, _⟩
  · exact ⟨none, 0, rfl, Nat.le_refl _, by simp [maxLen]⟩
  · exact ⟨_, _, rfl, h1, h2⟩

theorem Rd.len {w : World} {v : Value} {n : Nat} {cs : List Value} (h : Rd w v n cs) : n ≤ maxLen := by
  obtain ⟨_, _, _, h1, h2⟩ := h.shape; omega

theorem Rd.nil (w : World) : Rd w (.slice none 0 0) 0 [] := .inl ⟨rfl, rfl, rfl⟩

theorem Rd.chg {w w' : World} {v : Value} {n : Nat} {cs : List Value} (h : Rd w v n cs) (hk : ∀ k, v.ownBlock = some k → k < w.heap.size → w'.heap[k]? = w.heap[k]?) : Rd w' v n cs := by
  rcases h with h | ⟨ad, cap, rfl, h1, h2, h3⟩
  · exact .inl h
  · refine .inr ⟨ad, cap, rfl, h1, h2, fun i c hc => ?_⟩
    have h4 := h3 i c hc
    have hb := World.block_lt_of_cell? w _ h4
    rw [Addr.add_block] at hb
    rw [World.cell?_of_block (w := w) (by rw [Addr.add_block]; exact hk _ rfl hb)]
    exact h4

theorem Rd.own {w : World} {B e sz n : Nat} {v : Value} {xs : List Value} (h : w.ownsRow B e sz v n xs) : Rd w v n xs := by
  rcases h.2 with ⟨rfl, rfl⟩ | ⟨g, cap, cur, rfl, hb, hg, h1, h2, h3, h4⟩
  · have : xs = [] := List.eq_nil_of_length_eq_zero (by simpa using h.1)
    subst this; exact .inl ⟨rfl, rfl, rfl⟩
  · exact .inr ⟨_, cap, rfl, h1, h2, h.cells (g := g) rfl⟩

theorem ownsRow_chg {w w' : World} {B e sz n : Nat} {v : Value} {xs : List Value} (h : w.ownsRow B e sz v n xs) (hk : ∀ k, v.ownBlock = some k → k < w.heap.size → w'.heap[k]? = w.heap[k]?) : w'.ownsRow B e sz v n xs := by
  refine ⟨h.1, ?_⟩
  rcases h.2 with hn | ⟨g, cap, cur, rfl, hb, hgg, rest⟩
  · exact .inl hn
  · exact .inr ⟨g, cap, cur, rfl, hb, by rw [hk g rfl (Array.getElem?_eq_some_iff.1 hgg).1]; exact hgg, rest⟩

theorem ownsRow_shape {w : World} {B e sz n : Nat} {v : Value} {xs : List Value} (h : w.ownsRow B e sz v n xs) : ∃ a c, v = .slice a n c := by
  obtain ⟨a, c, h, _⟩ := (Rd.own h).shape; exact ⟨a, c, h⟩

/-- append whatever reads as a list, nil too, onto a slice of the call's own -/
theorem wp_append_rd {P : Program} {w : World} {o : Oper} {a : Act} {K : Act → World → Prop} {Q : Exit → Act → World → Prop} (s x : Operand) (t : TypeId)
    (ho : o.op = .call { callee := .builtin .append, args := #[s, x], argTypes := #[t, t] })
    (base : Nat) (e : TypeId) (i : TypeInfo) (z : Value) (size bytes : Nat) (ht : P.underlying t = some (.slice e)) (hi : P.info? e = some i) (hz : i.zero = some z)
    (hsize : i.size = size) (hby : i.bytes = bytes) (hzs : z.cells.size = size) (hsz : 0 < size)
    (v : Value) (n : Nat) (xs : List Value) (hs : a.eval s = v) (hown : w.ownsRow base e size v n xs)
    (sv : Value) (m : Nat) (news : List Value) (hx : a.eval x = sv) (hr : Rd w sv m news) (hl : news.length = m * size) (h1 : ∀ u ∈ news, u.oneCell' = true)
    (h63 : n + m ≤ maxLen) (hbytes : (n + m) * bytes ≤ 140737488355328) (hbase : base ≤ w.heap.size)
    (h : ∀ a' c' w', w'.ownsRow base e size (.slice a' (n + m) c') (n + m) (xs ++ news) → w.grownBy w' v.ownBlock → ((Value.slice a' (n + m) c').ownBlock = v.ownBlock ∨ (Value.slice a' (n + m) c').ownBlock = some w.heap.size) → K (a.put o.dst (.slice a' (n + m) c')) w') :
    Oper.wp P o a w K Q := by
  unfold Oper.wp execOp
  rcases hr with ⟨rfl, rfl, rfl⟩ | ⟨ad, cap, rfl, h2, h3, h4⟩
  · have hrun := run_append_owned_none (P := P) (w := w) base t o.type e i size ht hi v n xs hown
    simp only [ho, resolve, invoke, builtin, Sem.run_bind, Sem.run_pure, Result.andThen_ok, List.map_toArray, List.map_cons, List.map_nil, hs, hx, hrun]
    obtain ⟨a', c', rfl⟩ := ownsRow_shape hown
    exact h a' c' w (by simpa using hown) ⟨rfl, rfl, rfl, Nat.le_refl _, fun _ _ _ => rfl⟩ (.inl rfl)
  · obtain ⟨v', w', hrun, ho', hg', _, hb'⟩ := run_append_own_at (P := P) w base t o.type e i z size bytes ht hi hz hsize hby hzs hsz v n xs hown ad m cap news hl h4 h1 h63 hbytes hbase
    simp only [ho, resolve, invoke, builtin, Sem.run_bind, Sem.run_pure, Result.andThen_ok, List.map_toArray, List.map_cons, List.map_nil, hs, hx, hrun]
    obtain ⟨a', c', rfl⟩ := ownsRow_shape ho'
    exact h a' c' w' ho' hg' hb'

theorem wpList_append_rd {P : Program} {w : World} {ops : Array Oper} {rest : List Oper} {o : Oper} {a : Act} {Q : Exit → Act → World → Prop} (hgd : o.guard = none) (s x : Operand) (t : TypeId)
    (ho : o.op = .call { callee := .builtin .append, args := #[s, x], argTypes := #[t, t] })
    (base : Nat) (e : TypeId) (i : TypeInfo) (z : Value) (size bytes : Nat) (ht : P.underlying t = some (.slice e)) (hi : P.info? e = some i) (hz : i.zero = some z)
    (hsize : i.size = size) (hby : i.bytes = bytes) (hzs : z.cells.size = size) (hsz : 0 < size)
    (v : Value) (n : Nat) (xs : List Value) (hs : a.eval s = v) (hown : w.ownsRow base e size v n xs)
    (sv : Value) (m : Nat) (news : List Value) (hx : a.eval x = sv) (hr : Rd w sv m news) (hl : news.length = m * size) (h1 : ∀ u ∈ news, u.oneCell' = true)
    (h63 : n + m ≤ maxLen) (hbytes : (n + m) * bytes ≤ 140737488355328) (hbase : base ≤ w.heap.size)
    (h : ∀ a' c' w', w'.ownsRow base e size (.slice a' (n + m) c') (n + m) (xs ++ news) → w.grownBy w' v.ownBlock → ((Value.slice a' (n + m) c').ownBlock = v.ownBlock ∨ (Value.slice a' (n + m) c').ownBlock = some w.heap.size) → wpList P ops Q rest (a.put o.dst (.slice a' (n + m) c')) w') :
    wpList P ops Q (o :: rest) a w :=
  wpList_plain hgd fun _ hK => wp_append_rd s x t ho base e i z size bytes ht hi hz hsize hby hzs hsz v n xs hs hown sv m news hx hr hl h1 h63 hbytes hbase fun a' c' w' h2 h3 h4 => hK _ _ (h a' c' w' h2 h3 h4)

/-- the same as one step of a region that draws its order -/
theorem step_append_rd {P : Program} {w : World} {ops : Array Oper} {o : Oper} {a : Act} {K : Act → World → Prop} {Q : Exit → Act → World → Prop} {E : Prop} (hgd : o.guard = none) (s x : Operand) (t : TypeId)
    (ho : o.op = .call { callee := .builtin .append, args := #[s, x], argTypes := #[t, t] })
    (base : Nat) (e : TypeId) (i : TypeInfo) (z : Value) (size bytes : Nat) (ht : P.underlying t = some (.slice e)) (hi : P.info? e = some i) (hz : i.zero = some z)
    (hsize : i.size = size) (hby : i.bytes = bytes) (hzs : z.cells.size = size) (hsz : 0 < size)
    (v : Value) (n : Nat) (xs : List Value) (hs : a.eval s = v) (hown : w.ownsRow base e size v n xs)
    (sv : Value) (m : Nat) (news : List Value) (hx : a.eval x = sv) (hr : Rd w sv m news) (hl : news.length = m * size) (h1 : ∀ u ∈ news, u.oneCell' = true)
    (h63 : n + m ≤ maxLen) (hbytes : (n + m) * bytes ≤ 140737488355328) (hbase : base ≤ w.heap.size)
    (h : ∀ a' c' w', w'.ownsRow base e size (.slice a' (n + m) c') (n + m) (xs ++ news) → w.grownBy w' v.ownBlock → ((Value.slice a' (n + m) c').ownBlock = v.ownBlock ∨ (Value.slice a' (n + m) c').ownBlock = some w.heap.size) → K (a.put o.dst (.slice a' (n + m) c')) w') :
    if Region.wanted o (yielded ops a.tmps) = true then Oper.wp P o a w K Q else E := by
  have hw : Region.wanted o (yielded ops a.tmps) = true := by simp [Region.wanted, hgd]
  rw [if_pos hw]
  exact wp_append_rd s x t ho base e i z size bytes ht hi hz hsize hby hzs hsz v n xs hs hown sv m news hx hr hl h1 h63 hbytes hbase h

/-- a row that is full is known whole -/
theorem ownsRow_whole {w : World} {B e sz n g : Nat} {xs : List Value} (h : w.ownsRow B e sz (.slice (some ⟨g, 0, none⟩) n n) n xs) : w.heap[g]? = some (.cells xs.toArray e (0, 0)) := by
  rcases h.2 with ⟨hv, _⟩ | ⟨g', cap, cur, hv, hb, hg, h1, h2, h3, h4⟩
  · cases hv
  · simp only [Value.slice.injEq, Option.some.injEq, Addr.mk.injEq] at hv
    obtain ⟨⟨rfl, _⟩, _, rfl⟩ := hv
    rw [hg, ← h4, List.take_of_length_le (by simp [h3])]

theorem ownsRow_of_whole {w : World} {B e sz n g : Nat} {xs : List Value} (h : w.heap[g]? = some (.cells xs.toArray e (0, 0))) (hx : xs.length = n * sz) (hB : B ≤ g) (hn : n ≤ maxLen) :
    w.ownsRow B e sz (.slice (some ⟨g, 0, none⟩) n n) n xs :=
  ⟨hx, .inr ⟨g, n, _, rfl, hB, h, Nat.le_refl _, hn, by simpa using hx, by rw [← hx]; simp⟩⟩

theorem splice_all {α : Type} (L cs : List α) (h : cs.length = L.length) : splice L 0 cs = cs := by
  simp [splice, h]

theorem blk_cell {w : World} {k t : Nat} {cs : Array Value} {fr : Nat × Nat} (h : w.heap[k]? = some (.cells cs t fr)) {i : Nat} {v : Value} (hi : cs[i]? = some v) : w.cell? ⟨k, i, none⟩ = some v := by
  simp [World.cell?, h, hi]

theorem blk_free {w : World} {k t : Nat} {cs : Array Value} (h : w.heap[k]? = some (.cells cs t (0, 0))) (i : Nat) : w.frozen? ⟨k, i, none⟩ = false := by
  simp [World.frozen?, h]

theorem blk_lt {w : World} {k : Nat} {o : Obj} (h : w.heap[k]? = some o) : k < w.heap.size := (Array.getElem?_eq_some_iff.1 h).1

theorem heap_new (w : World) (o : Obj) : (w.alloc o).heap[w.heap.size]? = some o := heap_alloc_new w o

theorem heap_old {w : World} {k : Nat} {x : Obj} (h : w.heap[k]? = some x) (o : Obj) : (w.alloc o).heap[k]? = some x := by
  rw [Below.heap_alloc _ _ _ (blk_lt h)]; exact h

theorem heap_grown {w w' : World} {row : Option Nat} {k : Nat} {x : Obj} (hg : w.grownBy w' row) (h : w.heap[k]? = some x) (hne : some k ≠ row) : w'.heap[k]? = some x := by
  rw [hg.block k (blk_lt h) hne]; exact h

theorem heap_below {B : Nat} {w w' : World} {k : Nat} {x : Obj} (hb : Below B w w') (h : w.heap[k]? = some x) (hk : k < B) : w'.heap[k]? = some x := by
  rw [hb.block k hk]; exact h

theorem heap_chg {F : Nat → Prop} {w w' : World} {k : Nat} {x : Obj} (hc : Chg F w w') (h : w.heap[k]? = some x) (hk : ¬ F k) : w'.heap[k]? = some x := by
  rw [hc.block k (blk_lt h) hk]; exact h

theorem heap_set {w : World} {k : Nat} {cs : Array Value} {t : Nat} {fr : Nat × Nat} (h : w.heap[k]? = some (.cells cs t fr)) (i : Nat) (u : Value) :
    (w.setCell ⟨k, i, none⟩ u).heap[k]? = some (.cells (cs.setIfInBounds i u) t fr) := by
  simp only [World.setCell, Array.getElem?_modify, if_pos, h]; rfl

theorem heap_set_ne {w : World} {k j : Nat} {x : Obj} (h : w.heap[k]? = some x) (i : Nat) (u : Value) (hne : k ≠ j) : (w.setCell ⟨j, i, none⟩ u).heap[k]? = some x := by
  rw [Below.heap_setCell _ _ _ _ hne]; exact h

theorem Rd.src {w : World} {a : Option Addr} {n c : Nat} {cs : List Value} (h : Rd w (.slice a n c) n cs) (hp : 0 < cs.length) :
    ∃ ad, a = some ad ∧ ∀ j u, cs[j]? = some u → w.cell? (ad.add j) = some u := by
  rcases h with ⟨_, _, rfl⟩ | ⟨ad, cap, hv, _, _, h3⟩
  · simp at hp
  · simp only [Value.slice.injEq] at hv
    exact ⟨ad, hv.1, h3⟩

theorem below_cell {B : Nat} {w w' : World} (hb : Below B w w') (hB : w.heap.size ≤ B) {a : Addr} {v : Value} (h : w.cell? a = some v) : w'.cell? a = some v := by
  rw [hb.cell (Nat.lt_of_lt_of_le (World.block_lt_of_cell? w a h) hB)]; exact h

theorem size_made (z : Array Value) (n : Nat) : (madeCells z n).size = n := by simp [madeCells]

theorem Rd.alloc {w : World} {v : Value} {n : Nat} {cs : List Value} (h : Rd w v n cs) (o : Obj) : Rd (w.alloc o) v n cs :=
  h.chg fun k _ hk => Below.heap_alloc _ _ _ hk
theorem Rd.drew {w : World} {v : Value} {n : Nat} {cs : List Value} (h : Rd w v n cs) : Rd w.drew v n cs := h
theorem Rd.drewN {w : World} {v : Value} {n : Nat} {cs : List Value} (h : Rd w v n cs) (q : Nat) : Rd (w.drewN q) v n cs := h
theorem Rd.below {w w' : World} {v : Value} {n : Nat} {cs : List Value} (h : Rd w v n cs) (hb : Below w.heap.size w w') : Rd w' v n cs :=
  h.chg fun k _ hk => hb.block k hk

theorem ownsRow_mono {w : World} {B B' e sz n : Nat} {v : Value} {xs : List Value} (h : w.ownsRow B e sz v n xs) (hB : B' ≤ B) : w.ownsRow B' e sz v n xs := by
  refine ⟨h.1, ?_⟩
  rcases h.2 with hn | ⟨g, cap, cur, rfl, hb, rest⟩
  · exact .inl hn
  · exact .inr ⟨g, cap, cur, rfl, Nat.le_trans hB hb, rest⟩

theorem blk1 {w : World} {k t : Nat} {x0 : Value} (h : w.heap[k]? = some (.cells #[x0] t (0, 0))) :
    w.cell? ⟨k, 0, none⟩ = some x0 ∧ w.frozen? ⟨k, 0, none⟩ = false := by
  simp [World.cell?, World.frozen?, h]

theorem blk2 {w : World} {k t : Nat} {x0 x1 : Value} (h : w.heap[k]? = some (.cells #[x0, x1] t (0, 0))) :
    w.cell? ⟨k, 0, none⟩ = some x0 ∧ w.cell? ⟨k, 1, none⟩ = some x1 ∧ w.frozen? ⟨k, 0, none⟩ = false ∧ w.frozen? ⟨k, 1, none⟩ = false := by
  simp [World.cell?, World.frozen?, h]

theorem blk3 {w : World} {k t : Nat} {x0 x1 x2 : Value} (h : w.heap[k]? = some (.cells #[x0, x1, x2] t (0, 0))) :
    w.cell? ⟨k, 0, none⟩ = some x0 ∧ w.cell? ⟨k, 1, none⟩ = some x1 ∧ w.cell? ⟨k, 2, none⟩ = some x2 ∧ w.frozen? ⟨k, 0, none⟩ = false ∧ w.frozen? ⟨k, 1, none⟩ = false ∧ w.frozen? ⟨k, 2, none⟩ = false := by
  simp [World.cell?, World.frozen?, h]

theorem blk4 {w : World} {k t : Nat} {x0 x1 x2 x3 : Value} (h : w.heap[k]? = some (.cells #[x0, x1, x2, x3] t (0, 0))) :
    w.cell? ⟨k, 0, none⟩ = some x0 ∧ w.cell? ⟨k, 1, none⟩ = some x1 ∧ w.cell? ⟨k, 2, none⟩ = some x2 ∧ w.cell? ⟨k, 3, none⟩ = some x3 ∧ w.frozen? ⟨k, 0, none⟩ = false ∧ w.frozen? ⟨k, 1, none⟩ = false ∧ w.frozen? ⟨k, 2, none⟩ = false ∧ w.frozen? ⟨k, 3, none⟩ = false := by
  simp [World.cell?, World.frozen?, h]

theorem blk5 {w : World} {k t : Nat} {x0 x1 x2 x3 x4 : Value} (h : w.heap[k]? = some (.cells #[x0, x1, x2, x3, x4] t (0, 0))) :
    w.cell? ⟨k, 0, none⟩ = some x0 ∧ w.cell? ⟨k, 1, none⟩ = some x1 ∧ w.cell? ⟨k, 2, none⟩ = some x2 ∧ w.cell? ⟨k, 3, none⟩ = some x3 ∧ w.cell? ⟨k, 4, none⟩ = some x4 ∧ w.frozen? ⟨k, 0, none⟩ = false ∧ w.frozen? ⟨k, 1, none⟩ = false ∧ w.frozen? ⟨k, 2, none⟩ = false ∧ w.frozen? ⟨k, 3, none⟩ = false ∧ w.frozen? ⟨k, 4, none⟩ = false := by
  simp [World.cell?, World.frozen?, h]

theorem blk6 {w : World} {k t : Nat} {x0 x1 x2 x3 x4 x5 : Value} (h : w.heap[k]? = some (.cells #[x0, x1, x2, x3, x4, x5] t (0, 0))) :
    w.cell? ⟨k, 0, none⟩ = some x0 ∧ w.cell? ⟨k, 1, none⟩ = some x1 ∧ w.cell? ⟨k, 2, none⟩ = some x2 ∧ w.cell? ⟨k, 3, none⟩ = some x3 ∧ w.cell? ⟨k, 4, none⟩ = some x4 ∧ w.cell? ⟨k, 5, none⟩ = some x5 ∧ w.frozen? ⟨k, 0, none⟩ = false ∧ w.frozen? ⟨k, 1, none⟩ = false ∧ w.frozen? ⟨k, 2, none⟩ = false ∧ w.frozen? ⟨k, 3, none⟩ = false ∧ w.frozen? ⟨k, 4, none⟩ = false ∧ w.frozen? ⟨k, 5, none⟩ = false := by
  simp [World.cell?, World.frozen?, h]

theorem blk7 {w : World} {k t : Nat} {x0 x1 x2 x3 x4 x5 x6 : Value} (h : w.heap[k]? = some (.cells #[x0, x1, x2, x3, x4, x5, x6] t (0, 0))) :
    w.cell? ⟨k, 0, none⟩ = some x0 ∧ w.cell? ⟨k, 1, none⟩ = some x1 ∧ w.cell? ⟨k, 2, none⟩ = some x2 ∧ w.cell? ⟨k, 3, none⟩ = some x3 ∧ w.cell? ⟨k, 4, none⟩ = some x4 ∧ w.cell? ⟨k, 5, none⟩ = some x5 ∧ w.cell? ⟨k, 6, none⟩ = some x6 ∧ w.frozen? ⟨k, 0, none⟩ = false ∧ w.frozen? ⟨k, 1, none⟩ = false ∧ w.frozen? ⟨k, 2, none⟩ = false ∧ w.frozen? ⟨k, 3, none⟩ = false ∧ w.frozen? ⟨k, 4, none⟩ = false ∧ w.frozen? ⟨k, 5, none⟩ = false ∧ w.frozen? ⟨k, 6, none⟩ = false := by
  simp [World.cell?, World.frozen?, h]

theorem bl1 (w : World) (a : Obj) : Below w.heap.size w (w.alloc a) := (Below.refl _ _).alloc (Nat.le_refl _) _
theorem bl2 (w : World) (a b : Obj) : Below w.heap.size w ((w.alloc a).alloc b) := (bl1 w a).alloc (by simp) _
theorem bl3 (w : World) (a b c : Obj) : Below w.heap.size w (((w.alloc a).alloc b).alloc c) := (bl2 w a b).alloc (by simp; omega) _

theorem own_alloc {w : World} {B e sz n : Nat} {v : Value} {xs : List Value} (h : w.ownsRow B e sz v n xs) (o : Obj) : (w.alloc o).ownsRow B e sz v n xs := h.alloc o
theorem own_drew {w : World} {B e sz n : Nat} {v : Value} {xs : List Value} (h : w.ownsRow B e sz v n xs) : w.drew.ownsRow B e sz v n xs := h
theorem own_drewN {w : World} {B e sz n : Nat} {v : Value} {xs : List Value} (h : w.ownsRow B e sz v n xs) (q : Nat) : (w.drewN q).ownsRow B e sz v n xs := h
theorem own_below {w w' : World} {B e sz n : Nat} {v : Value} {xs : List Value} (h : w.ownsRow B e sz v n xs) (hb : Below w.heap.size w w') : w'.ownsRow B e sz v n xs :=
  ownsRow_chg h fun k _ hk => hb.block k hk
theorem own_lt {w : World} {B e sz n : Nat} {v : Value} {xs : List Value} (h : w.ownsRow B e sz v n xs) {k : Nat} (hk : v.ownBlock = some k) : B ≤ k ∧ k < w.heap.size := h.lt k hk
theorem own_type {w : World} {B e sz n : Nat} {v : Value} {xs : List Value} (h : w.ownsRow B e sz v n xs) {k : Nat} (hk : v.ownBlock = some k) : ∃ cur, w.heap[k]? = some (.cells cur e (0, 0)) := by
  rcases h.2 with ⟨rfl, _⟩ | ⟨g, cap, cur, rfl, _, hg, _⟩
  · simp [Value.ownBlock] at hk
  · simp [Value.ownBlock] at hk; subst hk; exact ⟨cur, hg⟩

/-- a slice over a block that is known whole -/
theorem rd_blk {w : World} {k t n : Nat} {cs : List Value} {fr : Nat × Nat} (h : w.heap[k]? = some (.cells cs.toArray t fr)) (hn : n ≤ maxLen) : Rd w (.slice (some ⟨k, 0, none⟩) n n) n cs :=
  .inr ⟨_, n, rfl, Nat.le_refl _, hn, fun i c hc => by rw [add_mid, Nat.zero_add]; exact blk_cell h (by simpa using hc)⟩

/-- rows of two element types lie in two blocks -/
theorem own_ne {w : World} {B e sz n k T : Nat} {v : Value} {xs : List Value} {cs : Array Value} (h : w.ownsRow B e sz v n xs) (hk : w.heap[k]? = some (.cells cs T (0, 0))) (hT : T ≠ e) : v.ownBlock ≠ some k := by
  intro e1
  obtain ⟨cur, h1⟩ := own_type h e1
  rw [hk] at h1
  simp only [Option.some.injEq, Obj.cells.injEq] at h1
  exact hT h1.2.1

theorem own_ne2 {w : World} {B e sz n B' e' sz' n' : Nat} {v v' : Value} {xs xs' : List Value} (h : w.ownsRow B e sz v n xs) (h' : w.ownsRow B' e' sz' v' n' xs') (hT : e ≠ e') (k : Nat) (hk : v.ownBlock = some k) : v'.ownBlock ≠ some k := by
  obtain ⟨cur, h1⟩ := own_type h hk
  exact own_ne h' h1 hT

theorem own_grown {w w' : World} {B e sz n : Nat} {v : Value} {xs : List Value} {row : Option Nat} (h : w.ownsRow B e sz v n xs) (hg : w.grownBy w' row) (hne : ∀ k, v.ownBlock = some k → row ≠ some k) : w'.ownsRow B e sz v n xs :=
  ownsRow_chg h fun k hk hl => hg.block k hl fun e => hne k hk e.symm

theorem own_set {w : World} {B e sz n : Nat} {v : Value} {xs : List Value} (h : w.ownsRow B e sz v n xs) {p : Nat} (hne : v.ownBlock ≠ some p) (i : Nat) (u : Value) : (w.setCell ⟨p, i, none⟩ u).ownsRow B e sz v n xs :=
  ownsRow_chg h fun k hk _ => Below.heap_setCell _ _ _ _ fun e => hne (hk.trans (congrArg some e))

theorem rd_set {w : World} {n : Nat} {v : Value} {xs : List Value} (h : Rd w v n xs) {p : Nat} (hne : v.ownBlock ≠ some p) (i : Nat) (u : Value) : Rd (w.setCell ⟨p, i, none⟩ u) v n xs :=
  h.chg fun k hk _ => Below.heap_setCell _ _ _ _ fun e => hne (hk.trans (congrArg some e))

theorem ownBlock_slice (a : Option Addr) (n c : Nat) : (Value.slice a n c).ownBlock = a.map (·.block) := by cases a <;> rfl

/-- copy between rows of elements of several cells -/
theorem run_copy_rowk {P : Program} (w : World) (dT sT ty elem : TypeId) (sz g o dLen dCap : Nat) (a : Addr) (sLen sCap : Nat) (cur : Array Value) (t : TypeId) (cs : List Value)
    (hu : P.underlying dT = some (.slice elem)) (hs : (P.info? elem).map (·.size) = some sz)
    (hg : w.heap[g]? = some (.cells cur t (0, 0))) (hn : cs.length = Nat.min sLen dLen * sz)
    (hsrc : ∀ j v, cs[j]? = some v → w.cell? (a.add j) = some v) (hfit : o + cs.length ≤ cur.size) (h1 : ∀ v ∈ cs, v.oneCell' = true) :
    (Builtin.copy_ #[dT, sT] ty #[.slice (some ⟨g, o, none⟩) dLen dCap, .slice (some a) sLen sCap]).run P w =
      .ok (goInt (Nat.min sLen dLen)) (w.setRow g (splice cur.toList o cs).toArray) := by
  have hl := run_loadCells_list (P := P) w a cs hsrc
  have hst := run_storeCells_at P g o t cs 0 cur w hg (by simpa using hfit) h1
  simp only [Nat.add_zero, List.append_assoc] at hst
  cases hq : P.info? elem with
  | none => simp [hq] at hs
  | some i =>
    have hi : i.size = sz := by simpa [hq] using hs
    simp [Builtin.copy_, run_underlying hu, Builtin.lenOf, Builtin.firstCells, sizeOf, typeInfo, hq, hi, ← hn, hl, hst, splice]

theorem run_copy_nonek {P : Program} (w : World) (dT sT ty elem : TypeId) (sz : Nat) (dp sp : Option Addr) (dLen dCap sLen sCap : Nat)
    (hu : P.underlying dT = some (.slice elem)) (hs : (P.info? elem).map (·.size) = some sz) (hn : Nat.min sLen dLen = 0) :
    (Builtin.copy_ #[dT, sT] ty #[.slice dp dLen dCap, .slice sp sLen sCap]).run P w = .ok (goInt 0) w := by
  cases hq : P.info? elem with
  | none => simp [hq] at hs
  | some i =>
    have hi : i.size = sz := by simpa [hq] using hs
    cases dp <;> cases sp <;> simp [Builtin.copy_, run_underlying hu, Builtin.lenOf, Builtin.firstCells, sizeOf, typeInfo, hq, hi, hn, loadCells, loadCellsFrom, storeCells]

theorem wp_copy_k {P : Program} {o : Oper} {a : Act} {w : World} {K : Act → World → Prop} {Q : Exit → Act → World → Prop} (d s : Operand) (dT sT : TypeId)
    (ho : o.op = .call { callee := .builtin .copy, args := #[d, s], argTypes := #[dT, sT] }) (elem sz : TypeId) (hu : P.underlying dT = some (.slice elem)) (hsz : (P.info? elem).map (·.size) = some sz)
    (dp sp : Option Addr) (dLen dCap sLen sCap : Nat) (hd : a.eval d = .slice dp dLen dCap) (hs : a.eval s = .slice sp sLen sCap)
    (g off : Nat) (cur : List Value) (t : TypeId) (hg : w.heap[g]? = some (.cells cur.toArray t (0, 0))) (cs : List Value) (hn : cs.length = Nat.min sLen dLen * sz)
    (hpos : 0 < Nat.min sLen dLen → dp = some ⟨g, off, none⟩ ∧ ∃ ad, sp = some ad ∧ ∀ j v, cs[j]? = some v → w.cell? (ad.add j) = some v)
    (hfit : off + cs.length ≤ cur.length) (h1 : ∀ v ∈ cs, v.oneCell' = true)
    (h : ∀ w', Hid (w'.heap[g]? = some (.cells (splice cur off cs).toArray t (0, 0))) → Chg (fun k => k = g) w w' → K (a.put o.dst (goInt (Nat.min sLen dLen))) w') :
    Oper.wp P o a w K Q := by
  unfold Oper.wp execOp
  by_cases h0 : Nat.min sLen dLen = 0
  · have hrun := run_copy_nonek (P := P) w dT sT o.type elem sz dp sp dLen dCap sLen sCap hu hsz h0
    simp only [ho, resolve, invoke, builtin, Sem.run_bind, Sem.run_pure, Result.andThen_ok, List.map_toArray, List.map_cons, List.map_nil, hd, hs, hrun]
    have hc : cs = [] := List.eq_nil_of_length_eq_zero (by rw [hn, h0, Nat.zero_mul])
    subst hc
    have := h w (show _ = _ by simpa [splice] using hg) (Chg.refl _ _)
    rw [h0] at this
    exact this
  · obtain ⟨rfl, ad, rfl, hsrc⟩ := hpos (by omega)
    have hrun := run_copy_rowk (P := P) w dT sT o.type elem sz g off dLen dCap ad sLen sCap cur.toArray t cs hu hsz hg hn hsrc (by simpa using hfit) h1
    simp only [ho, resolve, invoke, builtin, Sem.run_bind, Sem.run_pure, Result.andThen_ok, List.map_toArray, List.map_cons, List.map_nil, hd, hs, hrun]
    exact h _ (show _ = _ by simpa using setRow_heap w g _ _ t _ hg) ⟨rfl, rfl, rfl, by simp [World.setRow], fun k _ hk => setRow_other w g k _ hk⟩

theorem step_copy_k {P : Program} {ops : Array Oper} {o : Oper} {a : Act} {w : World} {K : Act → World → Prop} {Q : Exit → Act → World → Prop} {E : Prop} (hgd : o.guard = none) (d s : Operand) (dT sT : TypeId)
    (ho : o.op = .call { callee := .builtin .copy, args := #[d, s], argTypes := #[dT, sT] }) (elem sz : TypeId) (hu : P.underlying dT = some (.slice elem)) (hsz : (P.info? elem).map (·.size) = some sz)
    (dp sp : Option Addr) (dLen dCap sLen sCap : Nat) (hd : a.eval d = .slice dp dLen dCap) (hs : a.eval s = .slice sp sLen sCap)
    (g off : Nat) (cur : List Value) (t : TypeId) (hg : w.heap[g]? = some (.cells cur.toArray t (0, 0))) (cs : List Value) (hn : cs.length = Nat.min sLen dLen * sz)
    (hpos : 0 < Nat.min sLen dLen → dp = some ⟨g, off, none⟩ ∧ ∃ ad, sp = some ad ∧ ∀ j v, cs[j]? = some v → w.cell? (ad.add j) = some v)
    (hfit : off + cs.length ≤ cur.length) (h1 : ∀ v ∈ cs, v.oneCell' = true)
    (h : ∀ w', Hid (w'.heap[g]? = some (.cells (splice cur off cs).toArray t (0, 0))) → Chg (fun k => k = g) w w' → K (a.put o.dst (goInt (Nat.min sLen dLen))) w') :
    if Region.wanted o (yielded ops a.tmps) = true then Oper.wp P o a w K Q else E := by
  have hw : Region.wanted o (yielded ops a.tmps) = true := by simp [Region.wanted, hgd]
  rw [if_pos hw]
  exact wp_copy_k d s dT sT ho elem sz hu hsz dp sp dLen dCap sLen sCap hd hs g off cur t hg cs hn hpos hfit h1 h

theorem Rd.at {w : World} {b o n m c : Nat} {cs : List Value} (h : Rd w (.slice (some ⟨b, o, none⟩) n c) m cs) : ∀ i v, cs[i]? = some v → w.cell? ⟨b, o + i, none⟩ = some v := by
  rcases h with ⟨hv, _⟩ | ⟨ad, cap, hv, _, _, h3⟩
  · cases hv
  · simp only [Value.slice.injEq, Option.some.injEq] at hv
    obtain ⟨rfl, _⟩ := hv
    intro i v hi
    rw [← add_mid]; exact h3 i v hi

theorem chg_set2 (w : World) (k i j : Nat) (u v : Value) : Chg (fun b => b = k) w ((w.setCell ⟨k, i, none⟩ u).setCell ⟨k, j, none⟩ v) :=
  ((Chg.refl (fun b => b = k) w).setCell ⟨k, i, none⟩ u (.inl rfl)).setCell ⟨k, j, none⟩ v (.inl rfl)
theorem below_set2 {B k : Nat} {a b : World} (h : Below B a b) (hB : B ≤ k) (i j : Nat) (u v : Value) : Below B a ((b.setCell ⟨k, i, none⟩ u).setCell ⟨k, j, none⟩ v) :=
  (h.setCell (p := ⟨k, i, none⟩) hB u).setCell (p := ⟨k, j, none⟩) hB v

end Go.Proofs.YtbjibkjenleloaaGreatDoor

end

section
namespace Go.Proofs.YtbjibkjenleloaaGreatDoor
set_option linter.unusedVariables false
set_option linter.unusedSimpArgs false
open Go.RowKit

/-- w' is w, some answers drawn -/
def Dr (w w' : World) : Prop := ∃ q, w' = w.drewN q
theorem Dr.refl (w : World) : Dr w w := ⟨0, rfl⟩
theorem Dr.drewN {w w' : World} (h : Dr w w') (n : Nat) : Dr w (w'.drewN n) := by obtain ⟨q, rfl⟩ := h; exact ⟨_, World.drewN_drewN ..⟩
theorem Dr.drew {w w' : World} (h : Dr w w') : Dr w w'.drew := h.drewN 1
theorem Dr.trans {a b c : World} (h : Dr a b) (k : Dr b c) : Dr a c := by obtain ⟨q, rfl⟩ := k; exact h.drewN q
theorem Dr.cell {w w' : World} (h : Dr w w') {a : Addr} {v : Value} (hc : w.cell? a = some v) : w'.cell? a = some v := by obtain ⟨q, rfl⟩ := h; exact hc
theorem Dr.rd {w w' : World} (h : Dr w w') {v : Value} {n : Nat} {cs : List Value} (hc : Rd w v n cs) : Rd w' v n cs := by obtain ⟨q, rfl⟩ := h; exact hc
theorem Dr.heap {w w' : World} (h : Dr w w') : w'.heap = w.heap := by obtain ⟨q, rfl⟩ := h; rfl
theorem Dr.below {w w' : World} (h : Dr w w') (B : Nat) : Below B w w' := by obtain ⟨q, rfl⟩ := h; exact below_drewN (Below.refl _ _) q

theorem cellA {w : World} {a : Addr} {v : Value} (h : w.cell? a = some v) (o : Obj) : (w.alloc o).cell? a = some v := by
  rw [World.cell?_of_block (w := w) (Below.heap_alloc _ _ _ (World.block_lt_of_cell? w a h))]; exact h
theorem cellS {w : World} {a : Addr} {v : Value} (h : w.cell? a = some v) {p : Nat} (hne : a.block ≠ p) (i : Nat) (u : Value) : (w.setCell ⟨p, i, none⟩ u).cell? a = some v := by
  rw [World.cell?_of_block (w := w) (Below.heap_setCell _ _ _ _ hne)]; exact h

theorem blk8 {w : World} {k t : Nat} {x0 x1 x2 x3 x4 x5 x6 x7 : Value} (h : w.heap[k]? = some (.cells #[x0, x1, x2, x3, x4, x5, x6, x7] t (0, 0))) :
    w.cell? ⟨k, 0, none⟩ = some x0 ∧ w.cell? ⟨k, 1, none⟩ = some x1 ∧ w.cell? ⟨k, 2, none⟩ = some x2 ∧ w.cell? ⟨k, 3, none⟩ = some x3 ∧ w.cell? ⟨k, 4, none⟩ = some x4 ∧ w.cell? ⟨k, 5, none⟩ = some x5 ∧ w.cell? ⟨k, 6, none⟩ = some x6 ∧ w.cell? ⟨k, 7, none⟩ = some x7 ∧ w.frozen? ⟨k, 0, none⟩ = false ∧ w.frozen? ⟨k, 1, none⟩ = false ∧ w.frozen? ⟨k, 2, none⟩ = false ∧ w.frozen? ⟨k, 3, none⟩ = false ∧ w.frozen? ⟨k, 4, none⟩ = false ∧ w.frozen? ⟨k, 5, none⟩ = false ∧ w.frozen? ⟨k, 6, none⟩ = false ∧ w.frozen? ⟨k, 7, none⟩ = false := by
  simp [World.cell?, World.frozen?, h]

end Go.Proofs.YtbjibkjenleloaaGreatDoor

end

section
namespace Go.Proofs.YtbjibkjenleloaaGreatDoor
set_option linter.unusedVariables false
set_option linter.unusedSimpArgs false
open Go.RowKit

structure Ky where
  dir : Int
  name : ByteArray
  deriving DecidableEq
structure Nd where
  id : Int
  kind : Int
  mode : Int
  target : ByteArray
  deriving DecidableEq
structure En where
  key : Ky
  neg : Bool
  node : Nd
  deriving DecidableEq

def Ky.v (k : Ky) : Value := .agg #[.int .i64 k.dir, .string k.name]
def Ky.cells (k : Ky) : List Value := [.int .i64 k.dir, .string k.name]
def En.v (e : En) : Value := .agg #[.int .i64 e.key.dir, .string e.key.name, .bool e.neg, .int .i64 e.node.id, .int .i64 e.node.kind, .int .i64 e.node.mode, .string e.node.target]
def En.cells (e : En) : List Value := [.int .i64 e.key.dir, .string e.key.name, .bool e.neg, .int .i64 e.node.id, .int .i64 e.node.kind, .int .i64 e.node.mode, .string e.node.target]

theorem bytes_beq (a b : ByteArray) : (a.toList == b.toList) = decide (a = b) := by
  rw [Bool.eq_iff_iff, beq_iff_eq, decide_eq_true_iff, ByteArray.toList_eq, ByteArray.toList_eq]
  refine ⟨fun h => ?_, fun h => by rw [h]⟩
  cases a; cases b
  simp only [ByteArray.mk.injEq]
  exact Array.toList_inj.1 h

theorem ckK (b : Bool) (d : Int) (s : ByteArray) (w : World) : (Instr.checkKey b 10000 53 (.agg #[.int .i64 d, .string s])).run Tryz.prog w = .ok () w := by kernel_rfl
theorem ckI (b : Bool) (d : Int) (w : World) : (Instr.checkKey b 10000 3 (.int .i64 d)).run Tryz.prog w = .ok () w := by kernel_rfl

/-- '==' of keys -/
theorem eqIn_key (d d' : Int) (s s' : ByteArray) (w : World) : (Op.equalIn 10000 53 (.agg #[.int .i64 d, .string s]) (.agg #[.int .i64 d', .string s'])).run Tryz.prog w = .ok (decide ((⟨d, s⟩ : Ky) = ⟨d', s'⟩)) w := by
  rw [run_equalIn_agg w 9999 53 _ _ (by kernel_rfl) (by kernel_rfl)]
  have hu := Tryz.underlying53
  have hu3 := Tryz.underlying3
  have hu9 := Tryz.underlying9
  have hi : (Tryz.prog.fieldsOf 53) = (match Tryz.prog.underlying 53 with | some (.struct fs) => fs | _ => #[]) := by kernel_rfl
  rw [hi, hu]
  simp only [Op.eqFields]
  simp [go_sem, hu3, hu9, bytes_beq]
  by_cases h1 : d = d' <;> by_cases h2 : s = s' <;> simp [h1, h2]

theorem eq_key (k k' : Ky) (w : World) : (Op.equal 53 k.v k'.v).run Tryz.prog w = .ok (decide (k = k')) w := eqIn_key ..

theorem eqIn_node (i k m i' k' m' : Int) (t t' : ByteArray) (w : World) : (Op.equalIn 9999 40 (.agg #[.int .i64 i, .int .i64 k, .int .i64 m, .string t]) (.agg #[.int .i64 i', .int .i64 k', .int .i64 m', .string t'])).run Tryz.prog w = .ok (decide ((⟨i, k, m, t⟩ : Nd) = ⟨i', k', m', t'⟩)) w := by
  rw [run_equalIn_agg w 9998 40 _ _ (by kernel_rfl) (by kernel_rfl)]
  have hu := Tryz.underlying40
  have hu3 := Tryz.underlying3
  have hu9 := Tryz.underlying9
  have hi : (Tryz.prog.fieldsOf 40) = (match Tryz.prog.underlying 40 with | some (.struct fs) => fs | _ => #[]) := by kernel_rfl
  rw [hi, hu]
  simp only [Op.eqFields]
  simp [go_sem, hu3, hu9, bytes_beq]
  by_cases h1 : i = i' <;> by_cases h2 : k = k' <;> by_cases h3 : m = m' <;> by_cases h4 : t = t' <;> simp [h1, h2, h3, h4]

theorem eqIn_key' (d d' : Int) (s s' : ByteArray) (w : World) : (Op.equalIn 9999 53 (.agg #[.int .i64 d, .string s]) (.agg #[.int .i64 d', .string s'])).run Tryz.prog w = .ok (decide ((⟨d, s⟩ : Ky) = ⟨d', s'⟩)) w := by
  rw [run_equalIn_agg w 9998 53 _ _ (by kernel_rfl) (by kernel_rfl)]
  have hu := Tryz.underlying53
  have hu3 := Tryz.underlying3
  have hu9 := Tryz.underlying9
  have hi : (Tryz.prog.fieldsOf 53) = (match Tryz.prog.underlying 53 with | some (.struct fs) => fs | _ => #[]) := by kernel_rfl
  rw [hi, hu]
  simp only [Op.eqFields]
  simp [go_sem, hu3, hu9, bytes_beq]
  by_cases h1 : d = d' <;> by_cases h2 : s = s' <;> simp [h1, h2]

/-- '==' of entries -/
theorem eqIn_entry (d d' i k m i' k' m' : Int) (s s' t t' : ByteArray) (n n' : Bool) (w : World) :
    (Op.equalIn 10000 55 (.agg #[.int .i64 d, .string s, .bool n, .int .i64 i, .int .i64 k, .int .i64 m, .string t]) (.agg #[.int .i64 d', .string s', .bool n', .int .i64 i', .int .i64 k', .int .i64 m', .string t'])).run Tryz.prog w = .ok (decide ((⟨⟨d, s⟩, n, ⟨i, k, m, t⟩⟩ : En) = ⟨⟨d', s'⟩, n', ⟨i', k', m', t'⟩⟩)) w := by
  rw [run_equalIn_agg w 9999 55 _ _ (by kernel_rfl) (by kernel_rfl)]
  have hu := Tryz.underlying55
  have hu4 := Tryz.underlying4
  have p0 : ∀ (x0 x1 x2 x3 x4 x5 x6 : Value) (w : World), (part 53 #[x0, x1, x2, x3, x4, x5, x6] 0).run Tryz.prog w = .ok (.agg #[x0, x1]) w := fun _ _ _ _ _ _ _ _ => by kernel_rfl
  have p1 : ∀ (x0 x1 x2 x3 x4 x5 x6 : Value) (w : World), (part 4 #[x0, x1, x2, x3, x4, x5, x6] 2).run Tryz.prog w = .ok x2 w := fun _ _ _ _ _ _ _ _ => by kernel_rfl
  have p2 : ∀ (x0 x1 x2 x3 x4 x5 x6 : Value) (w : World), (part 40 #[x0, x1, x2, x3, x4, x5, x6] 3).run Tryz.prog w = .ok (.agg #[x3, x4, x5, x6]) w := fun _ _ _ _ _ _ _ _ => by kernel_rfl
  have hi : (Tryz.prog.fieldsOf 55) = (match Tryz.prog.underlying 55 with | some (.struct fs) => fs | _ => #[]) := by kernel_rfl
  rw [hi, hu]
  simp only [Op.eqFields]
  simp [p0, p1, p2, eqIn_key', eqIn_node, hu4, go_sem]
  by_cases h1 : d = d' <;> simp [h1]
  by_cases h2 : s = s' <;> simp [h2]
  by_cases h3 : n = n' <;> simp [h3]
  by_cases h4 : i = i' <;> simp [h4]
  by_cases h5 : k = k' <;> simp [h5]
  by_cases h6 : m = m' <;> simp [h6]
  by_cases h7 : t = t' <;> simp [h7]

/-! ### the cache's two maps -/

/-- an entry that is kept: when it was used last, the map's own stamp -/
structure Ke where
  e : En
  used : Int
  born : Nat

def Ke.val (x : Ke) : Value := .agg #[.int .i64 x.e.key.dir, .string x.e.key.name, .bool x.e.neg, .int .i64 x.e.node.id, .int .i64 x.e.node.kind, .int .i64 x.e.node.mode, .string x.e.node.target, .int .i64 x.used]
def Ke.me (x : Ke) : MapEntry := ⟨x.e.key.v, x.val, x.born⟩
def kes (K : List Ke) : Array MapEntry := (K.map Ke.me).toArray
/-- a whole directory, the map's stamp -/
structure Wh where
  dir : Int
  born : Nat
def Wh.me (x : Wh) : MapEntry := ⟨.int .i64 x.dir, .bool true, x.born⟩
def wes (W : List Wh) : Array MapEntry := (W.map Wh.me).toArray

/-- the first place of a key -/
def atK (k : Ky) (K : List Ke) : Option Nat := K.findIdx? fun x => k = x.e.key
def atW (d : Int) (W : List Wh) : Option Nat := W.findIdx? fun x => d = x.dir

theorem findAsking_key (k : Ky) (w : World) : ∀ (K : List Ke) (i : Nat), (Instr.findAsking 53 k.v (K.map Ke.me) i).run Tryz.prog w = .ok ((K.findIdx? fun x => decide (k = x.e.key)).bind fun j => (K[j]?).map fun x => (i + j, x.val)) w
  | [], i => by simp [Instr.findAsking]
  | x :: K, i => by
    rw [List.map_cons, Instr.findAsking]
    simp only [Sem.run_bind, Ke.me, eq_key, Result.andThen_ok, List.findIdx?_cons]
    by_cases h : k = x.e.key
    · simp [h]
    · have ih := findAsking_key k w K (i + 1)
      simp only [h, decide_false, Bool.false_eq_true, if_false]
      rw [ih]
      cases hf : K.findIdx? (fun x => decide (k = x.e.key)) with
      | none => simp
      | some j => simp [Nat.add_assoc, Nat.add_comm 1]

theorem findKey_key (k : Ky) (w : World) (K : List Ke) : (Instr.findKey 53 k.v (K.map Ke.me)).run Tryz.prog w = .ok ((atK k K).bind fun j => (K[j]?).map fun x => (j, x.val)) w := by
  simp only [Instr.findKey, Sem.run_bind, run_underlying Tryz.underlying53, Result.andThen_ok]
  cases K with
  | nil => simp [Instr.findNow, atK]
  | cons x K =>
    have h0 : Instr.findNow (.struct #[]) k.v ((x :: K).map Ke.me) 0 = none := by
      simp [Instr.findNow, Ke.me, Ky.v, Instr.sameNow]
    have h1 : ∀ fs, Instr.findNow (.struct fs) k.v ((x :: K).map Ke.me) 0 = none := fun fs => by
      simp [Instr.findNow, Ke.me, Ky.v, Instr.sameNow]
    rw [h1]
    have h2 := findAsking_key k w (x :: K) 0
    simp only [Nat.zero_add] at h2
    exact h2

theorem findNow_dir (d : Int) : ∀ (W : List Wh) (i : Nat), Instr.findNow (.int .i64) (.int .i64 d) (W.map Wh.me) i = some ((W.findIdx? fun x => decide (d = x.dir)).bind fun j => (W[j]?).map fun _ => (i + j, .bool true))
  | [], i => by simp [Instr.findNow]
  | x :: W, i => by
    rw [List.map_cons, Instr.findNow]
    simp only [Wh.me, Instr.sameNow, if_true, List.findIdx?_cons]
    by_cases h : d = x.dir
    · simp [h]
    · have ih := findNow_dir d W (i + 1)
      have h' : (d == x.dir) = false := by simpa using h
      simp only [h, h', decide_false, Bool.false_eq_true, if_false]
      rw [ih]
      cases hf : W.findIdx? (fun x => decide (d = x.dir)) with
      | none => simp
      | some j => simp [Nat.add_assoc, Nat.add_comm 1]

theorem findKey_dir (d : Int) (w : World) (W : List Wh) : (Instr.findKey 3 (.int .i64 d) (W.map Wh.me)).run Tryz.prog w = .ok ((atW d W).bind fun j => (W[j]?).map fun _ => (j, .bool true)) w := by
  simp only [Instr.findKey, Sem.run_bind, run_underlying Tryz.underlying3, Result.andThen_ok, findNow_dir, Nat.zero_add]
  rfl

open Go.ChangeMaps (setBlock)

theorem heap_setBlock {w : World} {r : Nat} {o x : Obj} (h : w.heap[r]? = some x) : (setBlock w r o).heap[r]? = some o := by
  have := blk_lt h
  simp [setBlock, this]
theorem heap_setBlock_ne {w : World} {r k : Nat} {o x : Obj} (h : w.heap[k]? = some x) (hne : k ≠ r) : (setBlock w r o).heap[k]? = some x := by
  simp [setBlock, Array.getElem?_setIfInBounds, hne.symm, h]
theorem size_setBlock (w : World) (r : Nat) (o : Obj) : (setBlock w r o).heap.size = w.heap.size := by simp [setBlock]
theorem chg_setBlock (w : World) (r : Nat) (o : Obj) : Chg (fun k => k = r) w (setBlock w r o) :=
  ⟨rfl, rfl, rfl, by rw [size_setBlock]; exact Nat.le_refl _, fun k _ hk => by simp [setBlock, Array.getElem?_setIfInBounds, Ne.symm hk]⟩

theorem kes_toList (K : List Ke) : (kes K).toList = K.map Ke.me := by simp [kes]
theorem wes_toList (W : List Wh) : (wes W).toList = W.map Wh.me := by simp [wes]

def zeroKept : Value := .agg #[.int .i64 0, .string ByteArray.empty, .bool false, .int .i64 0, .int .i64 0, .int .i64 0, .string ByteArray.empty, .int .i64 0]
theorem zero_kept (w : World) : (zeroValue 142).run Tryz.prog w = .ok zeroKept w := by kernel_rfl

theorem run_look_yes {w : World} {me cl j : Nat} {K : List Ke} {x : Ke} {d : Int} {s : ByteArray} (h : w.heap[me]? = some (.map (kes K) cl)) (hj : atK ⟨d, s⟩ K = some j) (hx : K[j]? = some x) :
    (Instr.lookup 134 (.map (some me)) (.agg #[.int .i64 d, .string s]) true).run Tryz.prog w = .ok (.tuple #[x.val, .bool true]) w := by
  have hf := findKey_key ⟨d, s⟩ w K
  simp only [Ky.v] at hf
  simp only [Instr.lookup, Sem.run_bind, run_underlying Tryz.underlying134, Result.andThen_ok, getObj, Sem.run, h, ckK]
  simp [kes_toList, hf, hj, hx]

theorem run_look_no {w : World} {me cl : Nat} {K : List Ke} {d : Int} {s : ByteArray} (h : w.heap[me]? = some (.map (kes K) cl)) (hj : atK ⟨d, s⟩ K = none) :
    (Instr.lookup 134 (.map (some me)) (.agg #[.int .i64 d, .string s]) true).run Tryz.prog w = .ok (.tuple #[zeroKept, .bool false]) w := by
  have hf := findKey_key ⟨d, s⟩ w K
  simp only [Ky.v] at hf
  simp only [Instr.lookup, Sem.run_bind, run_underlying Tryz.underlying134, Result.andThen_ok, getObj, Sem.run, h, ckK]
  simp [kes_toList, hf, hj, zero_kept]
  rfl

theorem run_lookw {w : World} {mw cl : Nat} {W : List Wh} {d : Int} (h : w.heap[mw]? = some (.map (wes W) cl)) :
    (Instr.lookup 135 (.map (some mw)) (.int .i64 d) false).run Tryz.prog w = .ok (.bool (decide (d ∈ W.map Wh.dir))) w := by
  have hf := findKey_dir d w W
  have hz : (zeroValue 4).run Tryz.prog w = .ok (.bool false) w := by kernel_rfl
  simp only [Instr.lookup, Sem.run_bind, run_underlying Tryz.underlying135, Result.andThen_ok, getObj, Sem.run, h, ckI]
  cases ha : atW d W with
  | none =>
    have : d ∉ W.map Wh.dir := by
      intro hd
      obtain ⟨x, hx, rfl⟩ := List.mem_map.1 hd
      have := List.findIdx?_eq_none_iff.1 ha x hx
      simp at this
    simp [wes_toList, hf, ha, hz, this]
  | some j =>
    obtain ⟨hjl, hj1, _⟩ := List.findIdx?_eq_some_iff_getElem.1 ha
    have : d ∈ W.map Wh.dir := List.mem_map.2 ⟨W[j], List.getElem_mem _, by simpa using (of_decide_eq_true hj1).symm⟩
    simp [wes_toList, hf, ha, this, List.getElem?_eq_getElem hjl]

theorem same_key (n : Nat) (d : Int) (s : ByteArray) : Instr.sameBits (n + 1) (.agg #[.int .i64 d, .string s]) (.agg #[.int .i64 d, .string s]) = true := by
  have h : (s == s) = true := by rw [beq_toListBytes]; simp
  simp [Instr.sameBits, h]

theorem run_put_old {w : World} {me cl j : Nat} {K : List Ke} {x : Ke} (y : Ke) (h : w.heap[me]? = some (.map (kes K) cl)) (hj : atK y.e.key K = some j) (hx : K[j]? = some x) (hb : y.born = x.born) (hk : x.e.key = y.e.key) :
    (Instr.mapUpdate 134 (.map (some me)) (.agg #[.int .i64 y.e.key.dir, .string y.e.key.name]) y.val).run Tryz.prog w = .ok () (setBlock w me (.map (kes (K.set j y)) cl)) := by
  have hf := findKey_key y.e.key w K
  simp only [Ky.v] at hf
  have hjl : j < K.length := (List.getElem?_eq_some_iff.1 hx).1
  have he : ((kes K)[j]?).map (·.key) = some (.agg #[.int .i64 y.e.key.dir, .string y.e.key.name]) := by
    simp [kes, hx, Ke.me, Ky.v, hk]
  have hm : (kes K).modify j (fun e => { e with key := .agg #[.int .i64 y.e.key.dir, .string y.e.key.name], val := y.val }) = kes (K.set j y) := by
    apply Array.toList_inj.1
    rw [kes_toList, Array.toList_modify, kes_toList]
    apply List.ext_getElem?
    intro i
    by_cases hi : i = j
    · subst hi
      have hxx : K[i] = x := (List.getElem?_eq_some_iff.1 hx).2
      simp [hjl, Ke.me, Ky.v, hb, hxx]
    · simp [List.getElem?_modify, List.getElem?_set, Ne.symm hi]
  simp only [Instr.mapUpdate, Sem.run_bind, run_underlying Tryz.underlying134, Result.andThen_ok, getObj, Sem.run, h, ckK, kes_toList, hf, hj]
  simp only [Option.bind_some, hx, Option.map_some, he, Option.getD_some, Instr.keyThatStays, same_key, if_true]
  simp only [Sem.run_bind, Sem.run_pure, Result.andThen_ok, setObj, Sem.run, h, hm]
  rfl

theorem run_put_new {w : World} {me cl : Nat} {K : List Ke} (y : Ke) (h : w.heap[me]? = some (.map (kes K) cl)) (hj : atK y.e.key K = none) (hb : y.born = cl) :
    (Instr.mapUpdate 134 (.map (some me)) (.agg #[.int .i64 y.e.key.dir, .string y.e.key.name]) y.val).run Tryz.prog w = .ok () (setBlock w me (.map (kes (K ++ [y])) (cl + 1))) := by
  have hf := findKey_key y.e.key w K
  simp only [Ky.v] at hf
  have hm : (kes K).push { key := .agg #[.int .i64 y.e.key.dir, .string y.e.key.name], val := y.val, born := cl } = kes (K ++ [y]) := by
    simp [kes, Ke.me, Ky.v, hb]
  simp only [Instr.mapUpdate, Sem.run_bind, run_underlying Tryz.underlying134, Result.andThen_ok, getObj, Sem.run, h, ckK, kes_toList, hf, hj]
  simp only [Option.bind_none, setObj, Sem.run, h, hm]
  rfl

theorem run_setw_old {w : World} {mw cl j : Nat} {W : List Wh} {d : Int} (h : w.heap[mw]? = some (.map (wes W) cl)) (hj : atW d W = some j) :
    (Instr.mapUpdate 135 (.map (some mw)) (.int .i64 d) (.bool true)).run Tryz.prog w = .ok () (setBlock w mw (.map (wes W) cl)) := by
  have hf := findKey_dir d w W
  obtain ⟨hjl, hj1, _⟩ := List.findIdx?_eq_some_iff_getElem.1 hj
  have hd : W[j].dir = d := by simpa using (of_decide_eq_true hj1).symm
  have he : ((wes W)[j]?).map (·.key) = some (.int .i64 d) := by
    simp [wes, hjl, Wh.me, hd]
  have hm : (wes W).modify j (fun e => { e with key := .int .i64 d, val := .bool true }) = wes W := by
    apply Array.toList_inj.1
    rw [wes_toList, Array.toList_modify, wes_toList]
    apply List.ext_getElem?
    intro i
    by_cases hi : i = j
    · subst hi
      simp [hjl, Wh.me, hd]
    · simp [List.getElem?_modify, Ne.symm hi]
  simp only [Instr.mapUpdate, Sem.run_bind, run_underlying Tryz.underlying135, Result.andThen_ok, getObj, Sem.run, h, ckI, wes_toList, hf, hj]
  simp only [Option.bind_some, List.getElem?_eq_getElem hjl, Option.map_some, he, Option.getD_some, Instr.keyThatStays]
  simp only [Instr.sameBits, beq_self_eq_true, Bool.and_self, if_true, Sem.run_bind, Sem.run_pure, Result.andThen_ok, setObj, Sem.run, h, hm]
  rfl

theorem run_setw_new {w : World} {mw cl : Nat} {W : List Wh} {d : Int} (h : w.heap[mw]? = some (.map (wes W) cl)) (hj : atW d W = none) :
    (Instr.mapUpdate 135 (.map (some mw)) (.int .i64 d) (.bool true)).run Tryz.prog w = .ok () (setBlock w mw (.map (wes (W ++ [⟨d, cl⟩])) (cl + 1))) := by
  have hf := findKey_dir d w W
  have hm : (wes W).push { key := .int .i64 d, val := .bool true, born := cl } = wes (W ++ [⟨d, cl⟩]) := by simp [wes, Wh.me]
  simp only [Instr.mapUpdate, Sem.run_bind, run_underlying Tryz.underlying135, Result.andThen_ok, getObj, Sem.run, h, ckI, wes_toList, hf, hj]
  simp only [Option.bind_none, setObj, Sem.run, h, hm]
  rfl

/-- without the first of a key -/
def delK (k : Ky) (K : List Ke) : List Ke := match atK k K with | some j => K.eraseIdx j | none => K
def delW (d : Int) (W : List Wh) : List Wh := match atW d W with | some j => W.eraseIdx j | none => W

theorem run_del {w : World} {me cl : Nat} {K : List Ke} {d : Int} {s : ByteArray} (ty kt : TypeId) (h : w.heap[me]? = some (.map (kes K) cl)) :
    (Builtin.delete_ #[134, kt] ty #[.map (some me), .agg #[.int .i64 d, .string s]]).run Tryz.prog w = .ok (.tuple #[]) (setBlock w me (.map (kes (delK ⟨d, s⟩ K)) cl)) := by
  have hf := findKey_key ⟨d, s⟩ w K
  simp only [Ky.v] at hf
  simp only [Builtin.delete_, List.getElem?_toArray, List.getElem?_cons_zero, List.getElem?_cons_succ, Sem.run_bind, run_underlying Tryz.underlying134, Result.andThen_ok, getObj, Sem.run, h, ckK, kes_toList, hf]
  cases hj : atK ⟨d, s⟩ K with
  | none => simp [delK, hj, setObj, Sem.run, h, setBlock]
  | some j =>
    obtain ⟨hjl, _⟩ := List.findIdx?_eq_some_iff_getElem.1 hj
    have hm : (kes K).eraseIdxIfInBounds j = kes (K.eraseIdx j) := by
      apply Array.toList_inj.1
      simp [kes, Array.eraseIdxIfInBounds, hjl]
      exact (Go.ChangeMaps.map_eraseIdx _ _ _).symm
    simp [delK, hj, setObj, Sem.run, h, setBlock, List.getElem?_eq_getElem hjl, hm]

theorem run_delw {w : World} {mw cl : Nat} {W : List Wh} {d : Int} (ty kt : TypeId) (h : w.heap[mw]? = some (.map (wes W) cl)) :
    (Builtin.delete_ #[135, kt] ty #[.map (some mw), .int .i64 d]).run Tryz.prog w = .ok (.tuple #[]) (setBlock w mw (.map (wes (delW d W)) cl)) := by
  have hf := findKey_dir d w W
  simp only [Builtin.delete_, List.getElem?_toArray, List.getElem?_cons_zero, List.getElem?_cons_succ, Sem.run_bind, run_underlying Tryz.underlying135, Result.andThen_ok, getObj, Sem.run, h, ckI, wes_toList, hf]
  cases hj : atW d W with
  | none => simp [delW, hj, setObj, Sem.run, h, setBlock]
  | some j =>
    obtain ⟨hjl, _⟩ := List.findIdx?_eq_some_iff_getElem.1 hj
    have hm : (wes W).eraseIdxIfInBounds j = wes (W.eraseIdx j) := by
      apply Array.toList_inj.1
      simp [wes, Array.eraseIdxIfInBounds, hjl]
      exact (Go.ChangeMaps.map_eraseIdx _ _ _).symm
    simp [delW, hj, setObj, Sem.run, h, setBlock, List.getElem?_eq_getElem hjl, hm]

theorem wp_delete_k {w : World} {o : Oper} {a : Act} {K : Act → World → Prop} {Q : Exit → Act → World → Prop} (d s : Operand) (kt : TypeId)
    (ho : o.op = .call { callee := .builtin .delete, args := #[d, s], argTypes := #[134, kt] }) (me cl : Nat) (hd : a.eval d = .map (some me)) (dr : Int) (nm : ByteArray) (hs : a.eval s = .agg #[.int .i64 dr, .string nm]) (L : List Ke) (hm : w.heap[me]? = some (.map (kes L) cl))
    (h : K (a.put o.dst (.tuple #[])) (setBlock w me (.map (kes (delK ⟨dr, nm⟩ L)) cl))) : Oper.wp Tryz.prog o a w K Q := by
  have hrun := run_del (d := dr) (s := nm) o.type kt hm
  unfold Oper.wp execOp
  simp only [ho, resolve, invoke, builtin, Sem.run_bind, Sem.run_pure, Result.andThen_ok, List.map_toArray, List.map_cons, List.map_nil, hd, hs, hrun]
  exact h

theorem wpList_delete_k {w : World} {ops : Array Oper} {rest : List Oper} {o : Oper} {a : Act} {Q : Exit → Act → World → Prop} (hgd : o.guard = none) (d s : Operand) (kt : TypeId)
    (ho : o.op = .call { callee := .builtin .delete, args := #[d, s], argTypes := #[134, kt] }) (me cl : Nat) (hd : a.eval d = .map (some me)) (dr : Int) (nm : ByteArray) (hs : a.eval s = .agg #[.int .i64 dr, .string nm]) (L : List Ke) (hm : w.heap[me]? = some (.map (kes L) cl))
    (h : wpList Tryz.prog ops Q rest (a.put o.dst (.tuple #[])) (setBlock w me (.map (kes (delK ⟨dr, nm⟩ L)) cl))) : wpList Tryz.prog ops Q (o :: rest) a w :=
  wpList_plain hgd fun _ hK => wp_delete_k d s kt ho me cl hd dr nm hs L hm (hK _ _ h)

theorem step_delete_k {w : World} {ops : Array Oper} {o : Oper} {a : Act} {K : Act → World → Prop} {Q : Exit → Act → World → Prop} {E : Prop} (hgd : o.guard = none) (d s : Operand) (kt : TypeId)
    (ho : o.op = .call { callee := .builtin .delete, args := #[d, s], argTypes := #[134, kt] }) (me cl : Nat) (hd : a.eval d = .map (some me)) (dr : Int) (nm : ByteArray) (hs : a.eval s = .agg #[.int .i64 dr, .string nm]) (L : List Ke) (hm : w.heap[me]? = some (.map (kes L) cl))
    (h : K (a.put o.dst (.tuple #[])) (setBlock w me (.map (kes (delK ⟨dr, nm⟩ L)) cl))) : if Region.wanted o (yielded ops a.tmps) = true then Oper.wp Tryz.prog o a w K Q else E := by
  have hw : Region.wanted o (yielded ops a.tmps) = true := by simp [Region.wanted, hgd]
  rw [if_pos hw]
  exact wp_delete_k d s kt ho me cl hd dr nm hs L hm h

theorem wp_delete_w {w : World} {o : Oper} {a : Act} {K : Act → World → Prop} {Q : Exit → Act → World → Prop} (d s : Operand) (kt : TypeId)
    (ho : o.op = .call { callee := .builtin .delete, args := #[d, s], argTypes := #[135, kt] }) (me cl : Nat) (hd : a.eval d = .map (some me)) (dr : Int) (hs : a.eval s = .int .i64 dr) (L : List Wh) (hm : w.heap[me]? = some (.map (wes L) cl))
    (h : K (a.put o.dst (.tuple #[])) (setBlock w me (.map (wes (delW dr L)) cl))) : Oper.wp Tryz.prog o a w K Q := by
  have hrun := run_delw (d := dr) o.type kt hm
  unfold Oper.wp execOp
  simp only [ho, resolve, invoke, builtin, Sem.run_bind, Sem.run_pure, Result.andThen_ok, List.map_toArray, List.map_cons, List.map_nil, hd, hs, hrun]
  exact h

theorem wpList_delete_w {w : World} {ops : Array Oper} {rest : List Oper} {o : Oper} {a : Act} {Q : Exit → Act → World → Prop} (hgd : o.guard = none) (d s : Operand) (kt : TypeId)
    (ho : o.op = .call { callee := .builtin .delete, args := #[d, s], argTypes := #[135, kt] }) (me cl : Nat) (hd : a.eval d = .map (some me)) (dr : Int) (hs : a.eval s = .int .i64 dr) (L : List Wh) (hm : w.heap[me]? = some (.map (wes L) cl))
    (h : wpList Tryz.prog ops Q rest (a.put o.dst (.tuple #[])) (setBlock w me (.map (wes (delW dr L)) cl))) : wpList Tryz.prog ops Q (o :: rest) a w :=
  wpList_plain hgd fun _ hK => wp_delete_w d s kt ho me cl hd dr hs L hm (hK _ _ h)

theorem step_delete_w {w : World} {ops : Array Oper} {o : Oper} {a : Act} {K : Act → World → Prop} {Q : Exit → Act → World → Prop} {E : Prop} (hgd : o.guard = none) (d s : Operand) (kt : TypeId)
    (ho : o.op = .call { callee := .builtin .delete, args := #[d, s], argTypes := #[135, kt] }) (me cl : Nat) (hd : a.eval d = .map (some me)) (dr : Int) (hs : a.eval s = .int .i64 dr) (L : List Wh) (hm : w.heap[me]? = some (.map (wes L) cl))
    (h : K (a.put o.dst (.tuple #[])) (setBlock w me (.map (wes (delW dr L)) cl))) : if Region.wanted o (yielded ops a.tmps) = true then Oper.wp Tryz.prog o a w K Q else E := by
  have hw : Region.wanted o (yielded ops a.tmps) = true := by simp [Region.wanted, hgd]
  rw [if_pos hw]
  exact wp_delete_w d s kt ho me cl hd dr hs L hm h

theorem run_clear_k {w : World} {me cl : Nat} {L : List Ke} (ty : TypeId) (h : w.heap[me]? = some (.map (kes L) cl)) :
    (Builtin.clear_ #[134] ty #[.map (some me)]).run Tryz.prog w = .ok (.tuple #[]) (setBlock w me (.map (kes []) cl)) := by
  simp [Builtin.clear_, run_underlying Tryz.underlying134, getObj, Sem.run, h, setObj, setBlock, kes]
theorem run_clear_w {w : World} {me cl : Nat} {L : List Wh} (ty : TypeId) (h : w.heap[me]? = some (.map (wes L) cl)) :
    (Builtin.clear_ #[135] ty #[.map (some me)]).run Tryz.prog w = .ok (.tuple #[]) (setBlock w me (.map (wes []) cl)) := by
  simp [Builtin.clear_, run_underlying Tryz.underlying135, getObj, Sem.run, h, setObj, setBlock, wes]

theorem wpList_clear_k {w : World} {ops : Array Oper} {rest : List Oper} {o : Oper} {a : Act} {Q : Exit → Act → World → Prop} (hgd : o.guard = none) (d : Operand)
    (ho : o.op = .call { callee := .builtin .clear, args := #[d], argTypes := #[134] }) (me cl : Nat) (hd : a.eval d = .map (some me)) (L : List Ke) (hm : w.heap[me]? = some (.map (kes L) cl))
    (h : wpList Tryz.prog ops Q rest (a.put o.dst (.tuple #[])) (setBlock w me (.map (kes []) cl))) : wpList Tryz.prog ops Q (o :: rest) a w := by
  refine wpList_plain hgd fun _ hK => ?_
  have hrun := run_clear_k o.type hm
  unfold Oper.wp execOp
  simp only [ho, resolve, invoke, builtin, Sem.run_bind, Sem.run_pure, Result.andThen_ok, List.map_toArray, List.map_cons, List.map_nil, hd, hrun]
  exact hK _ _ h

theorem wpList_clear_w {w : World} {ops : Array Oper} {rest : List Oper} {o : Oper} {a : Act} {Q : Exit → Act → World → Prop} (hgd : o.guard = none) (d : Operand)
    (ho : o.op = .call { callee := .builtin .clear, args := #[d], argTypes := #[135] }) (me cl : Nat) (hd : a.eval d = .map (some me)) (L : List Wh) (hm : w.heap[me]? = some (.map (wes L) cl))
    (h : wpList Tryz.prog ops Q rest (a.put o.dst (.tuple #[])) (setBlock w me (.map (wes []) cl))) : wpList Tryz.prog ops Q (o :: rest) a w := by
  refine wpList_plain hgd fun _ hK => ?_
  have hrun := run_clear_w o.type hm
  unfold Oper.wp execOp
  simp only [ho, resolve, invoke, builtin, Sem.run_bind, Sem.run_pure, Result.andThen_ok, List.map_toArray, List.map_cons, List.map_nil, hd, hrun]
  exact hK _ _ h

end Go.Proofs.YtbjibkjenleloaaGreatDoor

end

section
namespace Go.Proofs.YtbjibkjenleloaaGreatDoor
set_option linter.unusedVariables false
set_option linter.unusedSimpArgs false
open Go.RowKit
open Go.ChangeMaps (setBlock)
attribute [local go_sem ↓] Go.wp_at_zero Go.wp_at_succ

/-- the cache's state, in plain words -/
structure Ca where
  p : Nat
  me : Nat
  mw : Nat
  K : List Ke
  W : List Wh
  ck : Int
  c1 : Nat
  c2 : Nat

/-- a cache in memory; all of it lies from B on -/
structure CacheAt (w : World) (B : Nat) (s : Ca) : Prop where
  hB : B ≤ s.p
  hBe : B ≤ s.me
  hBw : B ≤ s.mw
  hp : w.heap[s.p]? = some (.cells #[.map (some s.me), .map (some s.mw), .int .i64 s.ck] 137 (0, 0))
  he : w.heap[s.me]? = some (.map (kes s.K) s.c1)
  hw : w.heap[s.mw]? = some (.map (wes s.W) s.c2)
  hne : s.me ≠ s.mw
  b1 : ∀ x ∈ s.K, x.born < s.c1
  n1 : (s.K.map Ke.born).Nodup
  k1 : (s.K.map fun x => x.e.key).Nodup
  b2 : ∀ x ∈ s.W, x.born < s.c2
  n2 : (s.W.map Wh.born).Nodup
  k2 : (s.W.map Wh.dir).Nodup

/-- the blocks that a cache writes to -/
def CaF (s : Ca) (k : Nat) : Prop := k = s.p ∨ k = s.me ∨ k = s.mw

theorem CacheAt.chg {w w' : World} {B : Nat} {s : Ca} (h : CacheAt w B s) {F : Nat → Prop} (hc : Chg F w w') (hF : ∀ k, CaF s k → ¬ F k) : CacheAt w' B s :=
  ⟨h.hB, h.hBe, h.hBw, heap_chg hc h.hp (hF _ (.inl rfl)), heap_chg hc h.he (hF _ (.inr (.inl rfl))), heap_chg hc h.hw (hF _ (.inr (.inr rfl))), h.hne, h.b1, h.n1, h.k1, h.b2, h.n2, h.k2⟩
theorem CacheAt.below {w w' : World} {B : Nat} {s : Ca} (h : CacheAt w B s) (hb : Below w.heap.size w w') : CacheAt w' B s :=
  h.chg (Chg.below hb) fun _ _ h => h
theorem CacheAt.low {w : World} {B : Nat} {s : Ca} (h : CacheAt w B s) : ∀ i, i < B → ¬ CaF s i := by
  have := h.hB; have := h.hBe; have := h.hBw
  rintro i hi (rfl | rfl | rfl) <;> omega
theorem CacheAt.old {w : World} {B : Nat} {s : Ca} (h : CacheAt w B s) : ∀ i, w.heap.size ≤ i → ¬ CaF s i := by
  have := blk_lt h.hp; have := blk_lt h.he; have := blk_lt h.hw
  rintro i hi (rfl | rfl | rfl) <;> omega
theorem CacheAt.pe {w : World} {B : Nat} {s : Ca} (h : CacheAt w B s) : s.p ≠ s.me := by
  intro e; have h1 := h.hp; rw [e, h.he] at h1; cases h1
theorem CacheAt.pw {w : World} {B : Nat} {s : Ca} (h : CacheAt w B s) : s.p ≠ s.mw := by
  intro e; have h1 := h.hp; rw [e, h.hw] at h1; cases h1

set_option maxHeartbeats 400000 in
theorem dent_new (w : World) : Calls Tryz.prog 47 #[] w fun e w' => e = .returned (.pointer (some ⟨w.heap.size + 2, 0, none⟩)) ∧ CacheAt w' w.heap.size ⟨w.heap.size + 2, w.heap.size, w.heap.size + 1, [], [], 0, 0, 0⟩ ∧ Below w.heap.size w w' := by
  have hmm := @run_makeMap Tryz.prog
  go_enter Tryz.func47, Tryz.ntmps47
  go_wp2
  go_ret
  refine ⟨rfl, ⟨by simp, by simp, by simp, ?_, ?_, ?_, by simp, by simp, by simp, by simp, by simp, by simp, by simp⟩, bl3 w _ _ _⟩
  · have h := heap_new ((w.alloc (.map #[] 0)).alloc (.map #[] 0)) (.cells #[.map (some w.heap.size), .map (some (w.heap.size + 1)), .int .i64 0] 137)
    simp only [World.size_alloc] at h; exact h
  · exact heap_old (heap_old (heap_new w _) _) _
  · have h := heap_old (heap_new (w.alloc (.map #[] 0)) (.map #[] 0)) (.cells #[.map (some w.heap.size), .map (some (w.heap.size + 1)), .int .i64 0] 137)
    simp only [World.size_alloc] at h; exact h

set_option maxHeartbeats 400000 in
theorem dent_tick (w : World) (B : Nat) (s : Ca) (h : CacheAt w B s) (h1 : 0 ≤ s.ck) (h2 : s.ck < 9223372036854775807) :
    Calls Tryz.prog 100 #[.pointer (some ⟨s.p, 0, none⟩)] w fun e w' => e = .returned (.int .i64 (s.ck + 1)) ∧ CacheAt w' B { s with ck := s.ck + 1 } ∧ Chg (fun k => k = s.p) w w' := by
  have b0 := blk3 h.hp
  have HH := hid h
  clear h
  go_enter Tryz.func100, Tryz.ntmps100
  go_wp2
  go_ret
  have hc : Chg (fun k => k = s.p) w (w.setCell ⟨s.p, 2, none⟩ (.int .i64 (s.ck + 1))) := (Chg.refl (fun k => k = s.p) w).setCell ⟨s.p, 2, none⟩ _ (.inl rfl)
  have hh := HH.out
  exact ⟨rfl, ⟨hh.hB, hh.hBe, hh.hBw, heap_set hh.hp 2 _, heap_chg hc hh.he (Ne.symm hh.pe), heap_chg hc hh.hw (Ne.symm hh.pw), hh.hne, hh.b1, hh.n1, hh.k1, hh.b2, hh.n2, hh.k2⟩, hc⟩

set_option maxHeartbeats 400000 in
theorem dent_len (w : World) (B : Nat) (s : Ca) (h : CacheAt w B s) :
    Calls Tryz.prog 105 #[.pointer (some ⟨s.p, 0, none⟩)] w fun e w' => e = .returned (.int .i64 s.K.length) ∧ w = w' := by
  have b0 := blk3 h.hp
  have hlen : ∀ ty : TypeId, (Builtin.len_ #[134] ty #[.map (some s.me)]).run Tryz.prog w = .ok (.int .i64 s.K.length) w := fun ty => by
    simp [Builtin.len_, getObj, Sem.run, h.he, kes, goInt]
  clear h
  go_enter Tryz.func105, Tryz.ntmps105
  go_wp2
  go_ret
  exact ⟨rfl, rfl⟩

def inW (d : Int) (W : List Wh) : Bool := decide (d ∈ W.map Wh.dir)

set_option maxHeartbeats 400000 in
theorem dent_whole (w : World) (B : Nat) (s : Ca) (d : Int) (h : CacheAt w B s) :
    Calls Tryz.prog 37 #[.pointer (some ⟨s.p, 0, none⟩), .int .i64 d] w fun e w' => e = .returned (.bool (inW d s.W)) ∧ w = w' := by
  have b0 := blk3 h.hp
  have hl := run_lookw (d := d) h.hw
  rw [show decide (d ∈ s.W.map Wh.dir) = inW d s.W from rfl] at hl
  clear h
  go_enter Tryz.func37, Tryz.ntmps37
  go_wp2
  go_ret
  exact ⟨rfl, rfl⟩

end Go.Proofs.YtbjibkjenleloaaGreatDoor

end

section
namespace Go.Proofs.YtbjibkjenleloaaGreatDoor
set_option linter.unusedVariables false
set_option linter.unusedSimpArgs false
open Go.RowKit
open Go.ChangeMaps (setBlock)
attribute [local go_sem ↓] Go.wp_at_zero Go.wp_at_succ

def zeroEn : Value := .agg #[.int .i64 0, .string ByteArray.empty, .bool false, .int .i64 0, .int .i64 0, .int .i64 0, .string ByteArray.empty]

theorem atK_at {k : Ky} {K : List Ke} {j : Nat} (h : atK k K = some j) : ∃ x, K[j]? = some x ∧ x.e.key = k := by
  obtain ⟨hjl, h1, _⟩ := List.findIdx?_eq_some_iff_getElem.1 h
  exact ⟨K[j], List.getElem?_eq_getElem hjl, by simpa using (of_decide_eq_true h1).symm⟩

set_option maxHeartbeats 1000000 in
theorem dent_get_no (w : World) (B : Nat) (s : Ca) (k : Ky) (h : CacheAt w B s) (hk : atK k s.K = none) :
    Calls Tryz.prog 210 #[.pointer (some ⟨s.p, 0, none⟩), k.v] w fun e w' => e = .returned (.tuple #[zeroEn, .bool false]) ∧ Below w.heap.size w w' := by
  have b0 := blk3 h.hp
  have hpz := blk_lt h.hp
  have hmz := blk_lt h.he
  have HL : ∀ W : World, W.heap[s.me]? = some (.map (kes s.K) s.c1) → (Instr.lookup 134 (.map (some s.me)) (.agg #[.int .i64 k.dir, .string k.name]) true).run Tryz.prog W = .ok (.tuple #[.agg #[.int .i64 0, .string ByteArray.empty, .bool false, .int .i64 0, .int .i64 0, .int .i64 0, .string ByteArray.empty, .int .i64 0], .bool false]) W := fun W hW => run_look_no hW hk
  have he := h.he
  have BX := blk2 (heap_new w (.cells #[.int .i64 k.dir, .string k.name] 53))
  have HE := hid he
  have HH := hid h
  clear h he hk
  unfold Ky.v
  go_enter Tryz.func210, Tryz.ntmps210
  go_wp2_with fail
  go_region_held3 (fun w' => w'.cell? ⟨s.p, 0, none⟩ = some (.map (some s.me)) ∧ w'.cell? ⟨w.heap.size, 0, none⟩ = some (.int .i64 k.dir) ∧ w'.cell? ⟨w.heap.size, 1, none⟩ = some (.string k.name) ∧ w'.heap[s.me]? = some (.map (kes s.K) s.c1))
    (refine ⟨?_, ?_, ?_, ?_⟩ <;> first | exact cellA (cellA (b0.1) _) _ | exact cellA (BX.1) _ | exact cellA (BX.2.1) _ | exact heap_old (heap_old (HE.out) _) _ | exact cellA (cellA (cellA (b0.1) _) _) _ | exact cellA (cellA (BX.1) _) _ | exact cellA (cellA (BX.2.1) _) _ | exact heap_old (heap_old (heap_old (HE.out) _) _) _)
    (fail)
  all_goals
    go_wp2
    refine bodyPost_ret (v := .tuple #[zeroEn, .bool false]) (by simp [results, Tryz.results210, go_sem, zeroEn]) rfl ⟨rfl, ?_⟩
    exact (bl3 w _ _ _).drew

set_option maxHeartbeats 1000000 in
theorem dent_get_yes (w : World) (B : Nat) (s : Ca) (k : Ky) (j : Nat) (x : Ke) (h : CacheAt w B s) (hk : atK k s.K = some j) (hx : s.K[j]? = some x) :
    Calls Tryz.prog 210 #[.pointer (some ⟨s.p, 0, none⟩), k.v] w fun e w' => e = .returned (.tuple #[x.e.v, .bool true]) ∧ Below w.heap.size w w' := by
  have b0 := blk3 h.hp
  have hpz := blk_lt h.hp
  have hmz := blk_lt h.he
  have HL : ∀ W : World, W.heap[s.me]? = some (.map (kes s.K) s.c1) → (Instr.lookup 134 (.map (some s.me)) (.agg #[.int .i64 k.dir, .string k.name]) true).run Tryz.prog W = .ok (.tuple #[.agg #[.int .i64 x.e.key.dir, .string x.e.key.name, .bool x.e.neg, .int .i64 x.e.node.id, .int .i64 x.e.node.kind, .int .i64 x.e.node.mode, .string x.e.node.target, .int .i64 x.used], .bool true]) W := fun W hW => run_look_yes hW hk hx
  have he := h.he
  have BX := blk2 (heap_new w (.cells #[.int .i64 k.dir, .string k.name] 53))
  have HE := hid he
  have HH := hid h
  clear h he hk hx
  unfold Ky.v
  go_enter Tryz.func210, Tryz.ntmps210
  go_wp2_with fail
  go_region_held3 (fun w' => w'.cell? ⟨s.p, 0, none⟩ = some (.map (some s.me)) ∧ w'.cell? ⟨w.heap.size, 0, none⟩ = some (.int .i64 k.dir) ∧ w'.cell? ⟨w.heap.size, 1, none⟩ = some (.string k.name) ∧ w'.heap[s.me]? = some (.map (kes s.K) s.c1))
    (refine ⟨?_, ?_, ?_, ?_⟩ <;> first | exact cellA (cellA (b0.1) _) _ | exact cellA (BX.1) _ | exact cellA (BX.2.1) _ | exact heap_old (heap_old (HE.out) _) _ | exact cellA (cellA (cellA (b0.1) _) _) _ | exact cellA (cellA (BX.1) _) _ | exact cellA (cellA (BX.2.1) _) _ | exact heap_old (heap_old (heap_old (HE.out) _) _) _)
    (fail)
  all_goals
    go_wp2
    refine bodyPost_ret (v := .tuple #[x.e.v, .bool true]) (by simp [results, Tryz.results210, go_sem, En.v]) rfl ⟨rfl, ?_⟩
    exact (bl3 w _ _ _).drew

theorem atK_key {k : Ky} {K : List Ke} {j : Nat} {x : Ke} (h : atK k K = some j) (hx : K[j]? = some x) : x.e.key = k := by
  obtain ⟨y, hy, h2⟩ := atK_at h
  rw [hx] at hy; cases hy; exact h2

theorem CacheAt.putOld {w1 : World} {B j : Nat} {s : Ca} {x : Ke} {ck' : Int} (y : Ke) (h : CacheAt w1 B { s with ck := ck' }) (hx : s.K[j]? = some x) (hb : y.born = x.born) (hk : y.e.key = x.e.key) :
    CacheAt (setBlock w1 s.me (.map (kes (s.K.set j y)) s.c1)) B { s with K := s.K.set j y, ck := ck' } := by
  have hj : j < s.K.length := (List.getElem?_eq_some_iff.1 hx).1
  have hxx : s.K[j] = x := (List.getElem?_eq_some_iff.1 hx).2
  refine ⟨h.hB, h.hBe, h.hBw, heap_setBlock_ne h.hp h.pe, heap_setBlock h.he, heap_setBlock_ne h.hw (Ne.symm h.hne), h.hne, fun z hz => ?_, ?_, ?_, h.b2, h.n2, h.k2⟩
  · rcases List.mem_or_eq_of_mem_set hz with hz | rfl
    · exact h.b1 z hz
    · rw [hb]; exact h.b1 x (List.mem_of_getElem? hx)
  · have : (s.K.set j y).map Ke.born = s.K.map Ke.born := by
      rw [List.map_set, hb, ← hxx, ← List.map_set, List.set_getElem_self]
    rw [this]; exact h.n1
  · have : (s.K.set j y).map (fun x => x.e.key) = s.K.map (fun x => x.e.key) := by
      rw [List.map_set, hk, ← hxx]
      rw [← List.map_set (f := fun x : Ke => x.e.key), List.set_getElem_self]
    rw [this]; exact h.k1

theorem CacheAt.putNew {w1 : World} {B : Nat} {s : Ca} {ck' : Int} (y : Ke) (h : CacheAt w1 B { s with ck := ck' }) (hk : atK y.e.key s.K = none) (hb : y.born = s.c1) :
    CacheAt (setBlock w1 s.me (.map (kes (s.K ++ [y])) (s.c1 + 1))) B { s with K := s.K ++ [y], ck := ck', c1 := s.c1 + 1 } := by
  refine ⟨h.hB, h.hBe, h.hBw, heap_setBlock_ne h.hp h.pe, heap_setBlock h.he, heap_setBlock_ne h.hw (Ne.symm h.hne), h.hne, fun z hz => ?_, ?_, ?_, h.b2, h.n2, h.k2⟩
  · rcases List.mem_append.1 hz with hz | hz
    · exact Nat.lt_succ_of_lt (h.b1 z hz)
    · obtain rfl := List.mem_singleton.1 hz; rw [hb]; exact Nat.lt_succ_self _
  · rw [List.map_append, List.nodup_append]
    refine ⟨h.n1, by simp, fun a ha b hb' => ?_⟩
    obtain ⟨z, hz, rfl⟩ := List.mem_map.1 ha
    simp at hb'; subst hb'
    have := h.b1 z hz
    simp only at this
    omega
  · rw [List.map_append, List.nodup_append]
    refine ⟨h.k1, by simp, fun a ha b hb' => ?_⟩
    obtain ⟨z, hz, rfl⟩ := List.mem_map.1 ha
    simp at hb'; subst hb'
    have := List.findIdx?_eq_none_iff.1 hk z hz
    simp at this
    exact fun e => this e.symm

theorem chg_tick_set {s : Ca} {w w1 : World} {o : Obj} (h : Chg (fun k => k = s.p) w w1) : Chg (CaF s) w (setBlock w1 s.me o) :=
  Chg.trans h (chg_setBlock w1 s.me o) (fun _ _ h => .inl h) (fun _ _ h => .inr (.inl h))

set_option maxHeartbeats 1000000 in
theorem dent_use_no (w : World) (B : Nat) (s : Ca) (k : Ky) (h : CacheAt w B s) (hk : atK k s.K = none) :
    Calls Tryz.prog 140 #[.pointer (some ⟨s.p, 0, none⟩), k.v] w fun e w' => e = .returned (.bool false) ∧ Below w.heap.size w w' := by
  have b0 := blk3 h.hp
  have hpz := blk_lt h.hp
  have hmz := blk_lt h.he
  have HL : ∀ W : World, W.heap[s.me]? = some (.map (kes s.K) s.c1) → (Instr.lookup 134 (.map (some s.me)) (.agg #[.int .i64 k.dir, .string k.name]) true).run Tryz.prog W = .ok (.tuple #[.agg #[.int .i64 0, .string ByteArray.empty, .bool false, .int .i64 0, .int .i64 0, .int .i64 0, .string ByteArray.empty, .int .i64 0], .bool false]) W := fun W hW => run_look_no hW hk
  have he := h.he
  have BX := blk2 (heap_new w (.cells #[.int .i64 k.dir, .string k.name] 53))
  have HE := hid he
  have HH := hid h
  clear h he hk
  unfold Ky.v
  go_enter Tryz.func140, Tryz.ntmps140
  go_wp2_with fail
  go_region_held3 (fun w' => w'.cell? ⟨s.p, 0, none⟩ = some (.map (some s.me)) ∧ w'.cell? ⟨w.heap.size, 0, none⟩ = some (.int .i64 k.dir) ∧ w'.cell? ⟨w.heap.size, 1, none⟩ = some (.string k.name) ∧ w'.heap[s.me]? = some (.map (kes s.K) s.c1))
    (refine ⟨?_, ?_, ?_, ?_⟩ <;> first | exact cellA (b0.1) _ | exact BX.1 | exact BX.2.1 | exact heap_old (HE.out) _ | exact cellA (cellA (b0.1) _) _ | exact cellA (BX.1) _ | exact cellA (BX.2.1) _ | exact heap_old (heap_old (HE.out) _) _)
    (fail)
  all_goals
    go_wp2
    go_ret
    exact ⟨rfl, (bl2 w _ _).drew⟩

set_option maxHeartbeats 1000000 in
theorem dent_use_yes (w : World) (B : Nat) (s : Ca) (j : Nat) (x : Ke) (h : CacheAt w B s) (hk : atK x.e.key s.K = some j) (hx : s.K[j]? = some x) (h1 : 0 ≤ s.ck) (h2 : s.ck < 9223372036854775807) :
    Calls Tryz.prog 140 #[.pointer (some ⟨s.p, 0, none⟩), .agg #[.int .i64 x.e.key.dir, .string x.e.key.name]] w fun e w' => e = .returned (.bool true) ∧ CacheAt w' B { s with K := s.K.set j ⟨x.e, s.ck + 1, x.born⟩, ck := s.ck + 1 } ∧ Chg (CaF s) w w' := by
  have HK := hid hk
  have HX := hid hx
  have b0 := blk3 h.hp
  have hpz := blk_lt h.hp
  have hmz := blk_lt h.he
  have HL : ∀ W : World, W.heap[s.me]? = some (.map (kes s.K) s.c1) → (Instr.lookup 134 (.map (some s.me)) (.agg #[.int .i64 x.e.key.dir, .string x.e.key.name]) true).run Tryz.prog W = .ok (.tuple #[.agg #[.int .i64 x.e.key.dir, .string x.e.key.name, .bool x.e.neg, .int .i64 x.e.node.id, .int .i64 x.e.node.kind, .int .i64 x.e.node.mode, .string x.e.node.target, .int .i64 x.used], .bool true]) W := fun W hW => run_look_yes hW hk hx
  have he := h.he
  have BX := blk2 (heap_new w (.cells #[.int .i64 x.e.key.dir, .string x.e.key.name] 53))
  have HE := hid he
  have HH := hid h
  clear h he hk hx
  go_enter Tryz.func140, Tryz.ntmps140
  go_upto_region 1 with fail
  go_cut [5, 6] (fun v5 v6 wx => v5 = .pointer (some ⟨w.heap.size + 1, 0, none⟩) ∧ v6 = .bool true ∧ wx = ((w.alloc (.cells #[.int .i64 x.e.key.dir, .string x.e.key.name] 53)).alloc (.cells #[.int .i64 x.e.key.dir, .string x.e.key.name, .bool x.e.neg, .int .i64 x.e.node.id, .int .i64 x.e.node.kind, .int .i64 x.e.node.mode, .string x.e.node.target, .int .i64 x.used] 142)).drew)
  case first =>
    go_region_held3 (fun w' => w'.cell? ⟨s.p, 0, none⟩ = some (.map (some s.me)) ∧ w'.cell? ⟨w.heap.size, 0, none⟩ = some (.int .i64 x.e.key.dir) ∧ w'.cell? ⟨w.heap.size, 1, none⟩ = some (.string x.e.key.name) ∧ w'.heap[s.me]? = some (.map (kes s.K) s.c1))
      (refine ⟨?_, ?_, ?_, ?_⟩ <;> first | exact cellA (b0.1) _ | exact BX.1 | exact BX.2.1 | exact heap_old (HE.out) _ | exact cellA (cellA (b0.1) _) _ | exact cellA (BX.1) _ | exact cellA (BX.2.1) _ | exact heap_old (heap_old (HE.out) _) _)
      (fail)
    all_goals (go_wp2_with fail; go_meet; exact ⟨rfl, rfl, rfl⟩)
  case rest =>
    clear HL
    obtain ⟨rfl, rfl, rfl⟩ := hcut
    have BY := blk8 (heap_new (w.alloc (.cells #[.int .i64 x.e.key.dir, .string x.e.key.name] 53)) (.cells #[.int .i64 x.e.key.dir, .string x.e.key.name, .bool x.e.neg, .int .i64 x.e.node.id, .int .i64 x.e.node.kind, .int .i64 x.e.node.mode, .string x.e.node.target, .int .i64 x.used] 142))
    simp only [World.size_alloc] at BY
    go_wp2_with fail
    go_region_held3 (fun w' => w'.cell? ⟨s.p, 0, none⟩ = some (.map (some s.me)) ∧ (w'.cell? ⟨w.heap.size, 0, none⟩ = some (.int .i64 x.e.key.dir) ∧ w'.cell? ⟨w.heap.size, 1, none⟩ = some (.string x.e.key.name)) ∧ w'.cell? ⟨w.heap.size + 1, 0, none⟩ = some (.int .i64 x.e.key.dir) ∧ w'.cell? ⟨w.heap.size + 1, 1, none⟩ = some (.string x.e.key.name) ∧ w'.cell? ⟨w.heap.size + 1, 2, none⟩ = some (.bool x.e.neg) ∧ w'.cell? ⟨w.heap.size + 1, 3, none⟩ = some (.int .i64 x.e.node.id) ∧ w'.cell? ⟨w.heap.size + 1, 4, none⟩ = some (.int .i64 x.e.node.kind) ∧ w'.cell? ⟨w.heap.size + 1, 5, none⟩ = some (.int .i64 x.e.node.mode) ∧ w'.cell? ⟨w.heap.size + 1, 6, none⟩ = some (.string x.e.node.target))
      (first | exact ⟨cellA (cellA b0.1 _) _, ⟨cellA BX.1 _, cellA BX.2.1 _⟩, BY.1, BY.2.1, BY.2.2.1, BY.2.2.2.1, BY.2.2.2.2.1, BY.2.2.2.2.2.1, BY.2.2.2.2.2.2.1⟩ | exact KS | exact KT)
      (first
        | (go_at_call 100; refine (dent_tick _ B s (HH.out.below ((bl2 w _ _).drew.drew)) h1 h2).mono ?_; rintro e w1 ⟨rfl, hc1, hg1⟩; (have hup := run_put_old (w := w1) ⟨x.e, s.ck + 1, x.born⟩ hc1.he HK.out HX.out rfl rfl); simp only [Ke.val] at hup; (have kb0 := heap_chg hg1 (heap_old (heap_new w (.cells #[.int .i64 x.e.key.dir, .string x.e.key.name] 53)) (.cells #[.int .i64 x.e.key.dir, .string x.e.key.name, .bool x.e.neg, .int .i64 x.e.node.id, .int .i64 x.e.node.kind, .int .i64 x.e.node.mode, .string x.e.node.target, .int .i64 x.used] 142)) (by omega)); (have kb1 := heap_chg hg1 (heap_new (w.alloc (.cells #[.int .i64 x.e.key.dir, .string x.e.key.name] 53)) (.cells #[.int .i64 x.e.key.dir, .string x.e.key.name, .bool x.e.neg, .int .i64 x.e.node.id, .int .i64 x.e.node.kind, .int .i64 x.e.node.mode, .string x.e.node.target, .int .i64 x.used] 142)) (by rw [World.size_alloc]; omega)); simp only [World.size_alloc] at kb1; (have bp := blk3 hc1.hp); (have q0 := blk2 kb0); (have q1 := blk8 kb1); (have KS := And.intro bp.1 (And.intro (And.intro q0.1 q0.2.1) (And.intro q1.1 (And.intro q1.2.1 (And.intro q1.2.2.1 (And.intro q1.2.2.2.1 (And.intro q1.2.2.2.2.1 (And.intro q1.2.2.2.2.2.1 q1.2.2.2.2.2.2.1)))))))); (have bp' := blk3 (heap_setBlock_ne (o := .map (kes (s.K.set j ⟨x.e, s.ck + 1, x.born⟩)) s.c1) hc1.hp hc1.pe)); (have q0' := blk2 (heap_setBlock_ne (o := .map (kes (s.K.set j ⟨x.e, s.ck + 1, x.born⟩)) s.c1) (r := s.me) kb0 (by omega))); (have q1' := blk8 (heap_setBlock_ne (o := .map (kes (s.K.set j ⟨x.e, s.ck + 1, x.born⟩)) s.c1) (r := s.me) kb1 (by omega))); (have KT := And.intro bp'.1 (And.intro (And.intro q0'.1 q0'.2.1) (And.intro q1'.1 (And.intro q1'.2.1 (And.intro q1'.2.2.1 (And.intro q1'.2.2.2.1 (And.intro q1'.2.2.2.2.1 (And.intro q1'.2.2.2.2.2.1 q1'.2.2.2.2.2.2.1))))))))))
    go_wp2
    go_ret
    exact ⟨rfl, CacheAt.putOld (x := x) _ hc1 HX.out rfl rfl, Chg.trans (Chg.below (bl2 w _ _).drew.drew) (chg_tick_set hg1) (fun _ _ h => h.elim) (fun _ _ h => h)⟩

end Go.Proofs.YtbjibkjenleloaaGreatDoor

end
