/- Parts of a proof about the given program, in build order: Lib, LibB. No condition. -/
import Derived.WalkKit
import Derived.WalkSpells
import Derived.WalkLawsBesides
import Derived.Maps.AppendAt
import Derived.Laws.AppendOwnNone
import Derived.Laws.CopyOwn
import Derived.Deep.Draws
import Derived.Deep.MidRow
import Derived.Deep.QuietTactic
/- Plain words for the walks of this seat: what a slice reads as, which blocks may have turned, and the laws for append and copy in those words. -/
section
namespace Go.Proofs.YtbjibkjenleloaaGreatDoor
set_option linter.unusedVariables false
set_option linter.unusedSimpArgs false
open Go.RowKit

theorem hid {p : Prop} (h : p) : Hid p := h

/-- Only blocks of F may have turned, and new ones have come. -/
structure Chg (F : Nat → Prop) (w w' : World) : Prop where
  os : w'.os = w.os
  tape : w'.tape = w.tape
  output : w'.output = w.output
  size : w.heap.size ≤ w'.heap.size
  block : ∀ k, k < w.heap.size → ¬ F k → w'.heap[k]? = w.heap[k]?

def NoB : Nat → Prop := fun _ => False

theorem Chg.refl (F : Nat → Prop) (w : World) : Chg F w w := ⟨rfl, rfl, rfl, Nat.le_refl _, fun _ _ _ => rfl⟩
theorem Chg.trans {F G H : Nat → Prop} {a b c : World} (h : Chg F a b) (k : Chg G b c) (hF : ∀ i, i < a.heap.size → F i → H i) (hG : ∀ i, i < a.heap.size → G i → H i) : Chg H a c :=
  ⟨k.os.trans h.os, k.tape.trans h.tape, k.output.trans h.output, Nat.le_trans h.size k.size, fun i hi hn =>
    (k.block i (Nat.lt_of_lt_of_le hi h.size) (fun hg => hn (hG i hi hg))).trans (h.block i hi (fun hf => hn (hF i hi hf)))⟩
theorem Chg.mono {F G : Nat → Prop} {a b : World} (h : Chg F a b) (hF : ∀ i, i < a.heap.size → F i → G i) : Chg G a b :=
  ⟨h.os, h.tape, h.output, h.size, fun i hi hn => h.block i hi (fun hf => hn (hF i hi hf))⟩
theorem Chg.drewN {F : Nat → Prop} {a b : World} (h : Chg F a b) (n : Nat) : Chg F a (b.drewN n) := ⟨h.os, h.tape, h.output, h.size, h.block⟩
theorem Chg.drew {F : Nat → Prop} {a b : World} (h : Chg F a b) : Chg F a b.drew := ⟨h.os, h.tape, h.output, h.size, h.block⟩
theorem Chg.alloc {F : Nat → Prop} {a b : World} (h : Chg F a b) (o : Obj) : Chg F a (b.alloc o) :=
  ⟨h.os, h.tape, h.output, by simp; have := h.size; omega, fun i hi hn => by
    rw [Below.heap_alloc _ _ _ (Nat.lt_of_lt_of_le hi h.size)]; exact h.block i hi hn⟩
theorem Chg.setCell {F : Nat → Prop} {a b : World} (h : Chg F a b) (p : Addr) (u : Value) (hp : F p.block ∨ a.heap.size ≤ p.block) : Chg F a (b.setCell p u) :=
  ⟨h.os, h.tape, h.output, by simpa [World.setCell] using h.size, fun i hi hn => by
    rw [Below.heap_setCell _ _ _ _ (by rintro rfl; rcases hp with hp | hp; exact hn hp; omega)]; exact h.block i hi hn⟩
theorem Chg.below {w w' : World} (h : Below w.heap.size w w') : Chg NoB w w' := ⟨h.os, h.tape, h.output, h.size, fun i hi _ => h.block i hi⟩
theorem Chg.toBelow {F : Nat → Prop} {w w' : World} (h : Chg F w w') {B : Nat} (hB : B ≤ w.heap.size) (hF : ∀ i, i < B → ¬ F i) : Below B w w' :=
  ⟨h.os, h.tape, h.output, h.size, fun i hi => h.block i (Nat.lt_of_lt_of_le hi hB) (hF i hi)⟩
theorem Chg.grown {F : Nat → Prop} {a b c : World} (h : Chg F a b) {row : Option Nat} (hg : b.grownBy c row) (hr : ∀ k, row = some k → F k ∨ a.heap.size ≤ k) : Chg F a c :=
  ⟨hg.os.trans h.os, hg.tape.trans h.tape, hg.output.trans h.output, Nat.le_trans h.size hg.size, fun i hi hn =>
    (hg.block i (Nat.lt_of_lt_of_le hi h.size) (fun e => by rcases hr i e.symm with h' | h'; exact hn h'; omega)).trans (h.block i hi hn)⟩
theorem Chg.cell {F : Nat → Prop} {w w' : World} (h : Chg F w w') {a : Addr} {v : Value} (hc : w.cell? a = some v) (hn : ¬ F a.block) : w'.cell? a = some v := by
  rw [World.cell?_of_block (h.block a.block (World.block_lt_of_cell? w a hc) hn)]; exact hc

/-- The slice value v has n elements, and its first cells are cs. -/
def Rd (w : World) (v : Value) (n : Nat) (cs : List Value) : Prop :=
  (v = .slice none 0 0 ∧ n = 0 ∧ cs = []) ∨
  ∃ ad cap, v = .slice (some ad) n cap ∧ n ≤ cap ∧ cap ≤ maxLen ∧ ∀ i c, cs[i]? = some c → w.cell? (ad.add i) = some c

theorem add_mid (b o j : Nat) : (⟨b, o, none⟩ : Addr).add j = ⟨b, o + j, none⟩ := by unfold Addr.add; split <;> simp_all

theorem Addr.add_block (a : Addr) (n : Nat) : (a.add n).block = a.block := by unfold Addr.add; split <;> rfl

/-- what the walk wants of it -/
theorem Rd.form {w : World} {v : Value} {n : Nat} {cs : List Value} (h : Rd w v n cs) (hcs : 0 < cs.length) :
    ∃ b off cap, v = .slice (some ⟨b, off, none⟩) n cap ∧ n ≤ cap ∧ cap ≤ maxLen ∧ b < w.heap.size ∧ ∀ i c, cs[i]? = some c → w.cell? ⟨b, off + i, none⟩ = some c := by
  rcases h with ⟨_, _, rfl⟩ | ⟨ad, cap, rfl, h1, h2, h3⟩
  · simp at hcs
  · obtain ⟨b, off, spot⟩ := ad
    have h0 := h3 0 cs[0] (by simp)
    rw [Addr.add_zero'] at h0
    cases spot with
    | some s => simp [World.cell?] at h0; split at h0 <;> simp_all
    | none =>
      refine ⟨b, off, cap, rfl, h1, h2, World.block_lt_of_cell? w _ h0, fun i c hc => ?_⟩
      have := h3 i c hc
      rwa [add_mid] at this

theorem Rd.shape {w : World} {v : Value} {n : Nat} {cs : List Value} (h : Rd w v n cs) : ∃ a cap, v = .slice a n cap ∧ n ≤ cap ∧ cap ≤ maxLen := by
  rcases h with ⟨rfl, rfl, _⟩ | ⟨ad, cap, rfl, h1, h2, _⟩
  · exact ⟨none, 0, rfl, Nat.le_refl _, by simp [maxLen]⟩
  · exact ⟨_, _, rfl, h1, h2⟩

theorem Rd.len {w : World} {v : Value} {n : Nat} {cs : List Value} (h : Rd w v n cs) : n ≤ maxLen := by
  obtain ⟨_, _, _, h1, h2⟩ := h.shape; omega

theorem Rd.nil (w : World) : Rd w (.slice none 0 0) 0 [] := .inl ⟨rfl, rfl, rfl⟩

theorem Rd.chg {w w' : World} {v : Value} {n : Nat} {cs : List Value} (h : Rd w v n cs) (hk : ∀ k, v.ownBlock = some k → k < w.heap.size → w'.heap[k]? = w.heap[k]?) : Rd w' v n cs := by
  rcases h with h | ⟨ad, cap, rfl, h1, h2, h3⟩
  · exact .inl h
  · refine .inr ⟨ad, cap, rfl, h1, h2, fun i c hc => ?_⟩
    have h4 := h3 i c hc
    have hb := World.block_lt_of_cell? w _ h4
    rw [Addr.add_block] at hb
    rw [World.cell?_of_block (w := w) (by rw [Addr.add_block]; exact hk _ rfl hb)]
    exact h4

theorem Rd.own {w : World} {B e sz n : Nat} {v : Value} {xs : List Value} (h : w.ownsRow B e sz v n xs) : Rd w v n xs := by
  rcases h.2 with ⟨rfl, rfl⟩ | ⟨g, cap, cur, rfl, hb, hg, h1, h2, h3, h4⟩
  · have : xs = [] := List.eq_nil_of_length_eq_zero (by simpa using h.1)
    subst this; exact .inl ⟨rfl, rfl, rfl⟩
  · exact .inr ⟨_, cap, rfl, h1, h2, h.cells (g := g) rfl⟩

theorem ownsRow_chg {w w' : World} {B e sz n : Nat} {v : Value} {xs : List Value} (h : w.ownsRow B e sz v n xs) (hk : ∀ k, v.ownBlock = some k → k < w.heap.size → w'.heap[k]? = w.heap[k]?) : w'.ownsRow B e sz v n xs := by
  refine ⟨h.1, ?_⟩
  rcases h.2 with hn | ⟨g, cap, cur, rfl, hb, hgg, rest⟩
  · exact .inl hn
  · exact .inr ⟨g, cap, cur, rfl, hb, by rw [hk g rfl (Array.getElem?_eq_some_iff.1 hgg).1]; exact hgg, rest⟩

theorem ownsRow_shape {w : World} {B e sz n : Nat} {v : Value} {xs : List Value} (h : w.ownsRow B e sz v n xs) : ∃ a c, v = .slice a n c := by
  obtain ⟨a, c, h, _⟩ := (Rd.own h).shape; exact ⟨a, c, h⟩

/-- append whatever reads as a list, nil too, onto a slice of the call's own -/
theorem wp_append_rd {P : Program} {w : World} {o : Oper} {a : Act} {K : Act → World → Prop} {Q : Exit → Act → World → Prop} (s x : Operand) (t : TypeId)
    (ho : o.op = .call { callee := .builtin .append, args := #[s, x], argTypes := #[t, t] })
    (base : Nat) (e : TypeId) (i : TypeInfo) (z : Value) (size bytes : Nat) (ht : P.underlying t = some (.slice e)) (hi : P.info? e = some i) (hz : i.zero = some z)
    (hsize : i.size = size) (hby : i.bytes = bytes) (hzs : z.cells.size = size) (hsz : 0 < size)
    (v : Value) (n : Nat) (xs : List Value) (hs : a.eval s = v) (hown : w.ownsRow base e size v n xs)
    (sv : Value) (m : Nat) (news : List Value) (hx : a.eval x = sv) (hr : Rd w sv m news) (hl : news.length = m * size) (h1 : ∀ u ∈ news, u.oneCell' = true)
    (h63 : n + m ≤ maxLen) (hbytes : (n + m) * bytes ≤ 140737488355328) (hbase : base ≤ w.heap.size)
    (h : ∀ a' c' w', w'.ownsRow base e size (.slice a' (n + m) c') (n + m) (xs ++ news) → w.grownBy w' v.ownBlock → ((Value.slice a' (n + m) c').ownBlock = v.ownBlock ∨ (Value.slice a' (n + m) c').ownBlock = some w.heap.size) → K (a.put o.dst (.slice a' (n + m) c')) w') :
    Oper.wp P o a w K Q := by
  unfold Oper.wp execOp
  rcases hr with ⟨rfl, rfl, rfl⟩ | ⟨ad, cap, rfl, h2, h3, h4⟩
  · have hrun := run_append_owned_none (P := P) (w := w) base t o.type e i size ht hi v n xs hown
    simp only [ho, resolve, invoke, builtin, Sem.run_bind, Sem.run_pure, Result.andThen_ok, List.map_toArray, List.map_cons, List.map_nil, hs, hx, hrun]
    obtain ⟨a', c', rfl⟩ := ownsRow_shape hown
    exact h a' c' w (by simpa using hown) ⟨rfl, rfl, rfl, Nat.le_refl _, fun _ _ _ => rfl⟩ (.inl rfl)
  · obtain ⟨v', w', hrun, ho', hg', _, hb'⟩ := run_append_own_at (P := P) w base t o.type e i z size bytes ht hi hz hsize hby hzs hsz v n xs hown ad m cap news hl h4 h1 h63 hbytes hbase
    simp only [ho, resolve, invoke, builtin, Sem.run_bind, Sem.run_pure, Result.andThen_ok, List.map_toArray, List.map_cons, List.map_nil, hs, hx, hrun]
    obtain ⟨a', c', rfl⟩ := ownsRow_shape ho'
    exact h a' c' w' ho' hg' hb'

theorem wpList_append_rd {P : Program} {w : World} {ops : Array Oper} {rest : List Oper} {o : Oper} {a : Act} {Q : Exit → Act → World → Prop} (hgd : o.guard = none) (s x : Operand) (t : TypeId)
    (ho : o.op = .call { callee := .builtin .append, args := #[s, x], argTypes := #[t, t] })
    (base : Nat) (e : TypeId) (i : TypeInfo) (z : Value) (size bytes : Nat) (ht : P.underlying t = some (.slice e)) (hi : P.info? e = some i) (hz : i.zero = some z)
    (hsize : i.size = size) (hby : i.bytes = bytes) (hzs : z.cells.size = size) (hsz : 0 < size)
    (v : Value) (n : Nat) (xs : List Value) (hs : a.eval s = v) (hown : w.ownsRow base e size v n xs)
    (sv : Value) (m : Nat) (news : List Value) (hx : a.eval x = sv) (hr : Rd w sv m news) (hl : news.length = m * size) (h1 : ∀ u ∈ news, u.oneCell' = true)
    (h63 : n + m ≤ maxLen) (hbytes : (n + m) * bytes ≤ 140737488355328) (hbase : base ≤ w.heap.size)
    (h : ∀ a' c' w', w'.ownsRow base e size (.slice a' (n + m) c') (n + m) (xs ++ news) → w.grownBy w' v.ownBlock → ((Value.slice a' (n + m) c').ownBlock = v.ownBlock ∨ (Value.slice a' (n + m) c').ownBlock = some w.heap.size) → wpList P ops Q rest (a.put o.dst (.slice a' (n + m) c')) w') :
    wpList P ops Q (o :: rest) a w :=
  wpList_plain hgd fun _ hK => wp_append_rd s x t ho base e i z size bytes ht hi hz hsize hby hzs hsz v n xs hs hown sv m news hx hr hl h1 h63 hbytes hbase fun a' c' w' h2 h3 h4 => hK _ _ (h a' c' w' h2 h3 h4)

/-- the same as one step of a region that draws its order -/
theorem step_append_rd {P : Program} {w : World} {ops : Array Oper} {o : Oper} {a : Act} {K : Act → World → Prop} {Q : Exit → Act → World → Prop} {E : Prop} (hgd : o.guard = none) (s x : Operand) (t : TypeId)
    (ho : o.op = .call { callee := .builtin .append, args := #[s, x], argTypes := #[t, t] })
    (base : Nat) (e : TypeId) (i : TypeInfo) (z : Value) (size bytes : Nat) (ht : P.underlying t = some (.slice e)) (hi : P.info? e = some i) (hz : i.zero = some z)
    (hsize : i.size = size) (hby : i.bytes = bytes) (hzs : z.cells.size = size) (hsz : 0 < size)
    (v : Value) (n : Nat) (xs : List Value) (hs : a.eval s = v) (hown : w.ownsRow base e size v n xs)
    (sv : Value) (m : Nat) (news : List Value) (hx : a.eval x = sv) (hr : Rd w sv m news) (hl : news.length = m * size) (h1 : ∀ u ∈ news, u.oneCell' = true)
    (h63 : n + m ≤ maxLen) (hbytes : (n + m) * bytes ≤ 140737488355328) (hbase : base ≤ w.heap.size)
    (h : ∀ a' c' w', w'.ownsRow base e size (.slice a' (n + m) c') (n + m) (xs ++ news) → w.grownBy w' v.ownBlock → ((Value.slice a' (n + m) c').ownBlock = v.ownBlock ∨ (Value.slice a' (n + m) c').ownBlock = some w.heap.size) → K (a.put o.dst (.slice a' (n + m) c')) w') :
    if Region.wanted o (yielded ops a.tmps) = true then Oper.wp P o a w K Q else E := by
  have hw : Region.wanted o (yielded ops a.tmps) = true := by simp [Region.wanted, hgd]
  rw [if_pos hw]
  exact wp_append_rd s x t ho base e i z size bytes ht hi hz hsize hby hzs hsz v n xs hs hown sv m news hx hr hl h1 h63 hbytes hbase h

/-- a row that is full is known whole -/
theorem ownsRow_whole {w : World} {B e sz n g : Nat} {xs : List Value} (h : w.ownsRow B e sz (.slice (some ⟨g, 0, none⟩) n n) n xs) : w.heap[g]? = some (.cells xs.toArray e (0, 0)) := by
  rcases h.2 with ⟨hv, _⟩ | ⟨g', cap, cur, hv, hb, hg, h1, h2, h3, h4⟩
  · cases hv
  · simp only [Value.slice.injEq, Option.some.injEq, Addr.mk.injEq] at hv
    obtain ⟨⟨rfl, _⟩, _, rfl⟩ := hv
    rw [hg, ← h4, List.take_of_length_le (by simp [h3])]

theorem ownsRow_of_whole {w : World} {B e sz n g : Nat} {xs : List Value} (h : w.heap[g]? = some (.cells xs.toArray e (0, 0))) (hx : xs.length = n * sz) (hB : B ≤ g) (hn : n ≤ maxLen) :
    w.ownsRow B e sz (.slice (some ⟨g, 0, none⟩) n n) n xs :=
  ⟨hx, .inr ⟨g, n, _, rfl, hB, h, Nat.le_refl _, hn, by simpa using hx, by rw [← hx]; simp⟩⟩

theorem splice_all {α : Type} (L cs : List α) (h : cs.length = L.length) : splice L 0 cs = cs := by
  simp [splice, h]

theorem blk_cell {w : World} {k t : Nat} {cs : Array Value} {fr : Nat × Nat} (h : w.heap[k]? = some (.cells cs t fr)) {i : Nat} {v : Value} (hi : cs[i]? = some v) : w.cell? ⟨k, i, none⟩ = some v := by
  simp [World.cell?, h, hi]

theorem blk_free {w : World} {k t : Nat} {cs : Array Value} (h : w.heap[k]? = some (.cells cs t (0, 0))) (i : Nat) : w.frozen? ⟨k, i, none⟩ = false := by
  simp [World.frozen?, h]

theorem blk_lt {w : World} {k : Nat} {o : Obj} (h : w.heap[k]? = some o) : k < w.heap.size := (Array.getElem?_eq_some_iff.1 h).1

theorem heap_new (w : World) (o : Obj) : (w.alloc o).heap[w.heap.size]? = some o := heap_alloc_new w o

theorem heap_old {w : World} {k : Nat} {x : Obj} (h : w.heap[k]? = some x) (o : Obj) : (w.alloc o).heap[k]? = some x := by
  rw [Below.heap_alloc _ _ _ (blk_lt h)]; exact h

theorem heap_grown {w w' : World} {row : Option Nat} {k : Nat} {x : Obj} (hg : w.grownBy w' row) (h : w.heap[k]? = some x) (hne : some k ≠ row) : w'.heap[k]? = some x := by
  rw [hg.block k (blk_lt h) hne]; exact h

theorem heap_below {B : Nat} {w w' : World} {k : Nat} {x : Obj} (hb : Below B w w') (h : w.heap[k]? = some x) (hk : k < B) : w'.heap[k]? = some x := by
  rw [hb.block k hk]; exact h

theorem heap_chg {F : Nat → Prop} {w w' : World} {k : Nat} {x : Obj} (hc : Chg F w w') (h : w.heap[k]? = some x) (hk : ¬ F k) : w'.heap[k]? = some x := by
  rw [hc.block k (blk_lt h) hk]; exact h

theorem heap_set {w : World} {k : Nat} {cs : Array Value} {t : Nat} {fr : Nat × Nat} (h : w.heap[k]? = some (.cells cs t fr)) (i : Nat) (u : Value) :
    (w.setCell ⟨k, i, none⟩ u).heap[k]? = some (.cells (cs.setIfInBounds i u) t fr) := by
  simp only [World.setCell, Array.getElem?_modify, if_pos, h]; rfl

theorem heap_set_ne {w : World} {k j : Nat} {x : Obj} (h : w.heap[k]? = some x) (i : Nat) (u : Value) (hne : k ≠ j) : (w.setCell ⟨j, i, none⟩ u).heap[k]? = some x := by
  rw [Below.heap_setCell _ _ _ _ hne]; exact h

theorem Rd.src {w : World} {a : Option Addr} {n c : Nat} {cs : List Value} (h : Rd w (.slice a n c) n cs) (hp : 0 < cs.length) :
    ∃ ad, a = some ad ∧ ∀ j u, cs[j]? = some u → w.cell? (ad.add j) = some u := by
  rcases h with ⟨_, _, rfl⟩ | ⟨ad, cap, hv, _, _, h3⟩
  · simp at hp
  · simp only [Value.slice.injEq] at hv
    exact ⟨ad, hv.1, h3⟩

theorem below_cell {B : Nat} {w w' : World} (hb : Below B w w') (hB : w.heap.size ≤ B) {a : Addr} {v : Value} (h : w.cell? a = some v) : w'.cell? a = some v := by
  rw [hb.cell (Nat.lt_of_lt_of_le (World.block_lt_of_cell? w a h) hB)]; exact h

theorem size_made (z : Array Value) (n : Nat) : (madeCells z n).size = n := by simp [madeCells]

theorem Rd.alloc {w : World} {v : Value} {n : Nat} {cs : List Value} (h : Rd w v n cs) (o : Obj) : Rd (w.alloc o) v n cs :=
  h.chg fun k _ hk => Below.heap_alloc _ _ _ hk
theorem Rd.drew {w : World} {v : Value} {n : Nat} {cs : List Value} (h : Rd w v n cs) : Rd w.drew v n cs := h
theorem Rd.drewN {w : World} {v : Value} {n : Nat} {cs : List Value} (h : Rd w v n cs) (q : Nat) : Rd (w.drewN q) v n cs := h
theorem Rd.below {w w' : World} {v : Value} {n : Nat} {cs : List Value} (h : Rd w v n cs) (hb : Below w.heap.size w w') : Rd w' v n cs :=
  h.chg fun k _ hk => hb.block k hk

theorem ownsRow_mono {w : World} {B B' e sz n : Nat} {v : Value} {xs : List Value} (h : w.ownsRow B e sz v n xs) (hB : B' ≤ B) : w.ownsRow B' e sz v n xs := by
  refine ⟨h.1, ?_⟩
  rcases h.2 with hn | ⟨g, cap, cur, rfl, hb, rest⟩
  · exact .inl hn
  · exact .inr ⟨g, cap, cur, rfl, Nat.le_trans hB hb, rest⟩

theorem blk1 {w : World} {k t : Nat} {x0 : Value} (h : w.heap[k]? = some (.cells #[x0] t (0, 0))) :
    w.cell? ⟨k, 0, none⟩ = some x0 ∧ w.frozen? ⟨k, 0, none⟩ = false := by
  simp [World.cell?, World.frozen?, h]

theorem blk2 {w : World} {k t : Nat} {x0 x1 : Value} (h : w.heap[k]? = some (.cells #[x0, x1] t (0, 0))) :
    w.cell? ⟨k, 0, none⟩ = some x0 ∧ w.cell? ⟨k, 1, none⟩ = some x1 ∧ w.frozen? ⟨k, 0, none⟩ = false ∧ w.frozen? ⟨k, 1, none⟩ = false := by
  simp [World.cell?, World.frozen?, h]

theorem blk3 {w : World} {k t : Nat} {x0 x1 x2 : Value} (h : w.heap[k]? = some (.cells #[x0, x1, x2] t (0, 0))) :
    w.cell? ⟨k, 0, none⟩ = some x0 ∧ w.cell? ⟨k, 1, none⟩ = some x1 ∧ w.cell? ⟨k, 2, none⟩ = some x2 ∧ w.frozen? ⟨k, 0, none⟩ = false ∧ w.frozen? ⟨k, 1, none⟩ = false ∧ w.frozen? ⟨k, 2, none⟩ = false := by
  simp [World.cell?, World.frozen?, h]

theorem blk4 {w : World} {k t : Nat} {x0 x1 x2 x3 : Value} (h : w.heap[k]? = some (.cells #[x0, x1, x2, x3] t (0, 0))) :
    w.cell? ⟨k, 0, none⟩ = some x0 ∧ w.cell? ⟨k, 1, none⟩ = some x1 ∧ w.cell? ⟨k, 2, none⟩ = some x2 ∧ w.cell? ⟨k, 3, none⟩ = some x3 ∧ w.frozen? ⟨k, 0, none⟩ = false ∧ w.frozen? ⟨k, 1, none⟩ = false ∧ w.frozen? ⟨k, 2, none⟩ = false ∧ w.frozen? ⟨k, 3, none⟩ = false := by
  simp [World.cell?, World.frozen?, h]

theorem blk5 {w : World} {k t : Nat} {x0 x1 x2 x3 x4 : Value} (h : w.heap[k]? = some (.cells #[x0, x1, x2, x3, x4] t (0, 0))) :
    w.cell? ⟨k, 0, none⟩ = some x0 ∧ w.cell? ⟨k, 1, none⟩ = some x1 ∧ w.cell? ⟨k, 2, none⟩ = some x2 ∧ w.cell? ⟨k, 3, none⟩ = some x3 ∧ w.cell? ⟨k, 4, none⟩ = some x4 ∧ w.frozen? ⟨k, 0, none⟩ = false ∧ w.frozen? ⟨k, 1, none⟩ = false ∧ w.frozen? ⟨k, 2, none⟩ = false ∧ w.frozen? ⟨k, 3, none⟩ = false ∧ w.frozen? ⟨k, 4, none⟩ = false := by
  simp [World.cell?, World.frozen?, h]

theorem blk6 {w : World} {k t : Nat} {x0 x1 x2 x3 x4 x5 : Value} (h : w.heap[k]? = some (.cells #[x0, x1, x2, x3, x4, x5] t (0, 0))) :
    w.cell? ⟨k, 0, none⟩ = some x0 ∧ w.cell? ⟨k, 1, none⟩ = some x1 ∧ w.cell? ⟨k, 2, none⟩ = some x2 ∧ w.cell? ⟨k, 3, none⟩ = some x3 ∧ w.cell? ⟨k, 4, none⟩ = some x4 ∧ w.cell? ⟨k, 5, none⟩ = some x5 ∧ w.frozen? ⟨k, 0, none⟩ = false ∧ w.frozen? ⟨k, 1, none⟩ = false ∧ w.frozen? ⟨k, 2, none⟩ = false ∧ w.frozen? ⟨k, 3, none⟩ = false ∧ w.frozen? ⟨k, 4, none⟩ = false ∧ w.frozen? ⟨k, 5, none⟩ = false := by
  simp [World.cell?, World.frozen?, h]

theorem blk7 {w : World} {k t : Nat} {x0 x1 x2 x3 x4 x5 x6 : Value} (h : w.heap[k]? = some (.cells #[x0, x1, x2, x3, x4, x5, x6] t (0, 0))) :
    w.cell? ⟨k, 0, none⟩ = some x0 ∧ w.cell? ⟨k, 1, none⟩ = some x1 ∧ w.cell? ⟨k, 2, none⟩ = some x2 ∧ w.cell? ⟨k, 3, none⟩ = some x3 ∧ w.cell? ⟨k, 4, none⟩ = some x4 ∧ w.cell? ⟨k, 5, none⟩ = some x5 ∧ w.cell? ⟨k, 6, none⟩ = some x6 ∧ w.frozen? ⟨k, 0, none⟩ = false ∧ w.frozen? ⟨k, 1, none⟩ = false ∧ w.frozen? ⟨k, 2, none⟩ = false ∧ w.frozen? ⟨k, 3, none⟩ = false ∧ w.frozen? ⟨k, 4, none⟩ = false ∧ w.frozen? ⟨k, 5, none⟩ = false ∧ w.frozen? ⟨k, 6, none⟩ = false := by
  simp [World.cell?, World.frozen?, h]

theorem bl1 (w : World) (a : Obj) : Below w.heap.size w (w.alloc a) := (Below.refl _ _).alloc (Nat.le_refl _) _
theorem bl2 (w : World) (a b : Obj) : Below w.heap.size w ((w.alloc a).alloc b) := (bl1 w a).alloc (by simp) _
theorem bl3 (w : World) (a b c : Obj) : Below w.heap.size w (((w.alloc a).alloc b).alloc c) := (bl2 w a b).alloc (by simp; omega) _

theorem own_alloc {w : World} {B e sz n : Nat} {v : Value} {xs : List Value} (h : w.ownsRow B e sz v n xs) (o : Obj) : (w.alloc o).ownsRow B e sz v n xs := h.alloc o
theorem own_drew {w : World} {B e sz n : Nat} {v : Value} {xs : List Value} (h : w.ownsRow B e sz v n xs) : w.drew.ownsRow B e sz v n xs := h
theorem own_drewN {w : World} {B e sz n : Nat} {v : Value} {xs : List Value} (h : w.ownsRow B e sz v n xs) (q : Nat) : (w.drewN q).ownsRow B e sz v n xs := h
theorem own_below {w w' : World} {B e sz n : Nat} {v : Value} {xs : List Value} (h : w.ownsRow B e sz v n xs) (hb : Below w.heap.size w w') : w'.ownsRow B e sz v n xs :=
  ownsRow_chg h fun k _ hk => hb.block k hk
theorem own_lt {w : World} {B e sz n : Nat} {v : Value} {xs : List Value} (h : w.ownsRow B e sz v n xs) {k : Nat} (hk : v.ownBlock = some k) : B ≤ k ∧ k < w.heap.size := h.lt k hk
theorem own_type {w : World} {B e sz n : Nat} {v : Value} {xs : List Value} (h : w.ownsRow B e sz v n xs) {k : Nat} (hk : v.ownBlock = some k) : ∃ cur, w.heap[k]? = some (.cells cur e (0, 0)) := by
  rcases h.2 with ⟨rfl, _⟩ | ⟨g, cap, cur, rfl, _, hg, _⟩
  · simp [Value.ownBlock] at hk
  · simp [Value.ownBlock] at hk; subst hk; exact ⟨cur, hg⟩

/-- a slice over a block that is known whole -/
theorem rd_blk {w : World} {k t n : Nat} {cs : List Value} {fr : Nat × Nat} (h : w.heap[k]? = some (.cells cs.toArray t fr)) (hn : n ≤ maxLen) : Rd w (.slice (some ⟨k, 0, none⟩) n n) n cs :=
  .inr ⟨_, n, rfl, Nat.le_refl _, hn, fun i c hc => by rw [add_mid, Nat.zero_add]; exact blk_cell h (by simpa using hc)⟩

/-- rows of two element types lie in two blocks -/
theorem own_ne {w : World} {B e sz n k T : Nat} {v : Value} {xs : List Value} {cs : Array Value} (h : w.ownsRow B e sz v n xs) (hk : w.heap[k]? = some (.cells cs T (0, 0))) (hT : T ≠ e) : v.ownBlock ≠ some k := by
  intro e1
  obtain ⟨cur, h1⟩ := own_type h e1
  rw [hk] at h1
  simp only [Option.some.injEq, Obj.cells.injEq] at h1
  exact hT h1.2.1

theorem own_ne2 {w : World} {B e sz n B' e' sz' n' : Nat} {v v' : Value} {xs xs' : List Value} (h : w.ownsRow B e sz v n xs) (h' : w.ownsRow B' e' sz' v' n' xs') (hT : e ≠ e') (k : Nat) (hk : v.ownBlock = some k) : v'.ownBlock ≠ some k := by
  obtain ⟨cur, h1⟩ := own_type h hk
  exact own_ne h' h1 hT

theorem own_grown {w w' : World} {B e sz n : Nat} {v : Value} {xs : List Value} {row : Option Nat} (h : w.ownsRow B e sz v n xs) (hg : w.grownBy w' row) (hne : ∀ k, v.ownBlock = some k → row ≠ some k) : w'.ownsRow B e sz v n xs :=
  ownsRow_chg h fun k hk hl => hg.block k hl fun e => hne k hk e.symm

theorem own_set {w : World} {B e sz n : Nat} {v : Value} {xs : List Value} (h : w.ownsRow B e sz v n xs) {p : Nat} (hne : v.ownBlock ≠ some p) (i : Nat) (u : Value) : (w.setCell ⟨p, i, none⟩ u).ownsRow B e sz v n xs :=
  ownsRow_chg h fun k hk _ => Below.heap_setCell _ _ _ _ fun e => hne (hk.trans (congrArg some e))

theorem rd_set {w : World} {n : Nat} {v : Value} {xs : List Value} (h : Rd w v n xs) {p : Nat} (hne : v.ownBlock ≠ some p) (i : Nat) (u : Value) : Rd (w.setCell ⟨p, i, none⟩ u) v n xs :=
  h.chg fun k hk _ => Below.heap_setCell _ _ _ _ fun e => hne (hk.trans (congrArg some e))

theorem ownBlock_slice (a : Option Addr) (n c : Nat) : (Value.slice a n c).ownBlock = a.map (·.block) := by cases a <;> rfl

/-- copy between rows of elements of several cells -/
theorem run_copy_rowk {P : Program} (w : World) (dT sT ty elem : TypeId) (sz g o dLen dCap : Nat) (a : Addr) (sLen sCap : Nat) (cur : Array Value) (t : TypeId) (cs : List Value)
    (hu : P.underlying dT = some (.slice elem)) (hs : (P.info? elem).map (·.size) = some sz)
    (hg : w.heap[g]? = some (.cells cur t (0, 0))) (hn : cs.length = Nat.min sLen dLen * sz)
    (hsrc : ∀ j v, cs[j]? = some v → w.cell? (a.add j) = some v) (hfit : o + cs.length ≤ cur.size) (h1 : ∀ v ∈ cs, v.oneCell' = true) :
    (Builtin.copy_ #[dT, sT] ty #[.slice (some ⟨g, o, none⟩) dLen dCap, .slice (some a) sLen sCap]).run P w =
      .ok (goInt (Nat.min sLen dLen)) (w.setRow g (splice cur.toList o cs).toArray) := by
  have hl := run_loadCells_list (P := P) w a cs hsrc
  have hst := run_storeCells_at P g o t cs 0 cur w hg (by simpa using hfit) h1
  simp only [Nat.add_zero, List.append_assoc] at hst
  cases hq : P.info? elem with
  | none => simp [hq] at hs
  | some i =>
    have hi : i.size = sz := by simpa [hq] using hs
    simp [Builtin.copy_, run_underlying hu, Builtin.lenOf, Builtin.firstCells, sizeOf, typeInfo, hq, hi, ← hn, hl, hst, splice]

theorem run_copy_nonek {P : Program} (w : World) (dT sT ty elem : TypeId) (sz : Nat) (dp sp : Option Addr) (dLen dCap sLen sCap : Nat)
    (hu : P.underlying dT = some (.slice elem)) (hs : (P.info? elem).map (·.size) = some sz) (hn : Nat.min sLen dLen = 0) :
    (Builtin.copy_ #[dT, sT] ty #[.slice dp dLen dCap, .slice sp sLen sCap]).run P w = .ok (goInt 0) w := by
  cases hq : P.info? elem with
  | none => simp [hq] at hs
  | some i =>
    have hi : i.size = sz := by simpa [hq] using hs
    cases dp <;> cases sp <;> simp [Builtin.copy_, run_underlying hu, Builtin.lenOf, Builtin.firstCells, sizeOf, typeInfo, hq, hi, hn, loadCells, loadCellsFrom, storeCells]

theorem wp_copy_k {P : Program} {o : Oper} {a : Act} {w : World} {K : Act → World → Prop} {Q : Exit → Act → World → Prop} (d s : Operand) (dT sT : TypeId)
    (ho : o.op = .call { callee := .builtin .copy, args := #[d, s], argTypes := #[dT, sT] }) (elem sz : TypeId) (hu : P.underlying dT = some (.slice elem)) (hsz : (P.info? elem).map (·.size) = some sz)
    (dp sp : Option Addr) (dLen dCap sLen sCap : Nat) (hd : a.eval d = .slice dp dLen dCap) (hs : a.eval s = .slice sp sLen sCap)
    (g off : Nat) (cur : List Value) (t : TypeId) (hg : w.heap[g]? = some (.cells cur.toArray t (0, 0))) (cs : List Value) (hn : cs.length = Nat.min sLen dLen * sz)
    (hpos : 0 < Nat.min sLen dLen → dp = some ⟨g, off, none⟩ ∧ ∃ ad, sp = some ad ∧ ∀ j v, cs[j]? = some v → w.cell? (ad.add j) = some v)
    (hfit : off + cs.length ≤ cur.length) (h1 : ∀ v ∈ cs, v.oneCell' = true)
    (h : ∀ w', Hid (w'.heap[g]? = some (.cells (splice cur off cs).toArray t (0, 0))) → Chg (fun k => k = g) w w' → K (a.put o.dst (goInt (Nat.min sLen dLen))) w') :
    Oper.wp P o a w K Q := by
  unfold Oper.wp execOp
  by_cases h0 : Nat.min sLen dLen = 0
  · have hrun := run_copy_nonek (P := P) w dT sT o.type elem sz dp sp dLen dCap sLen sCap hu hsz h0
    simp only [ho, resolve, invoke, builtin, Sem.run_bind, Sem.run_pure, Result.andThen_ok, List.map_toArray, List.map_cons, List.map_nil, hd, hs, hrun]
    have hc : cs = [] := List.eq_nil_of_length_eq_zero (by rw [hn, h0, Nat.zero_mul])
    subst hc
    have := h w (show _ = _ by simpa [splice] using hg) (Chg.refl _ _)
    rw [h0] at this
    exact this
  · obtain ⟨rfl, ad, rfl, hsrc⟩ := hpos (by omega)
    have hrun := run_copy_rowk (P := P) w dT sT o.type elem sz g off dLen dCap ad sLen sCap cur.toArray t cs hu hsz hg hn hsrc (by simpa using hfit) h1
    simp only [ho, resolve, invoke, builtin, Sem.run_bind, Sem.run_pure, Result.andThen_ok, List.map_toArray, List.map_cons, List.map_nil, hd, hs, hrun]
    exact h _ (show _ = _ by simpa using setRow_heap w g _ _ t _ hg) ⟨rfl, rfl, rfl, by simp [World.setRow], fun k _ hk => setRow_other w g k _ hk⟩

theorem step_copy_k {P : Program} {ops : Array Oper} {o : Oper} {a : Act} {w : World} {K : Act → World → Prop} {Q : Exit → Act → World → Prop} {E : Prop} (hgd : o.guard = none) (d s : Operand) (dT sT : TypeId)
    (ho : o.op = .call { callee := .builtin .copy, args := #[d, s], argTypes := #[dT, sT] }) (elem sz : TypeId) (hu : P.underlying dT = some (.slice elem)) (hsz : (P.info? elem).map (·.size) = some sz)
    (dp sp : Option Addr) (dLen dCap sLen sCap : Nat) (hd : a.eval d = .slice dp dLen dCap) (hs : a.eval s = .slice sp sLen sCap)
    (g off : Nat) (cur : List Value) (t : TypeId) (hg : w.heap[g]? = some (.cells cur.toArray t (0, 0))) (cs : List Value) (hn : cs.length = Nat.min sLen dLen * sz)
    (hpos : 0 < Nat.min sLen dLen → dp = some ⟨g, off, none⟩ ∧ ∃ ad, sp = some ad ∧ ∀ j v, cs[j]? = some v → w.cell? (ad.add j) = some v)
    (hfit : off + cs.length ≤ cur.length) (h1 : ∀ v ∈ cs, v.oneCell' = true)
    (h : ∀ w', Hid (w'.heap[g]? = some (.cells (splice cur off cs).toArray t (0, 0))) → Chg (fun k => k = g) w w' → K (a.put o.dst (goInt (Nat.min sLen dLen))) w') :
    if Region.wanted o (yielded ops a.tmps) = true then Oper.wp P o a w K Q else E := by
  have hw : Region.wanted o (yielded ops a.tmps) = true := by simp [Region.wanted, hgd]
  rw [if_pos hw]
  exact wp_copy_k d s dT sT ho elem sz hu hsz dp sp dLen dCap sLen sCap hd hs g off cur t hg cs hn hpos hfit h1 h

theorem Rd.at {w : World} {b o n m c : Nat} {cs : List Value} (h : Rd w (.slice (some ⟨b, o, none⟩) n c) m cs) : ∀ i v, cs[i]? = some v → w.cell? ⟨b, o + i, none⟩ = some v := by
  rcases h with ⟨hv, _⟩ | ⟨ad, cap, hv, _, _, h3⟩
  · cases hv
  · simp only [Value.slice.injEq, Option.some.injEq] at hv
    obtain ⟨rfl, _⟩ := hv
    intro i v hi
    rw [← add_mid]; exact h3 i v hi

theorem chg_set2 (w : World) (k i j : Nat) (u v : Value) : Chg (fun b => b = k) w ((w.setCell ⟨k, i, none⟩ u).setCell ⟨k, j, none⟩ v) :=
  ((Chg.refl (fun b => b = k) w).setCell ⟨k, i, none⟩ u (.inl rfl)).setCell ⟨k, j, none⟩ v (.inl rfl)
theorem below_set2 {B k : Nat} {a b : World} (h : Below B a b) (hB : B ≤ k) (i j : Nat) (u v : Value) : Below B a ((b.setCell ⟨k, i, none⟩ u).setCell ⟨k, j, none⟩ v) :=
  (h.setCell (p := ⟨k, i, none⟩) hB u).setCell (p := ⟨k, j, none⟩) hB v

end Go.Proofs.YtbjibkjenleloaaGreatDoor

end

section
namespace Go.Proofs.YtbjibkjenleloaaGreatDoor
set_option linter.unusedVariables false
set_option linter.unusedSimpArgs false
open Go.RowKit

/-- w' is w, some answers drawn -/
def Dr (w w' : World) : Prop := ∃ q, w' = w.drewN q
theorem Dr.refl (w : World) : Dr w w := ⟨0, rfl⟩
theorem Dr.drewN {w w' : World} (h : Dr w w') (n : Nat) : Dr w (w'.drewN n) := by obtain ⟨q, rfl⟩ := h; exact ⟨_, World.drewN_drewN ..⟩
theorem Dr.drew {w w' : World} (h : Dr w w') : Dr w w'.drew := h.drewN 1
theorem Dr.trans {a b c : World} (h : Dr a b) (k : Dr b c) : Dr a c := by obtain ⟨q, rfl⟩ := k; exact h.drewN q
theorem Dr.cell {w w' : World} (h : Dr w w') {a : Addr} {v : Value} (hc : w.cell? a = some v) : w'.cell? a = some v := by obtain ⟨q, rfl⟩ := h; exact hc
theorem Dr.rd {w w' : World} (h : Dr w w') {v : Value} {n : Nat} {cs : List Value} (hc : Rd w v n cs) : Rd w' v n cs := by obtain ⟨q, rfl⟩ := h; exact hc
theorem Dr.heap {w w' : World} (h : Dr w w') : w'.heap = w.heap := by obtain ⟨q, rfl⟩ := h; rfl
theorem Dr.below {w w' : World} (h : Dr w w') (B : Nat) : Below B w w' := by obtain ⟨q, rfl⟩ := h; exact below_drewN (Below.refl _ _) q

theorem cellA {w : World} {a : Addr} {v : Value} (h : w.cell? a = some v) (o : Obj) : (w.alloc o).cell? a = some v := by
  rw [World.cell?_of_block (w := w) (Below.heap_alloc _ _ _ (World.block_lt_of_cell? w a h))]; exact h
theorem cellS {w : World} {a : Addr} {v : Value} (h : w.cell? a = some v) {p : Nat} (hne : a.block ≠ p) (i : Nat) (u : Value) : (w.setCell ⟨p, i, none⟩ u).cell? a = some v := by
  rw [World.cell?_of_block (w := w) (Below.heap_setCell _ _ _ _ hne)]; exact h

theorem blk8 {w : World} {k t : Nat} {x0 x1 x2 x3 x4 x5 x6 x7 : Value} (h : w.heap[k]? = some (.cells #[x0, x1, x2, x3, x4, x5, x6, x7] t (0, 0))) :
    w.cell? ⟨k, 0, none⟩ = some x0 ∧ w.cell? ⟨k, 1, none⟩ = some x1 ∧ w.cell? ⟨k, 2, none⟩ = some x2 ∧ w.cell? ⟨k, 3, none⟩ = some x3 ∧ w.cell? ⟨k, 4, none⟩ = some x4 ∧ w.cell? ⟨k, 5, none⟩ = some x5 ∧ w.cell? ⟨k, 6, none⟩ = some x6 ∧ w.cell? ⟨k, 7, none⟩ = some x7 ∧ w.frozen? ⟨k, 0, none⟩ = false ∧ w.frozen? ⟨k, 1, none⟩ = false ∧ w.frozen? ⟨k, 2, none⟩ = false ∧ w.frozen? ⟨k, 3, none⟩ = false ∧ w.frozen? ⟨k, 4, none⟩ = false ∧ w.frozen? ⟨k, 5, none⟩ = false ∧ w.frozen? ⟨k, 6, none⟩ = false ∧ w.frozen? ⟨k, 7, none⟩ = false := by
  simp [World.cell?, World.frozen?, h]

end Go.Proofs.YtbjibkjenleloaaGreatDoor

end
