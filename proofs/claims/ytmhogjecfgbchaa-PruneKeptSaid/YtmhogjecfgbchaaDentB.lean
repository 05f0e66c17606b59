import Derived.Test.YtmhogjecfgbchaaDentA
namespace Go.Proofs.Ytmhogjecfgbchaa
set_option linter.unusedVariables false
set_option linter.unusedSimpArgs false
open Go.RowKit
open Go.ChangeMaps (setBlock)
attribute [local go_sem ↓] Go.wp_at_zero Go.wp_at_succ

/-- the cache's state, in plain words -/
structure Ca where
  p : Nat
  me : Nat
  mw : Nat
  K : List Ke
  W : List Wh
  ck : Int
  c1 : Nat
  c2 : Nat

/-- a cache in memory; all of it lies from B on -/
structure CacheAt (w : World) (B : Nat) (s : Ca) : Prop where
  hB : B ≤ s.p
  hBe : B ≤ s.me
  hBw : B ≤ s.mw
  hp : w.heap[s.p]? = some (.cells #[.map (some s.me), .map (some s.mw), .int .i64 s.ck] 76 (0, 0))
  he : w.heap[s.me]? = some (.map (kes s.K) s.c1)
  hw : w.heap[s.mw]? = some (.map (wes s.W) s.c2)
  hne : s.me ≠ s.mw
  b1 : ∀ x ∈ s.K, x.born < s.c1
  n1 : (s.K.map Ke.born).Nodup
  k1 : (s.K.map fun x => x.e.key).Nodup
  b2 : ∀ x ∈ s.W, x.born < s.c2
  n2 : (s.W.map Wh.born).Nodup
  k2 : (s.W.map Wh.dir).Nodup

/-- the blocks that a cache writes to -/
def CaF (s : Ca) (k : Nat) : Prop := k = s.p ∨ k = s.me ∨ k = s.mw

theorem CacheAt.chg {w w' : World} {B : Nat} {s : Ca} (h : CacheAt w B s) {F : Nat → Prop} (hc : Chg F w w') (hF : ∀ k, CaF s k → ¬ F k) : CacheAt w' B s :=
  ⟨h.hB, h.hBe, h.hBw, heap_chg hc h.hp (hF _ (.inl rfl)), heap_chg hc h.he (hF _ (.inr (.inl rfl))), heap_chg hc h.hw (hF _ (.inr (.inr rfl))), h.hne, h.b1, h.n1, h.k1, h.b2, h.n2, h.k2⟩
theorem CacheAt.below {w w' : World} {B : Nat} {s : Ca} (h : CacheAt w B s) (hb : Below w.heap.size w w') : CacheAt w' B s :=
  h.chg (Chg.below hb) fun _ _ h => h
theorem CacheAt.low {w : World} {B : Nat} {s : Ca} (h : CacheAt w B s) : ∀ i, i < B → ¬ CaF s i := by
  have := h.hB; have := h.hBe; have := h.hBw
  rintro i hi (rfl | rfl | rfl) <;> omega
theorem CacheAt.old {w : World} {B : Nat} {s : Ca} (h : CacheAt w B s) : ∀ i, w.heap.size ≤ i → ¬ CaF s i := by
  have := blk_lt h.hp; have := blk_lt h.he; have := blk_lt h.hw
  rintro i hi (rfl | rfl | rfl) <;> omega
theorem CacheAt.pe {w : World} {B : Nat} {s : Ca} (h : CacheAt w B s) : s.p ≠ s.me := by
  intro e; have h1 := h.hp; rw [e, h.he] at h1; cases h1
theorem CacheAt.pw {w : World} {B : Nat} {s : Ca} (h : CacheAt w B s) : s.p ≠ s.mw := by
  intro e; have h1 := h.hp; rw [e, h.hw] at h1; cases h1

set_option maxHeartbeats 400000 in
theorem dent_new (w : World) : Calls Try.prog 19 #[] w fun e w' => e = .returned (.pointer (some ⟨w.heap.size + 2, 0, none⟩)) ∧ CacheAt w' w.heap.size ⟨w.heap.size + 2, w.heap.size, w.heap.size + 1, [], [], 0, 0, 0⟩ ∧ Below w.heap.size w w' := by
  have hmm := @run_makeMap Try.prog
  go_enter Try.func19, Try.ntmps19
  go_wp2
  go_ret
  refine ⟨rfl, ⟨by simp, by simp, by simp, ?_, ?_, ?_, by simp, by simp, by simp, by simp, by simp, by simp, by simp⟩, bl3 w _ _ _⟩
  · have h := heap_new ((w.alloc (.map #[] 0)).alloc (.map #[] 0)) (.cells #[.map (some w.heap.size), .map (some (w.heap.size + 1)), .int .i64 0] 76)
    simp only [World.size_alloc] at h; exact h
  · exact heap_old (heap_old (heap_new w _) _) _
  · have h := heap_old (heap_new (w.alloc (.map #[] 0)) (.map #[] 0)) (.cells #[.map (some w.heap.size), .map (some (w.heap.size + 1)), .int .i64 0] 76)
    simp only [World.size_alloc] at h; exact h

set_option maxHeartbeats 400000 in
theorem dent_tick (w : World) (B : Nat) (s : Ca) (h : CacheAt w B s) (h1 : 0 ≤ s.ck) (h2 : s.ck < 9223372036854775807) :
    Calls Try.prog 50 #[.pointer (some ⟨s.p, 0, none⟩)] w fun e w' => e = .returned (.int .i64 (s.ck + 1)) ∧ CacheAt w' B { s with ck := s.ck + 1 } ∧ Chg (fun k => k = s.p) w w' := by
  have b0 := blk3 h.hp
  have HH := hid h
  clear h
  go_enter Try.func50, Try.ntmps50
  go_wp2
  go_ret
  have hc : Chg (fun k => k = s.p) w (w.setCell ⟨s.p, 2, none⟩ (.int .i64 (s.ck + 1))) := (Chg.refl (fun k => k = s.p) w).setCell ⟨s.p, 2, none⟩ _ (.inl rfl)
  have hh := HH.out
  exact ⟨rfl, ⟨hh.hB, hh.hBe, hh.hBw, heap_set hh.hp 2 _, heap_chg hc hh.he (Ne.symm hh.pe), heap_chg hc hh.hw (Ne.symm hh.pw), hh.hne, hh.b1, hh.n1, hh.k1, hh.b2, hh.n2, hh.k2⟩, hc⟩

set_option maxHeartbeats 400000 in
theorem dent_len (w : World) (B : Nat) (s : Ca) (h : CacheAt w B s) :
    Calls Try.prog 34 #[.pointer (some ⟨s.p, 0, none⟩)] w fun e w' => e = .returned (.int .i64 s.K.length) ∧ w = w' := by
  have b0 := blk3 h.hp
  have hlen : ∀ ty : TypeId, (Builtin.len_ #[73] ty #[.map (some s.me)]).run Try.prog w = .ok (.int .i64 s.K.length) w := fun ty => by
    simp [Builtin.len_, getObj, Sem.run, h.he, kes, goInt]
  clear h
  go_enter Try.func34, Try.ntmps34
  go_wp2
  go_ret
  exact ⟨rfl, rfl⟩

def inW (d : Int) (W : List Wh) : Bool := decide (d ∈ W.map Wh.dir)

set_option maxHeartbeats 400000 in
theorem dent_whole (w : World) (B : Nat) (s : Ca) (d : Int) (h : CacheAt w B s) :
    Calls Try.prog 29 #[.pointer (some ⟨s.p, 0, none⟩), .int .i64 d] w fun e w' => e = .returned (.bool (inW d s.W)) ∧ w = w' := by
  have b0 := blk3 h.hp
  have hl := run_lookw (d := d) h.hw
  rw [show decide (d ∈ s.W.map Wh.dir) = inW d s.W from rfl] at hl
  clear h
  go_enter Try.func29, Try.ntmps29
  go_wp2
  go_ret
  exact ⟨rfl, rfl⟩

end Go.Proofs.Ytmhogjecfgbchaa
