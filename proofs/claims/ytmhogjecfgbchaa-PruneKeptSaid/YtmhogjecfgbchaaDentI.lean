import Derived.Test.YtmhogjecfgbchaaDentH
namespace Go.Proofs.Ytmhogjecfgbchaa
set_option linter.unusedVariables false
set_option linter.unusedSimpArgs false
open Go.RowKit
open Go.ChangeMaps (setBlock)

/-! ### the cache in plain words: its entries in the order of use, and which directories are whole -/

def isK (k : Ky) (e : En) : Bool := decide (k = e.key)
def findL (k : Ky) (L : List En) : Option En := L.find? (isK k)
def dropL (k : Ky) (L : List En) : List En := L.filter fun e => !isK k e
def zeroE : En := ⟨⟨0, ByteArray.empty⟩, false, ⟨0, 0, 0, ByteArray.empty⟩⟩
def getE (k : Ky) (L : List En) : En := (findL k L).getD zeroE
def putL (e : En) (L : List En) : List En := if e.key.name = ByteArray.empty then L else dropL e.key L ++ [e]
def useL (k : Ky) (L : List En) : List En := match findL k L with | some e => dropL k L ++ [e] | none => L
def hitE (k : Ky) (e : En) : Bool := if k.name = ByteArray.empty then e.key.dir == k.dir else isK k e
def cutE (ks : List Ky) (L : List En) : List En := L.filter fun e => !ks.any fun k => hitE k e
def cutWh (ks : List Ky) (wh : Int → Bool) (d : Int) : Bool := wh d && !ks.any fun k => k.dir == d
def evictWh (k : Ky) (L : List En) (wh : Int → Bool) (d : Int) : Bool := wh d && !((findL k L).any (fun e => !e.neg) && k.dir == d)

/-- L is what K holds, in the order of use -/
structure Ordd (K : List Ke) (ck : Int) (L : List En) : Prop where
  ex : ∃ M : List Ke, M.Perm K ∧ M.Pairwise (fun x y => x.used < y.used) ∧ (∀ x ∈ M, 1 ≤ x.used ∧ x.used ≤ ck) ∧ L = M.map Ke.e

theorem Ordd.nil (ck : Int) : Ordd [] ck [] := ⟨[], List.Perm.refl _, List.Pairwise.nil, by simp, rfl⟩
theorem Ordd.le {K : List Ke} {ck ck' : Int} {L : List En} (h : Ordd K ck L) (hc : ck ≤ ck') : Ordd K ck' L := by
  obtain ⟨M, h1, h2, h3, h4⟩ := h.ex
  exact ⟨M, h1, h2, fun x hx => ⟨(h3 x hx).1, Int.le_trans (h3 x hx).2 hc⟩, h4⟩
theorem Ordd.snoc {K : List Ke} {ck : Int} {L : List En} {y : Ke} (h : Ordd K ck L) (h0 : 0 ≤ ck) (hy : y.used = ck + 1) : Ordd (K ++ [y]) (ck + 1) (L ++ [y.e]) := by
  obtain ⟨M, h1, h2, h3, rfl⟩ := h.ex
  refine ⟨M ++ [y], h1.append_right _, ?_, ?_, by simp⟩
  · rw [List.pairwise_append]
    exact ⟨h2, by simp, fun a ha b hb => by simp at hb; subst hb; have := h3 a ha; omega⟩
  · intro x hx
    rcases List.mem_append.1 hx with hx | hx
    · have := h3 x hx; exact ⟨this.1, by omega⟩
    · simp at hx; subst hx; exact ⟨by omega, by omega⟩
theorem Ordd.filt {K : List Ke} {ck : Int} {L : List En} (h : Ordd K ck L) (p : En → Bool) : Ordd (K.filter fun x => p x.e) ck (L.filter p) := by
  obtain ⟨M, h1, h2, h3, rfl⟩ := h.ex
  refine ⟨M.filter fun x => p x.e, h1.filter _, h2.filter _, fun x hx => h3 x (List.mem_filter.1 hx).1, ?_⟩
  rw [List.filter_map]; rfl
theorem Ordd.perm {K K' : List Ke} {ck : Int} {L : List En} (h : Ordd K ck L) (hp : K.Perm K') : Ordd K' ck L := by
  obtain ⟨M, h1, h2, h3, h4⟩ := h.ex
  exact ⟨M, h1.trans hp, h2, h3, h4⟩
theorem Ordd.permL {K : List Ke} {ck : Int} {L : List En} (h : Ordd K ck L) : L.Perm (K.map Ke.e) := by
  obtain ⟨M, h1, h2, h3, rfl⟩ := h.ex
  exact h1.map _
theorem len_used {M : List Ke} {lo hi : Int} (h2 : M.Pairwise fun x y => x.used < y.used) (h3 : ∀ x ∈ M, lo ≤ x.used ∧ x.used ≤ hi) (hh : lo ≤ hi + 1) : (M.length : Int) ≤ hi - lo + 1 := by
  induction M generalizing lo with
  | nil => simp; omega
  | cons x M ih =>
    rw [List.pairwise_cons] at h2
    have hx := h3 x (by simp)
    have := ih (lo := x.used + 1) h2.2 (fun y hy => ⟨by have := h2.1 y hy; omega, (h3 y (by simp [hy])).2⟩) (by omega)
    simp; omega
theorem Ordd.len {K : List Ke} {ck : Int} {L : List En} (h : Ordd K ck L) (h0 : 0 ≤ ck) : (L.length : Int) ≤ ck := by
  obtain ⟨M, h1, h2, h3, rfl⟩ := h.ex
  have := len_used h2 h3 (by omega)
  rw [List.length_map]; omega
theorem Ordd.drop {K : List Ke} {ck : Int} {L : List En} (h : Ordd K ck L) (k : Ky) (hn : (K.map fun x => x.e.key).Nodup) : Ordd (delK k K) ck (dropL k L) := by
  rw [delK_filter k hn]; exact h.filt fun e => !isK k e
theorem set_perm {α : Type} (K : List α) (j : Nat) (y : α) (hj : j < K.length) : (K.set j y).Perm (K.eraseIdx j ++ [y]) := by
  induction K generalizing j with
  | nil => simp at hj
  | cons x K ih =>
    cases j with
    | zero => simp only [List.set_cons_zero, List.eraseIdx_cons_zero]; exact (List.perm_append_singleton y K).symm
    | succ j => simp only [List.set_cons_succ, List.eraseIdx_cons_succ, List.cons_append]; exact (ih j (by simpa using hj)).cons x

theorem keysNodup {K : List Ke} {ck : Int} {L : List En} (h : Ordd K ck L) (hn : (K.map fun x => x.e.key).Nodup) : (L.map En.key).Nodup := by
  have := (h.permL.map En.key).nodup_iff.2 (by rw [List.map_map]; exact hn)
  exact this

theorem find_none {K : List Ke} {ck : Int} {L : List En} (h : Ordd K ck L) {k : Ky} (hk : atK k K = none) : findL k L = none := by
  rw [findL, List.find?_eq_none]
  intro e he
  obtain ⟨x, hx, rfl⟩ := List.mem_map.1 (h.permL.mem_iff.1 he)
  have := List.findIdx?_eq_none_iff.1 hk x hx
  simpa [isK] using this
theorem find_some {K : List Ke} {ck : Int} {L : List En} (h : Ordd K ck L) (hn : (K.map fun x => x.e.key).Nodup) {k : Ky} {j : Nat} {x : Ke} (hk : atK k K = some j) (hx : K[j]? = some x) : findL k L = some x.e := by
  have hkey := atK_key hk hx
  have hmem : x.e ∈ L := h.permL.mem_iff.2 (List.mem_map.2 ⟨x, List.mem_of_getElem? hx, rfl⟩)
  cases hf : findL k L with
  | none => rw [findL, List.find?_eq_none] at hf; have := hf _ hmem; simp [isK, hkey] at this
  | some e =>
    have h1 := List.mem_of_find?_eq_some hf
    have h2 := List.find?_some hf
    simp only [isK, decide_eq_true_eq] at h2
    rw [map_inj (keysNodup h hn) h1 hmem (by rw [← h2, hkey])]
theorem drop_none {k : Ky} {L : List En} (h : findL k L = none) : dropL k L = L := by
  rw [findL, List.find?_eq_none] at h
  rw [dropL, List.filter_eq_self]
  intro e he; have := h e he; simpa using this

theorem inW_iff {d : Int} {W : List Wh} : inW d W = true ↔ d ∈ W.map Wh.dir := by unfold inW; simp
theorem delW_in {k d : Int} {W : List Wh} (hn : (W.map Wh.dir).Nodup) : inW d (delW k W) = (inW d W && !(k == d)) := by
  have h : delW k W = W.filter fun x => !decide (k = x.dir) := by
    unfold delW atW
    clear d
    induction W with
    | nil => simp
    | cons x W ih =>
      simp only [List.map_cons, List.nodup_cons] at hn
      have ih := ih hn.2
      rw [List.findIdx?_cons]
      by_cases h : k = x.dir
      · have hno : ∀ y ∈ W, (!decide (k = y.dir)) = true := fun y hy => by
          have : k ≠ y.dir := fun e => hn.1 (List.mem_map.2 ⟨y, hy, by rw [← e, h]⟩)
          simp [this]
        simp [h]
        rw [← h]; exact (List.filter_eq_self.2 hno).symm
      · simp only [h, decide_false, Bool.false_eq_true, if_false]
        rw [List.filter_cons_of_pos (by simp [h])]
        cases hf : List.findIdx? (fun x => decide (k = x.dir)) W with
        | none => rw [hf] at ih; simp at ih ⊢; exact ih
        | some j => rw [hf] at ih; simp at ih ⊢; exact ih
  rw [h, Bool.eq_iff_iff, Bool.and_eq_true, inW_iff, inW_iff]
  simp only [List.mem_map, List.mem_filter]
  constructor
  · rintro ⟨x, ⟨hx, h2⟩, rfl⟩
    exact ⟨⟨x, hx, rfl⟩, by simpa using h2⟩
  · rintro ⟨⟨x, hx, rfl⟩, h2⟩
    exact ⟨x, ⟨hx, by simpa using h2⟩, rfl⟩

/-- a cache at p, in plain words; n: a bound of its clock -/
structure CAt (w : World) (B p n : Nat) (L : List En) (wh : Int → Bool) : Prop where
  ex : ∃ s : Ca, CacheAt w B s ∧ s.p = p ∧ s.me ≤ p ∧ s.mw ≤ p ∧ 0 ≤ s.ck ∧ s.ck ≤ (n : Int) ∧ Ordd s.K s.ck L ∧ ∀ d, inW d s.W = wh d

/-- the blocks of a cache -/
def CF (B p : Nat) (k : Nat) : Prop := B ≤ k ∧ k ≤ p

theorem CF.of {w : World} {B : Nat} {s : Ca} (h : CacheAt w B s) (h1 : s.me ≤ s.p) (h2 : s.mw ≤ s.p) : ∀ k, CaF s k → CF B s.p k := by
  have a := h.hB; have b := h.hBe; have c := h.hBw
  rintro k (rfl | rfl | rfl) <;> exact ⟨by omega, by omega⟩
theorem CAt.chg {w w' : World} {B p n : Nat} {L : List En} {wh : Int → Bool} (h : CAt w B p n L wh) {F : Nat → Prop} (hc : Chg F w w') (hF : ∀ k, CF B p k → ¬ F k) : CAt w' B p n L wh := by
  obtain ⟨s, h0, rfl, h1, h2, h3⟩ := h.ex
  exact ⟨s, h0.chg hc fun k hk => hF k (CF.of h0 h1 h2 k hk), rfl, h1, h2, h3⟩
theorem CAt.below {w w' : World} {B p n : Nat} {L : List En} {wh : Int → Bool} (h : CAt w B p n L wh) (hb : Below w.heap.size w w') : CAt w' B p n L wh := by
  obtain ⟨s, h0, h1⟩ := h.ex
  exact ⟨s, h0.below hb, h1⟩
theorem CAt.lt {w : World} {B p n : Nat} {L : List En} {wh : Int → Bool} (h : CAt w B p n L wh) : p < w.heap.size := by
  obtain ⟨s, h0, rfl, _⟩ := h.ex
  exact blk_lt h0.hp
theorem CAt.ge {w : World} {B p n : Nat} {L : List En} {wh : Int → Bool} (h : CAt w B p n L wh) : B ≤ p := by
  obtain ⟨s, h0, rfl, _⟩ := h.ex
  exact h0.hB
theorem CAt.keys {w : World} {B p n : Nat} {L : List En} {wh : Int → Bool} (h : CAt w B p n L wh) : (L.map En.key).Nodup := by
  obtain ⟨s, h0, rfl, h1, h2, h3, h4, h5, _⟩ := h.ex
  exact keysNodup h5 h0.k1
theorem CAt.len {w : World} {B p n : Nat} {L : List En} {wh : Int → Bool} (h : CAt w B p n L wh) : L.length ≤ n := by
  obtain ⟨s, h0, rfl, h1, h2, h3, h4, h5, _⟩ := h.ex
  have := h5.len h3; omega
theorem CAt.le {w : World} {B p n m : Nat} {L : List En} {wh : Int → Bool} (h : CAt w B p n L wh) (hm : n ≤ m) : CAt w B p m L wh := by
  obtain ⟨s, h0, h1, h2, h3, h4, h5, h6⟩ := h.ex
  exact ⟨s, h0, h1, h2, h3, h4, by omega, h6⟩

theorem c_new (w : World) : Calls Try.prog 19 #[] w fun e w' => e = .returned (.pointer (some ⟨w.heap.size + 2, 0, none⟩)) ∧ CAt w' w.heap.size (w.heap.size + 2) 0 [] (fun _ => false) ∧ Below w.heap.size w w' := by
  refine (dent_new w).mono ?_
  rintro e w' ⟨rfl, h, hb⟩
  exact ⟨rfl, ⟨_, h, rfl, by simp, by simp, Int.le_refl _, Int.le_refl _, Ordd.nil _, fun d => rfl⟩, hb⟩

theorem c_whole (w : World) (B p n : Nat) (L : List En) (wh : Int → Bool) (d : Int) (h : CAt w B p n L wh) :
    Calls Try.prog 29 #[.pointer (some ⟨p, 0, none⟩), .int .i64 d] w fun e w' => e = .returned (.bool (wh d)) ∧ w = w' := by
  obtain ⟨s, h0, rfl, h1, h2, h3, h4, h5, h6⟩ := h.ex
  have := dent_whole w B s d h0
  rw [h6 d] at this; exact this

theorem c_len (w : World) (B p n : Nat) (L : List En) (wh : Int → Bool) (h : CAt w B p n L wh) :
    Calls Try.prog 34 #[.pointer (some ⟨p, 0, none⟩)] w fun e w' => e = .returned (.int .i64 L.length) ∧ w = w' := by
  obtain ⟨s, h0, rfl, h1, h2, h3, h4, h5, h6⟩ := h.ex
  have := dent_len w B s h0
  rw [show s.K.length = L.length by have := h5.permL.length_eq; simpa using this.symm] at this; exact this

theorem c_put (w : World) (B p n : Nat) (L : List En) (wh : Int → Bool) (e : En) (h : CAt w B p n L wh) (hn : n < 4611686018427387904) :
    Calls Try.prog 21 #[.pointer (some ⟨p, 0, none⟩), .agg #[.int .i64 e.key.dir, .string e.key.name, .bool e.neg, .int .i64 e.node.id, .int .i64 e.node.kind, .int .i64 e.node.mode, .string e.node.target]] w fun r w' => r = .returned (.int .i64 (if e.key.name = ByteArray.empty then 1 else 0)) ∧ CAt w' B p (n + 1) (putL e L) wh ∧ Chg (CF B p) w w' := by
  obtain ⟨s, h0, rfl, h1, h2, h3, h4, h5, h6⟩ := h.ex
  by_cases hne : e.key.name = ByteArray.empty
  · refine (dent_put_arg w s.p e hne).mono ?_
    rintro r w' ⟨rfl, hb⟩
    exact ⟨by simp [hne], ⟨s, h0.below hb, rfl, h1, h2, h3, by omega, by simp [putL, hne, h5], h6⟩, Chg.mono (Chg.below hb) fun _ _ h => h.elim⟩
  · cases hk : atK e.key s.K with
    | none =>
      refine (dent_put_new w B s e hk h0 hne h3 (by omega)).mono ?_
      rintro r w' ⟨rfl, hc, hg⟩
      refine ⟨by simp [hne], ⟨_, hc, rfl, h1, h2, by simp; omega, by simp; omega, ?_, h6⟩, Chg.mono hg fun k _ hk => CF.of h0 h1 h2 k hk⟩
      have := h5.snoc (y := ⟨e, s.ck + 1, s.c1⟩) h3 rfl
      simp only [putL, hne, if_false]; rw [drop_none (find_none h5 hk)]; exact this
    | some j =>
      obtain ⟨x, hx, hkey⟩ := atK_at hk
      have hj : j < s.K.length := (List.getElem?_eq_some_iff.1 hx).1
      refine (dent_put_old w B s e j x hk hx h0 hne h3 (by omega)).mono ?_
      rintro r w' ⟨rfl, hc, hg⟩
      refine ⟨by simp [hne], ⟨_, hc, rfl, h1, h2, by simp; omega, by simp; omega, ?_, h6⟩, Chg.mono hg fun k _ hk => CF.of h0 h1 h2 k hk⟩
      have := ((h5.drop e.key h0.k1).snoc (y := ⟨e, s.ck + 1, x.born⟩) h3 rfl)
      simp only [putL, hne, if_false]
      refine this.perm ?_
      have h7 := (set_perm s.K j ⟨e, s.ck + 1, x.born⟩ hj).symm
      simpa [delK, hk] using h7

theorem c_use (w : World) (B p n : Nat) (L : List En) (wh : Int → Bool) (k : Ky) (h : CAt w B p n L wh) (hn : n < 4611686018427387904) :
    Calls Try.prog 22 #[.pointer (some ⟨p, 0, none⟩), .agg #[.int .i64 k.dir, .string k.name]] w fun r w' => r = .returned (.bool (findL k L).isSome) ∧ CAt w' B p (n + 1) (useL k L) wh ∧ Chg (CF B p) w w' := by
  obtain ⟨s, h0, rfl, h1, h2, h3, h4, h5, h6⟩ := h.ex
  cases hk : atK k s.K with
  | none =>
    have hf := find_none h5 hk
    refine (dent_use_no w B s k h0 hk).mono ?_
    rintro r w' ⟨rfl, hb⟩
    exact ⟨by simp [hf], ⟨s, h0.below hb, rfl, h1, h2, h3, by omega, by simp only [useL, hf]; exact h5, h6⟩, Chg.mono (Chg.below hb) fun _ _ h => h.elim⟩
  | some j =>
    obtain ⟨x, hx, rfl⟩ := atK_at hk
    have hj : j < s.K.length := (List.getElem?_eq_some_iff.1 hx).1
    have hf := find_some h5 h0.k1 hk hx
    refine (dent_use_yes w B s j x h0 hk hx h3 (by omega)).mono ?_
    rintro r w' ⟨rfl, hc, hg⟩
    refine ⟨by simp [hf], ⟨_, hc, rfl, h1, h2, by simp; omega, by simp; omega, ?_, h6⟩, Chg.mono hg fun k _ hk => CF.of h0 h1 h2 k hk⟩
    have := ((h5.drop x.e.key h0.k1).snoc (y := ⟨x.e, s.ck + 1, x.born⟩) h3 rfl)
    simp only [useL, hf]
    refine this.perm ?_
    have h7 := (set_perm s.K j ⟨x.e, s.ck + 1, x.born⟩ hj).symm
    simpa [delK, hk] using h7

theorem c_get (w : World) (B p n : Nat) (L : List En) (wh : Int → Bool) (k : Ky) (h : CAt w B p n L wh) :
    Calls Try.prog 26 #[.pointer (some ⟨p, 0, none⟩), .agg #[.int .i64 k.dir, .string k.name]] w fun r w' => r = .returned (.tuple #[(getE k L).v, .bool (findL k L).isSome]) ∧ Below w.heap.size w w' := by
  obtain ⟨s, h0, rfl, h1, h2, h3, h4, h5, h6⟩ := h.ex
  cases hk : atK k s.K with
  | none =>
    have hf := find_none h5 hk
    refine (dent_get_no w B s k h0 hk).mono ?_
    rintro r w' ⟨rfl, hb⟩
    exact ⟨by simp [hf, getE, zeroE, zeroEn, En.v], hb⟩
  | some j =>
    obtain ⟨x, hx, rfl⟩ := atK_at hk
    have hf := find_some h5 h0.k1 hk hx
    refine (dent_get_yes w B s _ j x h0 hk hx).mono ?_
    rintro r w' ⟨rfl, hb⟩
    exact ⟨by simp [hf, getE], hb⟩

theorem c_evict (w : World) (B p n : Nat) (L : List En) (wh : Int → Bool) (k : Ky) (h : CAt w B p n L wh) :
    Calls Try.prog 27 #[.pointer (some ⟨p, 0, none⟩), .agg #[.int .i64 k.dir, .string k.name]] w fun r w' => r = .returned (.bool (findL k L).isSome) ∧ CAt w' B p n (dropL k L) (evictWh k L wh) ∧ Chg (CF B p) w w' := by
  obtain ⟨s, h0, rfl, h1, h2, h3, h4, h5, h6⟩ := h.ex
  cases hk : atK k s.K with
  | none =>
    have hf := find_none h5 hk
    refine (dent_evict_no w B s k h0 hk).mono ?_
    rintro r w' ⟨rfl, hc, hg⟩
    exact ⟨by simp [hf], ⟨s, hc, rfl, h1, h2, h3, h4, by rw [drop_none hf]; exact h5, fun d => by simp [evictWh, hf, h6]⟩, Chg.mono hg fun k _ hk => CF.of h0 h1 h2 k hk⟩
  | some j =>
    obtain ⟨x, hx, rfl⟩ := atK_at hk
    have hf := find_some h5 h0.k1 hk hx
    cases hng : x.e.neg with
    | true =>
      refine (dent_evict_neg w B s _ j x h0 hk hx hng).mono ?_
      rintro r w' ⟨rfl, hc, hg⟩
      exact ⟨by simp [hf], ⟨_, hc, rfl, h1, h2, h3, h4, h5.drop _ h0.k1, fun d => by simp [evictWh, hf, h6, hng]⟩, Chg.mono hg fun k _ hk => CF.of h0 h1 h2 k hk⟩
    | false =>
      refine (dent_evict_pos w B s _ j x h0 hk hx hng).mono ?_
      rintro r w' ⟨rfl, hc, hg⟩
      exact ⟨by simp [hf], ⟨_, hc, rfl, h1, h2, h3, h4, h5.drop _ h0.k1, fun d => by
        show inW d (delW x.e.key.dir s.W) = _
        rw [delW_in h0.k2, h6]; simp [evictWh, hf, hng]⟩, Chg.mono hg fun k _ hk => CF.of h0 h1 h2 k hk⟩

theorem c_clear (w : World) (B p n : Nat) (L : List En) (wh : Int → Bool) (h : CAt w B p n L wh) :
    Calls Try.prog 25 #[.pointer (some ⟨p, 0, none⟩)] w fun r w' => r = .returned (.tuple #[]) ∧ CAt w' B p n [] (fun _ => false) ∧ Chg (CF B p) w w' := by
  obtain ⟨s, h0, rfl, h1, h2, h3, h4, h5, h6⟩ := h.ex
  refine (dent_clear w B s h0).mono ?_
  rintro r w' ⟨rfl, hc, hg⟩
  exact ⟨rfl, ⟨_, hc, rfl, h1, h2, h3, h4, Ordd.nil _, fun d => rfl⟩, Chg.mono hg fun k _ hk => CF.of h0 h1 h2 k hk⟩

theorem addW_form (d : Int) (s : Ca) : (addW d s).p = s.p ∧ (addW d s).me = s.me ∧ (addW d s).mw = s.mw ∧ (addW d s).K = s.K ∧ (addW d s).ck = s.ck ∧ ∀ d', inW d' (addW d s).W = (inW d' s.W || d == d') := by
  unfold addW
  cases hk : atW d s.W with
  | none =>
    refine ⟨rfl, rfl, rfl, rfl, rfl, fun d' => ?_⟩
    rw [Bool.eq_iff_iff, Bool.or_eq_true, inW_iff, inW_iff, List.map_append, List.mem_append, beq_iff_eq]
    simp only [List.map_cons, List.map_nil, List.mem_singleton]
    exact or_congr Iff.rfl ⟨fun h => h.symm, fun h => h.symm⟩
  | some j =>
    refine ⟨rfl, rfl, rfl, rfl, rfl, fun d' => ?_⟩
    obtain ⟨hjl, hj1, _⟩ := List.findIdx?_eq_some_iff_getElem.1 hk
    rw [Bool.eq_iff_iff, Bool.or_eq_true, inW_iff]
    constructor
    · exact .inl
    · rintro (h | h)
      · exact h
      · have h : d = d' := by simpa using h
        subst h
        exact List.mem_map.2 ⟨s.W[j], List.getElem_mem _, by simpa using (of_decide_eq_true hj1).symm⟩

theorem c_setwhole (w : World) (B p n : Nat) (L : List En) (wh : Int → Bool) (d : Int) (h : CAt w B p n L wh) :
    Calls Try.prog 28 #[.pointer (some ⟨p, 0, none⟩), .int .i64 d] w fun r w' => r = .returned (.tuple #[]) ∧ CAt w' B p n L (fun d' => wh d' || d == d') ∧ Chg (CF B p) w w' := by
  obtain ⟨s, h0, rfl, h1, h2, h3, h4, h5, h6⟩ := h.ex
  refine (dent_setwhole w B s d h0).mono ?_
  rintro r w' ⟨rfl, hc, hg⟩
  obtain ⟨f1, f2, f3, f4, f5, f6⟩ := addW_form d s
  exact ⟨rfl, ⟨_, hc, f1, by rw [f2]; exact h1, by rw [f3]; exact h2, by rw [f5]; exact h3, by rw [f5]; exact h4, by rw [f4, f5]; exact h5, fun d' => by rw [f6, h6]⟩, Chg.mono hg fun k _ hk => CF.of h0 h1 h2 k hk⟩

theorem cut1_ord {s : Ca} {L : List En} {k : Ky} (h : Ordd s.K s.ck L) (hn : (s.K.map fun x => x.e.key).Nodup) : Ordd (cut1 s k).K s.ck (L.filter fun e => !hitE k e) ∧ ((cut1 s k).K.map fun x => x.e.key).Nodup := by
  unfold cut1
  by_cases hk : k.name = ByteArray.empty
  · simp only [hk, if_true]
    refine ⟨?_, hn.sublist ((List.filter_sublist ..).map _)⟩
    have := h.filt fun e => !hitE k e
    simpa [hitE, hk] using this
  · simp only [hk, if_false]
    refine ⟨?_, hn.sublist ((sub_delK k s.K).map _)⟩
    have := h.drop k hn
    simpa [hitE, hk, dropL] using this

theorem cutL_spec (ks : List Ky) : ∀ (s : Ca) (L : List En) (wh : Int → Bool), Ordd s.K s.ck L → (s.K.map fun x => x.e.key).Nodup → (s.W.map Wh.dir).Nodup → (∀ d, inW d s.W = wh d) →
    Ordd (cutL s ks).K s.ck (cutE ks L) ∧ ∀ d, inW d (cutL s ks).W = cutWh ks wh d := by
  induction ks with
  | nil => intro s L wh h1 h2 h3 h4; exact ⟨by rw [show cutE [] L = L from List.filter_eq_self.2 (fun _ _ => rfl)]; exact h1, fun d => by simp [cutL, cutWh, h4]⟩
  | cons k ks ih =>
    intro s L wh h1 h2 h3 h4
    obtain ⟨a1, a2⟩ := cut1_ord (k := k) h1 h2
    have a3 : ((cut1 s k).W.map Wh.dir).Nodup := h3.sublist ((sub_delW k.dir s.W).map _)
    have a4 : ∀ d, inW d (cut1 s k).W = (wh d && !(k.dir == d)) := fun d => by
      show inW d (delW k.dir s.W) = _
      rw [delW_in h3, h4]
    obtain ⟨b1, b2⟩ := ih (cut1 s k) _ _ a1 a2 a3 a4
    refine ⟨?_, fun d => ?_⟩
    · have e1 : cutE ks (L.filter fun e => !hitE k e) = cutE (k :: ks) L := by
        unfold cutE; rw [List.filter_filter]; apply List.filter_congr; intro e _; simp [Bool.and_comm]
      rw [← e1]; exact b1
    · rw [show cutL s (k :: ks) = cutL (cut1 s k) ks from rfl, b2]
      simp [cutWh, Bool.and_assoc]

theorem c_cut (w : World) (B p n : Nat) (L : List En) (wh : Int → Bool) (ks : List Ky) (a : Option Addr) (c B' : Nat) (h : CAt w B p n L wh) (hv : w.ownsRow B' 26 2 (.slice a ks.length c) ks.length (kyc ks)) (hB : p < B') (hL : ks.length ≤ 140737488351232) :
    Calls Try.prog 23 #[.pointer (some ⟨p, 0, none⟩), .slice a ks.length c] w fun r w' => r = .returned (.tuple #[]) ∧ CAt w' B p n (cutE ks L) (cutWh ks wh) ∧ Chg (CF B p) w w' := by
  obtain ⟨s, h0, rfl, h1, h2, h3, h4, h5, h6⟩ := h.ex
  refine (dent_cut w B s ks a c B' h0 hv (fun k hk => by have := (CF.of h0 h1 h2 k hk).2; omega) hL).mono ?_
  rintro r w' ⟨rfl, hc, hg⟩
  obtain ⟨K1, W1, hf⟩ := cutL_form s ks
  obtain ⟨g1, g2⟩ := cutL_spec ks s L wh h5 h0.k1 h0.k2 h6
  rw [hf] at hc g1 g2
  exact ⟨rfl, ⟨_, hc, rfl, h1, h2, h3, h4, g1, g2⟩, Chg.mono hg fun k _ hk => CF.of h0 h1 h2 k hk⟩

end Go.Proofs.Ytmhogjecfgbchaa
