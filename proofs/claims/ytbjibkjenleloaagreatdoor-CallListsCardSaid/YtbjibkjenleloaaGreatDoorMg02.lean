/- Parts of a proof about the given program, in build order: DentI, NamA, LibP, NamB, ShelfGenSplit, ShelfHasPrefix, ShelfHasSuffix, NamC, NamD, NamE, NamF. No condition. -/
import Derived.Test.YtbjibkjenleloaaGreatDoorMg01
import Derived.Test.YtbjibkjenleloaaGreatDoorMg00
import Derived.Lib.OthersKept
import Derived.Test.YtbjibkjenleloaaGreatDoorRows
import Derived.Deep.QuietTactic
import Derived.BigQuiet
import Derived.Deep.DeepMust
import Derived.Deep.RegionHeld3
import Derived.Deep.DrawnRows
import Derived.Deep.RegionLaw
import Derived.Shelf.Strings.Split
import Derived.Ground.NamesProg
import Derived.Test.YtbjibkjenleloaaGreatDoorProg
import Derived.Shelf.Strings.Prefix
import Derived.Lib.IndexBytes
section
namespace Go.Proofs.YtbjibkjenleloaaGreatDoor
set_option linter.unusedVariables false
set_option linter.unusedSimpArgs false
open Go.RowKit
open Go.ChangeMaps (setBlock)

/-! ### the cache in plain words: its entries in the order of use, and which directories are whole -/

def isK (k : Ky) (e : En) : Bool := decide (k = e.key)
def findL (k : Ky) (L : List En) : Option En := L.find? (isK k)
def dropL (k : Ky) (L : List En) : List En := L.filter fun e => !isK k e
def zeroE : En := ⟨⟨0, ByteArray.empty⟩, false, ⟨0, 0, 0, ByteArray.empty⟩⟩
def getE (k : Ky) (L : List En) : En := (findL k L).getD zeroE
def putL (e : En) (L : List En) : List En := if e.key.name = ByteArray.empty then L else dropL e.key L ++ [e]
def useL (k : Ky) (L : List En) : List En := match findL k L with | some e => dropL k L ++ [e] | none => L
def hitE (k : Ky) (e : En) : Bool := if k.name = ByteArray.empty then e.key.dir == k.dir else isK k e
def cutE (ks : List Ky) (L : List En) : List En := L.filter fun e => !ks.any fun k => hitE k e
def cutWh (ks : List Ky) (wh : Int → Bool) (d : Int) : Bool := wh d && !ks.any fun k => k.dir == d
def evictWh (k : Ky) (L : List En) (wh : Int → Bool) (d : Int) : Bool := wh d && !((findL k L).any (fun e => !e.neg) && k.dir == d)

/-- L is what K holds, in the order of use -/
structure Ordd (K : List Ke) (ck : Int) (L : List En) : Prop where
  ex : ∃ M : List Ke, M.Perm K ∧ M.Pairwise (fun x y => x.used < y.used) ∧ (∀ x ∈ M, 1 ≤ x.used ∧ x.used ≤ ck) ∧ L = M.map Ke.e

theorem Ordd.nil (ck : Int) : Ordd [] ck [] := ⟨[], List.Perm.refl _, List.Pairwise.nil, by simp, rfl⟩
theorem Ordd.le {K : List Ke} {ck ck' : Int} {L : List En} (h : Ordd K ck L) (hc : ck ≤ ck') : Ordd K ck' L := by
  obtain ⟨M, h1, h2, h3, h4⟩ := h.ex
  exact ⟨M, h1, h2, fun x hx => ⟨(h3 x hx).1, Int.le_trans (h3 x hx).2 hc⟩, h4⟩
theorem Ordd.snoc {K : List Ke} {ck : Int} {L : List En} {y : Ke} (h : Ordd K ck L) (h0 : 0 ≤ ck) (hy : y.used = ck + 1) : Ordd (K ++ [y]) (ck + 1) (L ++ [y.e]) := by
  obtain ⟨M, h1, h2, h3, rfl⟩ := h.ex
  refine ⟨M ++ [y], h1.append_right _, ?_, ?_, by simp⟩
  · rw [List.pairwise_append]
    exact ⟨h2, by simp, fun a ha b hb => by simp at hb; subst hb; have := h3 a ha; omega⟩
  · intro x hx
    rcases List.mem_append.1 hx with hx | hx
    · have := h3 x hx; exact ⟨this.1, by omega⟩
    · simp at hx; subst hx; exact ⟨by omega, by omega⟩
theorem Ordd.filt {K : List Ke} {ck : Int} {L : List En} (h : Ordd K ck L) (p : En → Bool) : Ordd (K.filter fun x => p x.e) ck (L.filter p) := by
  obtain ⟨M, h1, h2, h3, rfl⟩ := h.ex
  refine ⟨M.filter fun x => p x.e, h1.filter _, h2.filter _, fun x hx => h3 x (List.mem_filter.1 hx).1, ?_⟩
  rw [List.filter_map]; rfl
theorem Ordd.perm {K K' : List Ke} {ck : Int} {L : List En} (h : Ordd K ck L) (hp : K.Perm K') : Ordd K' ck L := by
  obtain ⟨M, h1, h2, h3, h4⟩ := h.ex
  exact ⟨M, h1.trans hp, h2, h3, h4⟩
theorem Ordd.permL {K : List Ke} {ck : Int} {L : List En} (h : Ordd K ck L) : L.Perm (K.map Ke.e) := by
  obtain ⟨M, h1, h2, h3, rfl⟩ := h.ex
  exact h1.map _
theorem len_used {M : List Ke} {lo hi : Int} (h2 : M.Pairwise fun x y => x.used < y.used) (h3 : ∀ x ∈ M, lo ≤ x.used ∧ x.used ≤ hi) (hh : lo ≤ hi + 1) : (M.length : Int) ≤ hi - lo + 1 := by
  induction M generalizing lo with
  | nil => simp; omega
  | cons x M ih =>
    rw [List.pairwise_cons] at h2
    have hx := h3 x (by simp)
    have := ih (lo := x.used + 1) h2.2 (fun y hy => ⟨by have := h2.1 y hy; omega, (h3 y (by simp [hy])).2⟩) (by omega)
    simp; omega
theorem Ordd.len {K : List Ke} {ck : Int} {L : List En} (h : Ordd K ck L) (h0 : 0 ≤ ck) : (L.length : Int) ≤ ck := by
  obtain ⟨M, h1, h2, h3, rfl⟩ := h.ex
  have := len_used h2 h3 (by omega)
  rw [List.length_map]; omega
theorem Ordd.drop {K : List Ke} {ck : Int} {L : List En} (h : Ordd K ck L) (k : Ky) (hn : (K.map fun x => x.e.key).Nodup) : Ordd (delK k K) ck (dropL k L) := by
  rw [delK_filter k hn]; exact h.filt fun e => !isK k e
theorem set_perm {α : Type} (K : List α) (j : Nat) (y : α) (hj : j < K.length) : (K.set j y).Perm (K.eraseIdx j ++ [y]) := by
  induction K generalizing j with
  | nil => simp at hj
  | cons x K ih =>
    cases j with
    | zero => simp only [List.set_cons_zero, List.eraseIdx_cons_zero]; exact (List.perm_append_singleton y K).symm
    | succ j => simp only [List.set_cons_succ, List.eraseIdx_cons_succ, List.cons_append]; exact (ih j (by simpa using hj)).cons x

theorem keysNodup {K : List Ke} {ck : Int} {L : List En} (h : Ordd K ck L) (hn : (K.map fun x => x.e.key).Nodup) : (L.map En.key).Nodup := by
  have := (h.permL.map En.key).nodup_iff.2 (by rw [List.map_map]; exact hn)
  exact this

theorem find_none {K : List Ke} {ck : Int} {L : List En} (h : Ordd K ck L) {k : Ky} (hk : atK k K = none) : findL k L = none := by
  rw [findL, List.find?_eq_none]
  intro e he
  obtain ⟨x, hx, rfl⟩ := List.mem_map.1 (h.permL.mem_iff.1 he)
  have := List.findIdx?_eq_none_iff.1 hk x hx
  simpa [isK] using this
theorem find_some {K : List Ke} {ck : Int} {L : List En} (h : Ordd K ck L) (hn : (K.map fun x => x.e.key).Nodup) {k : Ky} {j : Nat} {x : Ke} (hk : atK k K = some j) (hx : K[j]? = some x) : findL k L = some x.e := by
  have hkey := atK_key hk hx
  have hmem : x.e ∈ L := h.permL.mem_iff.2 (List.mem_map.2 ⟨x, List.mem_of_getElem? hx, rfl⟩)
  cases hf : findL k L with
  | none => rw [findL, List.find?_eq_none] at hf; have := hf _ hmem; simp [isK, hkey] at this
  | some e =>
    have h1 := List.mem_of_find?_eq_some hf
    have h2 := List.find?_some hf
    simp only [isK, decide_eq_true_eq] at h2
    rw [map_inj (keysNodup h hn) h1 hmem (by rw [← h2, hkey])]
theorem drop_none {k : Ky} {L : List En} (h : findL k L = none) : dropL k L = L := by
  rw [findL, List.find?_eq_none] at h
  rw [dropL, List.filter_eq_self]
  intro e he; have := h e he; simpa using this

theorem inW_iff {d : Int} {W : List Wh} : inW d W = true ↔ d ∈ W.map Wh.dir := by unfold inW; simp
theorem delW_in {k d : Int} {W : List Wh} (hn : (W.map Wh.dir).Nodup) : inW d (delW k W) = (inW d W && !(k == d)) := by
  have h : delW k W = W.filter fun x => !decide (k = x.dir) := by
    unfold delW atW
    clear d
    induction W with
    | nil => simp
    | cons x W ih =>
      simp only [List.map_cons, List.nodup_cons] at hn
      have ih := ih hn.2
      rw [List.findIdx?_cons]
      by_cases h : k = x.dir
      · have hno : ∀ y ∈ W, (!decide (k = y.dir)) = true := fun y hy => by
          have : k ≠ y.dir := fun e => hn.1 (List.mem_map.2 ⟨y, hy, by rw [← e, h]⟩)
          simp [this]
        simp [h]
        rw [← h]; exact (List.filter_eq_self.2 hno).symm
      · simp only [h, decide_false, Bool.false_eq_true, if_false]
        rw [List.filter_cons_of_pos (by simp [h])]
        cases hf : List.findIdx? (fun x => decide (k = x.dir)) W with
        | none => rw [hf] at ih; simp at ih ⊢; exact ih
        | some j => rw [hf] at ih; simp at ih ⊢; exact ih
  rw [h, Bool.eq_iff_iff, Bool.and_eq_true, inW_iff, inW_iff]
  simp only [List.mem_map, List.mem_filter]
  constructor
  · rintro ⟨x, ⟨hx, h2⟩, rfl⟩
    exact ⟨⟨x, hx, rfl⟩, by simpa using h2⟩
  · rintro ⟨⟨x, hx, rfl⟩, h2⟩
    exact ⟨x, ⟨hx, by simpa using h2⟩, rfl⟩

/-- a cache at p, in plain words; n: a bound of its clock -/
structure CAt (w : World) (B p n : Nat) (L : List En) (wh : Int → Bool) : Prop where
  ex : ∃ s : Ca, CacheAt w B s ∧ s.p = p ∧ s.me ≤ p ∧ s.mw ≤ p ∧ 0 ≤ s.ck ∧ s.ck ≤ (n : Int) ∧ Ordd s.K s.ck L ∧ ∀ d, inW d s.W = wh d

/-- the blocks of a cache -/
def CF (B p : Nat) (k : Nat) : Prop := B ≤ k ∧ k ≤ p

theorem CF.of {w : World} {B : Nat} {s : Ca} (h : CacheAt w B s) (h1 : s.me ≤ s.p) (h2 : s.mw ≤ s.p) : ∀ k, CaF s k → CF B s.p k := by
  have a := h.hB; have b := h.hBe; have c := h.hBw
  rintro k (rfl | rfl | rfl) <;> exact ⟨by omega, by omega⟩
theorem CAt.chg {w w' : World} {B p n : Nat} {L : List En} {wh : Int → Bool} (h : CAt w B p n L wh) {F : Nat → Prop} (hc : Chg F w w') (hF : ∀ k, CF B p k → ¬ F k) : CAt w' B p n L wh := by
  obtain ⟨s, h0, rfl, h1, h2, h3⟩ := h.ex
  exact ⟨s, h0.chg hc fun k hk => hF k (CF.of h0 h1 h2 k hk), rfl, h1, h2, h3⟩
theorem CAt.below {w w' : World} {B p n : Nat} {L : List En} {wh : Int → Bool} (h : CAt w B p n L wh) (hb : Below w.heap.size w w') : CAt w' B p n L wh := by
  obtain ⟨s, h0, h1⟩ := h.ex
  exact ⟨s, h0.below hb, h1⟩
theorem CAt.lt {w : World} {B p n : Nat} {L : List En} {wh : Int → Bool} (h : CAt w B p n L wh) : p < w.heap.size := by
  obtain ⟨s, h0, rfl, _⟩ := h.ex
  exact blk_lt h0.hp
theorem CAt.ge {w : World} {B p n : Nat} {L : List En} {wh : Int → Bool} (h : CAt w B p n L wh) : B ≤ p := by
  obtain ⟨s, h0, rfl, _⟩ := h.ex
  exact h0.hB
theorem CAt.keys {w : World} {B p n : Nat} {L : List En} {wh : Int → Bool} (h : CAt w B p n L wh) : (L.map En.key).Nodup := by
  obtain ⟨s, h0, rfl, h1, h2, h3, h4, h5, _⟩ := h.ex
  exact keysNodup h5 h0.k1
theorem CAt.len {w : World} {B p n : Nat} {L : List En} {wh : Int → Bool} (h : CAt w B p n L wh) : L.length ≤ n := by
  obtain ⟨s, h0, rfl, h1, h2, h3, h4, h5, _⟩ := h.ex
  have := h5.len h3; omega
theorem CAt.le {w : World} {B p n m : Nat} {L : List En} {wh : Int → Bool} (h : CAt w B p n L wh) (hm : n ≤ m) : CAt w B p m L wh := by
  obtain ⟨s, h0, h1, h2, h3, h4, h5, h6⟩ := h.ex
  exact ⟨s, h0, h1, h2, h3, h4, by omega, h6⟩

theorem c_new (w : World) : Calls Tryz.prog 47 #[] w fun e w' => e = .returned (.pointer (some ⟨w.heap.size + 2, 0, none⟩)) ∧ CAt w' w.heap.size (w.heap.size + 2) 0 [] (fun _ => false) ∧ Below w.heap.size w w' := by
  refine (dent_new w).mono ?_
  rintro e w' ⟨rfl, h, hb⟩
  exact ⟨rfl, ⟨_, h, rfl, by simp, by simp, Int.le_refl _, Int.le_refl _, Ordd.nil _, fun d => rfl⟩, hb⟩

theorem c_whole (w : World) (B p n : Nat) (L : List En) (wh : Int → Bool) (d : Int) (h : CAt w B p n L wh) :
    Calls Tryz.prog 37 #[.pointer (some ⟨p, 0, none⟩), .int .i64 d] w fun e w' => e = .returned (.bool (wh d)) ∧ w = w' := by
  obtain ⟨s, h0, rfl, h1, h2, h3, h4, h5, h6⟩ := h.ex
  have := dent_whole w B s d h0
  rw [h6 d] at this; exact this

theorem c_len (w : World) (B p n : Nat) (L : List En) (wh : Int → Bool) (h : CAt w B p n L wh) :
    Calls Tryz.prog 105 #[.pointer (some ⟨p, 0, none⟩)] w fun e w' => e = .returned (.int .i64 L.length) ∧ w = w' := by
  obtain ⟨s, h0, rfl, h1, h2, h3, h4, h5, h6⟩ := h.ex
  have := dent_len w B s h0
  rw [show s.K.length = L.length by have := h5.permL.length_eq; simpa using this.symm] at this; exact this

theorem c_put (w : World) (B p n : Nat) (L : List En) (wh : Int → Bool) (e : En) (h : CAt w B p n L wh) (hn : n < 4611686018427387904) :
    Calls Tryz.prog 66 #[.pointer (some ⟨p, 0, none⟩), .agg #[.int .i64 e.key.dir, .string e.key.name, .bool e.neg, .int .i64 e.node.id, .int .i64 e.node.kind, .int .i64 e.node.mode, .string e.node.target]] w fun r w' => r = .returned (.int .i64 (if e.key.name = ByteArray.empty then 1 else 0)) ∧ CAt w' B p (n + 1) (putL e L) wh ∧ Chg (CF B p) w w' := by
  obtain ⟨s, h0, rfl, h1, h2, h3, h4, h5, h6⟩ := h.ex
  by_cases hne : e.key.name = ByteArray.empty
  · refine (dent_put_arg w s.p e hne).mono ?_
    rintro r w' ⟨rfl, hb⟩
    exact ⟨by simp [hne], ⟨s, h0.below hb, rfl, h1, h2, h3, by omega, by simp [putL, hne, h5], h6⟩, Chg.mono (Chg.below hb) fun _ _ h => h.elim⟩
  · cases hk : atK e.key s.K with
    | none =>
      refine (dent_put_new w B s e hk h0 hne h3 (by omega)).mono ?_
      rintro r w' ⟨rfl, hc, hg⟩
      refine ⟨by simp [hne], ⟨_, hc, rfl, h1, h2, by simp; omega, by simp; omega, ?_, h6⟩, Chg.mono hg fun k _ hk => CF.of h0 h1 h2 k hk⟩
      have := h5.snoc (y := ⟨e, s.ck + 1, s.c1⟩) h3 rfl
      simp only [putL, hne, if_false]; rw [drop_none (find_none h5 hk)]; exact this
    | some j =>
      obtain ⟨x, hx, hkey⟩ := atK_at hk
      have hj : j < s.K.length := (List.getElem?_eq_some_iff.1 hx).1
      refine (dent_put_old w B s e j x hk hx h0 hne h3 (by omega)).mono ?_
      rintro r w' ⟨rfl, hc, hg⟩
      refine ⟨by simp [hne], ⟨_, hc, rfl, h1, h2, by simp; omega, by simp; omega, ?_, h6⟩, Chg.mono hg fun k _ hk => CF.of h0 h1 h2 k hk⟩
      have := ((h5.drop e.key h0.k1).snoc (y := ⟨e, s.ck + 1, x.born⟩) h3 rfl)
      simp only [putL, hne, if_false]
      refine this.perm ?_
      have h7 := (set_perm s.K j ⟨e, s.ck + 1, x.born⟩ hj).symm
      simpa [delK, hk] using h7

theorem c_use (w : World) (B p n : Nat) (L : List En) (wh : Int → Bool) (k : Ky) (h : CAt w B p n L wh) (hn : n < 4611686018427387904) :
    Calls Tryz.prog 140 #[.pointer (some ⟨p, 0, none⟩), .agg #[.int .i64 k.dir, .string k.name]] w fun r w' => r = .returned (.bool (findL k L).isSome) ∧ CAt w' B p (n + 1) (useL k L) wh ∧ Chg (CF B p) w w' := by
  obtain ⟨s, h0, rfl, h1, h2, h3, h4, h5, h6⟩ := h.ex
  cases hk : atK k s.K with
  | none =>
    have hf := find_none h5 hk
    refine (dent_use_no w B s k h0 hk).mono ?_
    rintro r w' ⟨rfl, hb⟩
    exact ⟨by simp [hf], ⟨s, h0.below hb, rfl, h1, h2, h3, by omega, by simp only [useL, hf]; exact h5, h6⟩, Chg.mono (Chg.below hb) fun _ _ h => h.elim⟩
  | some j =>
    obtain ⟨x, hx, rfl⟩ := atK_at hk
    have hj : j < s.K.length := (List.getElem?_eq_some_iff.1 hx).1
    have hf := find_some h5 h0.k1 hk hx
    refine (dent_use_yes w B s j x h0 hk hx h3 (by omega)).mono ?_
    rintro r w' ⟨rfl, hc, hg⟩
    refine ⟨by simp [hf], ⟨_, hc, rfl, h1, h2, by simp; omega, by simp; omega, ?_, h6⟩, Chg.mono hg fun k _ hk => CF.of h0 h1 h2 k hk⟩
    have := ((h5.drop x.e.key h0.k1).snoc (y := ⟨x.e, s.ck + 1, x.born⟩) h3 rfl)
    simp only [useL, hf]
    refine this.perm ?_
    have h7 := (set_perm s.K j ⟨x.e, s.ck + 1, x.born⟩ hj).symm
    simpa [delK, hk] using h7

theorem c_get (w : World) (B p n : Nat) (L : List En) (wh : Int → Bool) (k : Ky) (h : CAt w B p n L wh) :
    Calls Tryz.prog 210 #[.pointer (some ⟨p, 0, none⟩), .agg #[.int .i64 k.dir, .string k.name]] w fun r w' => r = .returned (.tuple #[(getE k L).v, .bool (findL k L).isSome]) ∧ Below w.heap.size w w' := by
  obtain ⟨s, h0, rfl, h1, h2, h3, h4, h5, h6⟩ := h.ex
  cases hk : atK k s.K with
  | none =>
    have hf := find_none h5 hk
    refine (dent_get_no w B s k h0 hk).mono ?_
    rintro r w' ⟨rfl, hb⟩
    exact ⟨by simp [hf, getE, zeroE, zeroEn, En.v], hb⟩
  | some j =>
    obtain ⟨x, hx, rfl⟩ := atK_at hk
    have hf := find_some h5 h0.k1 hk hx
    refine (dent_get_yes w B s _ j x h0 hk hx).mono ?_
    rintro r w' ⟨rfl, hb⟩
    exact ⟨by simp [hf, getE], hb⟩

theorem c_evict (w : World) (B p n : Nat) (L : List En) (wh : Int → Bool) (k : Ky) (h : CAt w B p n L wh) :
    Calls Tryz.prog 103 #[.pointer (some ⟨p, 0, none⟩), .agg #[.int .i64 k.dir, .string k.name]] w fun r w' => r = .returned (.bool (findL k L).isSome) ∧ CAt w' B p n (dropL k L) (evictWh k L wh) ∧ Chg (CF B p) w w' := by
  obtain ⟨s, h0, rfl, h1, h2, h3, h4, h5, h6⟩ := h.ex
  cases hk : atK k s.K with
  | none =>
    have hf := find_none h5 hk
    refine (dent_evict_no w B s k h0 hk).mono ?_
    rintro r w' ⟨rfl, hc, hg⟩
    exact ⟨by simp [hf], ⟨s, hc, rfl, h1, h2, h3, h4, by rw [drop_none hf]; exact h5, fun d => by simp [evictWh, hf, h6]⟩, Chg.mono hg fun k _ hk => CF.of h0 h1 h2 k hk⟩
  | some j =>
    obtain ⟨x, hx, rfl⟩ := atK_at hk
    have hf := find_some h5 h0.k1 hk hx
    cases hng : x.e.neg with
    | true =>
      refine (dent_evict_neg w B s _ j x h0 hk hx hng).mono ?_
      rintro r w' ⟨rfl, hc, hg⟩
      exact ⟨by simp [hf], ⟨_, hc, rfl, h1, h2, h3, h4, h5.drop _ h0.k1, fun d => by simp [evictWh, hf, h6, hng]⟩, Chg.mono hg fun k _ hk => CF.of h0 h1 h2 k hk⟩
    | false =>
      refine (dent_evict_pos w B s _ j x h0 hk hx hng).mono ?_
      rintro r w' ⟨rfl, hc, hg⟩
      exact ⟨by simp [hf], ⟨_, hc, rfl, h1, h2, h3, h4, h5.drop _ h0.k1, fun d => by
        show inW d (delW x.e.key.dir s.W) = _
        rw [delW_in h0.k2, h6]; simp [evictWh, hf, hng]⟩, Chg.mono hg fun k _ hk => CF.of h0 h1 h2 k hk⟩

theorem c_clear (w : World) (B p n : Nat) (L : List En) (wh : Int → Bool) (h : CAt w B p n L wh) :
    Calls Tryz.prog 33 #[.pointer (some ⟨p, 0, none⟩)] w fun r w' => r = .returned (.tuple #[]) ∧ CAt w' B p n [] (fun _ => false) ∧ Chg (CF B p) w w' := by
  obtain ⟨s, h0, rfl, h1, h2, h3, h4, h5, h6⟩ := h.ex
  refine (dent_clear w B s h0).mono ?_
  rintro r w' ⟨rfl, hc, hg⟩
  exact ⟨rfl, ⟨_, hc, rfl, h1, h2, h3, h4, Ordd.nil _, fun d => rfl⟩, Chg.mono hg fun k _ hk => CF.of h0 h1 h2 k hk⟩

theorem addW_form (d : Int) (s : Ca) : (addW d s).p = s.p ∧ (addW d s).me = s.me ∧ (addW d s).mw = s.mw ∧ (addW d s).K = s.K ∧ (addW d s).ck = s.ck ∧ ∀ d', inW d' (addW d s).W = (inW d' s.W || d == d') := by
  unfold addW
  cases hk : atW d s.W with
  | none =>
    refine ⟨rfl, rfl, rfl, rfl, rfl, fun d' => ?_⟩
    rw [Bool.eq_iff_iff, Bool.or_eq_true, inW_iff, inW_iff, List.map_append, List.mem_append, beq_iff_eq]
    simp only [List.map_cons, List.map_nil, List.mem_singleton]
    exact or_congr Iff.rfl ⟨fun h => h.symm, fun h => h.symm⟩
  | some j =>
    refine ⟨rfl, rfl, rfl, rfl, rfl, fun d' => ?_⟩
    obtain ⟨hjl, hj1, _⟩ := List.findIdx?_eq_some_iff_getElem.1 hk
    rw [Bool.eq_iff_iff, Bool.or_eq_true, inW_iff]
    constructor
    · exact .inl
    · rintro (h | h)
      · exact h
      · have h : d = d' := by simpa using h
        subst h
        exact List.mem_map.2 ⟨s.W[j], List.getElem_mem _, by simpa using (of_decide_eq_true hj1).symm⟩

theorem c_setwhole (w : World) (B p n : Nat) (L : List En) (wh : Int → Bool) (d : Int) (h : CAt w B p n L wh) :
    Calls Tryz.prog 67 #[.pointer (some ⟨p, 0, none⟩), .int .i64 d] w fun r w' => r = .returned (.tuple #[]) ∧ CAt w' B p n L (fun d' => wh d' || d == d') ∧ Chg (CF B p) w w' := by
  obtain ⟨s, h0, rfl, h1, h2, h3, h4, h5, h6⟩ := h.ex
  refine (dent_setwhole w B s d h0).mono ?_
  rintro r w' ⟨rfl, hc, hg⟩
  obtain ⟨f1, f2, f3, f4, f5, f6⟩ := addW_form d s
  exact ⟨rfl, ⟨_, hc, f1, by rw [f2]; exact h1, by rw [f3]; exact h2, by rw [f5]; exact h3, by rw [f5]; exact h4, by rw [f4, f5]; exact h5, fun d' => by rw [f6, h6]⟩, Chg.mono hg fun k _ hk => CF.of h0 h1 h2 k hk⟩

theorem cut1_ord {s : Ca} {L : List En} {k : Ky} (h : Ordd s.K s.ck L) (hn : (s.K.map fun x => x.e.key).Nodup) : Ordd (cut1 s k).K s.ck (L.filter fun e => !hitE k e) ∧ ((cut1 s k).K.map fun x => x.e.key).Nodup := by
  unfold cut1
  by_cases hk : k.name = ByteArray.empty
  · simp only [hk, if_true]
    refine ⟨?_, hn.sublist ((List.filter_sublist ..).map _)⟩
    have := h.filt fun e => !hitE k e
    simpa [hitE, hk] using this
  · simp only [hk, if_false]
    refine ⟨?_, hn.sublist ((sub_delK k s.K).map _)⟩
    have := h.drop k hn
    simpa [hitE, hk, dropL] using this

theorem cutL_spec (ks : List Ky) : ∀ (s : Ca) (L : List En) (wh : Int → Bool), Ordd s.K s.ck L → (s.K.map fun x => x.e.key).Nodup → (s.W.map Wh.dir).Nodup → (∀ d, inW d s.W = wh d) →
    Ordd (cutL s ks).K s.ck (cutE ks L) ∧ ∀ d, inW d (cutL s ks).W = cutWh ks wh d := by
  induction ks with
  | nil => intro s L wh h1 h2 h3 h4; exact ⟨by rw [show cutE [] L = L from List.filter_eq_self.2 (fun _ _ => rfl)]; exact h1, fun d => by simp [cutL, cutWh, h4]⟩
  | cons k ks ih =>
    intro s L wh h1 h2 h3 h4
    obtain ⟨a1, a2⟩ := cut1_ord (k := k) h1 h2
    have a3 : ((cut1 s k).W.map Wh.dir).Nodup := h3.sublist ((sub_delW k.dir s.W).map _)
    have a4 : ∀ d, inW d (cut1 s k).W = (wh d && !(k.dir == d)) := fun d => by
      show inW d (delW k.dir s.W) = _
      rw [delW_in h3, h4]
    obtain ⟨b1, b2⟩ := ih (cut1 s k) _ _ a1 a2 a3 a4
    refine ⟨?_, fun d => ?_⟩
    · have e1 : cutE ks (L.filter fun e => !hitE k e) = cutE (k :: ks) L := by
        unfold cutE; rw [List.filter_filter]; apply List.filter_congr; intro e _; simp [Bool.and_comm]
      rw [← e1]; exact b1
    · rw [show cutL s (k :: ks) = cutL (cut1 s k) ks from rfl, b2]
      simp [cutWh, Bool.and_assoc]

theorem c_cut (w : World) (B p n : Nat) (L : List En) (wh : Int → Bool) (ks : List Ky) (a : Option Addr) (c B' : Nat) (h : CAt w B p n L wh) (hv : w.ownsRow B' 53 2 (.slice a ks.length c) ks.length (kyc ks)) (hB : p < B') (hL : ks.length ≤ 140737488351232) :
    Calls Tryz.prog 35 #[.pointer (some ⟨p, 0, none⟩), .slice a ks.length c] w fun r w' => r = .returned (.tuple #[]) ∧ CAt w' B p n (cutE ks L) (cutWh ks wh) ∧ Chg (CF B p) w w' := by
  obtain ⟨s, h0, rfl, h1, h2, h3, h4, h5, h6⟩ := h.ex
  refine (dent_cut w B s ks a c B' h0 hv (fun k hk => by have := (CF.of h0 h1 h2 k hk).2; omega) hL).mono ?_
  rintro r w' ⟨rfl, hc, hg⟩
  obtain ⟨K1, W1, hf⟩ := cutL_form s ks
  obtain ⟨g1, g2⟩ := cutL_spec ks s L wh h5 h0.k1 h0.k2 h6
  rw [hf] at hc g1 g2
  exact ⟨rfl, ⟨_, hc, rfl, h1, h2, h3, h4, g1, g2⟩, Chg.mono hg fun k _ hk => CF.of h0 h1 h2 k hk⟩

end Go.Proofs.YtbjibkjenleloaaGreatDoor

end

section
namespace Go.Proofs.YtbjibkjenleloaaGreatDoor
set_option linter.unusedVariables false
set_option linter.unusedSimpArgs false

/-! ### the runes of a text -/
theorem dec_small (s : ByteArray) (i : Nat) (h : (s.get! i).toNat < 128) : Utf8.decode s i = ((s.get! i).toNat, 1) := by
  unfold Utf8.decode
  simp only [Nat.add_zero]
  rw [if_pos h]
theorem dec_big (s : ByteArray) (i : Nat) (h : ¬ (s.get! i).toNat < 128) : 128 ≤ (Utf8.decode s i).1 ∧ 1 ≤ (Utf8.decode s i).2 ∧ ∀ k, k < (Utf8.decode s i).2 → 128 ≤ (s.get! (i + k)).toNat := by
  have hc : ∀ k, (s.get! (i + k)).toNat / 64 = 2 → 128 ≤ (s.get! (i + k)).toNat := fun k hk => by omega
  have h0 : 128 ≤ (s.get! (i + 0)).toNat := by rw [Nat.add_zero]; omega
  have one : ∀ k, k < 1 → 128 ≤ (s.get! (i + k)).toNat := fun k hk => by
    have hk0 : k = 0 := by omega
    rw [hk0]; exact h0
  unfold Utf8.decode
  simp only [Nat.add_zero]
  rw [if_neg h]
  split
  · rename_i h2
    simp only [Bool.and_eq_true, decide_eq_true_eq, beq_iff_eq] at h2
    split
    · rename_i h3
      refine ⟨h3, by show 1 ≤ 2; omega, fun k hk => ?_⟩
      have hk' : k < 2 := hk
      rcases (show k = 0 ∨ k = 1 by omega) with rfl | rfl
      · exact h0
      · exact hc _ h2.2.2
    · exact ⟨by show 128 ≤ Utf8.runeError; decide, Nat.le_refl _, one⟩
  · split
    · rename_i h2
      simp only [Bool.and_eq_true, decide_eq_true_eq, beq_iff_eq] at h2
      split
      · rename_i h3
        simp only [Bool.and_eq_true, decide_eq_true_eq] at h3
        refine ⟨by have := h3.1; show 128 ≤ (_ : Nat); exact Nat.le_trans (by omega) this, by show 1 ≤ 3; omega, fun k hk => ?_⟩
        have hk' : k < 3 := hk
        rcases (show k = 0 ∨ k = 1 ∨ k = 2 by omega) with rfl | rfl | rfl
        · exact h0
        · exact hc _ h2.1.2.2
        · exact hc _ h2.2.2
      · exact ⟨by show 128 ≤ Utf8.runeError; decide, Nat.le_refl _, one⟩
    · split
      · rename_i h2
        simp only [Bool.and_eq_true, decide_eq_true_eq, beq_iff_eq] at h2
        split
        · rename_i h3
          simp only [Bool.and_eq_true, decide_eq_true_eq] at h3
          refine ⟨by have := h3.1; show 128 ≤ (_ : Nat); exact Nat.le_trans (by omega) this, by show 1 ≤ 4; omega, fun k hk => ?_⟩
          have hk' : k < 4 := hk
          rcases (show k = 0 ∨ k = 1 ∨ k = 2 ∨ k = 3 by omega) with rfl | rfl | rfl | rfl
          · exact h0
          · exact hc _ h2.1.1.2.2
          · exact hc _ h2.1.2.2
          · exact hc _ h2.2.2
        · exact ⟨by show 128 ≤ Utf8.runeError; decide, Nat.le_refl _, one⟩
      · exact ⟨by show 128 ≤ Utf8.runeError; decide, Nat.le_refl _, one⟩
theorem dec_wd (s : ByteArray) (i : Nat) : 1 ≤ (Utf8.decode s i).2 := by
  by_cases h : (s.get! i).toNat < 128
  · rw [dec_small s i h]; exact Nat.le_refl _
  · exact (dec_big s i h).2.1

/-- the runes from a place on; the first number bounds how many are read -/
def runesF (s : ByteArray) : Nat → Nat → List Nat
  | 0, _ => []
  | f + 1, i => if i < s.size then (Utf8.decode s i).1 :: runesF s f (i + (Utf8.decode s i).2) else []
def runes (s : ByteArray) : List Nat := runesF s s.size 0
theorem mem_runesF (s : ByteArray) {r : Nat} (hr : r < 128) : ∀ (f i : Nat), s.size ≤ i + f → (r ∈ runesF s f i ↔ ∃ j, i ≤ j ∧ j < s.size ∧ (s.get! j).toNat = r)
  | 0, i, h => by
    simp only [runesF, List.not_mem_nil, false_iff, not_exists, not_and]
    intro j h1 h2; omega
  | f + 1, i, h => by
    have hw := dec_wd s i
    have ih := mem_runesF s hr f (i + (Utf8.decode s i).2) (by omega)
    unfold runesF
    by_cases hi : i < s.size
    · rw [if_pos hi, List.mem_cons, ih]
      by_cases hb : (s.get! i).toNat < 128
      · rw [dec_small s i hb]
        constructor
        · rintro (h1 | ⟨j, h1, h2, h3⟩)
          · exact ⟨i, Nat.le_refl _, hi, h1.symm⟩
          · exact ⟨j, by omega, h2, h3⟩
        · rintro ⟨j, h1, h2, h3⟩
          by_cases he : j = i
          · subst he; exact .inl h3.symm
          · exact .inr ⟨j, by show i + 1 ≤ j; omega, h2, h3⟩
      · obtain ⟨g1, g2, g3⟩ := dec_big s i hb
        constructor
        · rintro (h1 | ⟨j, h1, h2, h3⟩)
          · omega
          · exact ⟨j, by omega, h2, h3⟩
        · rintro ⟨j, h1, h2, h3⟩
          refine .inr ⟨j, ?_, h2, h3⟩
          rcases Nat.lt_or_ge j (i + (Utf8.decode s i).2) with h4 | h4
          · have := g3 (j - i) (by omega)
            rw [show i + (j - i) = j by omega] at this
            omega
          · exact h4
    · rw [if_neg hi]
      simp only [List.not_mem_nil, false_iff, not_exists, not_and]
      intro j h1 h2; omega
theorem mem_runes (s : ByteArray) {r : Nat} (hr : r < 128) : r ∈ runes s ↔ ∃ j, j < s.size ∧ (s.get! j).toNat = r := by
  rw [runes, mem_runesF s hr _ _ (by omega)]
  exact ⟨fun ⟨j, _, h2, h3⟩ => ⟨j, h2, h3⟩, fun ⟨j, h2, h3⟩ => ⟨j, Nat.zero_le _, h2, h3⟩⟩
/-- has a text one of some signs -/
def hasF (s : ByteArray) (signs : List Int) (f i : Nat) : Bool := (runesF s f i).any fun r => signs.contains (r : Int)
def hasR (s : ByteArray) (signs : List Int) : Bool := hasF s signs s.size 0
theorem hasF_step {s : ByteArray} {signs : List Int} {f i : Nat} (hi : i < s.size) : hasF s signs (f + 1) i = (signs.contains ((Utf8.decode s i).1 : Int) || hasF s signs f (i + (Utf8.decode s i).2)) := by
  unfold hasF
  rw [runesF, if_pos hi, List.any_cons]
theorem hasF_end {s : ByteArray} {signs : List Int} {f i : Nat} (hi : ¬ i < s.size) : hasF s signs f i = false := by
  unfold hasF
  cases f with
  | zero => rfl
  | succ f => rw [runesF, if_neg hi]; rfl

end Go.Proofs.YtbjibkjenleloaaGreatDoor

end

section
namespace Go.Proofs.YtbjibkjenleloaaGreatDoor
set_option linter.unusedVariables false
set_option linter.unusedSimpArgs false
open Go.RowKit
attribute [local go_sem ↓] Go.wp_at_zero Go.wp_at_succ

theorem ret_int {k : IntKind} {a b : Int} (h : a = b) : Ending.returned (.int k a) = .returned (.int k b) := by rw [h]

theorem tmod_neg_emod (v n : Int) (h1 : 1 ≤ n) (h : v.tmod n < 0) : v.tmod n + n = v % n := by
  have h2 := Int.emod_nonneg v (show n ≠ 0 by omega)
  have h3 := Int.emod_lt_of_pos v (show 0 < n by omega)
  rw [Int.tmod_eq_emod] at h ⊢
  split at h <;> split <;> simp_all <;> omega

theorem tmod_pos_emod (v n : Int) (h1 : 1 ≤ n) (h : 0 ≤ v.tmod n) : v.tmod n = v % n := by
  have h2 := Int.emod_nonneg v (show n ≠ 0 by omega)
  have h3 := Int.emod_lt_of_pos v (show 0 < n by omega)
  rw [Int.tmod_eq_emod] at h ⊢
  split at h <;> split <;> simp_all <;> omega

set_option maxHeartbeats 400000 in
theorem place_pos (v n : Int) (w : World) (h1 : 1 ≤ n) (h2 : n ≤ 9223372036854775807) :
    Calls Tryz.prog 10 #[.int .i64 v, .int .i64 n] w fun e w' => e = .returned (.int .i64 (v % n)) ∧ w = w' := by
  have h3 := Int.emod_nonneg v (show n ≠ 0 by omega)
  have h4 := Int.emod_lt_of_pos v (show 0 < n by omega)
  go_enter Tryz.func10, Tryz.ntmps10
  go_wp2
  · rename_i h
    have h5 := tmod_neg_emod v n h1 h
    go_ret
    exact ⟨ret_int (by rw [h5, IntWalk.wrap64_in _ ⟨by omega, by omega⟩]), rfl⟩
  · rename_i h
    have h5 := tmod_pos_emod v n h1 h
    go_ret
    exact ⟨ret_int h5, rfl⟩

end Go.Proofs.YtbjibkjenleloaaGreatDoor

end

section
namespace Go.Proofs.YtbjibkjenleloaaGreatDoor
set_option linter.unusedVariables false
set_option linter.unusedSimpArgs false
open Go.RowKit
attribute [local go_sem ↓] Go.wp_at_zero Go.wp_at_succ

/-- runes as cells -/
def rns (L : List Int) : List Value := L.map (.int .i32)
theorem rns_len (L : List Int) : (rns L).length = L.length := by simp [rns]
theorem rn_off {w : World} {g o n c m : Nat} {L : List Int} (h : Rd w (.slice (some ⟨g, o, none⟩) n c) m (rns L)) {k : Nat} {x : Int} (hk : L[k]? = some x) : w.cell? ⟨g, o + k, none⟩ = some (.int .i32 x) :=
  h.at k (.int .i32 x) (by simp [rns, List.getElem?_map, hk])
theorem rn_loc {w : World} {a : Option Addr} {n c m : Nat} {L : List Int} (h : Rd w (.slice a n c) m (rns L)) (hl : 0 < L.length) : ∃ b o, a = some ⟨b, o, none⟩ := by
  obtain ⟨b, o, c', hv, _⟩ := h.form (by rw [rns_len]; omega)
  simp only [Value.slice.injEq] at hv
  exact ⟨b, o, hv.1⟩

set_option maxHeartbeats 1000000 in
theorem index_rune (v : Value) (L : List Int) (r : Int) (w : World) (hv : Rd w v L.length (rns L)) :
    Calls Tryz.prog 77 #[v, .int .i32 r] w fun e w' => ∃ j : Int, e = .returned (.int .i64 j) ∧ Hid (0 ≤ j ↔ r ∈ L) ∧ w = w' := by
  have hlen := hv.len
  unfold maxLen at hlen
  obtain ⟨a, c, rfl, _, _⟩ := hv.shape
  have HV := hid hv
  clear hv
  go_enter Tryz.func77, Tryz.ntmps77
  go_wp2_with fail
  go_loop [8] (fun v8 => ∃ k : Nat, k ≤ L.length ∧ v8 = .int .i64 k ∧ Hid (r ∉ L.take k)) (fun v8 => L.length - (intOf v8).toNat)
  case atStart => exact ⟨0, Nat.zero_le _, rfl, hid (by simp)⟩
  case round =>
    obtain ⟨k, hk, rfl, HT⟩ := hrel
    by_cases hlt : k < L.length
    · obtain ⟨b, off, rfl⟩ := rn_loc HV.out (by omega)
      obtain ⟨x, hx⟩ : ∃ x, L[k]? = some x := ⟨_, List.getElem?_eq_getElem hlt⟩
      have c1 := rn_off HV.out hx
      have HX := hid hx
      have hk0 : (0 : Int) ≤ (k : Int) := by omega
      have hk1 : (k : Int) < (L.length : Int) := by omega
      clear hx
      by_cases he : r = x
      · have HE := hid (show r ∈ L by rw [he]; exact List.mem_of_getElem? HX.out)
        have heq : (r == x) = true := by simp [he]
        clear he
        go_wp2
        go_ret
        exact ⟨_, rfl, hid ⟨fun _ => HE.out, fun _ => hk0⟩, rfl⟩
      · have HE := hid (show r ∉ L.take (k + 1) by
          rw [List.take_add_one, HX.out]; simp only [Option.toList_some, List.mem_append, List.mem_singleton, not_or]; exact ⟨HT.out, he⟩)
        have heq : (r == x) = false := by simp [he]
        clear he
        go_wp2
        exact ⟨⟨k + 1, by omega, by go_num, HE⟩, by simp [intOf]; omega⟩
    · have HE := hid (show r ∉ L by have := HT.out; rwa [List.take_of_length_le (by omega)] at this)
      go_wp2
      go_ret
      exact ⟨_, rfl, hid ⟨fun h => absurd h (by decide), fun h => absurd h HE.out⟩, rfl⟩

set_option maxHeartbeats 400000 in
theorem contains_rune (v : Value) (L : List Int) (r : Int) (w : World) (hv : Rd w v L.length (rns L)) :
    Calls Tryz.prog 52 #[v, .int .i32 r] w fun e w' => e = .returned (.bool (L.contains r)) ∧ w = w' := by
  have HV := hid hv
  clear hv
  go_enter Tryz.func52, Tryz.ntmps52
  go_wp2_with fail
  refine (index_rune v L r _ HV.out).mono ?_
  rintro e w1 ⟨j, rfl, HJ, rfl⟩
  by_cases hj : 0 ≤ j
  · have h1 : decide (j ≥ 0) = true := decide_eq_true hj
    have HM := hid (show L.contains r = true by simpa using HJ.out.1 hj)
    clear hj
    go_wp2
    go_ret
    exact ⟨by rw [HM.out]; rfl, rfl⟩
  · have h1 : decide (j ≥ 0) = false := decide_eq_false hj
    have HM := hid (show L.contains r = false by simpa using fun h => hj (HJ.out.2 h))
    clear hj
    go_wp2
    go_ret
    exact ⟨by rw [HM.out]; rfl, rfl⟩

theorem iterPos_of {w : World} {k : Nat} {s : ByteArray} {pos : Nat} (h : w.heap[k]? = some (.stringIter s pos)) : w.iterPos k = pos := by
  simp [World.iterPos, h]

set_option maxHeartbeats 1000000 in
theorem has_any (s : ByteArray) (v : Value) (L : List Int) (w : World) (hv : Rd w v L.length (rns L)) :
    Calls Tryz.prog 29 #[.string s, v] w fun e w' => e = .returned (.bool (hasR s L)) ∧ Below w.heap.size w w' := by
  have HV := hid hv
  clear hv
  go_enter Tryz.func29, Tryz.ntmps29
  go_wp2_with fail
  go_loopw [6] (fun v6 wr => ∃ (pos fuel : Nat), wr.heap[w.heap.size]? = some (.stringIter s pos) ∧ Hid (Below w.heap.size w wr) ∧ Hid (hasR s L = hasF s L fuel pos) ∧ s.size ≤ pos + fuel) (fun _ wr => s.size - wr.iterPos w.heap.size)
  case atStart => exact ⟨0, s.size, World.iter_heap w s 0, hid ((Below.refl _ _).alloc (Nat.le_refl _) _), hid rfl, by omega⟩
  case round =>
    obtain ⟨pos, fuel, hit, HB, HS, hb⟩ := hrel
    have hpos0 := iterPos_of hit
    have HP0 := hid hpos0
    by_cases hp : pos < s.size
    · have hnx : ∀ ty, (Instr.next (.pointer (some ⟨w.heap.size, 0, none⟩)) true ty).run Tryz.prog wr = _ := fun ty => Lib.run_next_any_at wr w.heap.size s pos ty hit hp
      have hwd := dec_wd s pos
      obtain ⟨fuel, rfl⟩ : ∃ f', fuel = f' + 1 := ⟨fuel - 1, by omega⟩
      have hit2 := Lib.iterAt_heap wr w.heap.size s pos (pos + (Utf8.decode s pos).2) hit
      have HB2 := hid (Lib.below_iterAt HB.out (k := w.heap.size) (Nat.le_refl _) s (pos + (Utf8.decode s pos).2))
      obtain ⟨W1, hW1⟩ : ∃ W1, W1 = wr.iterAt w.heap.size s (pos + (Utf8.decode s pos).2) := ⟨_, rfl⟩
      obtain ⟨r, hr⟩ : ∃ r : Nat, r = (Utf8.decode s pos).1 := ⟨_, rfl⟩
      obtain ⟨wd, hwdd⟩ : ∃ wd : Nat, wd = (Utf8.decode s pos).2 := ⟨_, rfl⟩
      have HST := hid (show hasR s L = (L.contains (r : Int) || hasF s L fuel (pos + wd)) by rw [HS.out, hasF_step hp, hr, hwdd])
      rw [← hW1, ← hr] at hnx
      rw [← hW1] at hit2 HB2
      rw [← hwdd] at hit2 hwd
      have HIT2 := hid hit2
      have HHP := hid hp
      clear hW1 hit hr hwdd hit2 hpos0 hp
      go_wp2_with fail
      refine (contains_rune v L r _ (HV.out.below HB2.out)).mono ?_; rintro e w2 ⟨rfl, rfl⟩
      cases hc : L.contains (r : Int) with
      | true =>
        have HC := hid hc
        clear hc
        go_wp2
        go_ret
        exact ⟨by rw [HST.out, HC.out]; rfl, HB2.out⟩
      | false =>
        have HC := hid (show hasR s L = hasF s L fuel (pos + wd) by rw [HST.out, hc, Bool.false_or])
        clear hc hnx
        go_wp2
        exact ⟨⟨pos + wd, fuel, HIT2.out, HB2, HC, by omega⟩, by rw [iterPos_of HIT2.out, HP0.out]; have := HHP.out; omega⟩
    · have hnx : ∀ ty, (Instr.next (.pointer (some ⟨w.heap.size, 0, none⟩)) true ty).run Tryz.prog wr = _ := fun ty => Lib.run_next_end_at wr w.heap.size s pos ty hit hp
      have HE := hid (show hasR s L = false by rw [HS.out, hasF_end hp])
      clear hpos0 hit
      go_wp2
      go_ret
      exact ⟨by rw [HE.out]; rfl, HB.out⟩

end Go.Proofs.YtbjibkjenleloaaGreatDoor

end

/- A contract of the library's at this program, laid by the shelf's tool (lay-plain.mjs): strings.genSplit. -/
section
namespace Go.Proofs
open Go.Shelf
def Tryz.genSplit_ren : Go.Shelf.Ren := ⟨fun | 221 => 134 | 268 => 155 | 138 => 156 | 143 => 157 | 195 => 165 | 197 => 166 | 218 => 167 | 219 => 168 | 260 => 177 | 217 => 178 | 225 => 179 | 224 => 180 | 267 => 181 | 266 => 185 | 314 => 186 | n => n, fun | 9 => 9 | 3 => 3 | 31 => 41 | 4 => 4 | 0 => 0 | 105 => 232 | 21 => 21 | 5 => 5 | 46 => 168 | 119 => 243 | 139 => 246 | 138 => 245 | 146 => 247 | 51 => 191 | n => n, fun | 1 => 1 | 3 => 2 | 4 => 3 | n => n⟩
theorem Tryz.genSplit : Go.Proofs.Lays.n221 Tryz.prog Tryz.genSplit_ren := {
  mixed := by kernel_rfl
  f138 := Tryz.func156.trans (congrArg some (by kernel_rfl))
  f143 := Tryz.func157.trans (congrArg some (by kernel_rfl))
  f195 := Tryz.func165.trans (congrArg some (by kernel_rfl))
  f197 := Tryz.func166.trans (congrArg some (by kernel_rfl))
  f217 := Tryz.func178.trans (congrArg some (by kernel_rfl))
  f218 := Tryz.func167.trans (congrArg some (by kernel_rfl))
  f219 := Tryz.func168.trans (congrArg some (by kernel_rfl))
  f221 := Tryz.func134.trans (congrArg some (by kernel_rfl))
  f224 := Tryz.func180.trans (congrArg some (by kernel_rfl))
  f225 := Tryz.func179.trans (congrArg some (by kernel_rfl))
  f260 := Tryz.func177.trans (congrArg some (by kernel_rfl))
  f266 := Tryz.func185.trans (congrArg some (by kernel_rfl))
  f267 := Tryz.func181.trans (congrArg some (by kernel_rfl))
  f268 := Tryz.func155.trans (congrArg some (by kernel_rfl))
  f314 := Tryz.func186.trans (congrArg some (by kernel_rfl))
  t0 := Tryz.underlying0
  a0 := Tryz.isAgg0
  z0 := Tryz.sizeOf0
  v0 := Tryz.zeroValue0
  t3 := Tryz.underlying3
  a3 := Tryz.isAgg3
  z3 := Tryz.sizeOf3
  v3 := Tryz.zeroValue3
  t4 := Tryz.underlying4
  a4 := Tryz.isAgg4
  z4 := Tryz.sizeOf4
  v4 := Tryz.zeroValue4
  t5 := Tryz.underlying5
  a5 := Tryz.isAgg5
  z5 := Tryz.sizeOf5
  v5 := Tryz.zeroValue5
  t9 := Tryz.underlying9
  a9 := Tryz.isAgg9
  z9 := Tryz.sizeOf9
  v9 := Tryz.zeroValue9
  t21 := Tryz.underlying21
  a21 := Tryz.isAgg21
  z21 := Tryz.sizeOf21
  v21 := Tryz.zeroValue21
  t31 := Tryz.underlying41
  a31 := Tryz.isAgg41
  z31 := Tryz.sizeOf41
  v31 := Tryz.zeroValue41
  t46 := Tryz.underlying168
  a46 := Tryz.isAgg168
  z46 := Tryz.sizeOf168
  v46 := Tryz.zeroValue168
  t51 := Tryz.underlying191
  a51 := Tryz.isAgg191
  z51 := Tryz.sizeOf191
  v51 := Tryz.zeroValue191
  t105 := Tryz.underlying232
  a105 := Tryz.isAgg232
  z105 := Tryz.sizeOf232
  v105 := Tryz.zeroValue232
  t119 := Tryz.underlying243
  a119 := Tryz.isAgg243
  z119 := Tryz.sizeOf243
  t138 := Tryz.underlying245
  a138 := Tryz.isAgg245
  z138 := Tryz.sizeOf245
  v138 := Tryz.zeroValue245
  t139 := Tryz.underlying246
  a139 := Tryz.isAgg246
  z139 := Tryz.sizeOf246
  v139 := Tryz.zeroValue246
  t146 := Tryz.underlying247
  a146 := Tryz.isAgg247
  z146 := Tryz.sizeOf247
  v146 := Tryz.zeroValue247
  g1 := by kernel_rfl
  g3 := by kernel_rfl
  g4 := by kernel_rfl }
end Go.Proofs

end

/- A contract of the library's at this program, laid by the shelf's tool (lay-plain.mjs): strings.HasPrefix. -/
section
namespace Go.Proofs
open Go.Shelf
def Tryz.hasPrefix_ren : Go.Shelf.Ren := ⟨fun | 99 => 78 | 206 => 110 | n => n, fun | 9 => 9 | 4 => 4 | 3 => 3 | n => n, fun | n => n⟩
theorem Tryz.hasPrefix : Go.Proofs.Lays.n99 Tryz.prog Tryz.hasPrefix_ren := {
  mixed := by kernel_rfl
  f99 := Tryz.func78.trans (congrArg some (by kernel_rfl))
  f206 := Tryz.func110.trans (congrArg some (by kernel_rfl))
  t3 := Tryz.underlying3
  a3 := Tryz.isAgg3
  z3 := Tryz.sizeOf3
  v3 := Tryz.zeroValue3
  t4 := Tryz.underlying4
  a4 := Tryz.isAgg4
  z4 := Tryz.sizeOf4
  v4 := Tryz.zeroValue4
  t9 := Tryz.underlying9
  a9 := Tryz.isAgg9
  z9 := Tryz.sizeOf9
  v9 := Tryz.zeroValue9 }
end Go.Proofs

end

/- A contract of the library's at this program, laid by the shelf's tool (lay-plain.mjs): strings.HasSuffix. -/
section
namespace Go.Proofs
open Go.Shelf
def Tryz.hasSuffix_ren : Go.Shelf.Ren := ⟨fun | 100 => 112 | 207 => 135 | n => n, fun | 9 => 9 | 4 => 4 | 3 => 3 | n => n, fun | n => n⟩
theorem Tryz.hasSuffix : Go.Proofs.Lays.n100 Tryz.prog Tryz.hasSuffix_ren := {
  mixed := by kernel_rfl
  f100 := Tryz.func112.trans (congrArg some (by kernel_rfl))
  f207 := Tryz.func135.trans (congrArg some (by kernel_rfl))
  t3 := Tryz.underlying3
  a3 := Tryz.isAgg3
  z3 := Tryz.sizeOf3
  v3 := Tryz.zeroValue3
  t4 := Tryz.underlying4
  a4 := Tryz.isAgg4
  z4 := Tryz.sizeOf4
  v4 := Tryz.zeroValue4
  t9 := Tryz.underlying9
  a9 := Tryz.isAgg9
  z9 := Tryz.sizeOf9
  v9 := Tryz.zeroValue9 }
end Go.Proofs

end

section
namespace Go.Proofs.YtbjibkjenleloaaGreatDoor
set_option linter.unusedVariables false
set_option linter.unusedSimpArgs false
open Go.RowKit Go.Shelf
attribute [local go_sem ↓] Go.wp_at_zero Go.wp_at_succ

/-- '/' -/
def slashB : ByteArray := { data := #[47] }
/-- the pieces of a text between '/' -/
def parts (s : ByteArray) : List ByteArray := Lib.splitB slashB 0 (Lib.countB s slashB) s
theorem infoStr : (Tryz.prog.info? 9).map (fun i => (i.zero, i.size, i.bytes)) = some (some (.string ByteArray.empty), 1, 16) := by kernel_rfl
theorem parts_len (s : ByteArray) : (parts s).length = Lib.countB s slashB + 1 := Lib.splitB_all slashB (by decide) 0 _ s rfl
theorem parts_le (s : ByteArray) : (parts s).length ≤ s.size + 1 := by
  have := Lib.countB_le slashB (by decide) s.size s (Nat.le_refl _)
  rw [parts_len]; omega
theorem parts_pos (s : ByteArray) : 0 < (parts s).length := by rw [parts_len]; omega

theorem split_gen (s : ByteArray) (w : World) (hs : s.size < 4294967281) :
    Calls Tryz.prog 134 #[.string s, .string slashB, .int .i64 0, .int .i64 (-1)] w fun e w' =>
      e = .returned (.slice (some ⟨w.heap.size, 0, none⟩) (parts s).length (parts s).length) ∧ w' = w.alloc (.cells ((parts s).map Value.string).toArray 9) := by
  have hle := Lib.countB_le slashB (by decide) s.size s (Nat.le_refl _)
  have c := Any.strings_genSplit_core Tryz.genSplit infoStr s slashB 0 (-1) (Lib.countB s slashB + 1) w hs (by decide) (Nat.zero_le _)
    (fun x c hx => (Any.strings_Index_one { Tryz.genSplit with } x 47 _).mono fun e w' ⟨he, hw⟩ => ⟨by
      rw [he]
      show _ = Ending.returned (Value.int .i64 (Lib.index x.data.toList [47]))
      rw [Lib.index_one], hw⟩)
    ((Any.strings_Count_one { Tryz.genSplit with } s 47 w).mono fun e w' ⟨he, hw⟩ => ⟨by
      rw [he]
      show _ = Ending.returned (Value.int .i64 ((Lib.count s.data.toList [47] : Nat) : Int))
      rw [Lib.count_one]
      rfl, hw⟩)
    (by decide) (by decide) (by rw [if_pos (by decide)]; omega)
  rw [Nat.add_sub_cancel] at c
  have hlen : (Lib.splitB slashB 0 (Lib.countB s slashB) s).length = Lib.countB s slashB + 1 := parts_len s
  rw [hlen] at c
  have e2 : Lib.cellsOf (Lib.splitB slashB 0 (Lib.countB s slashB) s) (Lib.countB s slashB + 1) = ((parts s).map Value.string).toArray := by rw [← hlen]; exact Lib.cellsOf_full _
  rw [e2] at c
  rw [parts_len]
  exact c

set_option maxHeartbeats 1000000 in
theorem split_slash (s : ByteArray) (w : World) (hs : s.size < 4294967281) :
    Calls Tryz.prog 111 #[.string s, .string slashB] w fun e w' =>
      e = .returned (.slice (some ⟨w.heap.size, 0, none⟩) (parts s).length (parts s).length) ∧ w' = w.alloc (.cells ((parts s).map Value.string).toArray 9) := by
  go_enter Tryz.func111, Tryz.ntmps111
  go_wp2_with fail
  refine (split_gen s w hs).mono ?_; rintro e w' ⟨rfl, rfl⟩
  go_wp2
  go_ret
  exact ⟨rfl, rfl⟩

/-! ### a row of texts -/
def srow (L : List ByteArray) : List Value := L.map Value.string
theorem srow_len (L : List ByteArray) : (srow L).length = L.length := by simp [srow]
theorem srow_one (L : List ByteArray) : ∀ u ∈ srow L, u.oneCell' = true := by
  intro u hu; simp [srow] at hu; obtain ⟨a, _, rfl⟩ := hu; rfl
theorem srow_snoc (L : List ByteArray) (x : ByteArray) : srow (L ++ [x]) = srow L ++ [.string x] := by simp [srow]
theorem st_off {w : World} {g o n c m : Nat} {L : List ByteArray} (h : Rd w (.slice (some ⟨g, o, none⟩) n c) m (srow L)) {k : Nat} {x : ByteArray} (hk : L[k]? = some x) : w.cell? ⟨g, o + k, none⟩ = some (.string x) :=
  h.at k (.string x) (by simp [srow, List.getElem?_map, hk])
theorem st_at {w : World} {g n c m : Nat} {L : List ByteArray} (h : Rd w (.slice (some ⟨g, 0, none⟩) n c) m (srow L)) {k : Nat} {x : ByteArray} (hk : L[k]? = some x) : w.cell? ⟨g, k, none⟩ = some (.string x) := by
  have := st_off h hk
  simpa using this
theorem st_loc {w : World} {a : Option Addr} {n c m : Nat} {L : List ByteArray} (h : Rd w (.slice a n c) m (srow L)) (hl : 0 < L.length) : ∃ b o, a = some ⟨b, o, none⟩ := by
  obtain ⟨b, o, c', hv, _⟩ := h.form (by rw [srow_len]; omega)
  simp only [Value.slice.injEq] at hv
  exact ⟨b, o, hv.1⟩

def dotsB (s : ByteArray) : Bool := s.toList == [46] || s.toList == [46, 46]
set_option maxHeartbeats 400000 in
theorem dots_any (s : ByteArray) (w : World) : Calls Tryz.prog 28 #[.string s] w fun e w' => e = .returned (.bool (dotsB s)) ∧ w = w' := by
  cases h1 : (s.toList == [46]) with
  | true =>
    have H := hid (show dotsB s = true by simp [dotsB, h1])
    go_enter Tryz.func28, Tryz.ntmps28
    go_wp2
    go_ret
    exact ⟨by rw [H.out]; rfl, rfl⟩
  | false =>
    cases h2 : (s.toList == [46, 46]) with
    | true =>
      have H := hid (show dotsB s = true by simp [dotsB, h2])
      go_enter Tryz.func28, Tryz.ntmps28
      go_wp2
      go_ret
      exact ⟨by rw [H.out]; rfl, rfl⟩
    | false =>
      have H := hid (show dotsB s = false by simp [dotsB, h1, h2])
      go_enter Tryz.func28, Tryz.ntmps28
      go_wp2
      go_ret
      exact ⟨by rw [H.out]; rfl, rfl⟩

end Go.Proofs.YtbjibkjenleloaaGreatDoor

end

section
namespace Go.Proofs.YtbjibkjenleloaaGreatDoor
set_option linter.unusedVariables false
set_option linter.unusedSimpArgs false
open Go.RowKit Go.Shelf
attribute [local go_sem ↓] Go.wp_at_zero Go.wp_at_succ

/-- the components of a text -/
def cutBad (s : ByteArray) : Bool := (parts s).any fun x => decide (12 < x.size)
def stepsL (s : ByteArray) : List ByteArray := (parts s).filter fun x => decide (x.size ≠ 0)
def lastDots (L : List ByteArray) : Bool := match L.getLast? with | some x => dotsB x | none => false
def slashEnd (s : ByteArray) : Bool := Lib.hasSuffix s.data.toList [47]
def slashHead (s : ByteArray) : Bool := Lib.hasPrefix s.data.toList [47]
def dirB (s : ByteArray) : Bool := slashEnd s || lastDots (stepsL s)

theorem prefix_slash (s : ByteArray) (w : World) : Calls Tryz.prog 78 #[.string s, .string slashB] w fun e w' => e = .returned (.bool (slashHead s)) ∧ w' = w :=
  Any.strings_HasPrefix Tryz.hasPrefix s slashB w
theorem suffix_slash (s : ByteArray) (w : World) (hs : s.size ≤ 9223372036854775807) : Calls Tryz.prog 112 #[.string s, .string slashB] w fun e w' => e = .returned (.bool (slashEnd s)) ∧ w' = w :=
  Any.strings_HasSuffix Tryz.hasSuffix s slashB w hs
theorem size_nil (x : ByteArray) : x.size = 0 ↔ x.toList = [] := by
  rw [ByteArray.toList_eq]
  obtain ⟨⟨l⟩⟩ := x
  simp [ByteArray.size]
theorem steps_le (s : ByteArray) : (stepsL s).length ≤ s.size + 1 := Nat.le_trans (List.length_filter_le _ _) (parts_le s)
theorem filter_more {α : Type} {p : α → Bool} {L : List α} {k : Nat} {x : α} (hx : L[k]? = some x) (hp : p x = true) : (L.take (k + 1)).filter p = (L.take k).filter p ++ [x] := by
  rw [List.take_add_one, hx, List.filter_append]; simp [hp]
theorem filter_less {α : Type} {p : α → Bool} {L : List α} {k : Nat} {x : α} (hx : L[k]? = some x) (hp : p x = false) : (L.take (k + 1)).filter p = (L.take k).filter p := by
  rw [List.take_add_one, hx, List.filter_append]; simp [hp]

set_option maxRecDepth 100000 in
set_option maxHeartbeats 1000000 in
theorem cut_any (s : ByteArray) (w : World) (hs : s.size ≤ 4096) :
    Calls Tryz.prog 79 #[.string s] w fun e w' => Hid (cutBad s = true ∧ e = .returned (.tuple #[.slice none 0 0, .bool false, .int .i64 11]) ∧ Below w.heap.size w w' ∨
      cutBad s = false ∧ (∃ a c, e = .returned (.tuple #[.slice a (stepsL s).length c, .bool (dirB s), .int .i64 0]) ∧ w'.ownsRow w.heap.size 9 1 (.slice a (stepsL s).length c) (stepsL s).length (srow (stepsL s))) ∧ Below w.heap.size w w') := by
  obtain ⟨i1, hi1, hy0, hy1, hy2⟩ := info_parts infoStr
  have HI := hid hi1
  have HPL := hid (parts_le s)
  have HPP := hid (parts_pos s)
  obtain ⟨n, hn⟩ : ∃ n, n = (parts s).length := ⟨_, rfl⟩
  have HN := hid hn
  have hn9 : n ≤ 4097 := by have := parts_le s; omega
  clear hi1 hn
  go_enter Tryz.func79, Tryz.ntmps79
  go_wp2_with fail
  refine (split_slash s w (by omega)).mono ?_; rintro e w1 ⟨rfl, hw1⟩
  rw [← HN.out]
  have HRD := hid (show Rd w1 (.slice (some ⟨w.heap.size, 0, none⟩) n n) n (srow (parts s)) by
    rw [hw1]; exact rd_blk (cs := srow (parts s)) (heap_new w _) (by unfold maxLen; omega))
  have HB1 := hid (show Below w.heap.size w w1 by rw [hw1]; exact bl1 w _)
  have HSZ := hid (show w1.heap.size = w.heap.size + 1 by rw [hw1]; simp)
  clear hw1
  go_wp2_with fail
  go_loopw [2, 10] (fun v2 v10 wr => ∃ (k : Nat) (a : Option Addr) (c : Nat) (L : List ByteArray), k ≤ n ∧ v10 = .int .i64 k ∧ v2 = .slice a L.length c ∧ L.length ≤ k ∧ Hid (L = ((parts s).take k).filter fun x => decide (x.size ≠ 0)) ∧ Hid (((parts s).take k).any (fun x => decide (12 < x.size)) = false) ∧ Hid (Below w1.heap.size w1 wr) ∧ Hid (wr.ownsRow w1.heap.size 9 1 (.slice a L.length c) L.length (srow L))) (fun _ v10 _ => n - (intOf v10).toNat)
  case atStart => exact ⟨0, none, 0, [], Nat.zero_le _, rfl, rfl, by simp, hid (by simp), hid (by simp), hid (Below.refl _ _), hid (World.ownsRow_nil _ _ _ _)⟩
  case round =>
    obtain ⟨k, a, c, L, hk, rfl, rfl, hLk, HL, HA, HB, HO⟩ := hrel
    obtain ⟨wk, hwk⟩ : ∃ wk, wk = wr := ⟨_, rfl⟩
    subst hwk
    have hsz := HB.out.size
    by_cases hlt : k < n
    · obtain ⟨x, hx⟩ : ∃ x, (parts s)[k]? = some x := ⟨_, List.getElem?_eq_getElem (by have := HN.out; omega)⟩
      have c1 := st_at (HRD.out.below HB.out) hx
      have HX := hid hx
      have hk0 : (0 : Int) ≤ (k : Int) := by omega
      have hk1 : (k : Int) < (n : Int) := by omega
      clear hx
      by_cases hbig : 12 < x.size
      · have HBAD := hid (show cutBad s = true from List.any_eq_true.2 ⟨x, List.mem_of_getElem? HX.out, by simpa using hbig⟩)
        have hb1 : (x.size : Int) > 12 := by omega
        clear hbig
        go_wp2
        go_ret3
        exact hid (.inl ⟨HBAD.out, rfl, HB1.out.trans (HB.out.mono HB1.out.size)⟩)
      · have HA2 := hid (show ((parts s).take (k + 1)).any (fun x => decide (12 < x.size)) = false by
          rw [List.take_add_one, HX.out, List.any_append, HA.out]; simp [hbig])
        have hb1 : ¬ (x.size : Int) > 12 := by omega
        by_cases h0 : x.size = 0
        · have HL2 := hid (show L = ((parts s).take (k + 1)).filter fun x => decide (x.size ≠ 0) by rw [filter_less HX.out (by simp [h0])]; exact HL.out)
          have hn1 := (size_nil x).1 h0
          have hn0 : x.toList.isEmpty = true := by simp [hn1]
          clear hbig h0
          go_wp2
          exact ⟨⟨k + 1, a, c, L, by omega, by go_num, rfl, by omega, HL2, HA2, HB, HO⟩, by simp [intOf]; omega⟩
        · have HL2 := hid (show L ++ [x] = ((parts s).take (k + 1)).filter fun x => decide (x.size ≠ 0) by rw [filter_more HX.out (by simp [h0]), HL.out])
          have hn1 : x.toList ≠ [] := fun h => h0 ((size_nil x).2 h)
          have hn0 : x.toList.isEmpty = false := by simpa using hn1
          clear hbig h0 hn1
          go_wp2_with (at_builtin; refine wpList_append_rd rfl _ _ 41 rfl w1.heap.size 9 i1 _ 1 16 Tryz.underlying41 HI.out hy0 hy1 hy2 rfl (by decide) (.slice a L.length c) L.length (srow L) rfl (own_alloc HO.out _) (.slice (some ⟨wk.heap.size, 0, none⟩) 1 1) 1 [.string x] rfl (rd_blk (heap_new wk _) (by unfold maxLen; omega)) rfl (by intro u hu; simp at hu; subst hu; rfl) (by unfold maxLen; omega) (by omega) (by simp; omega) ?_; intro a2 c2 w2 hown2 hgrow2 hat2)
          have HB2 := hid ((HB.out.alloc hsz (.cells #[.string x] 9)).grown hgrow2 (by simp; omega) fun k hk => (own_lt HO.out hk).1)
          exact ⟨⟨k + 1, a2, c2, L ++ [x], by omega, by go_num, by rw [List.length_append]; rfl, by rw [List.length_append]; simp; omega, HL2, HA2, HB2, hid (by rw [List.length_append, srow_snoc]; exact hown2)⟩, by simp [intOf]; omega⟩
    · have hkn : k = n := by omega
      have HLE := hid (show L = stepsL s by have := HL.out; rwa [List.take_of_length_le (by have := HN.out; omega)] at this)
      have HGD := hid (show cutBad s = false by have := HA.out; rwa [List.take_of_length_le (by have := HN.out; omega)] at this)
      have HBW := hid (HB1.out.trans (HB.out.mono HB1.out.size))
      have HOW := hid (ownsRow_mono HO.out HB1.out.size)
      clear hkn
      go_wp2_with fail
      refine (suffix_slash s _ (by omega)).mono ?_; rintro e w3 ⟨rfl, rfl⟩
      cases hse : slashEnd s with
      | true =>
        have HD := hid (show dirB s = true by simp [dirB, hse])
        clear hse
        go_wp2
        go_ret3
        rw [← HLE.out, HD.out]
        exact hid (.inr ⟨HGD.out, ⟨a, c, rfl, HOW.out⟩, HBW.out⟩)
      | false =>
        have HSE := hid hse
        clear hse
        by_cases hL0 : L = []
        · have HD := hid (show dirB s = false by simp [dirB, HSE.out, ← HLE.out, hL0, lastDots])
          subst hL0
          go_wp2
          go_ret3
          rw [← HLE.out, HD.out]
          exact hid (.inr ⟨HGD.out, ⟨a, c, rfl, HOW.out⟩, HBW.out⟩)
        · obtain ⟨L1, y, hLy⟩ : ∃ L1 y, L = L1 ++ [y] := ⟨L.dropLast, L.getLast hL0, (List.dropLast_concat_getLast hL0).symm⟩
          obtain ⟨g, o, rfl⟩ := st_loc (Rd.own HO.out) (List.length_pos_iff.2 hL0)
          have hpos : 0 < L.length := List.length_pos_iff.2 hL0
          have c1 := st_off (Rd.own HO.out) (show L[L.length - 1]? = some y by rw [hLy]; simp)
          have HD := hid (show dirB s = dotsB y by simp [dirB, HSE.out, ← HLE.out, hLy, lastDots])
          have hw1 : IntKind.i64.wrap ((L.length : Int) - 1) = ((L.length - 1 : Nat) : Int) := by rw [IntWalk.i64_in _ (by omega)]; omega
          have hp1 : (L.length : Int) > 0 := by omega
          have hp2 : ((L.length - 1 : Nat) : Int) < (L.length : Int) := by omega
          have hp3 : (0 : Int) ≤ ((L.length - 1 : Nat) : Int) := by omega
          have hp4 : (0 : Int) ≤ (L.length : Int) - 1 := by omega
          have hp5 : ((L.length : Int) - 1).toNat = L.length - 1 := by omega
          clear hL0 hLy
          go_wp2_with fail
          refine (dots_any y _).mono ?_; rintro e w4 ⟨rfl, rfl⟩
          go_wp2
          go_ret3
          rw [← HLE.out, HD.out]
          exact hid (.inr ⟨HGD.out, ⟨_, c, rfl, HOW.out⟩, HBW.out⟩)

end Go.Proofs.YtbjibkjenleloaaGreatDoor

end

section
namespace Go.Proofs.YtbjibkjenleloaaGreatDoor
set_option linter.unusedVariables false
set_option linter.unusedSimpArgs false
open Go.RowKit Go.Shelf
attribute [local go_sem ↓] Go.wp_at_zero Go.wp_at_succ

theorem results_tmp4 {fn : Func} {t u v x : Tmp} (h : fn.results = #[.tmp t, .tmp u, .tmp v, .tmp x]) (tmps : Array Value) (P : Program) (w : World) :
    (results fn tmps).run P w = .ok (.tuple #[tmps.getD t undef, tmps.getD u undef, tmps.getD v undef, tmps.getD x undef]) w := by
  simp [results, h]

def pathErr (s : ByteArray) : Int := if 96 < s.size then 13 else if (!slashHead s || hasR s [0]) = true then 12 else if cutBad s = true then 11 else 0
theorem rune_row {w : World} {o : Obj} (L : List Int) (hn : L.length ≤ maxLen) (ho : o = .cells (rns L).toArray 21) : Rd (w.alloc o) (.slice (some ⟨w.heap.size, 0, none⟩) L.length L.length) L.length (rns L) := by
  subst ho
  exact rd_blk (cs := rns L) (heap_new w _) hn

set_option maxRecDepth 100000 in
set_option maxHeartbeats 1000000 in
theorem split_any (s : ByteArray) (w : World) :
    Calls Tryz.prog 54 #[.string s] w fun e w' => Hid (pathErr s ≠ 0 ∧ e = .returned (.tuple #[.slice none 0 0, .bool false, .int .i64 (pathErr s)]) ∧ Below w.heap.size w w' ∨
      pathErr s = 0 ∧ (∃ a c, e = .returned (.tuple #[.slice a (stepsL s).length c, .bool (dirB s), .int .i64 0]) ∧ w'.ownsRow w.heap.size 9 1 (.slice a (stepsL s).length c) (stepsL s).length (srow (stepsL s))) ∧ Below w.heap.size w w') := by
  by_cases hbig : 96 < s.size
  · have HE := hid (show pathErr s = 13 by rw [pathErr, if_pos hbig])
    have hb1 : (s.size : Int) > 96 := by omega
    clear hbig
    go_enter Tryz.func54, Tryz.ntmps54
    go_wp2
    go_ret3
    exact hid (.inl ⟨by rw [HE.out]; decide, by rw [HE.out]; rfl, Below.refl _ _⟩)
  · have HS := hid (show s.size ≤ 96 by omega)
    have hb1 : ¬ (s.size : Int) > 96 := by omega
    cases hsh : slashHead s with
    | false =>
      have HE := hid (show pathErr s = 12 by rw [pathErr, if_neg hbig, if_pos (by simp [hsh])])
      have HH := hid hsh
      clear hbig hsh
      go_enter Tryz.func54, Tryz.ntmps54
      go_wp2_with fail
      refine (prefix_slash s _).mono ?_; rintro e w3 ⟨rfl, rfl⟩
      rw [HH.out]
      go_wp2
      go_ret3
      exact hid (.inl ⟨by rw [HE.out]; decide, by rw [HE.out]; rfl, Below.refl _ _⟩)
    | true =>
      have HH := hid hsh
      cases hz : hasR s [0] with
      | true =>
        have HE := hid (show pathErr s = 12 by rw [pathErr, if_neg hbig, if_pos (by simp [hsh, hz])])
        have HZ := hid hz
        clear hbig hsh hz
        go_enter Tryz.func54, Tryz.ntmps54
        go_wp2_with fail
        refine (prefix_slash s _).mono ?_; rintro e w3 ⟨rfl, rfl⟩
        rw [HH.out]
        go_wp2_with fail
        refine (has_any s _ [0] _ (rune_row [0] (by decide) rfl)).mono ?_; rintro e w4 ⟨rfl, hb4⟩
        have HB4 := hid ((bl1 w3 _).trans (hb4.mono (by simp)))
        rw [HZ.out]
        clear hb4
        go_wp2
        go_ret3
        exact hid (.inl ⟨by rw [HE.out]; decide, by rw [HE.out]; rfl, HB4.out⟩)
      | false =>
        have HP := hid (show pathErr s = if cutBad s = true then 11 else 0 by rw [pathErr, if_neg hbig, if_neg (by simp [hsh, hz])])
        have HZ := hid hz
        clear hbig hsh hz
        go_enter Tryz.func54, Tryz.ntmps54
        go_wp2_with fail
        refine (prefix_slash s _).mono ?_; rintro e w3 ⟨rfl, rfl⟩
        rw [HH.out]
        go_wp2_with fail
        refine (has_any s _ [0] _ (rune_row [0] (by decide) rfl)).mono ?_; rintro e w4 ⟨rfl, hb4⟩
        have HB4 := hid ((bl1 w3 _).trans (hb4.mono (by simp)))
        rw [HZ.out]
        clear hb4
        go_wp2_with fail
        refine (cut_any s _ (by have := HS.out; omega)).mono ?_; rintro e w5 hc
        rcases hc.out with ⟨h1, rfl, hb5⟩ | ⟨h1, ⟨a, c, rfl, ho5⟩, hb5⟩
        · have HE := hid (show pathErr s = 11 by rw [HP.out, if_pos h1])
          have HB5 := hid (HB4.out.trans (hb5.mono HB4.out.size))
          clear h1 hb5 hc
          go_wp2
          go_ret3
          exact hid (.inl ⟨by rw [HE.out]; decide, by rw [HE.out]; rfl, HB5.out⟩)
        · have HE := hid (show pathErr s = 0 by rw [HP.out, if_neg (by rw [h1]; decide)])
          have HB5 := hid (HB4.out.trans (hb5.mono HB4.out.size))
          have HO5 := hid (ownsRow_mono ho5 HB4.out.size)
          clear h1 hb5 hc ho5
          go_wp2
          go_ret3
          exact hid (.inr ⟨HE.out, ⟨a, c, rfl, HO5.out⟩, HB5.out⟩)

def tgtErr (s : ByteArray) : Int := if 96 < s.size then 13 else if (decide (s.size = 0) || hasR s [0]) = true then 12 else if cutBad s = true then 11 else 0
set_option maxRecDepth 100000 in
set_option maxHeartbeats 1000000 in
theorem target_any (s : ByteArray) (w : World) :
    Calls Tryz.prog 56 #[.string s] w fun e w' => Hid (tgtErr s ≠ 0 ∧ e = .returned (.tuple #[.slice none 0 0, .bool false, .bool false, .int .i64 (tgtErr s)]) ∧ Below w.heap.size w w' ∨
      tgtErr s = 0 ∧ (∃ a c, e = .returned (.tuple #[.slice a (stepsL s).length c, .bool (slashHead s), .bool (dirB s), .int .i64 0]) ∧ w'.ownsRow w.heap.size 9 1 (.slice a (stepsL s).length c) (stepsL s).length (srow (stepsL s))) ∧ Below w.heap.size w w') := by
  by_cases hbig : 96 < s.size
  · have HE := hid (show tgtErr s = 13 by rw [tgtErr, if_pos hbig])
    have hb1 : (s.size : Int) > 96 := by omega
    clear hbig
    go_enter Tryz.func56, Tryz.ntmps56
    go_wp2
    (try simp only [Exit.inBlock, Exit.then]); refine bodyPost_ret (results_tmp4 rfl _ _ _) rfl ?_
    exact hid (.inl ⟨by rw [HE.out]; decide, by rw [HE.out]; rfl, Below.refl _ _⟩)
  · have HS := hid (show s.size ≤ 96 by omega)
    have hb1 : ¬ (s.size : Int) > 96 := by omega
    by_cases h0 : s.size = 0
    · have HE := hid (show tgtErr s = 12 by rw [tgtErr, if_neg hbig, if_pos (by simp [h0])])
      have hn1 := (size_nil s).1 h0
      have hn0 : s.toList.isEmpty = true := by simp [hn1]
      clear hbig h0
      go_enter Tryz.func56, Tryz.ntmps56
      go_wp2
      (try simp only [Exit.inBlock, Exit.then]); refine bodyPost_ret (results_tmp4 rfl _ _ _) rfl ?_
      exact hid (.inl ⟨by rw [HE.out]; decide, by rw [HE.out]; rfl, Below.refl _ _⟩)
    · have hn1 : s.toList ≠ [] := fun h => h0 ((size_nil s).2 h)
      have hn0 : s.toList.isEmpty = false := by simpa using hn1
      cases hz : hasR s [0] with
      | true =>
        have HE := hid (show tgtErr s = 12 by rw [tgtErr, if_neg hbig, if_pos (by simp [hz])])
        have HZ := hid hz
        clear hbig h0 hz hn1
        go_enter Tryz.func56, Tryz.ntmps56
        go_wp2_with fail
        refine (has_any s _ [0] _ (rune_row [0] (by decide) rfl)).mono ?_; rintro e w4 ⟨rfl, hb4⟩
        have HB4 := hid ((bl1 w _).trans (hb4.mono (by simp)))
        rw [HZ.out]
        clear hb4
        go_wp2
        (try simp only [Exit.inBlock, Exit.then]); refine bodyPost_ret (results_tmp4 rfl _ _ _) rfl ?_
        exact hid (.inl ⟨by rw [HE.out]; decide, by rw [HE.out]; rfl, HB4.out⟩)
      | false =>
        have HP := hid (show tgtErr s = if cutBad s = true then 11 else 0 by rw [tgtErr, if_neg hbig, if_neg (by simp [h0, hz])])
        have HZ := hid hz
        clear hbig h0 hz hn1
        go_enter Tryz.func56, Tryz.ntmps56
        go_wp2_with fail
        refine (has_any s _ [0] _ (rune_row [0] (by decide) rfl)).mono ?_; rintro e w4 ⟨rfl, hb4⟩
        have HB4 := hid ((bl1 w _).trans (hb4.mono (by simp)))
        rw [HZ.out]
        clear hb4
        go_wp2_with fail
        refine (cut_any s _ (by have := HS.out; omega)).mono ?_; rintro e w5 hc
        rcases hc.out with ⟨h1, rfl, hb5⟩ | ⟨h1, ⟨a, c, rfl, ho5⟩, hb5⟩
        · have HE := hid (show tgtErr s = 11 by rw [HP.out, if_pos h1])
          have HB5 := hid (HB4.out.trans (hb5.mono HB4.out.size))
          clear h1 hb5 hc
          go_wp2
          (try simp only [Exit.inBlock, Exit.then]); refine bodyPost_ret (results_tmp4 rfl _ _ _) rfl ?_
          exact hid (.inl ⟨by rw [HE.out]; decide, by rw [HE.out]; rfl, HB5.out⟩)
        · have HE := hid (show tgtErr s = 0 by rw [HP.out, if_neg (by rw [h1]; decide)])
          have HB5 := hid (HB4.out.trans (hb5.mono HB4.out.size))
          have HO5 := hid (ownsRow_mono ho5 HB4.out.size)
          clear h1 hb5 hc ho5
          go_wp2_with fail
          refine (prefix_slash s _).mono ?_; rintro e w6 ⟨rfl, rfl⟩
          go_wp2
          (try simp only [Exit.inBlock, Exit.then]); refine bodyPost_ret (results_tmp4 rfl _ _ _) rfl ?_
          exact hid (.inr ⟨HE.out, ⟨a, c, rfl, HO5.out⟩, HB5.out⟩)

def chkErr (s : ByteArray) : Int := if 12 < s.size then 11 else if (decide (s.size = 0) || dotsB s || hasR s [0, 47]) = true then 10 else 0
set_option maxRecDepth 100000 in
set_option maxHeartbeats 1000000 in
theorem check_any (s : ByteArray) (w : World) :
    Calls Tryz.prog 8 #[.string s] w fun e w' => e = .returned (.int .i64 (chkErr s)) ∧ Below w.heap.size w w' := by
  by_cases hbig : 12 < s.size
  · have HE := hid (show chkErr s = 11 by rw [chkErr, if_pos hbig])
    have hb1 : (s.size : Int) > 12 := by omega
    clear hbig
    go_enter Tryz.func8, Tryz.ntmps8
    go_wp2
    go_ret
    exact ⟨by rw [HE.out]; rfl, Below.refl _ _⟩
  · have hb1 : ¬ (s.size : Int) > 12 := by omega
    by_cases h0 : s.size = 0
    · have HE := hid (show chkErr s = 10 by rw [chkErr, if_neg hbig, if_pos (by simp [h0])])
      have hn1 := (size_nil s).1 h0
      have hn0 : s.toList.isEmpty = true := by simp [hn1]
      clear hbig h0
      go_enter Tryz.func8, Tryz.ntmps8
      go_wp2
      go_ret
      exact ⟨by rw [HE.out]; rfl, Below.refl _ _⟩
    · have hn1 : s.toList ≠ [] := fun h => h0 ((size_nil s).2 h)
      have hn0 : s.toList.isEmpty = false := by simpa using hn1
      cases hd : dotsB s with
      | true =>
        have HE := hid (show chkErr s = 10 by rw [chkErr, if_neg hbig, if_pos (by simp [hd])])
        have HD := hid hd
        clear hbig h0 hd hn1
        go_enter Tryz.func8, Tryz.ntmps8
        go_wp2_with fail
        refine (dots_any s _).mono ?_; rintro e w4 ⟨rfl, rfl⟩
        rw [HD.out]
        go_wp2
        go_ret
        exact ⟨by rw [HE.out]; rfl, Below.refl _ _⟩
      | false =>
        have HP := hid (show chkErr s = if hasR s [0, 47] = true then 10 else 0 by
          rw [chkErr, if_neg hbig]; simp [h0, hd])
        have HD := hid hd
        clear hbig h0 hd hn1
        go_enter Tryz.func8, Tryz.ntmps8
        go_wp2_with fail
        refine (dots_any s _).mono ?_; rintro e w4 ⟨rfl, rfl⟩
        rw [HD.out]
        go_wp2_with fail
        refine (has_any s _ [0, 47] _ (rune_row [0, 47] (by decide) rfl)).mono ?_; rintro e w5 ⟨rfl, hb5⟩
        have HB5 := hid ((bl1 w _).trans (hb5.mono (by simp)))
        clear hb5
        cases hz : hasR s [0, 47] with
        | true =>
          have HE := hid (show chkErr s = 10 by rw [HP.out, if_pos hz])
          clear hz
          go_wp2
          go_ret
          exact ⟨by rw [HE.out]; rfl, HB5.out⟩
        | false =>
          have HE := hid (show chkErr s = 0 by rw [HP.out, if_neg (by rw [hz]; decide)])
          clear hz
          go_wp2
          go_ret
          exact ⟨by rw [HE.out]; rfl, HB5.out⟩

end Go.Proofs.YtbjibkjenleloaaGreatDoor

end

section
namespace Go.Proofs.YtbjibkjenleloaaGreatDoor
set_option linter.unusedVariables false
set_option linter.unusedSimpArgs false
open Go.RowKit Go.Shelf
attribute [local go_sem ↓] Go.wp_at_zero Go.wp_at_succ

def parErr (s : ByteArray) : Int := if pathErr s ≠ 0 then pathErr s else if (stepsL s).isEmpty || lastDots (stepsL s) then 10 else 0
theorem rd_prefix {w : World} {g n m c : Nat} {cs : List Value} (h : Rd w (.slice (some ⟨g, 0, none⟩) n c) n cs) (hm : m ≤ n) : Rd w (.slice (some ⟨g, 0, none⟩) m m) m (cs.take m) := by
  rcases h with ⟨hv, _⟩ | ⟨a, cap, hv, h1, h2, h3⟩
  · simp only [Value.slice.injEq] at hv
    cases hv.1
  · simp only [Value.slice.injEq, Option.some.injEq] at hv
    obtain ⟨rfl, _, rfl⟩ := hv
    refine .inr ⟨_, m, rfl, Nat.le_refl _, by omega, fun i x hx => h3 i x ?_⟩
    rw [List.getElem?_take] at hx
    split at hx
    · exact hx
    · cases hx

set_option maxRecDepth 100000 in
set_option maxHeartbeats 1000000 in
theorem parent_any (s : ByteArray) (w : World) :
    Calls Tryz.prog 55 #[.string s] w fun e w' => Hid (parErr s ≠ 0 ∧ e = .returned (.tuple #[.slice none 0 0, .string ByteArray.empty, .int .i64 (parErr s)]) ∧ Below w.heap.size w w' ∨
      parErr s = 0 ∧ (∃ g L1 y, stepsL s = L1 ++ [y] ∧ e = .returned (.tuple #[.slice (some ⟨g, 0, none⟩) L1.length L1.length, .string y, .int .i64 0]) ∧ w.heap.size ≤ g ∧ Rd w' (.slice (some ⟨g, 0, none⟩) L1.length L1.length) L1.length (srow L1)) ∧ Below w.heap.size w w') := by
  go_enter Tryz.func55, Tryz.ntmps55
  go_wp2_with fail
  refine (split_any s _).mono ?_; rintro e w1 hc
  rcases hc.out with ⟨h1, rfl, hb1⟩ | ⟨h1, ⟨a, c, rfl, ho1⟩, hb1⟩
  · have HE := hid (show parErr s = pathErr s by rw [parErr, if_pos h1])
    have HN := hid h1
    have HB := hid hb1
    have t1 : (pathErr s != 0) = true := by simp [h1]
    have t2 : (pathErr s == 0) = false := by simp [h1]
    clear h1 hb1 hc
    go_wp2
    go_ret3
    exact hid (.inl ⟨by rw [HE.out]; exact HN.out, by rw [HE.out]; rfl, HB.out⟩)
  · have HP := hid (show parErr s = if (stepsL s).isEmpty || lastDots (stepsL s) then 10 else 0 by rw [parErr, if_neg (by rw [h1]; simp)])
    have HB := hid hb1
    have HO := hid ho1
    obtain ⟨L, hL⟩ : ∃ L, L = stepsL s := ⟨_, rfl⟩
    rw [← hL] at HO HP
    rw [← hL]
    have hmax : L.length ≤ maxLen := (Rd.own HO.out).len
    unfold maxLen at hmax
    have HLD := hid hL
    clear h1 hb1 ho1 hc hL
    by_cases hL0 : L = []
    · have HE := hid (show parErr s = 10 by rw [HP.out, if_pos (by simp [hL0])])
      subst hL0
      have hw1 : IntKind.i64.wrap (((0 : Nat) : Int) - 1) = -1 := by decide
      go_wp2
      go_ret3
      exact hid (.inl ⟨by rw [HE.out]; decide, by rw [HE.out]; rfl, HB.out⟩)
    · obtain ⟨L1, y, hLy⟩ : ∃ L1 y, L = L1 ++ [y] := ⟨L.dropLast, L.getLast hL0, (List.dropLast_concat_getLast hL0).symm⟩
      obtain ⟨g, o, rfl⟩ := st_loc (Rd.own HO.out) (List.length_pos_iff.2 hL0)
      obtain ⟨m, hm⟩ : ∃ m, m = L1.length := ⟨_, rfl⟩
      have hLm : L.length = m + 1 := by rw [hLy, hm]; simp
      have HLM := hid hLm
      have ho0 : o = 0 := by
        obtain ⟨c0, hc0⟩ := (show ∃ c0, Value.slice (some ⟨g, o, none⟩) L.length c = .slice (some ⟨g, 0, none⟩) L.length c0 by
          rcases HO.out.2 with ⟨hv, _⟩ | ⟨g', cap, cur, hv, _⟩
          · cases hv
          · have h2 := hv
            simp only [Value.slice.injEq, Option.some.injEq, Addr.mk.injEq] at h2
            obtain ⟨⟨rfl, rfl, _⟩, _, rfl⟩ := h2
            exact ⟨_, rfl⟩)
        simp only [Value.slice.injEq, Option.some.injEq, Addr.mk.injEq] at hc0
        exact hc0.1.2.1
      subst ho0
      have c1 := st_at (Rd.own HO.out) (show L[m]? = some y by rw [hLy, hm]; simp)
      have HRD := hid (show Rd w1 (.slice (some ⟨g, 0, none⟩) m m) m (srow L1) by
        have h2 := rd_prefix (m := m) (Rd.own HO.out) (by omega)
        rwa [show (srow L).take m = srow L1 by rw [hLy, hm]; simp [srow]] at h2)
      have HBG := hid (show w.heap.size ≤ g from (own_lt HO.out rfl).1)
      have HLS := hid (show stepsL s = L1 ++ [y] by rw [← HLD.out]; exact hLy)
      have HPD := hid (show parErr s = if dotsB y = true then 10 else 0 by rw [HP.out, hLy]; simp [lastDots])
      have HCC := hid ((own_lt HO.out rfl).2)
      have hcap : L.length ≤ c := by
        rcases HO.out.2 with ⟨hv, _⟩ | ⟨g', cap, cur, hv, _, _, h1, _⟩
        · cases hv
        · simp only [Value.slice.injEq] at hv; obtain ⟨_, _, rfl⟩ := hv; exact h1
      rw [hLm]
      have hw1 : IntKind.i64.wrap (((m + 1 : Nat) : Int) - 1) = (m : Int) := by rw [IntWalk.i64_in _ (by omega)]; omega
      have hm9 : m + 1 ≤ 9223372036854775807 := by omega
      have hm8 : (m : Int) ≤ 9223372036854775806 := by omega
      have hm0 : (0 : Int) ≤ (m : Int) := by omega
      have hm1 : (m : Int) < ((m + 1 : Nat) : Int) := by omega
      have hm2 : (m : Int) ≤ (c : Int) := by omega
      have hm3 : ¬ (m : Int) < 0 := by omega
      rw [hm] at HRD
      have HMD := hid hm
      clear hL0 hLy hLm hm
      go_wp2_with fail
      refine (dots_any y _).mono ?_; rintro e w4 ⟨rfl, rfl⟩
      cases hd : dotsB y with
      | true =>
        have HE := hid (show parErr s = 10 by rw [HPD.out, if_pos hd])
        clear hd
        go_wp2
        go_ret3
        exact hid (.inl ⟨by rw [HE.out]; decide, by rw [HE.out]; rfl, HB.out⟩)
      | false =>
        have HE := hid (show parErr s = 0 by rw [HPD.out, if_neg (by rw [hd]; decide)])
        clear hd
        go_wp2_with fail
        go_quiet (fail)
        go_wp2
        go_ret3
        exact hid (.inr ⟨HE.out, ⟨g, L1, y, HLS.out, by rw [HMD.out]; rfl, HBG.out, HRD.out.below (below_drewN (Below.refl _ _) _)⟩, below_drewN HB.out _⟩)

end Go.Proofs.YtbjibkjenleloaaGreatDoor

end
