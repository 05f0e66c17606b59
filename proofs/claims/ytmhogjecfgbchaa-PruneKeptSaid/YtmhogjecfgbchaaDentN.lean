import Derived.Test.YtmhogjecfgbchaaDentM
namespace Go.Proofs.Ytmhogjecfgbchaa
set_option linter.unusedVariables false
set_option linter.unusedSimpArgs false
open Go.RowKit
open Go.Sort (PermIn SortedIn grow grow_grow alloc_eq_grow SWO)
attribute [local go_sem ↓] Go.wp_at_zero Go.wp_at_succ

instance : Inhabited Ke := ⟨⟨zeroE, 0, 0⟩⟩
instance : Inhabited En := ⟨zeroE⟩

def Ke.cells (x : Ke) : List Value := [.int .i64 x.e.key.dir, .string x.e.key.name, .bool x.e.neg, .int .i64 x.e.node.id, .int .i64 x.e.node.kind, .int .i64 x.e.node.mode, .string x.e.node.target, .int .i64 x.used]
def kvs (L : List Ke) : List Value := L.flatMap Ke.cells
def ecs (L : List En) : List Value := L.flatMap En.cells
theorem kvs_len (L : List Ke) : (kvs L).length = L.length * 8 := flatMap_len (f := Ke.cells) (sz := 8) (fun _ => rfl) L
theorem ecs_len (L : List En) : (ecs L).length = L.length * 7 := flatMap_len (f := En.cells) (sz := 7) (fun _ => rfl) L
theorem kvs_snoc (L : List Ke) (x : Ke) : kvs (L ++ [x]) = kvs L ++ x.cells := by simp [kvs]
theorem ecs_snoc (L : List En) (x : En) : ecs (L ++ [x]) = ecs L ++ x.cells := by simp [ecs]
theorem Ke.one (x : Ke) : ∀ u ∈ x.cells, u.oneCell' = true := by
  intro u hu; simp [Ke.cells] at hu; rcases hu with rfl | rfl | rfl | rfl | rfl | rfl | rfl | rfl <;> rfl
theorem En.one (x : En) : ∀ u ∈ x.cells, u.oneCell' = true := by
  intro u hu; simp [En.cells] at hu; rcases hu with rfl | rfl | rfl | rfl | rfl | rfl | rfl <;> rfl
theorem infoKe : (Try.prog.info? 78).map (fun i => (i.zero, i.size, i.bytes)) = some (some (.agg #[.int .i64 0, .string ByteArray.empty, .bool false, .int .i64 0, .int .i64 0, .int .i64 0, .string ByteArray.empty, .int .i64 0]), 8, 80) := by kernel_rfl
theorem infoEn : (Try.prog.info? 30).map (fun i => (i.zero, i.size, i.bytes)) = some (some (.agg #[.int .i64 0, .string ByteArray.empty, .bool false, .int .i64 0, .int .i64 0, .int .i64 0, .string ByteArray.empty]), 7, 72) := by kernel_rfl

/-! ### the two comparisons -/
def cmpU (x y : Ke) : Int := Lib.compareInt x.used y.used
theorem ltU (x y : Ke) : ltOf cmpU x y = decide (x.used < y.used) := by
  unfold ltOf cmpU Lib.compareInt
  by_cases h1 : x.used < y.used
  · simp [h1]
  · by_cases h2 : y.used < x.used <;> simp [h1, h2]
theorem swoU : SWO (ltOf cmpU) where
  irrefl x := by rw [ltU]; simp
  trans x y z h1 h2 := by rw [ltU] at *; simp at *; omega
  ntrans x y z h1 h2 := by rw [ltU] at *; simp at *; omega

set_option maxHeartbeats 1000000 in
theorem closeU (x y : Ke) (W : World) : Calls Try.prog 56 #[.agg #[.int .i64 x.e.key.dir, .string x.e.key.name, .bool x.e.neg, .int .i64 x.e.node.id, .int .i64 x.e.node.kind, .int .i64 x.e.node.mode, .string x.e.node.target, .int .i64 x.used], .agg #[.int .i64 y.e.key.dir, .string y.e.key.name, .bool y.e.neg, .int .i64 y.e.node.id, .int .i64 y.e.node.kind, .int .i64 y.e.node.mode, .string y.e.node.target, .int .i64 y.used]] W
    fun e w' => e = .returned (.int .i64 (cmpU x y)) ∧ ∃ q os', w' = grow (W.drewN q) os' := by
  have hcon := fun W' => AnyG.cmp_Compare_int Try.cmpInt x.used y.used W'
  change ∀ W', Calls Try.prog 57 _ _ _ at hcon
  unfold cmpU
  generalize Lib.compareInt x.used y.used = r at hcon ⊢
  go_enter Try.func56, Try.ntmps56
  go_wp2_with (go_at_call 57; refine (hcon _).mono ?_; rintro e w' ⟨rfl, rfl⟩)
  go_ret
  exact ⟨rfl, 0, _, by rw [alloc_eq_grow, alloc_eq_grow, grow_grow]; rfl⟩

/-! ### names -/
def nmLt (a b : ByteArray) : Bool := Op.bytesLess a.toList b.toList
theorem bl_irrefl : ∀ l : List UInt8, Op.bytesLess l l = false
  | [] => rfl
  | a :: l => by simp [Op.bytesLess, bl_irrefl l]
theorem bl_total : ∀ l m : List UInt8, Op.bytesLess l m = false → Op.bytesLess m l = false → l = m
  | [], [], _, _ => rfl
  | [], _ :: _, h, _ => by simp [Op.bytesLess] at h
  | _ :: _, [], _, h => by simp [Op.bytesLess] at h
  | a :: l, b :: m, h1, h2 => by
    simp only [Op.bytesLess, Bool.or_eq_false_iff, Bool.and_eq_false_iff, decide_eq_false_iff_not, beq_eq_false_iff_ne] at h1 h2
    have hab : a = b := by
      apply UInt8.le_antisymm
      · exact UInt8.not_lt.1 h2.1
      · exact UInt8.not_lt.1 h1.1
    subst hab
    have h3 := h1.2; have h4 := h2.2
    simp at h3 h4
    rw [bl_total l m h3 h4]
theorem bl_trans : ∀ l m n : List UInt8, Op.bytesLess l m = true → Op.bytesLess m n = true → Op.bytesLess l n = true
  | l, m, [], _, h => by cases m <;> simp [Op.bytesLess] at h
  | [], _, _ :: _, _, _ => rfl
  | a :: l, [], _ :: _, h, _ => by simp [Op.bytesLess] at h
  | a :: l, b :: m, c :: n, h1, h2 => by
    simp only [Op.bytesLess, Bool.or_eq_true, Bool.and_eq_true, decide_eq_true_eq, beq_iff_eq] at h1 h2 ⊢
    rcases h1 with h1 | ⟨rfl, h1⟩ <;> rcases h2 with h2 | ⟨rfl, h2⟩
    · exact .inl (UInt8.lt_trans h1 h2)
    · exact .inl h1
    · exact .inl h2
    · exact .inr ⟨rfl, bl_trans l m n h1 h2⟩
theorem nm_irrefl (a : ByteArray) : nmLt a a = false := bl_irrefl _
theorem nm_trans {a b c : ByteArray} (h1 : nmLt a b = true) (h2 : nmLt b c = true) : nmLt a c = true := bl_trans _ _ _ h1 h2
theorem toList_inj {a b : ByteArray} (h : a.toList = b.toList) : a = b := by
  have := bytes_beq a b
  rw [h] at this
  simpa using this.symm
theorem nm_total {a b : ByteArray} (h1 : nmLt a b = false) (h2 : nmLt b a = false) : a = b := toList_inj (bl_total _ _ h1 h2)
theorem nm_asymm {a b : ByteArray} (h : nmLt a b = true) : nmLt b a = false := by
  cases h2 : nmLt b a with
  | false => rfl
  | true => have := nm_trans h h2; rw [nm_irrefl] at this; cases this

def cmpS (a b : ByteArray) : Int := if nmLt a b = true then -1 else if (nmLt a b || a.toList == b.toList) = true then 0 else 1
def cmpN (x y : En) : Int := cmpS x.key.name y.key.name
theorem ltN (x y : En) : ltOf cmpN x y = nmLt x.key.name y.key.name := by
  unfold ltOf cmpN cmpS
  cases h1 : nmLt x.key.name y.key.name
  · by_cases h2 : (x.key.name.toList == y.key.name.toList) = true <;> simp [h2]
  · simp
theorem swoN : SWO (ltOf cmpN) where
  irrefl x := by rw [ltN]; exact nm_irrefl _
  trans x y z h1 h2 := by rw [ltN] at *; exact nm_trans h1 h2
  ntrans x y z h1 h2 := by
    rw [ltN] at *
    cases h3 : nmLt x.key.name z.key.name with
    | false => rfl
    | true =>
      cases h4 : nmLt y.key.name x.key.name with
      | true => have := nm_trans h4 h3; rw [h2] at this; cases this
      | false => have := nm_total h1 h4; rw [this, h2] at h3; cases h3

set_option maxHeartbeats 1000000 in
theorem cmp_string (a b : ByteArray) (w : World) : Calls Try.prog 60 #[.string a, .string b] w fun e w' => e = .returned (.int .i64 (cmpS a b)) ∧ w = w' := by
  unfold cmpS nmLt
  have hnan : ∀ (s : ByteArray) (w : World), Calls Try.prog 76 #[.string s] w fun e w' => e = .returned (.bool false) ∧ w = w' := by
    intro s w
    have hs : (s.toList == s.toList) = true := by simp
    go_enter Try.func76, Try.ntmps76
    go_wp2
    go_ret
    exact ⟨by simp, rfl⟩
  cases h1 : Op.bytesLess a.toList b.toList with
  | true =>
    go_enter Try.func60, Try.ntmps60
    go_wp2_with (go_at_call 76; refine (hnan _ _).mono ?_; rintro e wx ⟨rfl, rfl⟩)
    go_ret
    exact ⟨rfl, rfl⟩
  | false =>
    cases h2 : (a.toList == b.toList) with
    | true =>
      go_enter Try.func60, Try.ntmps60
      go_wp2_with (go_at_call 76; refine (hnan _ _).mono ?_; rintro e wx ⟨rfl, rfl⟩)
      go_ret
      exact ⟨rfl, rfl⟩
    | false =>
      go_enter Try.func60, Try.ntmps60
      go_wp2_with (go_at_call 76; refine (hnan _ _).mono ?_; rintro e wx ⟨rfl, rfl⟩)
      go_ret
      exact ⟨rfl, rfl⟩

set_option maxHeartbeats 1000000 in
theorem closeN (x y : En) (W : World) : Calls Try.prog 59 #[.agg #[.int .i64 x.key.dir, .string x.key.name, .bool x.neg, .int .i64 x.node.id, .int .i64 x.node.kind, .int .i64 x.node.mode, .string x.node.target], .agg #[.int .i64 y.key.dir, .string y.key.name, .bool y.neg, .int .i64 y.node.id, .int .i64 y.node.kind, .int .i64 y.node.mode, .string y.node.target]] W
    fun e w' => e = .returned (.int .i64 (cmpN x y)) ∧ ∃ q os', w' = grow (W.drewN q) os' := by
  unfold cmpN
  go_enter Try.func59, Try.ntmps59
  go_wp2_with (go_at_call 60; refine (cmp_string _ _ _).mono ?_; rintro e w' ⟨rfl, rfl⟩)
  go_ret
  exact ⟨rfl, 0, _, by rw [alloc_eq_grow, alloc_eq_grow, grow_grow]; rfl⟩

/-! ### sorting a row -/
theorem Chg.of_eq {F : Nat → Prop} {w w' : World} (h : w = w') : Chg F w w' := h ▸ Chg.refl _ _

theorem sort_used (w : World) (B : Nat) (a : Option Addr) (c : Nat) (L : List Ke) (h : w.ownsRow B 78 8 (.slice a L.length c) L.length (kvs L)) (hn : L.length < 4611686018427387904) :
    Calls Try.prog 55 #[.slice a L.length c, .func (.func 56) #[] #[]] w fun e w' => e = .returned (.tuple #[]) ∧ ∃ M : List Ke, M.Perm L ∧ M.Pairwise (fun x y => ¬ y.used < x.used) ∧ w'.ownsRow B 78 8 (.slice a M.length c) M.length (kvs M) ∧ Chg (fun k => B ≤ k) w w' := by
  by_cases h0 : 0 < L.length
  · obtain ⟨g, rfl, hBg, hgz, _, _⟩ := own_loc h h0
    have eg : ∀ args w, (callFunc 56 args).run Try.prog w = .ok (.enter 56 args) w := enters_of Try.func56 (by kernel_rfl) rfl
    have hcon := AnyQ.slices_SortFunc Try.sortKept 8 Try.isAgg78 Try.sizeOf78 Ke.cells (fun _ => rfl) (fun x => Ke.one x) cmpU swoU 56 #[] g 0 c L.toArray w eg (fun _ _ _ _ x y => closeU x y _) (holdsK_own (f := Ke.cells) (sz := 8) (fun _ => rfl) h) hgz (by simpa using hn)
    change Calls Try.prog 55 _ _ _ at hcon
    have e1 : (L.toArray.size) = L.length := by simp
    rw [e1] at hcon
    refine hcon.mono ?_
    rintro e w' ⟨rfl, d', n, os, hp, hs, rfl⟩
    have hp' : PermIn 0 L.toArray.size L.toArray d' := by rw [e1]; exact hp
    have hs' : SortedIn (ltOf cmpU) 0 L.toArray.size d' := by rw [e1]; exact hs
    obtain ⟨p1, p2⟩ := perm_sorted hp' hs'
    have hlen := p1.length_eq
    obtain ⟨o1, o2⟩ := own_sort (M := d'.toList) (m := n) (os := os) (f := Ke.cells) (sz := 8) (fun _ => rfl) h hlen
    refine ⟨rfl, d'.toList, p1, p2.imp (fun {x y} hxy => by rw [ltU] at hxy; simpa using hxy), ?_, o2.mono (fun i _ hi => by subst hi; exact hBg)⟩
    rw [hlen]; exact o1
  · have hl : L.length = 0 := by omega
    have hcon := AnyF.slices_SortFunc_none { Try.sortKept with } a c (.func (.func 56) #[] #[]) w
    change Calls Try.prog 55 _ _ _ at hcon
    rw [hl]
    refine hcon.mono ?_
    rintro e w' ⟨rfl, rfl⟩
    exact ⟨rfl, L, List.Perm.refl _, by rw [List.length_eq_zero_iff.1 hl]; exact List.Pairwise.nil, h, Chg.refl _ _⟩

theorem sort_names (w : World) (B : Nat) (a : Option Addr) (c : Nat) (L : List En) (h : w.ownsRow B 30 7 (.slice a L.length c) L.length (ecs L)) (hn : L.length < 4611686018427387904) :
    Calls Try.prog 58 #[.slice a L.length c, .func (.func 59) #[] #[]] w fun e w' => e = .returned (.tuple #[]) ∧ ∃ M : List En, M.Perm L ∧ M.Pairwise (fun x y => nmLt y.key.name x.key.name = false) ∧ w'.ownsRow B 30 7 (.slice a M.length c) M.length (ecs M) ∧ Chg (fun k => B ≤ k) w w' := by
  by_cases h0 : 0 < L.length
  · obtain ⟨g, rfl, hBg, hgz, _, _⟩ := own_loc h h0
    have eg : ∀ args w, (callFunc 59 args).run Try.prog w = .ok (.enter 59 args) w := enters_of Try.func59 (by kernel_rfl) rfl
    have hcon := AnyQ.slices_SortFunc Try.sortEnt 7 Try.isAgg30 Try.sizeOf30 En.cells (fun _ => rfl) (fun x => En.one x) cmpN swoN 59 #[] g 0 c L.toArray w eg (fun _ _ _ _ x y => closeN x y _) (holdsK_own (f := En.cells) (sz := 7) (fun _ => rfl) h) hgz (by simpa using hn)
    change Calls Try.prog 58 _ _ _ at hcon
    have e1 : (L.toArray.size) = L.length := by simp
    rw [e1] at hcon
    refine hcon.mono ?_
    rintro e w' ⟨rfl, d', n, os, hp, hs, rfl⟩
    have hp' : PermIn 0 L.toArray.size L.toArray d' := by rw [e1]; exact hp
    have hs' : SortedIn (ltOf cmpN) 0 L.toArray.size d' := by rw [e1]; exact hs
    obtain ⟨p1, p2⟩ := perm_sorted hp' hs'
    have hlen := p1.length_eq
    obtain ⟨o1, o2⟩ := own_sort (M := d'.toList) (m := n) (os := os) (f := En.cells) (sz := 7) (fun _ => rfl) h hlen
    refine ⟨rfl, d'.toList, p1, p2.imp (fun {x y} hxy => by rw [ltN] at hxy; exact hxy), ?_, o2.mono (fun i _ hi => by subst hi; exact hBg)⟩
    rw [hlen]; exact o1
  · have hl : L.length = 0 := by omega
    have hcon := AnyF.slices_SortFunc_none { Try.sortEnt with } a c (.func (.func 59) #[] #[]) w
    change Calls Try.prog 58 _ _ _ at hcon
    rw [hl]
    refine hcon.mono ?_
    rintro e w' ⟨rfl, rfl⟩
    exact ⟨rfl, L, List.Perm.refl _, by rw [List.length_eq_zero_iff.1 hl]; exact List.Pairwise.nil, h, Chg.refl _ _⟩

theorem uniq_sorted {α : Type} {r : α → α → Prop} : ∀ {M M0 : List α}, M.Perm M0 → M0.Pairwise r → M.Pairwise (fun x y => ¬ r y x) → M = M0
  | M, [], hp, _, _ => by simpa using hp
  | [], x :: T, hp, _, _ => by have := hp.length_eq; simp at this
  | y :: M, x :: T, hp, h0, h1 => by
    rw [List.pairwise_cons] at h0 h1
    have hxy : y = x := by
      rcases List.mem_cons.1 (hp.mem_iff.2 (List.mem_cons_self (a := x) (l := T))) with h | h
      · exact h.symm
      · rcases List.mem_cons.1 (hp.mem_iff.1 (List.mem_cons_self (a := y) (l := M))) with h2 | h2
        · exact h2
        · exact absurd (h0.1 y h2) (h1.1 x h)
    subst hxy
    rw [uniq_sorted (List.Perm.cons_inv hp) h0.2 h1.2]

end Go.Proofs.Ytmhogjecfgbchaa
