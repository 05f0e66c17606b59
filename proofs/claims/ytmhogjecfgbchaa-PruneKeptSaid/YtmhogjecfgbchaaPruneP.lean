import Derived.Test.YtmhogjecfgbchaaPruneF
namespace Go.Proofs.Ytmhogjecfgbchaa
set_option linter.unusedVariables false
set_option linter.unusedSimpArgs false
open Go.RowKit

/-! ### what Trim leaves, in plain words -/

theorem trN_ind {P : Ts → Prop} {neg : Int} (hN : ∀ s v, P s → (negL s.L : Int) > max neg 0 → vicL true s.L = some v → P (evT true s)) : ∀ (k : Nat) (s : Ts), P s → P (trN neg k s)
  | 0, s, h => h
  | k + 1, s, h => by
    unfold trN
    split
    · rename_i hc
      obtain ⟨v, hv⟩ := vic_some (L := s.L) (by omega)
      exact trN_ind hN k _ (hN s v h hc hv)
    · exact h
theorem trM_ind {P : Ts → Prop} {most : Int} (hM : ∀ s v, P s → (s.L.length : Int) > max most 0 → vicL false s.L = some v → P (evT false s)) : ∀ (k : Nat) (s : Ts), P s → P (trM most k s)
  | 0, s, h => h
  | k + 1, s, h => by
    unfold trM
    split
    · rename_i hc
      cases hv : vicL false s.L with
      | none => simpa [hv] using h
      | some v => simpa [hv] using trM_ind hM k _ (hM s v h hc hv)
    · exact h
theorem trim_ind {P : Ts → Prop} {most neg : Int} {s : Ts} (h : P s) (hE : ∀ b s v, P s → vicL b s.L = some v → P (evT b s)) : P (trimT most neg s) :=
  trM_ind (fun s v h _ hv => hE false s v h hv) _ _ (trN_ind (fun s v h _ hv => hE true s v h hv) _ _ h)

/-- where Trim stops -/
theorem trN_end {neg : Int} : ∀ (k : Nat) (s : Ts), s.L.length ≤ k → (s.L.map En.key).Nodup → (negL (trN neg k s).L : Int) ≤ max neg 0
  | 0, s, h, _ => by
    have := negL_le s.L
    show (negL s.L : Int) ≤ max neg 0
    omega
  | k + 1, s, h, hn => by
    unfold trN
    split
    · rename_i hc
      obtain ⟨v, hv⟩ := vic_some (L := s.L) (by omega)
      have hl := drop_len hn (vic_mem hv)
      refine trN_end k _ ?_ ?_
      · rw [evT_some hv]; show (dropL v.key s.L).length ≤ k; omega
      · rw [evT_some hv]; exact hn.sublist ((List.filter_sublist ..).map _)
    · omega
theorem trM_end {most : Int} : ∀ (k : Nat) (s : Ts), s.L.length ≤ k → (s.L.map En.key).Nodup → (∀ e ∈ s.L, upE e) → ((trM most k s).L.length : Int) ≤ max most 0
  | 0, s, h, _, _ => by
    show (s.L.length : Int) ≤ max most 0
    omega
  | k + 1, s, h, hn, hu => by
    unfold trM
    split
    · rename_i hc
      obtain ⟨v, hv⟩ := vic_leafy hn hu (fun e => by rw [e] at hc; simp at hc; omega)
      have hl := drop_len hn (vic_mem hv)
      rw [hv, Option.isSome_some, if_pos rfl]
      refine trM_end k _ ?_ ?_ ?_
      · rw [evT_some hv]; show (dropL v.key s.L).length ≤ k; omega
      · rw [evT_some hv]; exact hn.sublist ((List.filter_sublist ..).map _)
      · rw [evT_some hv]; exact fun e he => hu e (List.mem_filter.1 he).1
    · omega

/-- what goes and what stays -/
def goneP (G : List Ky) (e : En) : Bool := !G.any fun k => decide (k = e.key)
structure TInv (L : List En) (s : Ts) : Prop where
  flt : s.L = L.filter (goneP s.G)
  nod : s.G.Nodup
  mem : ∀ k ∈ s.G, ∃ e ∈ L, e.key = k
  len : s.G.length + s.L.length = L.length
theorem TInv.start (L : List En) (wh : Int → Bool) : TInv L ⟨L, wh, []⟩ := ⟨(List.filter_eq_self.2 (fun e _ => rfl)).symm, List.nodup_nil, by simp, by simp⟩
theorem TInv.nodup {L : List En} {s : Ts} (h : TInv L s) (hn : (L.map En.key).Nodup) : (s.L.map En.key).Nodup := by
  rw [h.flt]; exact hn.sublist ((List.filter_sublist ..).map _)
theorem TInv.sub {L : List En} {s : Ts} (h : TInv L s) {e : En} (he : e ∈ s.L) : e ∈ L := by rw [h.flt] at he; exact (List.mem_filter.1 he).1
theorem goneP_snoc (G : List Ky) (k : Ky) (e : En) : goneP (G ++ [k]) e = (goneP G e && !isK k e) := by
  unfold goneP isK; simp [Bool.not_or]
theorem TInv.step {L : List En} (hn : (L.map En.key).Nodup) {b : Bool} {s : Ts} {v : En} (h : TInv L s) (hv : vicL b s.L = some v) : TInv L (evT b s) := by
  have hvm := vic_mem hv
  have hvL := h.sub hvm
  have hnG : v.key ∉ s.G := fun hg => by
    rw [h.flt] at hvm
    have := (List.mem_filter.1 hvm).2
    simp [goneP] at this
    exact this _ hg rfl
  rw [evT_some hv]
  refine ⟨?_, ?_, ?_, ?_⟩
  · show dropL v.key s.L = L.filter (goneP (s.G ++ [v.key]))
    have hs := h.flt
    rw [dropL, hs, List.filter_filter]
    apply List.filter_congr; intro e _
    rw [goneP_snoc, Bool.and_comm]
  · show (s.G ++ [v.key]).Nodup
    rw [List.nodup_append]
    exact ⟨h.nod, by simp, fun a ha b hb => by simp at hb; subst hb; exact fun e => hnG (e ▸ ha)⟩
  · intro k hk
    rcases List.mem_append.1 hk with hk | hk
    · exact h.mem k hk
    · simp at hk; subst hk; exact ⟨v, hvL, rfl⟩
  · have hl := drop_len (h.nodup hn) hvm
    have := h.len
    show (s.G ++ [v.key]).length + (dropL v.key s.L).length = L.length
    rw [List.length_append, List.length_singleton]; omega
theorem trim_inv {L : List En} (hn : (L.map En.key).Nodup) (wh : Int → Bool) (most neg : Int) : TInv L (trimT most neg ⟨L, wh, []⟩) :=
  trim_ind (TInv.start L wh) (fun b s v h hv => h.step hn hv)
theorem key_eq {L : List En} (hn : (L.map En.key).Nodup) {x y : En} (hx : x ∈ L) (hy : y ∈ L) (h : x.key = y.key) : x = y := map_inj hn hx hy h

/-- PruneLeaves -/
theorem trim_leaves {L : List En} (hn : (L.map En.key).Nodup) (wh : Int → Bool) (most neg : Int) {s : Ts} (hs : s = trimT most neg ⟨L, wh, []⟩) :
    ∀ y ∈ L, y.neg = false → s.L.any (isK y.key) = true ∨ ∀ x ∈ s.L, x.key.dir ≠ y.node.id := by
  have key : TInv L s ∧ ∀ y ∈ L, y.neg = false → s.L.any (isK y.key) = true ∨ ∀ x ∈ s.L, x.key.dir ≠ y.node.id := by
    rw [hs]
    refine trim_ind (P := fun s => TInv L s ∧ ∀ y ∈ L, y.neg = false → s.L.any (isK y.key) = true ∨ ∀ x ∈ s.L, x.key.dir ≠ y.node.id) ⟨TInv.start L wh, fun y hy _ => .inl (List.any_eq_true.2 ⟨y, hy, by simp [isK]⟩)⟩ ?_
    rintro b s v ⟨hI, hP⟩ hv
    refine ⟨hI.step hn hv, fun y hy hng => ?_⟩
    have hvm := vic_mem hv
    rw [evT_some hv]
    show (dropL v.key s.L).any (isK y.key) = true ∨ ∀ x ∈ dropL v.key s.L, x.key.dir ≠ y.node.id
    rcases hP y hy hng with h | h
    · obtain ⟨z, hz, hzk⟩ := List.any_eq_true.1 h
      simp only [isK, decide_eq_true_eq] at hzk
      have hzy := key_eq hn (hI.sub hz) hy hzk.symm
      subst hzy
      by_cases hk : v.key = z.key
      · have hvz := key_eq hn (hI.sub hvm) hy hk
        subst hvz
        right
        intro x hx
        have hx2 := (List.mem_filter.1 hx).1
        have hvP := List.find?_some hv
        cases b with
        | true => rw [vicP_true, hng] at hvP; cases hvP
        | false =>
          rw [vicP_false, leafL, find_mem (hI.nodup hn) hvm] at hvP
          simp only [hng, Bool.not_eq_true', List.any_eq_false, beq_iff_eq] at hvP
          exact hvP x hx2
      · left
        exact List.any_eq_true.2 ⟨z, List.mem_filter.2 ⟨hz, by simp [isK, hk]⟩, by simp [isK]⟩
    · right
      intro x hx
      exact h x (List.mem_filter.1 hx).1
  exact key.2

/-- PruneWhole -/
theorem filter_drop_same {L : List En} {v : En} {d : Int} (hn : (L.map En.key).Nodup) (hv : v ∈ L) (hd : inDir d v = false) : (dropL v.key L).filter (inDir d) = L.filter (inDir d) := by
  rw [dropL, List.filter_filter]
  apply List.filter_congr; intro e he
  by_cases hk : v.key = e.key
  · have := key_eq hn hv he hk; subst this; simp [hd]
  · simp [isK, hk]
theorem trim_whole {L : List En} (hn : (L.map En.key).Nodup) (wh : Int → Bool) (most neg d : Int) {s : Ts} (hs : s = trimT most neg ⟨L, wh, []⟩) :
    s.wh d = true → wh d = true ∧ s.L.filter (inDir d) = L.filter (inDir d) := by
  have key : TInv L s ∧ (s.wh d = true → wh d = true ∧ s.L.filter (inDir d) = L.filter (inDir d)) := by
    rw [hs]
    refine trim_ind (P := fun s => TInv L s ∧ (s.wh d = true → wh d = true ∧ s.L.filter (inDir d) = L.filter (inDir d))) ⟨TInv.start L wh, fun h => ⟨h, rfl⟩⟩ ?_
    rintro b s v ⟨hI, hP⟩ hv
    refine ⟨hI.step hn hv, fun hw => ?_⟩
    have hvm := vic_mem hv
    rw [evT_some hv] at hw ⊢
    have hw : evictWh v.key s.L s.wh d = true := hw
    rw [evictWh, find_mem (hI.nodup hn) hvm] at hw
    simp only [Option.any_some, Bool.and_eq_true, Bool.not_eq_true', Bool.and_eq_false_iff] at hw
    obtain ⟨h1, h2⟩ := hP hw.1
    refine ⟨h1, ?_⟩
    rw [← h2]
    refine filter_drop_same (hI.nodup hn) hvm ?_
    unfold inDir
    rcases hw.2 with h | h
    · have : v.neg = true := by simpa using h
      simp [this]
    · simp [h]
  exact key.2

/-- PruneBounds -/
theorem negL_one {L : List En} {v : En} (hn : (L.map En.key).Nodup) (hv : v ∈ L) (hng : v.neg = true) : negL (dropL v.key L) + 1 = negL L := by
  have h := drop_len (L := L.filter fun e => e.neg) (hn.sublist ((List.filter_sublist ..).map _)) (List.mem_filter.2 ⟨hv, hng⟩)
  rw [negL, negL, List.countP_eq_length_filter, List.countP_eq_length_filter, ← h]
  rw [dropL, dropL, List.filter_filter, List.filter_filter]
  congr 2
  apply List.filter_congr; intro e _; rw [Bool.and_comm]
theorem trim_neg_le {L : List En} (hn : (L.map En.key).Nodup) (wh : Int → Bool) (most neg : Int) : (negL (trimT most neg ⟨L, wh, []⟩).L : Int) ≤ max neg 0 :=
  trM_ind (P := fun s => (negL s.L : Int) ≤ max neg 0) (fun s v h _ hv => by
    rw [evT_some hv]
    have := negL_drop (L := s.L) (v := v)
    show (negL (dropL v.key s.L) : Int) ≤ max neg 0
    omega) _ _ (trN_end _ _ (Nat.le_refl _) hn)
theorem trN_up {neg : Int} {L : List En} (hu : ∀ e ∈ L, upE e) (hn : (L.map En.key).Nodup) (k : Nat) (s : Ts) (h : (∀ e ∈ s.L, upE e) ∧ (s.L.map En.key).Nodup) : (∀ e ∈ (trN neg k s).L, upE e) ∧ ((trN neg k s).L.map En.key).Nodup :=
  trN_ind (P := fun s => (∀ e ∈ s.L, upE e) ∧ (s.L.map En.key).Nodup) (fun s v h _ hv => by
    rw [evT_some hv]
    exact ⟨fun e he => h.1 e (List.mem_filter.1 he).1, h.2.sublist ((List.filter_sublist ..).map _)⟩) k s h
theorem trim_len_le {L : List En} (hn : (L.map En.key).Nodup) (hu : ∀ e ∈ L, upE e) (wh : Int → Bool) (most neg : Int) : ((trimT most neg ⟨L, wh, []⟩).L.length : Int) ≤ max most 0 := by
  obtain ⟨h1, h2⟩ := trN_up (neg := neg) hu hn L.length ⟨L, wh, []⟩ ⟨hu, hn⟩
  exact trM_end _ _ (Nat.le_refl _) h2 h1
theorem trim_room_neg {L : List En} (hn : (L.map En.key).Nodup) (wh : Int → Bool) (most neg : Int) (hl : (L.length : Int) ≤ most) (hg : 0 < (trimT most neg ⟨L, wh, []⟩).G.length) : neg ≤ (negL (trimT most neg ⟨L, wh, []⟩).L : Int) := by
  have h1 : TInv L (trN neg L.length ⟨L, wh, []⟩) ∧ ((trN neg L.length ⟨L, wh, []⟩).G = [] ∨ neg ≤ (negL (trN neg L.length ⟨L, wh, []⟩).L : Int)) := by
    refine trN_ind (P := fun s => TInv L s ∧ (s.G = [] ∨ neg ≤ (negL s.L : Int))) ?_ _ _ ⟨TInv.start L wh, .inl rfl⟩
    rintro s v ⟨hI, _⟩ hc hv
    refine ⟨hI.step hn hv, .inr ?_⟩
    have hvP := List.find?_some hv
    rw [vicP_true] at hvP
    have := negL_one (hI.nodup hn) (vic_mem hv) hvP
    rw [evT_some hv]
    show neg ≤ (negL (dropL v.key s.L) : Int)
    omega
  have h2 : trimT most neg ⟨L, wh, []⟩ = trN neg L.length ⟨L, wh, []⟩ := by
    have := h1.1.len
    exact trM_stop (s := trN neg L.length ⟨L, wh, []⟩) (by omega)
  rw [h2] at hg ⊢
  rcases h1.2 with h | h
  · rw [h] at hg; simp at hg
  · exact h
theorem trim_again {L : List En} (wh : Int → Bool) (most neg : Int) (h1 : (L.length : Int) ≤ max most 0) (h2 : (negL L : Int) ≤ max neg 0) : trimT most neg ⟨L, wh, []⟩ = ⟨L, wh, []⟩ := by
  unfold trimT
  rw [trN_stop (s := ⟨L, wh, []⟩) (by show ¬ (negL L : Int) > max neg 0; omega)]
  exact trM_stop (s := ⟨L, wh, []⟩) (by show ¬ (L.length : Int) > max most 0; omega)

/-- a list and what a test leaves of it, side by side -/
theorem filter_at {p : En → Bool} {L : List En} {i : Nat} {y : En} (h : L[i]? = some y) (hp : p y = true) : (L.filter p)[((L.take i).filter p).length]? = some y := by
  have hlt := (List.getElem?_eq_some_iff.1 h).1
  conv => lhs; lhs; rw [← List.take_append_drop i L]
  rw [List.filter_append, List.getElem?_append_right (Nat.le_refl _), Nat.sub_self, List.drop_eq_getElem_cons hlt, (List.getElem?_eq_some_iff.1 h).2, List.filter_cons_of_pos hp]
  rfl
theorem filter_ne {p : En → Bool} {L : List En} {k : Nat} {x y : En} (h : (L.filter p)[k]? = some x) (hp : p y = false) : x ≠ y := by
  rintro rfl
  have := (List.mem_filter.1 (List.mem_of_getElem? h)).2
  rw [hp] at this; cases this
theorem gone_yes {L : List En} {s : Ts} (h : TInv L s) {y : En} (hy : goneP s.G y = false) : s.G.count y.key = 1 := by
  have hm : y.key ∈ s.G := by
    unfold goneP at hy
    simp only [Bool.not_eq_false', List.any_eq_true, decide_eq_true_eq] at hy
    obtain ⟨k, hk, rfl⟩ := hy; exact hk
  have h1 := List.nodup_iff_count.1 h.nod y.key
  have h2 := List.count_pos_iff.2 hm
  omega

end Go.Proofs.Ytmhogjecfgbchaa
