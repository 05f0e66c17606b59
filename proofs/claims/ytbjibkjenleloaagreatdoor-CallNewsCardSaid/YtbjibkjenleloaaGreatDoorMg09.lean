/- Parts of a proof about the given program, in build order: WlkD, WlkE, WlkF. No condition. -/
import Derived.Test.YtbjibkjenleloaaGreatDoorMg08
import Derived.ScopeJumps
import Derived.WalkMore
section
namespace Go.Proofs.YtbjibkjenleloaaGreatDoor
set_option linter.unusedVariables false
set_option linter.unusedSimpArgs false
open Go.RowKit
attribute [local go_sem ↓] Go.wp_at_zero Go.wp_at_succ

/-! ### a scope with jumps to several labels -/
def jumpM (J : Nat → Act → World → Prop) (Q : Exit → Act → World → Prop) : Exit → Act → World → Prop
  | .goto l, a, w => J l a w
  | e, a, w => Q e a w
theorem wp_scope_multi {P : Program} {a : Act} {w : World} {Q : Exit → Act → World → Prop} {c : Code} (J : Nat → Act → World → Prop) (μ : Nat → Act → World → Nat) (rest : Nat → Code) (hf : ∀ l a w, J l a w → findLabel c l = some (rest l))
    (first : c.wp P (jumpM J Q) a w)
    (pass : ∀ l a w, J l a w → (rest l).wp P (jumpM (fun l' a' w' => J l' a' w' ∧ μ l' a' w' < μ l a w) Q) a w) : (Code.scope c).wp P Q a w := by
  intro b k cs
  have hg : ∀ l a w, J l a w → gotoIn l (.inScope c :: k) = some (.code (rest l) :: .inScope c :: k) := fun l a w h => by simp [gotoIn, hf l a w h]
  have key : ∀ n l a w, μ l a w = n → J l a w → ∃ e a' w', Q e a' w' ∧ Arrives P (lone (b.at a (.code (rest l) :: .inScope c :: k)) cs w) b k cs e a' w' := by
    intro n
    induction n using Nat.strongRecOn with
    | _ n ih =>
      intro l a w hn hJ
      obtain ⟨e, a₁, w₁, hq, harr⟩ := pass l a w hJ b (.inScope c :: k) cs
      cases e with
      | normal => exact ⟨.normal, a₁, w₁, hq, Steps.trans harr (.one step_inScope)⟩
      | exit id => exact ⟨.exit id, a₁, w₁, hq, fun k' hk => harr k' (by simp [exitTo, hk])⟩
      | goto l' =>
        obtain ⟨hJ', hlt⟩ := hq
        obtain ⟨e₂, a₂, w₂, hq₂, harr₂⟩ := ih _ (by omega) l' a₁ w₁ rfl hJ'
        exact ⟨e₂, a₂, w₂, hq₂, .of_steps (harr _ (hg l' a₁ w₁ hJ')) harr₂⟩
      | ret => exact ⟨_, a₁, w₁, hq, harr⟩
      | panic ch => exact ⟨_, a₁, w₁, hq, harr⟩
      | outgrown => exact ⟨_, a₁, w₁, hq, harr⟩
  obtain ⟨e, a₁, w₁, hq, harr⟩ := first b (.inScope c :: k) cs
  cases e with
  | normal => exact ⟨.normal, a₁, w₁, hq, .head step_scope (Steps.trans harr (.one step_inScope))⟩
  | exit id => exact ⟨.exit id, a₁, w₁, hq, fun k' hk => .head step_scope (harr k' (by simp [exitTo, hk]))⟩
  | goto l' =>
    obtain ⟨e₂, a₂, w₂, hq₂, harr₂⟩ := key _ l' a₁ w₁ rfl hq
    exact ⟨e₂, a₂, w₂, hq₂, .of_steps (.head step_scope (harr _ (hg l' a₁ w₁ hq))) harr₂⟩
  | ret => exact ⟨_, a₁, w₁, hq, .of_steps (.one step_scope) harr⟩
  | panic ch => exact ⟨_, a₁, w₁, hq, .of_steps (.one step_scope) harr⟩
  | outgrown => exact ⟨_, a₁, w₁, hq, .of_steps (.one step_scope) harr⟩

/-! ### what a walk comes to -/
structure Ow where
  need : Bool
  key : Ky
  err : Int
  node : Nd
  used : List Ky
def nd0 : Nd := ⟨0, 0, 0, ByteArray.empty⟩
def ky0 : Ky := ⟨0, ByteArray.empty⟩
def dotT (s : ByteArray) : Bool := s.toList == [46]
def dot2T (s : ByteArray) : Bool := s.toList == [46, 46]
/-- a walk's steps: the nodes to where it stands (the last one is there), what is left, whether a directory is wanted, links left, keys used -/
inductive Wk (fresh L : List En) (wh : Int → Bool) (follow : Bool) : List Nd → Nd → List ByteArray → Bool → Int → List Ky → Ow → Prop
  | wrong (A : List Nd) (y : Nd) (dir : Bool) (k : Int) (U : List Ky) : (dir && y.kind != 1) = true → Wk fresh L wh follow A y [] dir k U ⟨false, ky0, 42, nd0, U⟩
  | done (A : List Nd) (y : Nd) (dir : Bool) (k : Int) (U : List Ky) : (dir && y.kind != 1) = false → Wk fresh L wh follow A y [] dir k U ⟨false, ky0, 0, y, U⟩
  | notdir (A : List Nd) (y : Nd) (s : ByteArray) (T : List ByteArray) (dir : Bool) (k : Int) (U : List Ky) : y.kind ≠ 1 → Wk fresh L wh follow A y (s :: T) dir k U ⟨false, ky0, 42, nd0, U⟩
  | dot (A : List Nd) (y : Nd) (s : ByteArray) (T : List ByteArray) (dir : Bool) (k : Int) (U : List Ky) (o : Ow) : y.kind = 1 → dotT s = true → Wk fresh L wh follow A y T dir k U o → Wk fresh L wh follow A y (s :: T) dir k U o
  | upRoot (y : Nd) (s : ByteArray) (T : List ByteArray) (dir : Bool) (k : Int) (U : List Ky) (o : Ow) : y.kind = 1 → dot2T s = true → Wk fresh L wh follow [] y T dir k U o → Wk fresh L wh follow [] y (s :: T) dir k U o
  | up (A : List Nd) (z y : Nd) (s : ByteArray) (T : List ByteArray) (dir : Bool) (k : Int) (U : List Ky) (o : Ow) : y.kind = 1 → dot2T s = true → Wk fresh L wh follow A z T dir k U o → Wk fresh L wh follow (A ++ [z]) y (s :: T) dir k U o
  | need (A : List Nd) (y : Nd) (s : ByteArray) (T : List ByteArray) (dir : Bool) (k : Int) (U : List Ky) : y.kind = 1 → dotT s = false → dot2T s = false → knW fresh L wh ⟨y.id, s⟩ = none → Wk fresh L wh follow A y (s :: T) dir k U ⟨true, ⟨y.id, s⟩, 0, nd0, U⟩
  | neg (A : List Nd) (y : Nd) (s : ByteArray) (T : List ByteArray) (dir : Bool) (k : Int) (U : List Ky) (x : En) : y.kind = 1 → dotT s = false → dot2T s = false → knW fresh L wh ⟨y.id, s⟩ = some x → x.neg = true → Wk fresh L wh follow A y (s :: T) dir k U ⟨false, ky0, 40, nd0, U ++ [⟨y.id, s⟩]⟩
  | go (A : List Nd) (y : Nd) (s : ByteArray) (T : List ByteArray) (dir : Bool) (k : Int) (U : List Ky) (x : En) (o : Ow) : y.kind = 1 → dotT s = false → dot2T s = false → knW fresh L wh ⟨y.id, s⟩ = some x → x.neg = false → (x.node.kind != 3 || (T.isEmpty && !dir && !follow)) = true → Wk fresh L wh follow (A ++ [y]) x.node T dir k (U ++ [⟨y.id, s⟩]) o → Wk fresh L wh follow A y (s :: T) dir k U o
  | loop (A : List Nd) (y : Nd) (s : ByteArray) (T : List ByteArray) (dir : Bool) (k : Int) (U : List Ky) (x : En) : y.kind = 1 → dotT s = false → dot2T s = false → knW fresh L wh ⟨y.id, s⟩ = some x → x.neg = false → (x.node.kind != 3 || (T.isEmpty && !dir && !follow)) = false → k ≤ 0 → Wk fresh L wh follow A y (s :: T) dir k U ⟨false, ky0, 49, nd0, U ++ [⟨y.id, s⟩]⟩
  | bad (A : List Nd) (y : Nd) (s : ByteArray) (T : List ByteArray) (dir : Bool) (k : Int) (U : List Ky) (x : En) : y.kind = 1 → dotT s = false → dot2T s = false → knW fresh L wh ⟨y.id, s⟩ = some x → x.neg = false → (x.node.kind != 3 || (T.isEmpty && !dir && !follow)) = false → 0 < k → tgtErr x.node.target ≠ 0 → Wk fresh L wh follow A y (s :: T) dir k U ⟨false, ky0, tgtErr x.node.target, nd0, U ++ [⟨y.id, s⟩]⟩
  | link (A : List Nd) (y : Nd) (s : ByteArray) (T : List ByteArray) (dir : Bool) (k : Int) (U : List Ky) (x : En) (o : Ow) : y.kind = 1 → dotT s = false → dot2T s = false → knW fresh L wh ⟨y.id, s⟩ = some x → x.neg = false → (x.node.kind != 3 || (T.isEmpty && !dir && !follow)) = false → 0 < k → tgtErr x.node.target = 0 → slashHead x.node.target = false →
      Wk fresh L wh follow A y (stepsL x.node.target ++ T) (dir || (T.isEmpty && dirB x.node.target)) (k - 1) (U ++ [⟨y.id, s⟩]) o → Wk fresh L wh follow A y (s :: T) dir k U o
  | linkRoot (A : List Nd) (y : Nd) (s : ByteArray) (T : List ByteArray) (dir : Bool) (k : Int) (U : List Ky) (x : En) (o : Ow) : y.kind = 1 → dotT s = false → dot2T s = false → knW fresh L wh ⟨y.id, s⟩ = some x → x.neg = false → (x.node.kind != 3 || (T.isEmpty && !dir && !follow)) = false → 0 < k → tgtErr x.node.target = 0 → slashHead x.node.target = true →
      Wk fresh L wh follow [] rootNd (stepsL x.node.target ++ T) (dir || (T.isEmpty && dirB x.node.target)) (k - 1) (U ++ [⟨y.id, s⟩]) o → Wk fresh L wh follow A y (s :: T) dir k U o

/-! ### the rest of a row of texts -/
theorem rd_srow_from {w : World} {a : Option Addr} {c : Nat} {T : List ByteArray} {s : ByteArray} (h : Rd w (.slice a (s :: T).length c) (s :: T).length (srow (s :: T))) :
    Rd w (.slice (if c = 1 then a else a.map (·.add 1)) T.length (c - 1)) T.length (srow T) := by
  obtain ⟨b, o, cap, hv, h1, h2, h3⟩ := h.form (by simp [srow])
  simp only [Value.slice.injEq] at hv
  obtain ⟨rfl, _, rfl⟩ := hv
  simp only [List.length_cons] at h1
  by_cases hc : c = 1
  · have hT : T = [] := List.eq_nil_of_length_eq_zero (by omega)
    subst hT
    rw [if_pos hc]
    refine .inr ⟨_, c - 1, rfl, Nat.zero_le _, by omega, fun i x hx => by simp [srow] at hx⟩
  · rw [if_neg hc]
    refine .inr ⟨_, c - 1, rfl, by omega, by omega, fun i x hx => ?_⟩
    have h4 := h3.2 (i + 1) x (by simpa [srow] using hx)
    rw [show o + (i + 1) = o + 1 + i by omega] at h4
    show w.cell? (Addr.add ⟨b, o + 1, none⟩ i) = some x
    rw [add_mid]
    exact h4

set_option maxRecDepth 100000 in
set_option maxHeartbeats 2000000 in
theorem met_any (w : World) (av : Value) (tv : Value) (T : List ByteArray) (dir : Bool) (tg : ByteArray) (hT : Rd w tv T.length (srow T)) (hTl : T.length ≤ 1000000) :
    Calls Tryz.prog 146 #[av, tv, .bool dir, .string tg] w fun e w' => Hid (tgtErr tg ≠ 0 ∧ e = .returned (.tuple #[av, tv, .bool dir, .int .i64 (tgtErr tg)]) ∨
      tgtErr tg = 0 ∧ ∃ a c, w'.ownsRow w.heap.size 9 1 (.slice a (stepsL tg ++ T).length c) (stepsL tg ++ T).length (srow (stepsL tg ++ T)) ∧
        (slashHead tg = false ∧ e = .returned (.tuple #[av, .slice a (stepsL tg ++ T).length c, .bool (dir || (T.isEmpty && dirB tg)), .int .i64 0]) ∨
         slashHead tg = true ∧ ∃ g, e = .returned (.tuple #[.slice (some ⟨g, 0, none⟩) 1 1, .slice a (stepsL tg ++ T).length c, .bool (dir || (T.isEmpty && dirB tg)), .int .i64 0]) ∧ w'.ownsRow w.heap.size 40 4 (.slice (some ⟨g, 0, none⟩) 1 1) 1 (ncs [rootNd]))) ∧ Below w.heap.size w w' := by
  obtain ⟨ta, tc, rfl, _, _⟩ := hT.shape
  obtain ⟨i1, hi1, hy0, hy1, hy2⟩ := info_parts infoStr
  have HI := hid hi1
  have HT := hid hT
  clear hT hi1
  go_enter Tryz.func146, Tryz.ntmps146
  go_wp2_with fail
  refine (target_any tg _).mono ?_; rintro e w1 hc
  rcases hc.out with ⟨h1, rfl, hb1⟩ | ⟨h1, ⟨a, c, rfl, ho1⟩, hb1⟩
  · have HE := hid h1
    have HB := hid hb1
    have t1 : (tgtErr tg != 0) = true := by simp [h1]
    clear h1 hb1 hc
    go_wp2
    (try simp only [Exit.inBlock, Exit.then]); refine bodyPost_ret (results_tmp4 rfl _ _ _) rfl ?_
    exact ⟨hid (.inl ⟨HE.out, rfl⟩), HB.out⟩
  · have HE := hid h1
    have HB := hid hb1
    obtain ⟨SL, hSL⟩ : ∃ SL, SL = stepsL tg := ⟨_, rfl⟩
    have hsl : SL.length ≤ 4097 := by
      rw [hSL]
      have h2 := steps_le tg
      have h3 : tg.size ≤ 96 := by
        unfold tgtErr at h1
        by_cases hb : 96 < tg.size
        · rw [if_pos hb] at h1; exact absurd h1 (by decide)
        · omega
      omega
    have HSL := hid hSL
    rw [← hSL] at ho1 ⊢
    have HO := hid ho1
    clear h1 hb1 hc ho1 hSL
    cases hw : slashHead tg with
    | false =>
      have HW := hid hw
      clear hw
      by_cases hT0 : T = []
      · have hz : T.length = 0 := by rw [hT0]; rfl
        have hz1 : ((T.length : Int) == 0) = true := by simp [hz]
        have hz2 : (T.length == 0) = true := by simp [hz]
        cases hd : dirB tg with
        | true =>
          have HD := hid (show (dir || (T.isEmpty && dirB tg)) = true by rw [hT0, hd]; simp)
          clear hT0 hz
          go_wp2_with (at_builtin; refine wpList_append_rd rfl _ _ 41 rfl w.heap.size 9 i1 _ 1 16 Tryz.underlying41 HI.out hy0 hy1 hy2 rfl (by decide) (.slice a SL.length c) SL.length (srow SL) rfl HO.out (.slice ta T.length tc) T.length (srow T) rfl (HT.out.below HB.out) (srow_len T ▸ by simp [srow]) (srow_one T) (by unfold maxLen; omega) (by omega) HB.out.size ?_; intro a2 c2 w3 hown3 hgrow3 hat3)
          have HB3 := hid (HB.out.grown hgrow3 HB.out.size fun k hk => (own_lt HO.out hk).1)
          have HRD := hid (show w3.ownsRow w.heap.size 9 1 (.slice a2 (SL ++ T).length c2) (SL ++ T).length (srow (SL ++ T)) by rw [List.length_append, show srow (SL ++ T) = srow SL ++ srow T by simp [srow]]; exact hown3)
          have HLL := hid (show SL.length + T.length = (SL ++ T).length by rw [List.length_append])
          clear hown3 hgrow3 hat3
          (try simp only [Exit.inBlock, Exit.then]); refine bodyPost_ret (results_tmp4 rfl _ _ _) rfl ?_
          rw [← HSL.out]
          refine ⟨hid (.inr ⟨HE.out, a2, c2, HRD.out, (.inl ⟨HW.out, ?_⟩)⟩), HB3.out⟩
          rw [← HLL.out, HD.out]; rfl
        | false =>
          have HD := hid (show (dir || (T.isEmpty && dirB tg)) = dir by rw [hd]; simp)
          clear hT0 hz
          go_wp2_with (at_builtin; refine wpList_append_rd rfl _ _ 41 rfl w.heap.size 9 i1 _ 1 16 Tryz.underlying41 HI.out hy0 hy1 hy2 rfl (by decide) (.slice a SL.length c) SL.length (srow SL) rfl HO.out (.slice ta T.length tc) T.length (srow T) rfl (HT.out.below HB.out) (srow_len T ▸ by simp [srow]) (srow_one T) (by unfold maxLen; omega) (by omega) HB.out.size ?_; intro a2 c2 w3 hown3 hgrow3 hat3)
          have HB3 := hid (HB.out.grown hgrow3 HB.out.size fun k hk => (own_lt HO.out hk).1)
          have HRD := hid (show w3.ownsRow w.heap.size 9 1 (.slice a2 (SL ++ T).length c2) (SL ++ T).length (srow (SL ++ T)) by rw [List.length_append, show srow (SL ++ T) = srow SL ++ srow T by simp [srow]]; exact hown3)
          have HLL := hid (show SL.length + T.length = (SL ++ T).length by rw [List.length_append])
          clear hown3 hgrow3 hat3
          (try simp only [Exit.inBlock, Exit.then]); refine bodyPost_ret (results_tmp4 rfl _ _ _) rfl ?_
          rw [← HSL.out]
          refine ⟨hid (.inr ⟨HE.out, a2, c2, HRD.out, (.inl ⟨HW.out, ?_⟩)⟩), HB3.out⟩
          rw [← HLL.out, HD.out]; rfl
      · have hz1 : ((T.length : Int) == 0) = false := by simp [hT0]
        have hz2 : (T.length == 0) = false := by simp [hT0]
        have HD := hid (show (dir || (T.isEmpty && dirB tg)) = dir by cases T with | nil => exact absurd rfl hT0 | cons _ _ => simp)
        clear hT0
        go_wp2_with (at_builtin; refine wpList_append_rd rfl _ _ 41 rfl w.heap.size 9 i1 _ 1 16 Tryz.underlying41 HI.out hy0 hy1 hy2 rfl (by decide) (.slice a SL.length c) SL.length (srow SL) rfl HO.out (.slice ta T.length tc) T.length (srow T) rfl (HT.out.below HB.out) (srow_len T ▸ by simp [srow]) (srow_one T) (by unfold maxLen; omega) (by omega) HB.out.size ?_; intro a2 c2 w3 hown3 hgrow3 hat3)
        have HB3 := hid (HB.out.grown hgrow3 HB.out.size fun k hk => (own_lt HO.out hk).1)
        have HRD := hid (show w3.ownsRow w.heap.size 9 1 (.slice a2 (SL ++ T).length c2) (SL ++ T).length (srow (SL ++ T)) by rw [List.length_append, show srow (SL ++ T) = srow SL ++ srow T by simp [srow]]; exact hown3)
        have HLL := hid (show SL.length + T.length = (SL ++ T).length by rw [List.length_append])
        clear hown3 hgrow3 hat3
        (try simp only [Exit.inBlock, Exit.then]); refine bodyPost_ret (results_tmp4 rfl _ _ _) rfl ?_
        rw [← HSL.out]
        refine ⟨hid (.inr ⟨HE.out, a2, c2, HRD.out, (.inl ⟨HW.out, ?_⟩)⟩), HB3.out⟩
        rw [← HLL.out, HD.out]; rfl
    | true =>
      have HW := hid hw
      clear hw
      go_wp2_with fail
      refine (root_any _).mono ?_; rintro e w2 ⟨rfl, ho2, hb2⟩
      have HB2 := hid (HB.out.trans (hb2.mono HB.out.size))
      have HO2 := hid (own_below HO.out hb2)
      have HR2 := hid (ownsRow_mono ho2 HB.out.size)
      have hrz := (own_lt ho2 (k := w1.heap.size) rfl).2
      clear ho2 hb2
      by_cases hT0 : T = []
      · have hz : T.length = 0 := by rw [hT0]; rfl
        have hz1 : ((T.length : Int) == 0) = true := by simp [hz]
        have hz2 : (T.length == 0) = true := by simp [hz]
        cases hd : dirB tg with
        | true =>
          have HD := hid (show (dir || (T.isEmpty && dirB tg)) = true by rw [hT0, hd]; simp)
          clear hT0 hz
          go_wp2_with (at_builtin; refine wpList_append_rd rfl _ _ 41 rfl w.heap.size 9 i1 _ 1 16 Tryz.underlying41 HI.out hy0 hy1 hy2 rfl (by decide) (.slice a SL.length c) SL.length (srow SL) rfl HO2.out (.slice ta T.length tc) T.length (srow T) rfl (HT.out.below HB2.out) (srow_len T ▸ by simp [srow]) (srow_one T) (by unfold maxLen; omega) (by omega) HB2.out.size ?_; intro a2 c2 w3 hown3 hgrow3 hat3)
          have HB3 := hid (HB2.out.grown hgrow3 HB2.out.size fun k hk => (own_lt HO2.out hk).1)
          have HRD := hid (show w3.ownsRow w.heap.size 9 1 (.slice a2 (SL ++ T).length c2) (SL ++ T).length (srow (SL ++ T)) by rw [List.length_append, show srow (SL ++ T) = srow SL ++ srow T by simp [srow]]; exact hown3)
          have HR3 := hid (own_grown HR2.out hgrow3 fun k hk => own_ne2 HR2.out (ownsRow_mono HO2.out (Nat.zero_le _)) (by decide) k hk)
          have HLL := hid (show SL.length + T.length = (SL ++ T).length by rw [List.length_append])
          clear hown3 hgrow3 hat3
          (try simp only [Exit.inBlock, Exit.then]); refine bodyPost_ret (results_tmp4 rfl _ _ _) rfl ?_
          rw [← HSL.out]
          refine ⟨hid (.inr ⟨HE.out, a2, c2, HRD.out, (.inr ⟨HW.out, w1.heap.size, ?_, HR3.out⟩)⟩), HB3.out⟩
          rw [← HLL.out, HD.out]; rfl
        | false =>
          have HD := hid (show (dir || (T.isEmpty && dirB tg)) = dir by rw [hd]; simp)
          clear hT0 hz
          go_wp2_with (at_builtin; refine wpList_append_rd rfl _ _ 41 rfl w.heap.size 9 i1 _ 1 16 Tryz.underlying41 HI.out hy0 hy1 hy2 rfl (by decide) (.slice a SL.length c) SL.length (srow SL) rfl HO2.out (.slice ta T.length tc) T.length (srow T) rfl (HT.out.below HB2.out) (srow_len T ▸ by simp [srow]) (srow_one T) (by unfold maxLen; omega) (by omega) HB2.out.size ?_; intro a2 c2 w3 hown3 hgrow3 hat3)
          have HB3 := hid (HB2.out.grown hgrow3 HB2.out.size fun k hk => (own_lt HO2.out hk).1)
          have HRD := hid (show w3.ownsRow w.heap.size 9 1 (.slice a2 (SL ++ T).length c2) (SL ++ T).length (srow (SL ++ T)) by rw [List.length_append, show srow (SL ++ T) = srow SL ++ srow T by simp [srow]]; exact hown3)
          have HR3 := hid (own_grown HR2.out hgrow3 fun k hk => own_ne2 HR2.out (ownsRow_mono HO2.out (Nat.zero_le _)) (by decide) k hk)
          have HLL := hid (show SL.length + T.length = (SL ++ T).length by rw [List.length_append])
          clear hown3 hgrow3 hat3
          (try simp only [Exit.inBlock, Exit.then]); refine bodyPost_ret (results_tmp4 rfl _ _ _) rfl ?_
          rw [← HSL.out]
          refine ⟨hid (.inr ⟨HE.out, a2, c2, HRD.out, (.inr ⟨HW.out, w1.heap.size, ?_, HR3.out⟩)⟩), HB3.out⟩
          rw [← HLL.out, HD.out]; rfl
      · have hz1 : ((T.length : Int) == 0) = false := by simp [hT0]
        have hz2 : (T.length == 0) = false := by simp [hT0]
        have HD := hid (show (dir || (T.isEmpty && dirB tg)) = dir by cases T with | nil => exact absurd rfl hT0 | cons _ _ => simp)
        clear hT0
        go_wp2_with (at_builtin; refine wpList_append_rd rfl _ _ 41 rfl w.heap.size 9 i1 _ 1 16 Tryz.underlying41 HI.out hy0 hy1 hy2 rfl (by decide) (.slice a SL.length c) SL.length (srow SL) rfl HO2.out (.slice ta T.length tc) T.length (srow T) rfl (HT.out.below HB2.out) (srow_len T ▸ by simp [srow]) (srow_one T) (by unfold maxLen; omega) (by omega) HB2.out.size ?_; intro a2 c2 w3 hown3 hgrow3 hat3)
        have HB3 := hid (HB2.out.grown hgrow3 HB2.out.size fun k hk => (own_lt HO2.out hk).1)
        have HRD := hid (show w3.ownsRow w.heap.size 9 1 (.slice a2 (SL ++ T).length c2) (SL ++ T).length (srow (SL ++ T)) by rw [List.length_append, show srow (SL ++ T) = srow SL ++ srow T by simp [srow]]; exact hown3)
        have HR3 := hid (own_grown HR2.out hgrow3 fun k hk => own_ne2 HR2.out (ownsRow_mono HO2.out (Nat.zero_le _)) (by decide) k hk)
        have HLL := hid (show SL.length + T.length = (SL ++ T).length by rw [List.length_append])
        clear hown3 hgrow3 hat3
        (try simp only [Exit.inBlock, Exit.then]); refine bodyPost_ret (results_tmp4 rfl _ _ _) rfl ?_
        rw [← HSL.out]
        refine ⟨hid (.inr ⟨HE.out, a2, c2, HRD.out, (.inr ⟨HW.out, w1.heap.size, ?_, HR3.out⟩)⟩), HB3.out⟩
        rw [← HLL.out, HD.out]; rfl

end Go.Proofs.YtbjibkjenleloaaGreatDoor

end

section
namespace Go.Proofs.YtbjibkjenleloaaGreatDoor
set_option linter.unusedVariables false
set_option linter.unusedSimpArgs false
open Go.RowKit
attribute [local go_sem ↓] Go.wp_at_zero Go.wp_at_succ

theorem blk9 {w : World} {k t : Nat} {x0 x1 x2 x3 x4 x5 x6 x7 x8 : Value} (h : w.heap[k]? = some (.cells #[x0, x1, x2, x3, x4, x5, x6, x7, x8] t (0, 0))) :
    w.cell? ⟨k, 0, none⟩ = some x0 ∧ w.cell? ⟨k, 1, none⟩ = some x1 ∧ w.cell? ⟨k, 2, none⟩ = some x2 ∧ w.cell? ⟨k, 3, none⟩ = some x3 ∧ w.cell? ⟨k, 4, none⟩ = some x4 ∧ w.cell? ⟨k, 5, none⟩ = some x5 ∧ w.cell? ⟨k, 6, none⟩ = some x6 ∧ w.cell? ⟨k, 7, none⟩ = some x7 ∧ w.cell? ⟨k, 8, none⟩ = some x8 ∧ w.frozen? ⟨k, 0, none⟩ = false ∧ w.frozen? ⟨k, 1, none⟩ = false ∧ w.frozen? ⟨k, 2, none⟩ = false ∧ w.frozen? ⟨k, 3, none⟩ = false ∧ w.frozen? ⟨k, 4, none⟩ = false ∧ w.frozen? ⟨k, 5, none⟩ = false ∧ w.frozen? ⟨k, 6, none⟩ = false ∧ w.frozen? ⟨k, 7, none⟩ = false ∧ w.frozen? ⟨k, 8, none⟩ = false := by
  simp [World.cell?, World.frozen?, h]

/-- the block of an address is one of a type -/
def TyB (w : World) (a : Option Addr) (T : Nat) : Prop := ∀ k, a.map (·.block) = some k → ∃ cs, w.heap[k]? = some (.cells cs T (0, 0))
theorem TyB.chg {w w' : World} {a : Option Addr} {T : Nat} {F : Nat → Prop} (h : TyB w a T) (hc : Chg F w w') (hF : ∀ k, a.map (·.block) = some k → ¬ F k) : TyB w' a T := fun k hk => by
  obtain ⟨cs, h1⟩ := h k hk
  exact ⟨cs, heap_chg hc h1 (hF k hk)⟩
theorem TyB.own {w : World} {B e sz n : Nat} {a : Option Addr} {m c : Nat} {xs : List Value} (h : w.ownsRow B e sz (.slice a m c) n xs) : TyB w a e := fun k hk => own_type h (by rw [ownBlock_slice]; exact hk)
theorem TyB.ne {w : World} {a : Option Addr} {T U k : Nat} {cs : Array Value} (h : TyB w a T) (hk : w.heap[k]? = some (.cells cs U (0, 0))) (hTU : T ≠ U) : a.map (·.block) ≠ some k := fun e => by
  obtain ⟨ds, h1⟩ := h k e
  rw [hk] at h1
  simp only [Option.some.injEq, Obj.cells.injEq] at h1
  exact hTU h1.2.1.symm

/-- the memory of a walk: r the result, o what comes out, h the key, x the entry; the sources, the place, the keys used, what is left -/
structure SI (w w' : World) (r o h x gs p : Nat) (fv : Value) (A : List Nd) (y : Nd) (ga ca : Nat) (T : List ByteArray) (ta : Option Addr) (tc : Nat) (U : List Ky) (ua : Option Addr) (uc : Nat) (k : Ky) (e : En) : Prop where
  below : Below w.heap.size w w'
  hr : w'.heap[r]? = some (.cells #[.bool false, .int .i64 0, .string { data := #[] }, .int .i64 0, .int .i64 0, .int .i64 0, .int .i64 0, .string { data := #[] }, .slice none 0 0] 176 (0, 0))
  ho : w'.heap[o]? = some (.cells #[.bool false, .int .i64 0, .string { data := #[] }, .int .i64 0, .int .i64 0, .int .i64 0, .int .i64 0, .string { data := #[] }, .slice ua U.length uc] 176 (0, 0))
  hh : w'.heap[h]? = some (.cells #[.int .i64 k.dir, .string k.name] 53 (0, 0))
  hx : w'.heap[x]? = some (.cells #[.int .i64 e.key.dir, .string e.key.name, .bool e.neg, .int .i64 e.node.id, .int .i64 e.node.kind, .int .i64 e.node.mode, .string e.node.target] 55 (0, 0))
  src : Rd w' (.slice (some ⟨gs, 0, none⟩) 3 3) 3 (srcs fv p)
  srct : TyB w' (some ⟨gs, 0, none⟩) 223
  row : w'.ownsRow w.heap.size 40 4 (.slice (some ⟨ga, 0, none⟩) (A.length + 1) ca) (A.length + 1) (ncs (A ++ [y]))
  used : w'.ownsRow w.heap.size 53 2 (.slice ua U.length uc) U.length (kyc U)
  usedh : ua.map (·.block) ≠ some h
  todo : Rd w' (.slice ta T.length tc) T.length (srow T)
  todot : TyB w' ta 9
  hro : r ≠ o
  lo : w.heap.size ≤ r ∧ w.heap.size ≤ o ∧ w.heap.size ≤ h ∧ w.heap.size ≤ x
section
variable {w w' w2 : World} {r o h x gs p : Nat} {fv : Value} {A : List Nd} {y : Nd} {ga ca : Nat} {T : List ByteArray} {ta : Option Addr} {tc : Nat} {U : List Ky} {ua : Option Addr} {uc : Nat} {k : Ky} {e : En}
/-- blocks of F turned: what does not lie there stays -/
theorem SI.src' (s : SI w w' r o h x gs p fv A y ga ca T ta tc U ua uc k e) {F : Nat → Prop} (hc : Chg F w' w2) (hF : ¬ F gs) : Rd w2 (.slice (some ⟨gs, 0, none⟩) 3 3) 3 (srcs fv p) ∧ TyB w2 (some ⟨gs, 0, none⟩) 223 :=
  ⟨s.src.chg (fun k hk hl => hc.block k hl (by simp only [ownBlock_slice, Option.map_some, Option.some.injEq] at hk; subst hk; exact hF)), s.srct.chg hc (fun k hk => by simp only [Option.map_some, Option.some.injEq] at hk; subst hk; exact hF)⟩
theorem SI.upd (s : SI w w' r o h x gs p fv A y ga ca T ta tc U ua uc k e) {F : Nat → Prop} (hc : Chg F w' w2) (hlo : ∀ j, F j → w.heap.size ≤ j) (hr : ¬ F r) (hgs : ¬ F gs) (hta : ∀ j, ta.map (·.block) = some j → ¬ F j)
    {A' : List Nd} {y' : Nd} {ga' ca' : Nat} {U' : List Ky} {ua' : Option Addr} {uc' : Nat} {k' : Ky} {e' : En}
    (ho : w2.heap[o]? = some (.cells #[.bool false, .int .i64 0, .string { data := #[] }, .int .i64 0, .int .i64 0, .int .i64 0, .int .i64 0, .string { data := #[] }, .slice ua' U'.length uc'] 176 (0, 0)))
    (hh : w2.heap[h]? = some (.cells #[.int .i64 k'.dir, .string k'.name] 53 (0, 0)))
    (hx : w2.heap[x]? = some (.cells #[.int .i64 e'.key.dir, .string e'.key.name, .bool e'.neg, .int .i64 e'.node.id, .int .i64 e'.node.kind, .int .i64 e'.node.mode, .string e'.node.target] 55 (0, 0)))
    (row : w2.ownsRow w.heap.size 40 4 (.slice (some ⟨ga', 0, none⟩) (A'.length + 1) ca') (A'.length + 1) (ncs (A' ++ [y'])))
    (used : w2.ownsRow w.heap.size 53 2 (.slice ua' U'.length uc') U'.length (kyc U')) (usedh : ua'.map (·.block) ≠ some h) :
    SI w w2 r o h x gs p fv A' y' ga' ca' T ta tc U' ua' uc' k' e' :=
  ⟨s.below.trans (hc.toBelow s.below.size fun i hi hf => by have := hlo i hf; omega), heap_chg hc s.hr hr, ho, hh, hx, (s.src' hc hgs).1, (s.src' hc hgs).2, row, used, usedh,
   s.todo.chg (fun j hj hl => hc.block j hl (hta j (by rw [← ownBlock_slice]; exact hj))), s.todot.chg hc hta, s.hro, s.lo⟩
theorem SI.alloc (s : SI w w' r o h x gs p fv A y ga ca T ta tc U ua uc k e) (hb : Below w'.heap.size w' w2) : SI w w2 r o h x gs p fv A y ga ca T ta tc U ua uc k e :=
  s.upd (Chg.below hb) (fun j hj => hj.elim) (fun h => h) (fun h => h) (fun _ _ h => h) (heap_below hb s.ho (blk_lt s.ho)) (heap_below hb s.hh (blk_lt s.hh)) (heap_below hb s.hx (blk_lt s.hx)) (own_below s.row hb) (own_below s.used hb) s.usedh
/-- the key is stored -/
theorem SI.seth (s : SI w w' r o h x gs p fv A y ga ca T ta tc U ua uc k e) (k' : Ky) : SI w ((w'.setCell ⟨h, 0, none⟩ (.int .i64 k'.dir)).setCell ⟨h, 1, none⟩ (.string k'.name)) r o h x gs p fv A y ga ca T ta tc U ua uc k' e := by
  have hc : Chg (fun j => j = h) w' ((w'.setCell ⟨h, 0, none⟩ (.int .i64 k'.dir)).setCell ⟨h, 1, none⟩ (.string k'.name)) := ((Chg.refl (fun j => j = h) w').setCell ⟨h, 0, none⟩ _ (.inl rfl)).setCell ⟨h, 1, none⟩ _ (.inl rfl)
  have d1 : r ≠ h := fun e1 => by have h1 := s.hr; have h2 := s.hh; rw [e1, h2] at h1; simp only [Option.some.injEq, Obj.cells.injEq] at h1; exact absurd h1.2.1 (by decide)
  have d2 : o ≠ h := fun e1 => by have h1 := s.ho; have h2 := s.hh; rw [e1, h2] at h1; simp only [Option.some.injEq, Obj.cells.injEq] at h1; exact absurd h1.2.1 (by decide)
  have d3 : x ≠ h := fun e1 => by have h1 := s.hx; have h2 := s.hh; rw [e1, h2] at h1; simp only [Option.some.injEq, Obj.cells.injEq] at h1; exact absurd h1.2.1 (by decide)
  exact s.upd hc (fun j hj => by subst hj; exact s.lo.2.2.1) d1 (fun e1 => s.srct.ne s.hh (by decide) (by rw [e1]; rfl)) (fun j hj e1 => s.todot.ne s.hh (by decide) (by rw [hj, e1]))
    (heap_chg hc s.ho d2) (heap_set (heap_set s.hh 0 _) 1 _) (heap_chg hc s.hx d3) (ownsRow_chg s.row fun j hj hl => hc.block j hl fun e1 => by subst e1; exact own_ne s.row s.hh (by decide) hj)
    (ownsRow_chg s.used fun j hj hl => hc.block j hl fun e1 => by subst e1; exact s.usedh (by rw [← ownBlock_slice]; exact hj)) s.usedh
set_option maxHeartbeats 2000000 in
/-- the entry is stored -/
theorem SI.setx (s : SI w w' r o h x gs p fv A y ga ca T ta tc U ua uc k e) (e' : En) : SI w (((((((w'.setCell ⟨x, 0, none⟩ (.int .i64 e'.key.dir)).setCell ⟨x, 1, none⟩ (.string e'.key.name)).setCell ⟨x, 2, none⟩ (.bool e'.neg)).setCell ⟨x, 3, none⟩ (.int .i64 e'.node.id)).setCell ⟨x, 4, none⟩ (.int .i64 e'.node.kind)).setCell ⟨x, 5, none⟩ (.int .i64 e'.node.mode)).setCell ⟨x, 6, none⟩ (.string e'.node.target)) r o h x gs p fv A y ga ca T ta tc U ua uc k e' := by
  have hc : Chg (fun j => j = x) w' (((((((w'.setCell ⟨x, 0, none⟩ (.int .i64 e'.key.dir)).setCell ⟨x, 1, none⟩ (.string e'.key.name)).setCell ⟨x, 2, none⟩ (.bool e'.neg)).setCell ⟨x, 3, none⟩ (.int .i64 e'.node.id)).setCell ⟨x, 4, none⟩ (.int .i64 e'.node.kind)).setCell ⟨x, 5, none⟩ (.int .i64 e'.node.mode)).setCell ⟨x, 6, none⟩ (.string e'.node.target)) :=
    (((((((Chg.refl (fun j => j = x) w').setCell ⟨x, 0, none⟩ _ (.inl rfl)).setCell ⟨x, 1, none⟩ _ (.inl rfl)).setCell ⟨x, 2, none⟩ _ (.inl rfl)).setCell ⟨x, 3, none⟩ _ (.inl rfl)).setCell ⟨x, 4, none⟩ _ (.inl rfl)).setCell ⟨x, 5, none⟩ _ (.inl rfl)).setCell ⟨x, 6, none⟩ _ (.inl rfl)
  have d1 : r ≠ x := fun e1 => by have h1 := s.hr; have h2 := s.hx; rw [e1, h2] at h1; simp only [Option.some.injEq, Obj.cells.injEq] at h1; exact absurd h1.2.1 (by decide)
  have d2 : o ≠ x := fun e1 => by have h1 := s.ho; have h2 := s.hx; rw [e1, h2] at h1; simp only [Option.some.injEq, Obj.cells.injEq] at h1; exact absurd h1.2.1 (by decide)
  have d3 : h ≠ x := fun e1 => by have h1 := s.hh; have h2 := s.hx; rw [e1, h2] at h1; simp only [Option.some.injEq, Obj.cells.injEq] at h1; exact absurd h1.2.1 (by decide)
  exact s.upd hc (fun j hj => by subst hj; exact s.lo.2.2.2) d1 (fun e1 => s.srct.ne s.hx (by decide) (by rw [e1]; rfl)) (fun j hj e1 => s.todot.ne s.hx (by decide) (by rw [hj, e1]))
    (heap_chg hc s.ho d2) (heap_chg hc s.hh d3) (heap_set (heap_set (heap_set (heap_set (heap_set (heap_set (heap_set s.hx 0 _) 1 _) 2 _) 3 _) 4 _) 5 _) 6 _) (ownsRow_chg s.row fun j hj hl => hc.block j hl fun e1 => by subst e1; exact own_ne s.row s.hx (by decide) hj)
    (ownsRow_chg s.used fun j hj hl => hc.block j hl fun e1 => by subst e1; exact own_ne s.used s.hx (by decide) hj) s.usedh
/-- other texts are left -/
theorem SI.todos (s : SI w w' r o h x gs p fv A y ga ca T ta tc U ua uc k e) {T' : List ByteArray} {ta' : Option Addr} {tc' : Nat} (h1 : Rd w' (.slice ta' T'.length tc') T'.length (srow T')) (h2 : TyB w' ta' 9) : SI w w' r o h x gs p fv A y ga ca T' ta' tc' U ua uc k e :=
  { s with todo := h1, todot := h2 }
/-- another place -/
theorem SI.place (s : SI w w' r o h x gs p fv A y ga ca T ta tc U ua uc k e) {A' : List Nd} {y' : Nd} {ga' ca' : Nat} (h1 : w'.ownsRow w.heap.size 40 4 (.slice (some ⟨ga', 0, none⟩) (A'.length + 1) ca') (A'.length + 1) (ncs (A' ++ [y']))) : SI w w' r o h x gs p fv A' y' ga' ca' T ta tc U ua uc k e :=
  { s with row := h1 }
end
theorem TyB.from {w : World} {a : Option Addr} {T : Nat} {c i : Nat} (h : TyB w a T) : TyB w (if c = i then a else a.map (·.add 1)) T := fun k hk => by
  split at hk
  · exact h k hk
  · refine h k ?_
    cases a with
    | none => simp at hk
    | some a => simpa [Addr.add] using hk

end Go.Proofs.YtbjibkjenleloaaGreatDoor

end

section
namespace Go.Proofs.YtbjibkjenleloaaGreatDoor
set_option linter.unusedVariables false
set_option linter.unusedSimpArgs false
open Go.RowKit
attribute [local go_sem ↓] Go.wp_at_zero Go.wp_at_succ

section
variable {w w' w2 : World} {r o h x gs p : Nat} {fv : Value} {A : List Nd} {y : Nd} {ga ca : Nat} {T : List ByteArray} {ta : Option Addr} {tc : Nat} {U : List Ky} {ua : Option Addr} {uc : Nat} {k : Ky} {e : En}
theorem heap_ty {w : World} {a b T U : Nat} {cs ds : Array Value} (h1 : w.heap[a]? = some (.cells cs T (0, 0))) (h2 : w.heap[b]? = some (.cells ds U (0, 0))) (hTU : T ≠ U) : a ≠ b := fun e => by
  rw [e, h2] at h1; simp only [Option.some.injEq, Obj.cells.injEq] at h1; exact hTU h1.2.1.symm
/-- the place grows -/
theorem SI.push (s : SI w w' r o h x gs p fv A y ga ca T ta tc U ua uc k e) {ob : Obj} {nd : Nd} {a2 : Option Addr} {c2 : Nat} (hg : (w'.alloc ob).grownBy w2 (Value.slice (some ⟨ga, 0, none⟩) (A.length + 1) ca).ownBlock)
    (hown : w2.ownsRow w.heap.size 40 4 (.slice a2 (A.length + 1 + 1) c2) (A.length + 1 + 1) (ncs (A ++ [y]) ++ [.int .i64 nd.id, .int .i64 nd.kind, .int .i64 nd.mode, .string nd.target])) :
    ∃ ga2, a2 = some ⟨ga2, 0, none⟩ ∧ SI w w2 r o h x gs p fv (A ++ [y]) nd ga2 c2 T ta tc U ua uc k e := by
  have s1 := s.alloc (bl1 w' ob)
  have hc : Chg (fun j => j = ga) (w'.alloc ob) w2 := (Chg.refl _ _).grown hg (fun j hj => by simp only [ownBlock_slice, Option.map_some, Option.some.injEq] at hj; exact .inl hj.symm)
  obtain ⟨cur, hga⟩ := own_type s1.row (k := ga) rfl
  obtain ⟨ga2, rfl, _⟩ := row_loc hown (by omega)
  refine ⟨ga2, rfl, s1.upd hc (fun j hj => by subst hj; exact (own_lt s1.row (k := j) rfl).1) (heap_ty s1.hr hga (by decide)) (fun e1 => s1.srct.ne hga (by decide) (by rw [e1]; rfl)) (fun j hj e1 => s1.todot.ne hga (by decide) (by rw [hj, e1]))
    (heap_chg hc s1.ho (heap_ty s1.ho hga (by decide))) (heap_chg hc s1.hh (heap_ty s1.hh hga (by decide))) (heap_chg hc s1.hx (heap_ty s1.hx hga (by decide))) ?_ (ownsRow_chg s1.used fun j hj hl => hc.block j hl fun e1 => by subst e1; exact own_ne s1.used hga (by decide) hj) s1.usedh⟩
  rw [ncs_snoc (A ++ [y]) nd, List.length_append]
  exact hown
/-- the keys used grow -/
theorem SI.use (s : SI w w' r o h x gs p fv A y ga ca T ta tc U ua uc k e) {ob : Obj} {a2 : Option Addr} {c2 : Nat} (hg : (w'.alloc ob).grownBy w2 (Value.slice ua U.length uc).ownBlock)
    (hown : w2.ownsRow w.heap.size 53 2 (.slice a2 (U.length + 1) c2) (U.length + 1) (kyc U ++ [.int .i64 k.dir, .string k.name]))
    (hat : (Value.slice a2 (U.length + 1) c2).ownBlock = (Value.slice ua U.length uc).ownBlock ∨ (Value.slice a2 (U.length + 1) c2).ownBlock = some (w'.alloc ob).heap.size) :
    SI w (w2.setCell ⟨o, 8, none⟩ (.slice a2 (U.length + 1) c2)) r o h x gs p fv A y ga ca T ta tc (U ++ [k]) a2 c2 k e := by
  have s1 := s.alloc (bl1 w' ob)
  have hc1 : Chg (fun j => ua.map (·.block) = some j) (w'.alloc ob) w2 := (Chg.refl _ _).grown hg (fun j hj => by rw [ownBlock_slice] at hj; exact .inl hj)
  have hc : Chg (fun j => ua.map (·.block) = some j ∨ j = o) (w'.alloc ob) (w2.setCell ⟨o, 8, none⟩ (.slice a2 (U.length + 1) c2)) := (hc1.mono (fun _ _ h => .inl h)).setCell _ _ (.inl (.inr rfl))
  have tu : TyB (w'.alloc ob) ua 53 := TyB.own s1.used
  have n1 : ∀ {b T : Nat} {cs : Array Value}, (w'.alloc ob).heap[b]? = some (.cells cs T (0, 0)) → 53 ≠ T → ua.map (·.block) ≠ some b := fun hb hT => tu.ne hb hT
  have ho1 := heap_chg hc1 s1.ho (n1 s1.ho (by decide))
  have hh1 := heap_chg hc1 s1.hh s1.usedh
  have hox : o ≠ h := heap_ty s1.ho s1.hh (by decide)
  have hown2 := own_set hown (own_ne hown ho1 (by decide)) 8 (.slice a2 (U.length + 1) c2)
  refine s1.upd hc (fun j hj => by rcases hj with hj | rfl; exact (own_lt s1.used (by rw [ownBlock_slice]; exact hj)).1; exact s1.lo.2.1) (fun hj => by rcases hj with hj | hj; exact n1 s1.hr (by decide) hj; exact s1.hro hj)
    (fun hj => by
      rcases hj with hj | hj
      · obtain ⟨cs, h3⟩ := s1.srct gs rfl
        exact n1 h3 (by decide) hj
      · exact s1.srct.ne s1.ho (by decide) (by rw [hj]; rfl))
    (fun j hj hf => by
      rcases hf with hf | hf
      · obtain ⟨cs, h3⟩ := s1.todot j hj
        exact n1 h3 (by decide) hf
      · exact s1.todot.ne s1.ho (by decide) (by rw [hj, hf]))
    ?_ (heap_set_ne hh1 _ _ (fun e1 => hox e1.symm)) (heap_chg hc s1.hx (fun hj => by rcases hj with hj | hj; exact n1 s1.hx (by decide) hj; exact heap_ty s1.hx s1.ho (by decide) hj))
    (ownsRow_chg s1.row fun j hj hl => hc.block j hl fun hf => by
      rcases hf with hf | hf
      · exact own_ne2 s1.row s1.used (by decide) j hj (by rw [ownBlock_slice]; exact hf)
      · subst hf; exact own_ne s1.row s1.ho (by decide) hj) ?_ ?_
  · rw [List.length_append]; exact heap_set ho1 8 _
  · rw [List.length_append, show kyc (U ++ [k]) = kyc U ++ [.int .i64 k.dir, .string k.name] by simp [kyc, Ky.cells]]; exact hown2
  · intro hj
    rw [ownBlock_slice, ownBlock_slice] at hat
    rcases hat with hat | hat
    · exact s1.usedh (by rw [← hat]; exact hj)
    · rw [hj] at hat
      have := Option.some.inj hat
      have := blk_lt s1.hh
      omega
end

end Go.Proofs.YtbjibkjenleloaaGreatDoor

end
