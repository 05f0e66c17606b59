/- Parts of a proof about the given program, in build order: WlkG, WlkH, WlkI, WlkJ. No condition. -/
import Derived.Test.YtbjibkjenleloaaGreatDoorMg09
section
namespace Go.Proofs.YtbjibkjenleloaaGreatDoor
set_option linter.unusedVariables false
set_option linter.unusedSimpArgs false
open Go.RowKit
attribute [local go_sem ↓] Go.wp_at_zero Go.wp_at_succ

set_option maxHeartbeats 400000 in
theorem clone_strs (v : Value) (L : List ByteArray) (w : World) (hv : Rd w v L.length (srow L)) (hl : L.length * 16 ≤ 140737488355328) :
    Calls Tryz.prog 141 #[v] w fun e w' => ∃ a c, e = .returned (.slice a L.length c) ∧ w'.ownsRow w.heap.size 9 1 (.slice a L.length c) L.length (srow L) ∧ Below w.heap.size w w' := by
  obtain ⟨i0, hi, hz0, hz1, hz2⟩ := info_parts infoStr
  rcases id hv with ⟨rfl, hn, _⟩ | ⟨ad, cap, rfl, h1, h2, h3⟩
  · have hnil := fun (w : World) => Lib.run_eql_slice_nil (P := Tryz.prog) w 41 9 none 0 0 0 0 Tryz.underlying41
    have hL := List.eq_nil_of_length_eq_zero hn
    subst hL
    clear hv hl hn
    go_enter Tryz.func141, Tryz.ntmps141
    go_wp2
    go_ret
    exact ⟨none, 0, rfl, World.ownsRow_nil _ _ _ _, Below.refl _ _⟩
  · obtain ⟨n, hn⟩ : ∃ n, n = L.length := ⟨_, rfl⟩
    rw [← hn] at hv hl h1 ⊢
    have hnil := fun (w : World) => Lib.run_eql_slice_nil (P := Tryz.prog) w 41 9 (some ad) n cap 0 0 Tryz.underlying41
    have HV := hid hv
    have HN := hid (show (srow L).length = n * 1 by rw [srow_len, hn, Nat.mul_one])
    have HB := hid (srow_one L)
    have HI := hid hi
    have hem : (w.alloc (.cells #[] 9)).ownsRow w.heap.size 9 1 (.slice (some ⟨w.heap.size, 0, none⟩) 0 0) 0 [] := ownsRow_of_whole (heap_new w _) rfl (Nat.le_refl _) (by unfold maxLen; omega)
    have HE := hid hem
    clear hv hi h3 hn hem
    go_enter Tryz.func141, Tryz.ntmps141
    go_wp2_with (at_builtin; refine wpList_append_rd rfl _ _ 41 rfl w.heap.size 9 i0 _ 1 16 Tryz.underlying41 HI.out hz0 hz1 hz2 rfl (by decide) (.slice (some ⟨w.heap.size, 0, none⟩) 0 0) 0 [] rfl HE.out _ n (srow L) rfl (HV.out.alloc _) HN.out HB.out (by unfold maxLen; omega) (by omega) (by simp) ?_; intro a' c' w1 hown hgrow hat)
    go_ret
    simp only [Nat.zero_add, List.nil_append] at hown
    exact ⟨_, _, rfl, hown, (bl1 w _).grown hgrow (by simp) (by simp [Value.ownBlock])⟩


theorem skip_seq {P : Program} {a : Act} {w : World} {Q : Exit → Act → World → Prop} {c : Code} (h : c.wp P Q a w) : (Code.skip.seq c).wp P Q a w := wp_seq (wp_skip h)
theorem wp_scope_two {P : Program} {a : Act} {w : World} {Q : Exit → Act → World → Prop} {c r0 r1 : Code} (J : Nat → Act → World → Prop) (μ : Nat → Act → World → Nat) (hJ : ∀ l a w, J l a w → l = 0 ∨ l = 1) (h0 : findLabel c 0 = some (Code.skip.seq r0)) (h1 : findLabel c 1 = some (Code.skip.seq r1))
    (first : (∀ a w, J 1 a w → r1.wp P (jumpM J Q) a w) → c.wp P (jumpM J Q) a w)
    (pass0 : ∀ a w, J 0 a w → r0.wp P (jumpM (fun l' a' w' => J l' a' w' ∧ μ l' a' w' < μ 0 a w) Q) a w)
    (pass1 : ∀ a w, J 1 a w → r1.wp P (jumpM (fun l' a' w' => J l' a' w' ∧ μ l' a' w' < μ 1 a w) Q) a w) : (Code.scope c).wp P Q a w := by
  refine wp_scope_multi J μ (fun l => if l = 0 then Code.skip.seq r0 else Code.skip.seq r1) (fun l a w h => ?_) (first fun a w h => wp_mono (pass1 a w h) fun e a w hq => ?_) (fun l a w h => ?_)
  · rcases hJ l a w h with rfl | rfl
    · exact h0
    · exact h1
  · cases e with
    | goto l => exact hq.1
    | _ => exact hq
  · rcases hJ l a w h with rfl | rfl
    · exact skip_seq (pass0 a w h)
    · exact skip_seq (pass1 a w h)
theorem arr_range (a : Array Value) (n : Nat) (h : a.size = n) : a = ((List.range n).map fun i => a.getD i undef).toArray := by
  subst h
  apply Array.ext
  · simp
  · intro i h1 h2
    simp [Array.getD, h1]
theorem frame_all (a : Act) (h : a.tmps.size = 143) (hd : a.defers = []) : a = { tmps := #[a.tmps.getD 0 undef, a.tmps.getD 1 undef, a.tmps.getD 2 undef, a.tmps.getD 3 undef, a.tmps.getD 4 undef, a.tmps.getD 5 undef, a.tmps.getD 6 undef, a.tmps.getD 7 undef, a.tmps.getD 8 undef, a.tmps.getD 9 undef, a.tmps.getD 10 undef, a.tmps.getD 11 undef, a.tmps.getD 12 undef, a.tmps.getD 13 undef, a.tmps.getD 14 undef, a.tmps.getD 15 undef, a.tmps.getD 16 undef, a.tmps.getD 17 undef, a.tmps.getD 18 undef, a.tmps.getD 19 undef, a.tmps.getD 20 undef, a.tmps.getD 21 undef, a.tmps.getD 22 undef, a.tmps.getD 23 undef, a.tmps.getD 24 undef, a.tmps.getD 25 undef, a.tmps.getD 26 undef, a.tmps.getD 27 undef, a.tmps.getD 28 undef, a.tmps.getD 29 undef, a.tmps.getD 30 undef, a.tmps.getD 31 undef, a.tmps.getD 32 undef, a.tmps.getD 33 undef, a.tmps.getD 34 undef, a.tmps.getD 35 undef, a.tmps.getD 36 undef, a.tmps.getD 37 undef, a.tmps.getD 38 undef, a.tmps.getD 39 undef, a.tmps.getD 40 undef, a.tmps.getD 41 undef, a.tmps.getD 42 undef, a.tmps.getD 43 undef, a.tmps.getD 44 undef, a.tmps.getD 45 undef, a.tmps.getD 46 undef, a.tmps.getD 47 undef, a.tmps.getD 48 undef, a.tmps.getD 49 undef, a.tmps.getD 50 undef, a.tmps.getD 51 undef, a.tmps.getD 52 undef, a.tmps.getD 53 undef, a.tmps.getD 54 undef, a.tmps.getD 55 undef, a.tmps.getD 56 undef, a.tmps.getD 57 undef, a.tmps.getD 58 undef, a.tmps.getD 59 undef, a.tmps.getD 60 undef, a.tmps.getD 61 undef, a.tmps.getD 62 undef, a.tmps.getD 63 undef, a.tmps.getD 64 undef, a.tmps.getD 65 undef, a.tmps.getD 66 undef, a.tmps.getD 67 undef, a.tmps.getD 68 undef, a.tmps.getD 69 undef, a.tmps.getD 70 undef, a.tmps.getD 71 undef, a.tmps.getD 72 undef, a.tmps.getD 73 undef, a.tmps.getD 74 undef, a.tmps.getD 75 undef, a.tmps.getD 76 undef, a.tmps.getD 77 undef, a.tmps.getD 78 undef, a.tmps.getD 79 undef, a.tmps.getD 80 undef, a.tmps.getD 81 undef, a.tmps.getD 82 undef, a.tmps.getD 83 undef, a.tmps.getD 84 undef, a.tmps.getD 85 undef, a.tmps.getD 86 undef, a.tmps.getD 87 undef, a.tmps.getD 88 undef, a.tmps.getD 89 undef, a.tmps.getD 90 undef, a.tmps.getD 91 undef, a.tmps.getD 92 undef, a.tmps.getD 93 undef, a.tmps.getD 94 undef, a.tmps.getD 95 undef, a.tmps.getD 96 undef, a.tmps.getD 97 undef, a.tmps.getD 98 undef, a.tmps.getD 99 undef, a.tmps.getD 100 undef, a.tmps.getD 101 undef, a.tmps.getD 102 undef, a.tmps.getD 103 undef, a.tmps.getD 104 undef, a.tmps.getD 105 undef, a.tmps.getD 106 undef, a.tmps.getD 107 undef, a.tmps.getD 108 undef, a.tmps.getD 109 undef, a.tmps.getD 110 undef, a.tmps.getD 111 undef, a.tmps.getD 112 undef, a.tmps.getD 113 undef, a.tmps.getD 114 undef, a.tmps.getD 115 undef, a.tmps.getD 116 undef, a.tmps.getD 117 undef, a.tmps.getD 118 undef, a.tmps.getD 119 undef, a.tmps.getD 120 undef, a.tmps.getD 121 undef, a.tmps.getD 122 undef, a.tmps.getD 123 undef, a.tmps.getD 124 undef, a.tmps.getD 125 undef, a.tmps.getD 126 undef, a.tmps.getD 127 undef, a.tmps.getD 128 undef, a.tmps.getD 129 undef, a.tmps.getD 130 undef, a.tmps.getD 131 undef, a.tmps.getD 132 undef, a.tmps.getD 133 undef, a.tmps.getD 134 undef, a.tmps.getD 135 undef, a.tmps.getD 136 undef, a.tmps.getD 137 undef, a.tmps.getD 138 undef, a.tmps.getD 139 undef, a.tmps.getD 140 undef, a.tmps.getD 141 undef, a.tmps.getD 142 undef], defers := [] } := by
  obtain ⟨t, d⟩ := a
  simp only at h hd
  subst hd
  have h1 := arr_range t 143 h
  show Act.mk t [] = _
  have h2 : ((List.range 143).map fun i => t.getD i undef).toArray = #[t.getD 0 undef, t.getD 1 undef, t.getD 2 undef, t.getD 3 undef, t.getD 4 undef, t.getD 5 undef, t.getD 6 undef, t.getD 7 undef, t.getD 8 undef, t.getD 9 undef, t.getD 10 undef, t.getD 11 undef, t.getD 12 undef, t.getD 13 undef, t.getD 14 undef, t.getD 15 undef, t.getD 16 undef, t.getD 17 undef, t.getD 18 undef, t.getD 19 undef, t.getD 20 undef, t.getD 21 undef, t.getD 22 undef, t.getD 23 undef, t.getD 24 undef, t.getD 25 undef, t.getD 26 undef, t.getD 27 undef, t.getD 28 undef, t.getD 29 undef, t.getD 30 undef, t.getD 31 undef, t.getD 32 undef, t.getD 33 undef, t.getD 34 undef, t.getD 35 undef, t.getD 36 undef, t.getD 37 undef, t.getD 38 undef, t.getD 39 undef, t.getD 40 undef, t.getD 41 undef, t.getD 42 undef, t.getD 43 undef, t.getD 44 undef, t.getD 45 undef, t.getD 46 undef, t.getD 47 undef, t.getD 48 undef, t.getD 49 undef, t.getD 50 undef, t.getD 51 undef, t.getD 52 undef, t.getD 53 undef, t.getD 54 undef, t.getD 55 undef, t.getD 56 undef, t.getD 57 undef, t.getD 58 undef, t.getD 59 undef, t.getD 60 undef, t.getD 61 undef, t.getD 62 undef, t.getD 63 undef, t.getD 64 undef, t.getD 65 undef, t.getD 66 undef, t.getD 67 undef, t.getD 68 undef, t.getD 69 undef, t.getD 70 undef, t.getD 71 undef, t.getD 72 undef, t.getD 73 undef, t.getD 74 undef, t.getD 75 undef, t.getD 76 undef, t.getD 77 undef, t.getD 78 undef, t.getD 79 undef, t.getD 80 undef, t.getD 81 undef, t.getD 82 undef, t.getD 83 undef, t.getD 84 undef, t.getD 85 undef, t.getD 86 undef, t.getD 87 undef, t.getD 88 undef, t.getD 89 undef, t.getD 90 undef, t.getD 91 undef, t.getD 92 undef, t.getD 93 undef, t.getD 94 undef, t.getD 95 undef, t.getD 96 undef, t.getD 97 undef, t.getD 98 undef, t.getD 99 undef, t.getD 100 undef, t.getD 101 undef, t.getD 102 undef, t.getD 103 undef, t.getD 104 undef, t.getD 105 undef, t.getD 106 undef, t.getD 107 undef, t.getD 108 undef, t.getD 109 undef, t.getD 110 undef, t.getD 111 undef, t.getD 112 undef, t.getD 113 undef, t.getD 114 undef, t.getD 115 undef, t.getD 116 undef, t.getD 117 undef, t.getD 118 undef, t.getD 119 undef, t.getD 120 undef, t.getD 121 undef, t.getD 122 undef, t.getD 123 undef, t.getD 124 undef, t.getD 125 undef, t.getD 126 undef, t.getD 127 undef, t.getD 128 undef, t.getD 129 undef, t.getD 130 undef, t.getD 131 undef, t.getD 132 undef, t.getD 133 undef, t.getD 134 undef, t.getD 135 undef, t.getD 136 undef, t.getD 137 undef, t.getD 138 undef, t.getD 139 undef, t.getD 140 undef, t.getD 141 undef, t.getD 142 undef] := by kernel_rfl
  rw [← h2, ← h1]

def Ow.v (z : Ow) (ua : Option Addr) (uc : Nat) : Value := .agg #[.bool z.need, .agg #[.int .i64 z.key.dir, .string z.key.name], .int .i64 z.err, .agg #[.int .i64 z.node.id, .int .i64 z.node.kind, .int .i64 z.node.mode, .string z.node.target], .slice ua z.used.length uc]
theorem SI.fin {w w' w3 : World} {r o h x gs p : Nat} {fv : Value} {A : List Nd} {y : Nd} {ga ca : Nat} {T : List ByteArray} {ta : Option Addr} {tc : Nat} {U : List Ky} {ua : Option Addr} {uc : Nat} {k : Ky} {e : En}
    (s : SI w w' r o h x gs p fv A y ga ca T ta tc U ua uc k e) (hc : Chg (fun j => j = r ∨ j = o) w' w3) : w3.ownsRow w.heap.size 53 2 (.slice ua U.length uc) U.length (kyc U) ∧ Below w.heap.size w w3 := by
  refine ⟨ownsRow_chg s.used fun j hj hl => hc.block j hl ?_, s.below.trans (hc.toBelow s.below.size ?_)⟩
  · rintro (rfl | rfl)
    · exact own_ne s.used s.hr (by decide) hj
    · exact own_ne s.used s.ho (by decide) hj
  · rintro i hi (rfl | rfl)
    · exact absurd s.lo.1 (by omega)
    · exact absurd s.lo.2.1 (by omega)
theorem Chg.set1 {F : Nat → Prop} {w w' : World} (h : Chg F w w') (a : Addr) (v : Value) (ha : F a.block) : Chg F w (w'.setCell a v) := h.setCell a v (.inl ha)

noncomputable def wScope : Code := match Tryz.f116.body with | some (Code.seq _ (Code.scope c)) => c | _ => Code.skip
noncomputable def wRest (l : Nat) : Code := match findLabel wScope l with | some (Code.seq _ r) => r | _ => Code.skip
/-- the code behind n pieces; the code with something else behind n pieces -/
def sndN : Nat → Code → Code
  | 0, c => c
  | n + 1, .seq _ c => sndN n c
  | _, _ => .skip
def cutN : Nat → Code → Code → Code
  | 0, _, K => K
  | n + 1, .seq a c, K => .seq a (cutN n c K)
  | _, _, K => K
/-- what a return needs -/
def FinQ (Q : Exit → Act → World → Prop) (fresh L : List En) (wh : Int → Bool) (follow : Bool) (w : World) (T0 : List ByteArray) (dir0 : Bool) (links0 : Int) : Prop :=
  ∀ (a : Act) (w3 : World) (r : Nat) (z : Ow) (ua : Option Addr) (uc : Nat), a.tmps.getD 12 undef = .pointer (some ⟨r, 0, none⟩) → a.defers = [] →
    w3.heap[r]? = some (.cells #[.bool z.need, .int .i64 z.key.dir, .string z.key.name, .int .i64 z.err, .int .i64 z.node.id, .int .i64 z.node.kind, .int .i64 z.node.mode, .string z.node.target, .slice ua z.used.length uc] 176 (0, 0)) →
    Wk fresh L wh follow [] rootNd T0 dir0 links0 [] z → w3.ownsRow w.heap.size 53 2 (.slice ua z.used.length uc) z.used.length (kyc z.used) → Below w.heap.size w w3 → Q .ret a w3
set_option maxHeartbeats 2000000 in
theorem SI.ret9 {w w' w2 : World} {r o h x gs p : Nat} {fv : Value} {A : List Nd} {y : Nd} {ga ca : Nat} {T : List ByteArray} {ta : Option Addr} {tc : Nat} {U : List Ky} {ua : Option Addr} {uc : Nat} {k : Ky} {e : En}
    (s : SI w w' r o h x gs p fv A y ga ca T ta tc U ua uc k e) (hc : Chg (fun j => j = o) w' w2) (x0 x1 x2 x3 x4 x5 x6 x7 x8 : Value) :
    ((((((((((w2.setCell ⟨r, 0, none⟩ x0).setCell ⟨r, 1, none⟩ x1).setCell ⟨r, 2, none⟩ x2).setCell ⟨r, 3, none⟩ x3).setCell ⟨r, 4, none⟩ x4).setCell ⟨r, 5, none⟩ x5).setCell ⟨r, 6, none⟩ x6).setCell ⟨r, 7, none⟩ x7).setCell ⟨r, 8, none⟩ x8).heap[r]? = some (.cells #[x0, x1, x2, x3, x4, x5, x6, x7, x8] 176 (0, 0))) ∧
    (((((((((w2.setCell ⟨r, 0, none⟩ x0).setCell ⟨r, 1, none⟩ x1).setCell ⟨r, 2, none⟩ x2).setCell ⟨r, 3, none⟩ x3).setCell ⟨r, 4, none⟩ x4).setCell ⟨r, 5, none⟩ x5).setCell ⟨r, 6, none⟩ x6).setCell ⟨r, 7, none⟩ x7).setCell ⟨r, 8, none⟩ x8).ownsRow w.heap.size 53 2 (.slice ua U.length uc) U.length (kyc U) ∧
    Below w.heap.size w (((((((((w2.setCell ⟨r, 0, none⟩ x0).setCell ⟨r, 1, none⟩ x1).setCell ⟨r, 2, none⟩ x2).setCell ⟨r, 3, none⟩ x3).setCell ⟨r, 4, none⟩ x4).setCell ⟨r, 5, none⟩ x5).setCell ⟨r, 6, none⟩ x6).setCell ⟨r, 7, none⟩ x7).setCell ⟨r, 8, none⟩ x8) := by
  have hr := heap_chg hc s.hr s.hro
  have h9 := heap_set (heap_set (heap_set (heap_set (heap_set (heap_set (heap_set (heap_set (heap_set hr 0 x0) 1 x1) 2 x2) 3 x3) 4 x4) 5 x5) 6 x6) 7 x7) 8 x8
  simp only [List.setIfInBounds_toArray, List.set_cons_zero, List.set_cons_succ] at h9
  refine ⟨h9, s.fin ?_⟩
  iterate 9 refine Chg.set1 ?_ _ _ (.inl rfl)
  exact hc.mono fun _ _ h => .inr h

def muW (l : Nat) (a : Act) (_ : World) : Nat := if l = 0 then 0 else 1 + (intOf (a.tmps.getD 5 undef)).toNat * 100000 + (match a.tmps.getD 13 undef with | .slice _ n _ => n | _ => 0)

def Jst (fresh L : List En) (wh : Int → Bool) (follow : Bool) (w : World) (p : Nat) (fv : Value) (T0 : List ByteArray) (dir0 : Bool) (links0 : Int) (l : Nat) (a : Act) (w1 : World) : Prop :=
  (l = 0 ∨ l = 1) ∧ ∃ (r o h x gs : Nat) (dir : Bool) (links : Int) (A : List Nd) (y : Nd) (ga ca : Nat) (T : List ByteArray) (ta : Option Addr) (tc : Nat) (U : List Ky) (ua : Option Addr) (uc : Nat) (k : Ky) (e : En), (a.tmps.size = 143 ∧ a.defers = []) ∧ (a.tmps.getD 0 undef = .pointer (some ⟨p, 0, none⟩) ∧ a.tmps.getD 1 undef = fv ∧ a.tmps.getD 3 undef = .bool dir ∧ a.tmps.getD 4 undef = .bool follow ∧ a.tmps.getD 5 undef = .int .i64 links ∧ a.tmps.getD 12 undef = .pointer (some ⟨r, 0, none⟩) ∧ a.tmps.getD 13 undef = .slice ta T.length tc ∧ a.tmps.getD 14 undef = .slice (some ⟨gs, 0, none⟩) 3 3 ∧ a.tmps.getD 15 undef = .slice (some ⟨ga, 0, none⟩) (A.length + 1) ca ∧ a.tmps.getD 16 undef = .pointer (some ⟨o, 0, none⟩) ∧ a.tmps.getD 17 undef = .pointer (some ⟨h, 0, none⟩) ∧ a.tmps.getD 18 undef = .pointer (some ⟨x, 0, none⟩)) ∧ (l = 0 → T = []) ∧ Hid (SI w w1 r o h x gs p fv A y ga ca T ta tc U ua uc k e) ∧ 0 ≤ links ∧ links ≤ 8 ∧ T.length + 200 * links.toNat ≤ 10000 ∧ A.length + T.length + 200 * links.toNat ≤ 10000 ∧ U.length + T.length + 200 * links.toNat ≤ 10000 ∧ Hid (∀ z, Wk fresh L wh follow A y T dir links U z → Wk fresh L wh follow [] rootNd T0 dir0 links0 [] z)
theorem Jst.open {fresh L : List En} {wh : Int → Bool} {follow : Bool} {w : World} {p : Nat} {fv : Value} {T0 : List ByteArray} {dir0 : Bool} {links0 : Int} {l : Nat} {a : Act} {w1 : World} (hj : Jst fresh L wh follow w p fv T0 dir0 links0 l a w1) :
    ∃ (r o h x gs : Nat) (dir : Bool) (links : Int) (A : List Nd) (y : Nd) (ga ca : Nat) (T : List ByteArray) (ta : Option Addr) (tc : Nat) (U : List Ky) (ua : Option Addr) (uc : Nat) (k : Ky) (e : En) (u : Nat → Value), a = { tmps := #[.pointer (some ⟨p, 0, none⟩), fv, u 2, .bool dir, .bool follow, .int .i64 links, u 6, u 7, u 8, u 9, u 10, u 11, .pointer (some ⟨r, 0, none⟩), .slice ta T.length tc, .slice (some ⟨gs, 0, none⟩) 3 3, .slice (some ⟨ga, 0, none⟩) (A.length + 1) ca, .pointer (some ⟨o, 0, none⟩), .pointer (some ⟨h, 0, none⟩), .pointer (some ⟨x, 0, none⟩), u 19, u 20, u 21, u 22, u 23, u 24, u 25, u 26, u 27, u 28, u 29, u 30, u 31, u 32, u 33, u 34, u 35, u 36, u 37, u 38, u 39, u 40, u 41, u 42, u 43, u 44, u 45, u 46, u 47, u 48, u 49, u 50, u 51, u 52, u 53, u 54, u 55, u 56, u 57, u 58, u 59, u 60, u 61, u 62, u 63, u 64, u 65, u 66, u 67, u 68, u 69, u 70, u 71, u 72, u 73, u 74, u 75, u 76, u 77, u 78, u 79, u 80, u 81, u 82, u 83, u 84, u 85, u 86, u 87, u 88, u 89, u 90, u 91, u 92, u 93, u 94, u 95, u 96, u 97, u 98, u 99, u 100, u 101, u 102, u 103, u 104, u 105, u 106, u 107, u 108, u 109, u 110, u 111, u 112, u 113, u 114, u 115, u 116, u 117, u 118, u 119, u 120, u 121, u 122, u 123, u 124, u 125, u 126, u 127, u 128, u 129, u 130, u 131, u 132, u 133, u 134, u 135, u 136, u 137, u 138, u 139, u 140, u 141, u 142], defers := [] } ∧ (l = 0 → T = []) ∧ Hid (SI w w1 r o h x gs p fv A y ga ca T ta tc U ua uc k e) ∧ 0 ≤ links ∧ links ≤ 8 ∧ T.length + 200 * links.toNat ≤ 10000 ∧ A.length + T.length + 200 * links.toNat ≤ 10000 ∧ U.length + T.length + 200 * links.toNat ≤ 10000 ∧ Hid (∀ z, Wk fresh L wh follow A y T dir links U z → Wk fresh L wh follow [] rootNd T0 dir0 links0 [] z) := by
  obtain ⟨_, r, o, h, x, gs, dir, links, A, y, ga, ca, T, ta, tc, U, ua, uc, k, e, ⟨hs, hd⟩, ⟨h_0, h_1, h_3, h_4, h_5, h_12, h_13, h_14, h_15, h_16, h_17, h_18⟩, hr⟩ := hj
  refine ⟨r, o, h, x, gs, dir, links, A, y, ga, ca, T, ta, tc, U, ua, uc, k, e, fun i => a.tmps.getD i undef, ?_, hr⟩
  have h1 := frame_all a hs hd
  rw [h_0, h_1, h_3, h_4, h_5, h_12, h_13, h_14, h_15, h_16, h_17, h_18] at h1
  exact h1

/-- a frame of the walk -/
def Fst (a : Act) (r o h x gs p : Nat) (fv : Value) (follow dir : Bool) (links : Int) (A : List Nd) (ga ca : Nat) (T : List ByteArray) (ta : Option Addr) (tc : Nat) : Prop := (a.tmps.size = 143 ∧ a.defers = []) ∧ (a.tmps.getD 0 undef = .pointer (some ⟨p, 0, none⟩) ∧ a.tmps.getD 1 undef = fv ∧ a.tmps.getD 3 undef = .bool dir ∧ a.tmps.getD 4 undef = .bool follow ∧ a.tmps.getD 5 undef = .int .i64 links ∧ a.tmps.getD 12 undef = .pointer (some ⟨r, 0, none⟩) ∧ a.tmps.getD 13 undef = .slice ta T.length tc ∧ a.tmps.getD 14 undef = .slice (some ⟨gs, 0, none⟩) 3 3 ∧ a.tmps.getD 15 undef = .slice (some ⟨ga, 0, none⟩) (A.length + 1) ca ∧ a.tmps.getD 16 undef = .pointer (some ⟨o, 0, none⟩) ∧ a.tmps.getD 17 undef = .pointer (some ⟨h, 0, none⟩) ∧ a.tmps.getD 18 undef = .pointer (some ⟨x, 0, none⟩))
set_option maxHeartbeats 1000000 in
theorem Fst.open {a : Act} {r o h x gs p : Nat} {fv : Value} {follow dir : Bool} {links : Int} {A : List Nd} {ga ca : Nat} {T : List ByteArray} {ta : Option Addr} {tc : Nat} (hj : Fst a r o h x gs p fv follow dir links A ga ca T ta tc) : ∃ u : Nat → Value, a = { tmps := #[.pointer (some ⟨p, 0, none⟩), fv, u 2, .bool dir, .bool follow, .int .i64 links, u 6, u 7, u 8, u 9, u 10, u 11, .pointer (some ⟨r, 0, none⟩), .slice ta T.length tc, .slice (some ⟨gs, 0, none⟩) 3 3, .slice (some ⟨ga, 0, none⟩) (A.length + 1) ca, .pointer (some ⟨o, 0, none⟩), .pointer (some ⟨h, 0, none⟩), .pointer (some ⟨x, 0, none⟩), u 19, u 20, u 21, u 22, u 23, u 24, u 25, u 26, u 27, u 28, u 29, u 30, u 31, u 32, u 33, u 34, u 35, u 36, u 37, u 38, u 39, u 40, u 41, u 42, u 43, u 44, u 45, u 46, u 47, u 48, u 49, u 50, u 51, u 52, u 53, u 54, u 55, u 56, u 57, u 58, u 59, u 60, u 61, u 62, u 63, u 64, u 65, u 66, u 67, u 68, u 69, u 70, u 71, u 72, u 73, u 74, u 75, u 76, u 77, u 78, u 79, u 80, u 81, u 82, u 83, u 84, u 85, u 86, u 87, u 88, u 89, u 90, u 91, u 92, u 93, u 94, u 95, u 96, u 97, u 98, u 99, u 100, u 101, u 102, u 103, u 104, u 105, u 106, u 107, u 108, u 109, u 110, u 111, u 112, u 113, u 114, u 115, u 116, u 117, u 118, u 119, u 120, u 121, u 122, u 123, u 124, u 125, u 126, u 127, u 128, u 129, u 130, u 131, u 132, u 133, u 134, u 135, u 136, u 137, u 138, u 139, u 140, u 141, u 142], defers := [] } := by
  obtain ⟨⟨hs, hd⟩, ⟨h_0, h_1, h_3, h_4, h_5, h_12, h_13, h_14, h_15, h_16, h_17, h_18⟩⟩ := hj
  refine ⟨fun i => a.tmps.getD i undef, ?_⟩
  have h1 := frame_all a hs hd
  rw [h_0, h_1, h_3, h_4, h_5, h_12, h_13, h_14, h_15, h_16, h_17, h_18] at h1
  exact h1

end Go.Proofs.YtbjibkjenleloaaGreatDoor

end

section
namespace Go.Proofs.YtbjibkjenleloaaGreatDoor
set_option linter.unusedVariables false
set_option linter.unusedSimpArgs false
open Go.RowKit
attribute [local go_sem ↓] Go.wp_at_zero Go.wp_at_succ

set_option maxRecDepth 100000 in
set_option maxHeartbeats 8000000 in
theorem pass0b {w : World} {fresh L : List En} {wh : Int → Bool} {follow : Bool} {p : Nat} {fv : Value} {T0 : List ByteArray} {dir0 : Bool} {links0 : Int} {J : Nat → Act → World → Prop} {Q : Exit → Act → World → Prop} {a : Act} {w2 w3 : World} {r o h x gs : Nat} {dir : Bool} {links : Int} {A : List Nd} {y nd : Nd} {er : Int} {ga ca : Nat} {ta : Option Addr} {tc : Nat} {U : List Ky} {ua : Option Addr} {uc : Nat} {k : Ky} {e : En} (hQ : FinQ Q fresh L wh follow w T0 dir0 links0)
    (hF : Fst a r o h x gs p fv follow dir links A ga ca [] ta tc) (HS2 : Hid (SI w w2 r o h x gs p fv A y ga ca [] ta tc U ua uc k e)) (HC : Hid (Chg (fun j => j = o) w2 w3))
    (ho : w3.heap[o]? = some (.cells #[.bool false, .int .i64 0, .string { data := #[] }, .int .i64 er, .int .i64 nd.id, .int .i64 nd.kind, .int .i64 nd.mode, .string nd.target, .slice ua U.length uc] 176 (0, 0)))
    (HW : Hid (Wk fresh L wh follow [] rootNd T0 dir0 links0 [] ⟨false, ky0, er, nd, U⟩)) : (sndN 1 (wRest 0)).wp Tryz.prog (jumpM J Q) a w3 := by
  conv => pattern (sndN 1 (wRest 0)); whnf
  obtain ⟨u, rfl⟩ := hF.open
  have bo := blk9 ho
  have br := blk9 (heap_chg HC.out HS2.out.hr HS2.out.hro)
  have hro := HS2.out.hro
  have hor : o ≠ r := fun e1 => hro e1.symm
  clear ho hF
  go_wp2_with fail
  (try simp only [Exit.inBlock, Exit.then])
  show Q .ret _ _
  refine hQ _ _ r ⟨false, ky0, er, nd, U⟩ ua uc ?_ rfl ?_ ?_ ?_ ?_
  · rfl
  · refine (SI.ret9 HS2.out ?_ (.bool false) (.int .i64 0) (.string ByteArray.empty) (.int .i64 er) (.int .i64 nd.id) (.int .i64 nd.kind) (.int .i64 nd.mode) (.string nd.target) (.slice ua U.length uc)).1; exact HC.out
  · exact HW.out
  · refine (SI.ret9 HS2.out ?_ (.bool false) (.int .i64 0) (.string ByteArray.empty) (.int .i64 er) (.int .i64 nd.id) (.int .i64 nd.kind) (.int .i64 nd.mode) (.string nd.target) (.slice ua U.length uc)).2.1; exact HC.out
  · refine (SI.ret9 HS2.out ?_ (.bool false) (.int .i64 0) (.string ByteArray.empty) (.int .i64 er) (.int .i64 nd.id) (.int .i64 nd.kind) (.int .i64 nd.mode) (.string nd.target) (.slice ua U.length uc)).2.2; exact HC.out
set_option maxRecDepth 100000 in
set_option maxHeartbeats 8000000 in
theorem pass0a {w : World} {fresh L : List En} {wh : Int → Bool} {follow : Bool} {p : Nat} {fv : Value} {T0 : List ByteArray} {dir0 : Bool} {links0 : Int} {J : Nat → Act → World → Prop} {Q : Exit → Act → World → Prop} {a : Act} {w1 : World} (K : Code) (hj : Jst fresh L wh follow w p fv T0 dir0 links0 0 a w1)
    (hK : ∀ (a : Act) (w2 w3 : World) (r o h x gs : Nat) (dir : Bool) (links : Int) (A : List Nd) (y nd : Nd) (er : Int) (ga ca : Nat) (ta : Option Addr) (tc : Nat) (U : List Ky) (ua : Option Addr) (uc : Nat) (k : Ky) (e : En), Fst a r o h x gs p fv follow dir links A ga ca [] ta tc → Hid (SI w w2 r o h x gs p fv A y ga ca [] ta tc U ua uc k e) → Hid (Chg (fun j => j = o) w2 w3) →
      w3.heap[o]? = some (.cells #[.bool false, .int .i64 0, .string { data := #[] }, .int .i64 er, .int .i64 nd.id, .int .i64 nd.kind, .int .i64 nd.mode, .string nd.target, .slice ua U.length uc] 176 (0, 0)) →
      Hid (Wk fresh L wh follow [] rootNd T0 dir0 links0 [] ⟨false, ky0, er, nd, U⟩) → K.wp Tryz.prog (jumpM J Q) a w3) : (cutN 1 (wRest 0) K).wp Tryz.prog (jumpM J Q) a w1 := by
  conv => pattern (cutN 1 (wRest 0) K); whnf
  simp only [cutN]
  have HKK := hid hK
  obtain ⟨r, o, h, x, gs, dir, links, A, y, ga, ca, T, ta, tc, U, ua, uc, k, e, u, rfl, hT0, HI, hl1, hl2, hb1, hb2, hb3, HW⟩ := hj.open
  have hT := hT0 rfl
  subst hT
  clear hj hT0 hK
  go_wp2_with fail
  refine (node_any _ w.heap.size ga ca A y HI.out.row).mono ?_; rintro e w2 ⟨rfl, hb2⟩
  have HS2 := hid (HI.out.alloc hb2)
  have bo := blk9 HS2.out.ho
  unfold Nd.v
  clear hb2
  cases dir with
  | false =>
    go_wp2_with fail
    refine HKK.out _ w2 _ r o h x gs false links A y y 0 ga ca ta tc U ua uc k _ ⟨⟨rfl, rfl⟩, rfl, rfl, rfl, rfl, rfl, rfl, rfl, rfl, rfl, rfl, rfl, rfl⟩ HS2 (hid ?_) ?_ (hid (HW.out _ (.done _ _ _ _ _ (by simp))))
    · iterate 4 refine Chg.set1 ?_ _ _ rfl
      exact Chg.refl _ _
    · have h9 := heap_set (heap_set (heap_set (heap_set HS2.out.ho 4 (.int .i64 y.id)) 5 (.int .i64 y.kind)) 6 (.int .i64 y.mode)) 7 (.string y.target)
      simp only [List.setIfInBounds_toArray, List.set_cons_zero, List.set_cons_succ] at h9
      exact h9
  | true =>
    by_cases hk : y.kind = 1
    · have HK := hid hk
      go_wp2_with fail
      refine HKK.out _ w2 _ r o h x gs true links A y y 0 ga ca ta tc U ua uc k _ ⟨⟨rfl, rfl⟩, rfl, rfl, rfl, rfl, rfl, rfl, rfl, rfl, rfl, rfl, rfl, rfl⟩ HS2 (hid ?_) ?_ (hid (HW.out _ (.done _ _ _ _ _ (by simp [HK.out]))))
      · iterate 4 refine Chg.set1 ?_ _ _ rfl
        exact Chg.refl _ _
      · have h9 := heap_set (heap_set (heap_set (heap_set HS2.out.ho 4 (.int .i64 y.id)) 5 (.int .i64 y.kind)) 6 (.int .i64 y.mode)) 7 (.string y.target)
        simp only [List.setIfInBounds_toArray, List.set_cons_zero, List.set_cons_succ] at h9
        first | exact h9 | (rw [HK.out] at h9; rw [HK.out]; exact h9)
    · have hk1 : (y.kind != 1) = true := by simp [hk]
      have HK := hid hk
      clear hk
      go_wp2_with fail
      refine HKK.out _ w2 _ r o h x gs true links A y nd0 42 ga ca ta tc U ua uc k _ ⟨⟨rfl, rfl⟩, rfl, rfl, rfl, rfl, rfl, rfl, rfl, rfl, rfl, rfl, rfl, rfl⟩ HS2 (hid ?_) ?_ (hid (HW.out _ (.wrong _ _ _ _ _ (by simp [HK.out]))))
      · iterate 9 refine Chg.set1 ?_ _ _ rfl
        exact Chg.refl _ _
      · have h9 := heap_set (heap_set (heap_set (heap_set (heap_set (heap_set (heap_set (heap_set (heap_set HS2.out.ho 4 (.int .i64 y.id)) 5 (.int .i64 y.kind)) 6 (.int .i64 y.mode)) 7 (.string y.target)) 4 (.int .i64 0)) 5 (.int .i64 0)) 6 (.int .i64 0)) 7 (.string { data := #[] })) 3 (.int .i64 42)
        simp only [List.setIfInBounds_toArray, List.set_cons_zero, List.set_cons_succ] at h9
        exact h9
theorem pass0 {w : World} {fresh L : List En} {wh : Int → Bool} {follow : Bool} {p : Nat} {fv : Value} {T0 : List ByteArray} {dir0 : Bool} {links0 : Int} {J : Nat → Act → World → Prop} {Q : Exit → Act → World → Prop} {a : Act} {w1 : World} (hQ : FinQ Q fresh L wh follow w T0 dir0 links0) (hj : Jst fresh L wh follow w p fv T0 dir0 links0 0 a w1) : (wRest 0).wp Tryz.prog (jumpM J Q) a w1 :=
  pass0a (sndN 1 (wRest 0)) hj fun a w2 w3 r o h x gs dir links A y nd er ga ca ta tc U ua uc k e hF HS HC ho HW => pass0b hQ hF HS HC ho HW

end Go.Proofs.YtbjibkjenleloaaGreatDoor

end

section
namespace Go.Proofs.YtbjibkjenleloaaGreatDoor
set_option linter.unusedVariables false
set_option linter.unusedSimpArgs false
open Go.RowKit
attribute [local go_sem ↓] Go.wp_at_zero Go.wp_at_succ

set_option maxRecDepth 100000 in
set_option maxHeartbeats 8000000 in
theorem pass1a {w : World} {fresh L : List En} {wh : Int → Bool} {follow : Bool} {p : Nat} {fv : Value} {T0 : List ByteArray} {dir0 : Bool} {links0 : Int} {J : Nat → Act → World → Prop} {Q : Exit → Act → World → Prop} {a : Act} {w1 : World} {m0 : Nat} (K : Code) (hj : Jst fresh L wh follow w p fv T0 dir0 links0 1 a w1) (hm : m0 = muW 1 a w1) (hQ : FinQ Q fresh L wh follow w T0 dir0 links0) (h0 : ∀ a w2, Jst fresh L wh follow w p fv T0 dir0 links0 0 a w2 → J 0 a w2)
    (hK : ∀ (a : Act) (w2 : World) (r o h x gs : Nat) (dir : Bool) (links : Int) (A : List Nd) (y : Nd) (ga ca : Nat) (s : ByteArray) (T : List ByteArray) (ta : Option Addr) (tc : Nat) (U : List Ky) (ua : Option Addr) (uc : Nat) (k : Ky) (e : En), Fst a r o h x gs p fv follow dir links A ga ca (s :: T) ta tc → Hid (SI w w2 r o h x gs p fv A y ga ca (s :: T) ta tc U ua uc k e) → y.kind = 1 → 0 ≤ links → links ≤ 8 → T.length + 1 + 200 * links.toNat ≤ 10000 → A.length + T.length + 1 + 200 * links.toNat ≤ 10000 → U.length + T.length + 1 + 200 * links.toNat ≤ 10000 → 1 + links.toNat * 100000 + (T.length + 1) ≤ m0 → Hid (∀ z, Wk fresh L wh follow A y (s :: T) dir links U z → Wk fresh L wh follow [] rootNd T0 dir0 links0 [] z) → K.wp Tryz.prog (jumpM J Q) a w2) : (cutN 2 (wRest 1) K).wp Tryz.prog (jumpM J Q) a w1 := by
  conv => pattern (cutN 2 (wRest 1) K); whnf
  simp only [cutN]
  have HKK := hid hK
  have H0 := hid h0
  obtain ⟨r, o, h, x, gs, dir, links, A, y, ga, ca, T, ta, tc, U, ua, uc, k, e, u, rfl, hT0, HI, hl1, hl2, hb1, hb2, hb3, HW⟩ := hj.open
  have hm' : m0 = 1 + links.toNat * 100000 + T.length := hm
  clear hj hT0 hK h0 hm
  cases T with
  | nil =>
    go_wp2_with fail
    refine wp_goto ?_
    refine H0.out _ _ ?_
    exact ⟨.inl rfl, r, o, h, x, gs, dir, links, A, y, ga, ca, [], ta, tc, U, ua, uc, k, e, ⟨rfl, rfl⟩, ⟨rfl, rfl, rfl, rfl, rfl, rfl, rfl, rfl, rfl, rfl, rfl, rfl⟩, (fun _ => rfl), HI, hl1, hl2, hb1, hb2, hb3, HW⟩
  | cons s T =>
    simp only [List.length_cons] at hb1 hb2 hb3 hm' ⊢
    have hz1 : (((T.length + 1 : Nat) : Int) == 0) = false := by simp; omega
    have hz2 : ((T.length : Int) + 1 == 0) = false := by simp; omega
    have HM := hid hm'
    have HB := hid (And.intro hb1 (And.intro hb2 hb3))
    clear hm' hb1 hb2 hb3
    go_wp2_with fail
    refine (node_any _ w.heap.size ga ca A y HI.out.row).mono ?_; rintro e w2 ⟨rfl, hb2⟩
    have HS2 := hid (HI.out.alloc hb2)
    have bo := blk9 HS2.out.ho
    have br := blk9 HS2.out.hr
    have hro := HS2.out.hro
    have hf1 : ∀ w : World, (Instr.field 40 (.agg #[.int .i64 y.id, .int .i64 y.kind, .int .i64 y.mode, .string y.target]) 1).run Tryz.prog w = .ok (.int .i64 y.kind) w := fun _ => by kernel_rfl
    have hor : o ≠ r := fun e1 => hro e1.symm
    unfold Nd.v
    clear hb2
    by_cases hk : y.kind = 1
    · have hk1 : (y.kind != 1) = false := by simp [hk]
      have HK := hid hk
      clear hk
      go_wp2_with fail
      refine HKK.out _ w2 r o h x gs dir links A y ga ca s T ta tc U ua uc k _ ?_ HS2 HK.out hl1 hl2 (by have := HB.out; omega) (by have := HB.out; omega) (by have := HB.out; omega) (by have := HM.out; omega) HW
      exact ⟨⟨rfl, rfl⟩, rfl, rfl, rfl, rfl, rfl, rfl, rfl, rfl, rfl, rfl, rfl, rfl⟩
    · have hk1 : (y.kind != 1) = true := by simp [hk]
      have HK := hid hk
      clear hk
      go_wp2_with fail
      (try simp only [Exit.inBlock, Exit.then])
      show Q .ret _ _
      refine hQ _ _ r ⟨false, ky0, 42, nd0, U⟩ ua uc ?_ rfl ?_ ?_ ?_ ?_
      · rfl
      · refine (SI.ret9 HS2.out ?_ (.bool false) (.int .i64 0) (.string ByteArray.empty) (.int .i64 42) (.int .i64 0) (.int .i64 0) (.int .i64 0) (.string ByteArray.empty) (.slice ua U.length uc)).1; (iterate 1 refine Chg.set1 ?_ _ _ rfl); exact Chg.refl _ _
      · exact HW.out _ (.notdir _ _ _ _ _ _ _ HK.out)
      · refine (SI.ret9 HS2.out ?_ (.bool false) (.int .i64 0) (.string ByteArray.empty) (.int .i64 42) (.int .i64 0) (.int .i64 0) (.int .i64 0) (.string ByteArray.empty) (.slice ua U.length uc)).2.1; (iterate 1 refine Chg.set1 ?_ _ _ rfl); exact Chg.refl _ _
      · refine (SI.ret9 HS2.out ?_ (.bool false) (.int .i64 0) (.string ByteArray.empty) (.int .i64 42) (.int .i64 0) (.int .i64 0) (.int .i64 0) (.string ByteArray.empty) (.slice ua U.length uc)).2.2; (iterate 1 refine Chg.set1 ?_ _ _ rfl); exact Chg.refl _ _
end Go.Proofs.YtbjibkjenleloaaGreatDoor

end

section
namespace Go.Proofs.YtbjibkjenleloaaGreatDoor
set_option linter.unusedVariables false
set_option linter.unusedSimpArgs false
open Go.RowKit
attribute [local go_sem ↓] Go.wp_at_zero Go.wp_at_succ

theorem SI.drew {w w' : World} {r o h x gs p : Nat} {fv : Value} {A : List Nd} {y : Nd} {ga ca : Nat} {T : List ByteArray} {ta : Option Addr} {tc : Nat} {U : List Ky} {ua : Option Addr} {uc : Nat} {k : Ky} {e : En} (s : SI w w' r o h x gs p fv A y ga ca T ta tc U ua uc k e) : SI w w'.drew r o h x gs p fv A y ga ca T ta tc U ua uc k e :=
  ⟨s.below.drew, s.hr, s.ho, s.hh, s.hx, s.src, s.srct, s.row, s.used, s.usedh, s.todo, s.todot, s.hro, s.lo⟩
theorem rd_first {w : World} {b o n c : Nat} {x : Value} {cs : List Value} (h : Rd w (.slice (some ⟨b, o, none⟩) n c) n (x :: cs)) : w.cell? ⟨b, o, none⟩ = some x := by
  obtain ⟨b', o', cap, hv, _, _, _, h3⟩ := h.form (by simp)
  simp only [Value.slice.injEq, Option.some.injEq, Addr.mk.injEq] at hv
  obtain ⟨⟨rfl, rfl, _⟩, _, rfl⟩ := hv
  exact h3 0 x rfl
theorem run_slice_from (t e sz : TypeId) (a : Option Addr) (len cap l : Nat) (ht : Tryz.prog.underlying t = some (.slice e)) (hs : ∀ w, (sizeOf e).run Tryz.prog w = .ok sz w) (hl : l ≤ len) (w : World) :
    (Instr.slice t (.slice a len cap) (some (.int .i64 (l : Int))) none none).run Tryz.prog w = .ok (.slice (if cap = l then a else a.map (·.add (l * sz))) (len - l) (cap - l)) w := by
  have h0 : (0 : Int) ≤ (l : Int) := by omega
  have h1 : (l : Int) ≤ (len : Int) := by omega
  have hb := run_sliceBound (P := Tryz.prog) w .i64 (l : Int) len .sliceB h0 h1
  simp [Instr.slice, run_underlying ht, Instr.sliceBounds, hs, hb]
theorem up_at (w : World) (B g c : Nat) (A : List Nd) (y : Nd) (h : w.ownsRow B 40 4 (.slice (some ⟨g, 0, none⟩) (A.length + 1) c) (A.length + 1) (ncs (A ++ [y]))) :
    Calls Tryz.prog 144 #[.slice (some ⟨g, 0, none⟩) (A.length + 1) c] w fun e w' => ∃ A' y', e = .returned (.slice (some ⟨g, 0, none⟩) (A'.length + 1) c) ∧ w = w' ∧ w.ownsRow B 40 4 (.slice (some ⟨g, 0, none⟩) (A'.length + 1) c) (A'.length + 1) (ncs (A' ++ [y'])) ∧ A'.length ≤ A.length ∧ (A = [] ∧ A' = [] ∧ y' = y ∨ A = A' ++ [y']) := by
  have hl : (A ++ [y]).length = A.length + 1 := by simp
  have h2 := up_any w B g c (A ++ [y]) (by rw [hl]; exact h) (by simp)
  rw [hl] at h2
  refine h2.mono ?_; rintro e w' ⟨rfl, rfl⟩
  rcases List.eq_nil_or_concat A with rfl | ⟨A', z, rfl⟩
  · exact ⟨[], y, rfl, rfl, h, by simp, .inl ⟨rfl, rfl, rfl⟩⟩
  · rw [List.concat_eq_append] at h ⊢
    have hm : max 1 ((A' ++ [z]).length + 1 - 1) = A'.length + 1 := by simp
    refine ⟨A', z, by rw [hm], rfl, ?_, by simp, .inr rfl⟩
    have h3 := row_prefix h (m := A'.length + 1) (by simp)
    rw [ncs_take] at h3
    have h4 : (A' ++ [z] ++ [y]).take (A'.length + 1) = A' ++ [z] := by
      rw [show A'.length + 1 = (A' ++ [z]).length by simp]; exact List.take_left
    rw [h4] at h3
    exact h3

set_option maxRecDepth 100000 in
set_option maxHeartbeats 8000000 in
theorem pass1b {w : World} {fresh L : List En} {wh : Int → Bool} {follow : Bool} {p : Nat} {fv : Value} {T0 : List ByteArray} {dir0 : Bool} {links0 : Int} {J : Nat → Act → World → Prop} {Q : Exit → Act → World → Prop} {a : Act} {w1 : World} {r o h x gs : Nat} {dir : Bool} {links : Int} {A : List Nd} {y : Nd} {ga ca : Nat} {s : ByteArray} {T : List ByteArray} {ta : Option Addr} {tc : Nat} {U : List Ky} {ua : Option Addr} {uc : Nat} {k : Ky} {e : En} {m0 : Nat} (K : Code)
    (hF : Fst a r o h x gs p fv follow dir links A ga ca (s :: T) ta tc) (HI : Hid (SI w w1 r o h x gs p fv A y ga ca (s :: T) ta tc U ua uc k e)) (hl1 : 0 ≤ links) (hl2 : links ≤ 8) (hb1 : T.length + 1 + 200 * links.toNat ≤ 10000) (hb2 : A.length + T.length + 1 + 200 * links.toNat ≤ 10000) (hb3 : U.length + T.length + 1 + 200 * links.toNat ≤ 10000) (hm : 1 + links.toNat * 100000 + (T.length + 1) ≤ m0) (HW : Hid (∀ z, Wk fresh L wh follow A y (s :: T) dir links U z → Wk fresh L wh follow [] rootNd T0 dir0 links0 [] z)) (hk : y.kind = 1) (h1 : ∀ a w2, Jst fresh L wh follow w p fv T0 dir0 links0 1 a w2 → muW 1 a w2 < m0 → J 1 a w2)
    (hK : ∀ (a : Act) (w2 : World) (ta : Option Addr) (tc : Nat), Fst a r o h x gs p fv follow dir links A ga ca T ta tc → Hid (SI w w2 r o h x gs p fv A y ga ca T ta tc U ua uc ⟨y.id, s⟩ e) → dotT s = false → dot2T s = false → K.wp Tryz.prog (jumpM J Q) a w2) : (cutN 3 (sndN 2 (wRest 1)) K).wp Tryz.prog (jumpM J Q) a w1 := by
  conv => pattern (sndN 2 (wRest 1)); whnf
  simp only [cutN]
  have HKK := hid hK
  have HH1 := hid h1
  have HM := hid hm
  have HB := hid (And.intro hb1 (And.intro hb2 hb3))
  have HYK := hid hk
  obtain ⟨u, rfl⟩ := hF.open
  clear hF hK h1 hm hb1 hb2 hb3 hk
  obtain ⟨tb, tq, cap, hv, h1, h2, _, h3⟩ := HI.out.todo.form (by simp [srow])
  simp only [Value.slice.injEq] at hv
  obtain ⟨rfl, _, rfl⟩ := hv
  have KR : w1.cell? ⟨tb, tq, none⟩ = some (.string s) := by simpa using h3 0 (.string s) (by simp [srow])
  have KRd : w1.drew.cell? ⟨tb, tq, none⟩ = some (.string s) := KR
  have hz : ((0 : Int) < (T.length : Int) + 1) := by omega
  simp only [List.length_cons] at h1 ⊢
  have HC1 := hid h1
  clear h1 h2 h3
  have hf0 : ∀ w : World, (Instr.field 40 (.agg #[.int .i64 y.id, .int .i64 y.kind, .int .i64 y.mode, .string y.target]) 0).run Tryz.prog w = .ok (.int .i64 y.id) w := fun _ => by kernel_rfl
  obtain ⟨tn, htn⟩ : ∃ tn, tn = (if tc = 1 then some (⟨tb, tq, none⟩ : Addr) else (some (⟨tb, tq, none⟩ : Addr)).map (·.add 1)) := ⟨_, rfl⟩
  have hsl : ∀ w : World, (Instr.slice 41 (.slice (some ⟨tb, tq, none⟩) (T.length + 1) tc) (some (.int .i64 1)) none none).run Tryz.prog w = .ok (.slice tn T.length (tc - 1)) w := fun w => by
    rw [htn]
    exact run_slice_from 41 9 1 (some ⟨tb, tq, none⟩) (T.length + 1) tc 1 Tryz.underlying41 (fun w => Tryz.sizeOf9 w) (by omega) w
  have HTN := hid htn
  clear htn
  go_wp2_with fail
  go_region_held3 (fun w' => w'.cell? ⟨tb, tq, none⟩ = some (.string s))
    (first | with_reducible exact KR | with_reducible exact KRd | with_reducible exact K2 | with_reducible exact K3)
    (first | (go_at_call 143; refine (node_any _ w.heap.size ga ca A y (own_drew HI.out.row)).mono ?_; rintro e2 w2 ⟨rfl, hb2⟩; simp only [Nd.v]; (have HS2 := hid (HI.out.drew.alloc hb2)); (have K2 : w2.cell? ⟨tb, tq, none⟩ = some (.string s) := rd_first HS2.out.todo); (have HS3 := hid (HS2.out.seth ⟨y.id, s⟩)); (have K3 := rd_first HS3.out.todo); (have bh := blk2 HS2.out.hh); clear hb2))
  all_goals
    have HS4 := hid (show SI w _ r o h x gs p fv A y ga ca T tn (tc - 1) U ua uc ⟨y.id, s⟩ e from (by
      rw [HTN.out]
      exact HS3.out.todos (rd_srow_from HS3.out.todo) (TyB.from HS3.out.todot)))
    clear KR KRd K2 K3
    cases hd : dot2T s with
    | true =>
      have HD := hid hd
      have h2 : (s.toList == [46, 46]) = true := hd
      clear hd
      go_wp2_with fail
      refine (up_at _ w.heap.size ga ca A y HS4.out.row).mono ?_; rintro e3 w4 ⟨A', y', rfl, rfl, hrow, hle, hor⟩
      have HRW := hid hrow
      have HOR := hid hor
      have HLE := hid hle
      clear hrow hor hle
      go_wp2_with fail
      refine wp_goto ?_
      refine HH1.out _ _ ?_ ?_
      · exact ⟨.inr rfl, r, o, h, x, gs, dir, links, A', y', ga, ca, T, tn, tc - 1, U, ua, uc, ⟨y.id, s⟩, e, ⟨rfl, rfl⟩, ⟨rfl, rfl, rfl, rfl, rfl, rfl, rfl, rfl, rfl, rfl, rfl, rfl⟩, (fun h => absurd h (by decide)), hid (HS4.out.place HRW.out), hl1, hl2, by have := HB.out; omega, by have := HB.out; have := HLE.out; omega, by have := HB.out; omega, hid (fun z hz => HW.out z (by
          rcases HOR.out with ⟨rfl, rfl, rfl⟩ | rfl
          · exact .upRoot _ _ _ _ _ _ _ HYK.out HD.out hz
          · exact .up _ _ _ _ _ _ _ _ _ HYK.out HD.out hz))⟩
      · show 1 + links.toNat * 100000 + T.length < m0
        have := HM.out; omega
    | false =>
      have HD := hid hd
      have h2 : (s.toList == [46, 46]) = false := hd
      clear hd
      cases hd1 : dotT s with
      | true =>
        have HD1 := hid hd1
        have h3 : (s.toList == [46]) = true := hd1
        clear hd1
        go_wp2_with fail
        refine wp_goto ?_
        refine HH1.out _ _ ?_ ?_
        · exact ⟨.inr rfl, r, o, h, x, gs, dir, links, A, y, ga, ca, T, tn, tc - 1, U, ua, uc, ⟨y.id, s⟩, e, ⟨rfl, rfl⟩, ⟨rfl, rfl, rfl, rfl, rfl, rfl, rfl, rfl, rfl, rfl, rfl, rfl⟩, (fun h => absurd h (by decide)), HS4, hl1, hl2, by have := HB.out; omega, by have := HB.out; omega, by have := HB.out; omega, hid (fun z hz => HW.out z (.dot _ _ _ _ _ _ _ _ HYK.out HD1.out hz))⟩
        · show 1 + links.toNat * 100000 + T.length < m0
          have := HM.out; omega
      | false =>
        have HD1 := hid hd1
        have h3 : (s.toList == [46]) = false := hd1
        clear hd1
        go_wp2_with fail
        refine HKK.out _ _ tn (tc - 1) ?_ HS4 HD1.out HD.out
        exact ⟨⟨rfl, rfl⟩, rfl, rfl, rfl, rfl, rfl, rfl, rfl, rfl, rfl, rfl, rfl, rfl⟩

end Go.Proofs.YtbjibkjenleloaaGreatDoor

end
