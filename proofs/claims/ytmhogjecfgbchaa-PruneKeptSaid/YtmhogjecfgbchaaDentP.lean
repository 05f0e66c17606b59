import Derived.Test.YtmhogjecfgbchaaDentO
namespace Go.Proofs.Ytmhogjecfgbchaa
set_option linter.unusedVariables false
set_option linter.unusedSimpArgs false
open Go.RowKit
attribute [local go_sem ↓] Go.wp_at_zero Go.wp_at_succ

/-! ### the document's cache -/

def ics (l : List Int) : List Value := l.map fun n => .int .i64 n

/-- the document's cache at p: entries and whole directories -/
structure RAt (w : World) (p : Nat) (L : List En) (ws : List Int) : Prop where
  ex : ∃ aL cL aW cW, w.heap[p]? = some (.cells #[.slice aL L.length cL, .slice aW ws.length cW] 82 (0, 0)) ∧
    w.ownsRow (p + 1) 30 7 (.slice aL L.length cL) L.length (ecs L) ∧ w.ownsRow (p + 1) 3 1 (.slice aW ws.length cW) ws.length (ics ws)

theorem RAt.lt {w : World} {p : Nat} {L : List En} {ws : List Int} (h : RAt w p L ws) : p < w.heap.size := by
  obtain ⟨_, _, _, _, h1, _⟩ := h.ex; exact blk_lt h1
theorem RAt.chg {w w' : World} {p : Nat} {L : List En} {ws : List Int} (h : RAt w p L ws) {F : Nat → Prop} (hc : Chg F w w') (hF : ∀ k, p ≤ k → k < w.heap.size → ¬ F k) : RAt w' p L ws := by
  have hl := h.lt
  obtain ⟨aL, cL, aW, cW, h1, h2, h3⟩ := h.ex
  exact ⟨aL, cL, aW, cW, heap_chg hc h1 (hF p (Nat.le_refl _) hl), ownsRow_chg h2 fun k hk hlt => hc.block k hlt (hF k (by have := (own_lt h2 hk).1; omega) hlt), ownsRow_chg h3 fun k hk hlt => hc.block k hlt (hF k (by have := (own_lt h3 hk).1; omega) hlt)⟩
theorem RAt.below {w w' : World} {p : Nat} {L : List En} {ws : List Int} (h : RAt w p L ws) (hb : Below w.heap.size w w') : RAt w' p L ws := h.chg (Chg.below hb) fun _ _ _ h => h

theorem ecs_at {w : World} {g n c m : Nat} {M : List En} {j : Nat} {x : En} (h : Rd w (.slice (some ⟨g, 0, none⟩) n c) m (ecs M)) (hx : M[j]? = some x) :
    w.cell? ⟨g, j * 7, none⟩ = some (.int .i64 x.key.dir) ∧ w.cell? ⟨g, j * 7 + 1, none⟩ = some (.string x.key.name) ∧ w.cell? ⟨g, j * 7 + 2, none⟩ = some (.bool x.neg) ∧ w.cell? ⟨g, j * 7 + 3, none⟩ = some (.int .i64 x.node.id) ∧ w.cell? ⟨g, j * 7 + 4, none⟩ = some (.int .i64 x.node.kind) ∧ w.cell? ⟨g, j * 7 + 5, none⟩ = some (.int .i64 x.node.mode) ∧ w.cell? ⟨g, j * 7 + 6, none⟩ = some (.string x.node.target) := by
  have g0 : ∀ (i : Nat) (v : Value), x.cells[i]? = some v → w.cell? ⟨g, j * 7 + i, none⟩ = some v := fun i v hi => by
    have := h.at _ _ (flatMap_at (f := En.cells) (sz := 7) (fun _ => rfl) hx hi)
    simpa using this
  exact ⟨g0 0 _ rfl, g0 1 _ rfl, g0 2 _ rfl, g0 3 _ rfl, g0 4 _ rfl, g0 5 _ rfl, g0 6 _ rfl⟩

/-- the place of a key -/
def atE (k : Ky) (L : List En) : Int := match L.findIdx? (isK k) with | some j => (j : Int) | none => -1

set_option maxHeartbeats 1000000 in
theorem r_at (w : World) (p : Nat) (L : List En) (ws : List Int) (k : Ky) (h : RAt w p L ws) (hn : L.length < 4611686018427387904) :
    Calls Try.prog 70 #[.pointer (some ⟨p, 0, none⟩), .agg #[.int .i64 k.dir, .string k.name]] w fun e w' => e = .returned (.int .i64 (atE k L)) ∧ Below w.heap.size w w' := by
  obtain ⟨aL, cL, aW, cW, h1, h2, h3⟩ := h.ex
  have H2 := hid h2
  have H1 := hid (heap_old h1 (.cells #[.int .i64 k.dir, .string k.name] 26))
  have hp := blk_lt h1
  clear h h1 h2 h3
  go_enter Try.func70, Try.ntmps70
  go_wp2_with fail
  go_loopw [5] (fun v wr => ∃ (j : Nat), j ≤ L.length ∧ v = .int .i64 j ∧ Hid (Dr (w.alloc (.cells #[.int .i64 k.dir, .string k.name] 26)) wr) ∧ Hid ((L.take j).findIdx? (isK k) = none)) (fun v _ => L.length - (intOf v).toNat)
  case atStart => exact ⟨0, Nat.zero_le _, rfl, hid (Dr.refl _), hid (by simp)⟩
  case round =>
    obtain ⟨j, hj, rfl, HD, HN⟩ := hrel
    obtain ⟨q, rfl⟩ := HD.out
    have b0 := blk2 H1.out
    have BK := blk2 (heap_new w (.cells #[.int .i64 k.dir, .string k.name] 26))
    have hnn : L.length ≤ 9223372036854775807 := by omega
    by_cases hlt : j < L.length
    · have hk0 : (0 : Int) ≤ (j : Int) := by omega
      have hk1 : (j : Int) < (L.length : Int) := by omega
      obtain ⟨g, hag, hBg, hgz, hc1, hc2⟩ := own_loc H2.out (by omega)
      obtain ⟨x, hx⟩ : ∃ x, L[j]? = some x := ⟨_, List.getElem?_eq_getElem hlt⟩
      have H2' := hid (own_alloc H2.out (.cells #[.int .i64 k.dir, .string k.name] 26))
      subst hag
      have b1 := ecs_at (Rd.own H2'.out) hx
      have HX := hid hx
      have heq := fun W => eqIn_key x.key.dir k.dir x.key.name k.name W
      clear hx
      by_cases hk : k = x.key
      · rw [show decide ((⟨x.key.dir, x.key.name⟩ : Ky) = ⟨k.dir, k.name⟩) = true by rw [hk]; simp] at heq
        have HF := hid (show atE k L = (j : Int) by
          unfold atE
          rw [(List.findIdx?_eq_some_iff_getElem (p := isK k) (i := j)).2 ⟨hlt, by have := (List.getElem?_eq_some_iff.1 HX.out).2; simp [isK, this, hk], fun i hi => ?_⟩]
          have := List.findIdx?_eq_none_iff.1 HN.out L[i] (List.mem_iff_getElem?.2 ⟨i, by rw [List.getElem?_take_of_lt hi, List.getElem?_eq_getElem]⟩)
          simp [this])
        clear hk
        go_wp2_with fail
        go_quiet (fail)
        go_wp2
        go_ret
        exact ⟨by rw [HF.out]; rfl, below_drewN (below_drewN (bl1 w _) q) _⟩
      · have hne : ¬ ((⟨x.key.dir, x.key.name⟩ : Ky) = ⟨k.dir, k.name⟩) := fun e => hk e.symm
        simp only [hne, decide_false] at heq
        have HF := hid (show (L.take (j + 1)).findIdx? (isK k) = none by
          rw [List.take_add_one, HX.out, List.findIdx?_append, HN.out]; simp [isK, hk])
        clear hk hne
        go_wp2_with fail
        go_quiet (fail)
        go_wp2
        exact ⟨⟨j + 1, by omega, by go_num, hid ⟨_, rfl⟩, HF⟩, by simp [intOf]; omega⟩
    · have hje : L.take j = L := List.take_of_length_le (by omega)
      rw [hje] at HN
      have HF := hid (show atE k L = -1 by unfold atE; rw [HN.out])
      clear hje
      go_wp2
      go_ret
      exact ⟨by rw [HF.out]; rfl, below_drewN (bl1 w _) q⟩



theorem rd_grown {w w' : World} {n : Nat} {v : Value} {xs : List Value} {row : Option Nat} (h : Rd w v n xs) (hg : w.grownBy w' row) (hne : ∀ k, v.ownBlock = some k → row ≠ some k) : Rd w' v n xs :=
  h.chg fun k hk hlt => by rw [hg.block k hlt (fun e => hne k hk e.symm)]
theorem rd_prefix {w : World} {g o n c i sz : Nat} {xs : List Value} (h : Rd w (.slice (some ⟨g, o, none⟩) n c) n xs) (hi : i ≤ n) : Rd w (.slice (some ⟨g, o, none⟩) i c) i (xs.take (i * sz)) := by
  rcases h with ⟨h, _⟩ | ⟨ad, cap, hv, h1, h2, h3⟩
  · cases h
  · simp only [Value.slice.injEq, Option.some.injEq] at hv
    obtain ⟨rfl, _, rfl⟩ := hv
    refine .inr ⟨_, _, rfl, by omega, h2, fun k v hk => h3 k v ?_⟩
    by_cases hlt : k < i * sz
    · rw [List.getElem?_take_of_lt hlt] at hk; exact hk
    · rw [List.getElem?_eq_none (by simp; omega)] at hk; cases hk
theorem rd_suffix {w : World} {g n c i sz : Nat} {xs : List Value} (h : Rd w (.slice (some ⟨g, 0, none⟩) n c) n xs) (hl : xs.length = n * sz) (hi : i ≤ n) : Rd w (.slice (some (if c = i then ⟨g, 0, none⟩ else ⟨g, i * sz, none⟩)) (n - i) (c - i)) (n - i) (xs.drop (i * sz)) := by
  rcases h with ⟨h, _⟩ | ⟨ad, cap, hv, h1, h2, h3⟩
  · cases h
  · simp only [Value.slice.injEq, Option.some.injEq] at hv
    obtain ⟨rfl, _, rfl⟩ := hv
    refine .inr ⟨_, _, rfl, by omega, by omega, fun k v hk => ?_⟩
    rw [List.getElem?_drop] at hk
    have hlt := (List.getElem?_eq_some_iff.1 hk).1
    have hci : ¬ c = i := by
      intro e
      have : n = i := by omega
      subst this; omega
    rw [if_neg hci, add_mid]
    have := h3 _ v hk
    rw [add_mid] at this; simpa using this

theorem ecs_append (L M : List En) : ecs (L ++ M) = ecs L ++ ecs M := by simp [ecs]
theorem flat_take {α : Type} {f : α → List Value} {sz : Nat} (hf : ∀ x, (f x).length = sz) (L : List α) (i : Nat) : (L.flatMap f).take (i * sz) = (L.take i).flatMap f := by
  induction L generalizing i with
  | nil => simp
  | cons x L ih =>
    cases i with
    | zero => simp
    | succ i =>
      rw [List.take_succ_cons, List.flatMap_cons, List.flatMap_cons, ← ih i, Nat.add_mul, Nat.one_mul, Nat.add_comm, List.take_append, hf, List.take_of_length_le (by rw [hf]; omega), Nat.add_sub_cancel_left]
theorem flat_drop {α : Type} {f : α → List Value} {sz : Nat} (hf : ∀ x, (f x).length = sz) (L : List α) (i : Nat) : (L.flatMap f).drop (i * sz) = (L.drop i).flatMap f := by
  induction L generalizing i with
  | nil => simp
  | cons x L ih =>
    cases i with
    | zero => simp
    | succ i =>
      rw [List.drop_succ_cons, List.flatMap_cons, ← ih i, Nat.add_mul, Nat.one_mul, Nat.add_comm, List.drop_append, hf, List.drop_of_length_le (by rw [hf]; omega), Nat.add_sub_cancel_left, List.nil_append]
theorem ecs_one (L : List En) : ∀ u ∈ ecs L, u.oneCell' = true := by
  intro u hu
  obtain ⟨x, _, hx⟩ := List.mem_flatMap.1 hu
  exact En.one x u hx

set_option maxRecDepth 100000 in
set_option maxHeartbeats 1000000 in
theorem r_out (w : World) (p : Nat) (L : List En) (ws : List Int) (i : Int) (h : RAt w p L ws) (hi0 : 0 ≤ i) (hi1 : i < (L.length : Int)) (hn : L.length * 72 ≤ 140737488351232) :
    Calls Try.prog 71 #[.pointer (some ⟨p, 0, none⟩), .int .i64 i] w fun e w' => e = .returned (.tuple #[]) ∧ RAt w' p (L.eraseIdx i.toNat) ws ∧ Chg (fun k => k = p) w w' := by
  obtain ⟨j, rfl⟩ := Int.eq_ofNat_of_zero_le hi0
  rw [Int.toNat_natCast]
  obtain ⟨i7, hi7, p7, q7, r7⟩ := info_parts infoEn
  obtain ⟨aL, cL, aW, cW, h1, h2, h3⟩ := h.ex
  obtain ⟨g, hag, hBg, hgz, hc1, hc2⟩ := own_loc h2 (by omega)
  subst hag
  obtain ⟨n, hnn⟩ : ∃ n, n = L.length := ⟨_, rfl⟩
  have HI7 := hid hi7
  have H1 := hid h1
  have H2 := hid h2
  have H3 := hid h3
  have hp := blk_lt h1
  have b0 := blk2 h1
  rw [← hnn] at b0 hi1 hn hc1
  have HNN := hid hnn
  clear h h1 h2 h3 hi7 hnn
  have hcn : cL ≤ 9223372036854775807 := by unfold maxLen at hc2; omega
  have hj1 : j < n := by omega
  have hi2 : (j : Int) ≤ (n : Int) := by omega
  have hi3 : (n : Int) ≤ (cL : Int) := by omega
  have hi4 : (0 : Int) ≤ (j : Int) + 1 := by omega
  have hi5 : (j : Int) + 1 ≤ (n : Int) := by omega
  have hi6 : (j : Int) ≤ (cL : Int) := by omega
  have hi7 : (j : Int) + 1 ≤ (cL : Int) := by omega
  have hw1 : IntKind.i64.wrap ((j : Int) + 1) = (j : Int) + 1 := IntWalk.i64_in _ (by omega)
  have ht1 : ((j : Int) + 1).toNat = j + 1 := by omega
  have R2 := Rd.own H2.out
  have RP := hid (rd_prefix (i := j) (sz := 7) R2 (by have := HNN.out; omega))
  have HLT := hid (show ((ecs L).take (j * 7)).length = j * 7 by rw [List.length_take, ecs_len, ← HNN.out]; omega)
  have HLD := hid (show ((ecs L).drop ((j + 1) * 7)).length = (n - (j + 1)) * 7 by rw [List.length_drop, ecs_len, ← HNN.out]; omega)
  have HO1 := hid (fun u (hu : u ∈ (ecs L).take (j * 7)) => ecs_one L u (List.mem_of_mem_take hu))
  have HO2 := hid (fun u (hu : u ∈ (ecs L).drop ((j + 1) * 7)) => ecs_one L u (List.mem_of_mem_drop hu))
  have R2' := hid R2
  have hjn := HNN.out
  clear R2
  by_cases hcl : cL = j + 1
  · subst hcl
    have RS := hid (show Rd w (.slice (some ⟨g, 0, none⟩) 0 0) 0 [] from .inr ⟨_, _, rfl, by omega, by omega, fun k v hk => by simp at hk⟩)
    have HDR := hid (show (ecs L).drop ((j + 1) * 7) = [] from List.drop_eq_nil_of_le (by rw [ecs_len]; omega))
    clear hjn
    go_enter Try.func71, Try.ntmps71
    go_wp2_with (first
      | (at_builtin; refine wpList_append_rd rfl _ _ 49 rfl w.heap.size 30 i7 _ 7 72 Try.underlying49 HI7.out p7 q7 r7 rfl (by decide) (.slice a5 j c5) j ((ecs L).take (j * 7)) rfl HO5.out (.slice (some ⟨g, 0, none⟩) 0 0) 0 [] rfl RS5.out rfl (by simp) (by unfold maxLen; omega) (by omega) hz5 ?_; intro a6 c6 w6 hown6 hgrow6 hat6; (have kp6 := heap_grown hgrow6 K5.out (by intro e; have := (own_lt HO5.out e.symm).1; omega)); (have b6 := blk2 kp6); rw [← HNN.out] at b6; (have K6 := hid kp6); (have HO6 := hid hown6); (have HG6 := hid hgrow6); clear kp6 hown6 hgrow6 b5)
      | (at_builtin; refine wpList_append_rd rfl _ _ 49 rfl w.heap.size 30 i7 _ 7 72 Try.underlying49 HI7.out p7 q7 r7 rfl (by decide) (.slice none 0 0) 0 [] rfl (World.ownsRow_nil _ _ _ _) (.slice (some ⟨g, 0, none⟩) j (j + 1)) j ((ecs L).take (j * 7)) rfl RP.out HLT.out HO1.out (by unfold maxLen; omega) (by omega) (Nat.le_refl _) ?_; intro a5 c5 w5 hown5 hgrow5 hat5; simp only [Nat.zero_add, List.nil_append] at hown5; (have kp5 := heap_grown hgrow5 H1.out (by simp [Value.ownBlock])); (have b5 := blk2 kp5); (have HO5 := hid hown5); (have hz5 := hgrow5.size); (have RS5 := hid (rd_grown RS.out hgrow5 (by simp [Value.ownBlock]))); (have HG5 := hid hgrow5); (have K5 := hid kp5); rw [← HNN.out] at b5; clear kp5 hown5 hgrow5 hat5 b0))
    go_end0
    have hs6 := HG6.out.size
    have e1 : (ecs L).take (j * 7) ++ (ecs L).drop ((j + 1) * 7) = ecs (L.eraseIdx j) := by
      rw [ecs, flat_take (f := En.cells) (sz := 7) (fun _ => rfl), flat_drop (f := En.cells) (sz := 7) (fun _ => rfl), ← List.flatMap_append, List.eraseIdx_eq_take_drop_succ]; rfl
    have e2 : j = (L.eraseIdx j).length := by rw [List.length_eraseIdx_of_lt (by have := HNN.out; omega)]; have := HNN.out; omega
    have o6 := HO6.out
    rw [HDR.out, List.append_nil] at e1
    rw [List.append_nil, e1, Nat.add_zero] at o6
    have hgW : (w6.setCell ⟨p, 0, none⟩ (.slice a6 j c6)).ownsRow (p + 1) 3 1 (.slice aW ws.length cW) ws.length (ics ws) := own_set (own_grown (own_grown H3.out HG5.out (by simp [Value.ownBlock])) HG6.out (fun k hk e => by have a1 := (own_lt HO5.out e).1; have a2 := (own_lt H3.out hk).2; omega)) (own_ne (own_grown (own_grown H3.out HG5.out (by simp [Value.ownBlock])) HG6.out (fun k hk e => by have a1 := (own_lt HO5.out e).1; have a2 := (own_lt H3.out hk).2; omega)) K6.out (by decide)) _ _
    refine ⟨rfl, ⟨a6, c6, aW, cW, ?_, ?_, hgW⟩, ?_⟩
    · have := heap_set K6.out 0 (.slice a6 j c6)
      rw [← e2]; simpa using this
    · rw [← e2]; exact own_set (ownsRow_mono o6 (by omega)) (own_ne (ownsRow_mono (B' := p + 1) o6 (by omega)) K6.out (by decide)) _ _
    · exact (((Chg.refl _ w).grown HG5.out (by simp [Value.ownBlock])).grown HG6.out (fun k hk => .inr (own_lt HO5.out hk).1)).setCell ⟨p, 0, none⟩ _ (.inl rfl)

  · have RS := hid (show Rd w (.slice (some ⟨g, (j + 1) * 7, none⟩) (n - (j + 1)) (cL - (j + 1))) (n - (j + 1)) ((ecs L).drop ((j + 1) * 7)) by
      have := rd_suffix (i := j + 1) (sz := 7) R2'.out (ecs_len L) (by omega)
      rw [if_neg hcl, ← hjn] at this; exact this)
    clear hjn
    go_enter Try.func71, Try.ntmps71
    go_wp2_with (first
      | (at_builtin; refine wpList_append_rd rfl _ _ 49 rfl w.heap.size 30 i7 _ 7 72 Try.underlying49 HI7.out p7 q7 r7 rfl (by decide) (.slice a5 j c5) j ((ecs L).take (j * 7)) rfl HO5.out (.slice (some ⟨g, (j + 1) * 7, none⟩) (n - (j + 1)) (cL - (j + 1))) (n - (j + 1)) ((ecs L).drop ((j + 1) * 7)) rfl RS5.out HLD.out HO2.out (by unfold maxLen; omega) (by omega) hz5 ?_; intro a6 c6 w6 hown6 hgrow6 hat6; (have kp6 := heap_grown hgrow6 K5.out (by intro e; have := (own_lt HO5.out e.symm).1; omega)); (have b6 := blk2 kp6); rw [← HNN.out] at b6; (have K6 := hid kp6); (have HO6 := hid hown6); (have HG6 := hid hgrow6); clear kp6 hown6 hgrow6 b5)
      | (at_builtin; refine wpList_append_rd rfl _ _ 49 rfl w.heap.size 30 i7 _ 7 72 Try.underlying49 HI7.out p7 q7 r7 rfl (by decide) (.slice none 0 0) 0 [] rfl (World.ownsRow_nil _ _ _ _) (.slice (some ⟨g, 0, none⟩) j cL) j ((ecs L).take (j * 7)) rfl RP.out HLT.out HO1.out (by unfold maxLen; omega) (by omega) (Nat.le_refl _) ?_; intro a5 c5 w5 hown5 hgrow5 hat5; simp only [Nat.zero_add, List.nil_append] at hown5; (have kp5 := heap_grown hgrow5 H1.out (by simp [Value.ownBlock])); (have b5 := blk2 kp5); (have HO5 := hid hown5); (have hz5 := hgrow5.size); (have RS5 := hid (rd_grown RS.out hgrow5 (by simp [Value.ownBlock]))); (have HG5 := hid hgrow5); (have K5 := hid kp5); rw [← HNN.out] at b5; clear kp5 hown5 hgrow5 hat5 b0))
    go_end0
    have hs6 := HG6.out.size
    have e1 : (ecs L).take (j * 7) ++ (ecs L).drop ((j + 1) * 7) = ecs (L.eraseIdx j) := by
      rw [ecs, flat_take (f := En.cells) (sz := 7) (fun _ => rfl), flat_drop (f := En.cells) (sz := 7) (fun _ => rfl), ← List.flatMap_append, List.eraseIdx_eq_take_drop_succ]; rfl
    have e2 : j + (n - (j + 1)) = (L.eraseIdx j).length := by rw [List.length_eraseIdx_of_lt (by have := HNN.out; omega)]; have := HNN.out; omega
    have o6 := HO6.out
    rw [e1, e2] at o6
    have hgW : (w6.setCell ⟨p, 0, none⟩ (.slice a6 (j + (n - (j + 1))) c6)).ownsRow (p + 1) 3 1 (.slice aW ws.length cW) ws.length (ics ws) := own_set (own_grown (own_grown H3.out HG5.out (by simp [Value.ownBlock])) HG6.out (fun k hk e => by have a1 := (own_lt HO5.out e).1; have a2 := (own_lt H3.out hk).2; omega)) (own_ne (own_grown (own_grown H3.out HG5.out (by simp [Value.ownBlock])) HG6.out (fun k hk e => by have a1 := (own_lt HO5.out e).1; have a2 := (own_lt H3.out hk).2; omega)) K6.out (by decide)) _ _
    refine ⟨rfl, ⟨a6, c6, aW, cW, ?_, ?_, hgW⟩, ?_⟩
    · have := heap_set K6.out 0 (.slice a6 (j + (n - (j + 1))) c6)
      rw [← e2]; simpa using this
    · exact own_set (ownsRow_mono o6 (by omega)) (own_ne (ownsRow_mono (B' := p + 1) o6 (by omega)) K6.out (by decide)) _ _
    · exact (((Chg.refl _ w).grown HG5.out (by simp [Value.ownBlock])).grown HG6.out (fun k hk => .inr (own_lt HO5.out hk).1)).setCell ⟨p, 0, none⟩ _ (.inl rfl)

end Go.Proofs.Ytmhogjecfgbchaa
