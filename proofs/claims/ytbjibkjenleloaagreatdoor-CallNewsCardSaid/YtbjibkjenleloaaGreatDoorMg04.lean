/- Parts of a proof about the given program, in build order: DentH, DentI. No condition. -/
import Derived.Test.YtbjibkjenleloaaGreatDoorMg03
section
namespace Go.Proofs.YtbjibkjenleloaaGreatDoor
set_option linter.unusedVariables false
set_option linter.unusedSimpArgs false
open Go.RowKit
open Go.ChangeMaps (setBlock)
attribute [local go_sem ↓] Go.wp_at_zero Go.wp_at_succ

/-- the cells of a row of keys -/
def kyc (L : List Ky) : List Value := L.flatMap Ky.cells
theorem kyc_len (L : List Ky) : (kyc L).length = L.length * 2 := by
  induction L with
  | nil => rfl
  | cons x L ih => simp [kyc, Ky.cells] at ih ⊢; omega
theorem kyc_snoc (L : List Ky) (x : Ky) : kyc (L ++ [x]) = kyc L ++ [.int .i64 x.dir, .string x.name] := by simp [kyc, Ky.cells]
theorem kyc_append (L M : List Ky) : kyc (L ++ M) = kyc L ++ kyc M := by simp [kyc]
theorem kyc_at {L : List Ky} {k : Nat} {x : Ky} (h : L[k]? = some x) : (kyc L)[k * 2]? = some (.int .i64 x.dir) ∧ (kyc L)[k * 2 + 1]? = some (.string x.name) := by
  induction L generalizing k with
  | nil => simp at h
  | cons y L ih =>
    cases k with
    | zero => simp at h; subst h; simp [kyc, Ky.cells]
    | succ k =>
      have := ih (by simpa using h)
      have e1 : (k + 1) * 2 = k * 2 + 1 + 1 := by omega
      have e2 : (k + 1) * 2 + 1 = k * 2 + 1 + 1 + 1 := by omega
      simp only [kyc, List.flatMap_cons, Ky.cells, List.cons_append, List.nil_append, e1, e2, List.getElem?_cons_succ] at this ⊢
      exact this
theorem kyc_one (L : List Ky) : ∀ u ∈ kyc L, u.oneCell' = true := by
  intro u hu
  simp only [kyc, List.mem_flatMap, Ky.cells] at hu
  obtain ⟨x, _, hx⟩ := hu
  simp at hx
  rcases hx with rfl | rfl <;> rfl
theorem keys_at {w : World} {b n c m : Nat} {L : List Ky} {k : Nat} {x : Ky} (h : Rd w (.slice (some ⟨b, 0, none⟩) n c) m (kyc L)) (hx : L[k]? = some x) :
    w.cell? ⟨b, k * 2, none⟩ = some (.int .i64 x.dir) ∧ w.cell? ⟨b, k * 2 + 1, none⟩ = some (.string x.name) := by
  have h1 := h.at
  have h2 := kyc_at hx
  have h3 := h1 _ _ h2.1
  have h4 := h1 _ _ h2.2
  simp only [Nat.zero_add] at h3 h4
  exact ⟨h3, h4⟩
theorem own_loc {w : World} {B e sz n : Nat} {a : Option Addr} {m c : Nat} {xs : List Value} (h : w.ownsRow B e sz (.slice a m c) n xs) (hL : 0 < n) : ∃ g, a = some ⟨g, 0, none⟩ ∧ B ≤ g ∧ g < w.heap.size ∧ n ≤ c ∧ c ≤ maxLen := by
  rcases h.2 with ⟨hv, h0⟩ | ⟨g, cap, cur, hv, hB, hg, h1, h2, _⟩
  · omega
  · simp only [Value.slice.injEq] at hv
    obtain ⟨rfl, _, rfl⟩ := hv
    exact ⟨g, rfl, hB, blk_lt hg, h1, h2⟩

theorem infoKy : (Tryz.prog.info? 53).map (fun i => (i.zero, i.size, i.bytes)) = some (some (.agg #[.int .i64 0, .string ByteArray.empty]), 2, 24) := by kernel_rfl


theorem delK_filter {K : List Ke} (k : Ky) (hn : (K.map fun x => x.e.key).Nodup) : delK k K = K.filter fun x => !decide (k = x.e.key) := by
  unfold delK atK
  induction K with
  | nil => simp
  | cons x K ih =>
    simp only [List.map_cons, List.nodup_cons] at hn
    have ih := ih hn.2
    rw [List.findIdx?_cons]
    by_cases h : k = x.e.key
    · have hno : ∀ y ∈ K, (!decide (k = y.e.key)) = true := fun y hy => by
        have : k ≠ y.e.key := fun e => hn.1 (List.mem_map.2 ⟨y, hy, by rw [← e, h]⟩)
        simp [this]
      simp [h]
      rw [← h]; exact (List.filter_eq_self.2 hno).symm
    · simp only [h, decide_false, Bool.false_eq_true, if_false]
      rw [List.filter_cons_of_pos (by simp [h])]
      cases hf : List.findIdx? (fun x => decide (k = x.e.key)) K with
      | none => rw [hf] at ih; simp at ih ⊢; exact ih
      | some j => rw [hf] at ih; simp at ih ⊢; exact ih

/-- what a running Cut of a directory leaves -/
def leftD (d : Int) (K D : List Ke) : List Ke := K.filter fun x => !(x.e.key.dir == d && (D.map Ke.born).contains x.born)

theorem leftD_nil (d : Int) (K : List Ke) : leftD d K [] = K := by
  unfold leftD; rw [List.filter_eq_self]; intro x _; simp

theorem map_inj {α β : Type} {f : α → β} {K : List α} {x y : α} (hn : (K.map f).Nodup) (hx : x ∈ K) (hy : y ∈ K) (h : f x = f y) : x = y := by
  induction K with
  | nil => simp at hx
  | cons z K ih =>
    simp only [List.map_cons, List.nodup_cons] at hn
    rcases List.mem_cons.1 hx with hx1 | hx1 <;> rcases List.mem_cons.1 hy with hy1 | hy1
    · rw [hx1, hy1]
    · exact absurd (List.mem_map.2 ⟨y, hy1, by rw [← h, hx1]⟩) hn.1
    · exact absurd (List.mem_map.2 ⟨x, hx1, by rw [h, hy1]⟩) hn.1
    · exact ih hn.2 hx1 hy1
theorem born_inj {K : List Ke} {x y : Ke} (hn : (K.map Ke.born).Nodup) (hx : x ∈ K) (hy : y ∈ K) (h : x.born = y.born) : x = y := map_inj hn hx hy h
theorem key_inj {K : List Ke} {x y : Ke} (hn : (K.map fun x => x.e.key).Nodup) (hx : x ∈ K) (hy : y ∈ K) (h : x.e.key = y.e.key) : x = y := map_inj hn hx hy h

theorem leftD_keep {d : Int} {K D : List Ke} {x : Ke} (hn : (K.map Ke.born).Nodup) (hx : x ∈ K) (hd : x.e.key.dir ≠ d) : leftD d K (D ++ [x]) = leftD d K D := by
  unfold leftD
  apply List.filter_congr
  intro y hy
  by_cases h : y.born = x.born
  · have := born_inj hn hy hx h; subst this
    have : (y.e.key.dir == d) = false := by simpa using hd
    simp [this]
  · simp [h]

theorem leftD_drop {d : Int} {K D : List Ke} {x : Ke} (hn : (K.map Ke.born).Nodup) (hk : (K.map fun x => x.e.key).Nodup) (hx : x ∈ K) (hd : x.e.key.dir = d) : leftD d K (D ++ [x]) = delK x.e.key (leftD d K D) := by
  rw [delK_filter (K := leftD d K D) _ (hk.sublist ((List.filter_sublist ..).map _))]
  unfold leftD
  rw [List.filter_filter]
  apply List.filter_congr
  intro y hy
  by_cases h : x.e.key = y.e.key
  · have := key_inj hk hx hy h; subst this
    simp [hd]
  · have hb : y.born ≠ x.born := fun e => h (by rw [born_inj hn hy hx e])
    simp [h, hb]

theorem leftD_end {d : Int} {K D : List Ke} (hp : D.Perm K) : leftD d K D = K.filter fun x => !(x.e.key.dir == d) := by
  unfold leftD
  apply List.filter_congr
  intro y hy
  have : (D.map Ke.born).contains y.born = true := by
    rw [List.contains_iff_mem]; exact List.mem_map.2 ⟨y, hp.mem_iff.2 hy, rfl⟩
  rw [this, Bool.and_true]

theorem leftD_rest {d : Int} {K D rest : List Ke} (hp : (D ++ rest).Perm K) (hn : (K.map Ke.born).Nodup) (e : MapEntry) : e ∈ (leftOf (kes (leftD d K D)) (D.map Ke.born).toArray).toList ↔ ∃ x ∈ rest, x.me = e := by
  have h1 := left_mem hp hn e
  rw [← h1]
  simp only [leftOf, Array.toList_filter, kes_toList, List.mem_filter, List.mem_map, leftD]
  constructor
  · rintro ⟨⟨x, ⟨hx, _⟩, rfl⟩, h2⟩
    exact ⟨⟨x, hx, rfl⟩, h2⟩
  · rintro ⟨⟨x, hx, rfl⟩, h2⟩
    refine ⟨⟨x, ⟨hx, ?_⟩, rfl⟩, h2⟩
    simp [Ke.me] at h2
    simp
    exact .inr fun y hy => h2 y hy

/-- one step of Cut's inner loop, as equations for the walk -/
theorem next_d {w : World} {r me cl : Nat} {d : Int} {K D rest : List Ke} (hi : ItAt w r me cl K D rest) (he : w.heap[me]? = some (.map (kes (leftD d K D)) cl)) (hne : r ≠ me) (hb : ∀ x ∈ K, x.born < cl) (hn : (K.map Ke.born).Nodup) :
    (rest = [] ∧ ∀ ty, (Instr.next (.pointer (some ⟨r, 0, none⟩)) false ty).run Tryz.prog w = .ok (.tuple #[.bool false]) w) ∨
    ∃ x rest' W, (∀ ty, (Instr.next (.pointer (some ⟨r, 0, none⟩)) false ty).run Tryz.prog w = .ok (.tuple #[.bool true, .agg #[.int .i64 x.e.key.dir, .string x.e.key.name], x.val]) W) ∧
      ((Instr.entry (.pointer (some ⟨r, 0, none⟩))).run Tryz.prog W = .ok (.tuple #[.agg #[.int .i64 x.e.key.dir, .string x.e.key.name], x.val]) W) ∧
      ItAt W r me cl K (D ++ [x]) rest' ∧ Chg (fun k => k = r) w W ∧ x ∈ K ∧ rest.Perm (x :: rest') := by
  obtain ⟨⟨c0, hc0, hr⟩, hp⟩ := hi
  have hold : ∀ x ∈ (kes (leftD d K D)).toList, x.born < cl := by
    intro x hx
    rw [kes_toList] at hx
    obtain ⟨y, hy, rfl⟩ := List.mem_map.1 hx
    exact hb y (List.mem_filter.1 hy).1
  rcases run_next_at (P := Tryz.prog) w 0 r me cl c0 (D.map Ke.born).toArray (kes (leftD d K D)) cl hr he hold hc0 with ⟨h0, h1⟩ | ⟨e, hme, w1, hw1, hrun⟩
  · left
    refine ⟨?_, fun _ => h1⟩
    cases rest with
    | nil => rfl
    | cons x rest =>
      have := (leftD_rest (d := d) hp hn x.me).2 ⟨x, by simp, rfl⟩
      have h2 : (leftOf (kes (leftD d K D)) (D.map Ke.born).toArray) = #[] := Array.eq_empty_of_size_eq_zero h0
      rw [h2] at this; simp at this
  · right
    obtain ⟨x, hx, rfl⟩ := (leftD_rest hp hn e).1 hme
    obtain ⟨rest', hr'⟩ := perm_out hx
    have hh : w1.heap = w.heap := by rcases hw1 with rfl | rfl <;> rfl
    have hdr : Dr w w1 := by rcases hw1 with rfl | rfl; exact Dr.refl _; exact ⟨1, rfl⟩
    have hr1 : w1.heap[r]? = some (.mapIter (some me) cl (D.map Ke.born).toArray c0) := by rw [hh]; exact hr
    have hxK : x ∈ K := hp.mem_iff.1 (List.mem_append.2 (.inr hx))
    have hchg : Chg (fun k => k = r) w (setBlock w1 r (.mapIter (some me) cl ((D.map Ke.born).toArray.push x.me.born) cl)) := Chg.trans (Chg.mono (Chg.below (hdr.below _)) (fun _ _ h => h.elim)) (chg_setBlock w1 r _) (fun _ _ h => h) (fun _ _ h => h)
    refine ⟨x, rest', _, fun _ => hrun, ?_, ⟨⟨cl, Nat.le_refl _, ?_⟩, ?_⟩, hchg, hxK, hr'⟩
    · have hxD : x ∈ leftD d K D := by
        have h3 : x.me ∈ (kes (leftD d K D)).toList := by
          have := hme; unfold leftOf at this; rw [Array.toList_filter] at this; exact (List.mem_filter.1 this).1
        rw [kes_toList] at h3
        obtain ⟨y, hy, h4⟩ := List.mem_map.1 h3
        have hyb : y.born = x.born := congrArg MapEntry.born h4
        have hyK : y ∈ K := (List.mem_filter.1 hy).1
        rw [← born_inj hn hyK hxK hyb]; exact hy
      exact run_entry_k (D := D) (heap_setBlock hr1) (heap_chg hchg he (Ne.symm hne)) hxD (hn.sublist ((List.filter_sublist ..).map _))
    · rw [heap_setBlock hr1]; simp [Ke.me]
    · refine List.Perm.trans ?_ hp
      rw [List.append_assoc]
      exact (List.Perm.append_left D hr'.symm)

/-- Cut, of one key -/
def cut1 (s : Ca) (k : Ky) : Ca := { s with W := delW k.dir s.W, K := if k.name = ByteArray.empty then s.K.filter (fun x => !(x.e.key.dir == k.dir)) else delK k s.K }
def cutL (s : Ca) (L : List Ky) : Ca := L.foldl cut1 s
theorem cutL_form (s : Ca) (L : List Ky) : ∃ K1 W1, cutL s L = { s with K := K1, W := W1 } := by
  unfold cutL
  induction L generalizing s with
  | nil => exact ⟨s.K, s.W, rfl⟩
  | cons k L ih => obtain ⟨K1, W1, h⟩ := ih (cut1 s k); exact ⟨K1, W1, by rw [List.foldl_cons, h]; rfl⟩
theorem cutL_take {s : Ca} {L : List Ky} {k : Nat} {x : Ky} (hx : L[k]? = some x) : cutL s (L.take (k + 1)) = cut1 (cutL s (L.take k)) x := by
  rw [List.take_add_one, hx]; simp [cutL]

theorem CacheAt.sub {w1 : World} {B : Nat} {s : Ca} (K1 : List Ke) (h : CacheAt w1 B s) (hs : K1.Sublist s.K) : CacheAt (setBlock w1 s.me (.map (kes K1) s.c1)) B { s with K := K1 } :=
  ⟨h.hB, h.hBe, h.hBw, heap_setBlock_ne h.hp h.pe, heap_setBlock h.he, heap_setBlock_ne h.hw (Ne.symm h.hne), h.hne, fun z hz => h.b1 z (hs.subset hz), h.n1.sublist (hs.map _), h.k1.sublist (hs.map _), h.b2, h.n2, h.k2⟩



theorem below_drew0 (w : World) : Below w.heap.size w w.drew := ⟨rfl, rfl, rfl, Nat.le_refl _, fun _ _ => rfl⟩

set_option maxHeartbeats 2000000 in
theorem dent_cut (w : World) (B : Nat) (s : Ca) (L : List Ky) (a : Option Addr) (c B' : Nat) (h : CacheAt w B s) (hv : w.ownsRow B' 53 2 (.slice a L.length c) L.length (kyc L)) (hF : ∀ k, CaF s k → k < B') (hL : L.length ≤ 140737488351232) :
    Calls Tryz.prog 35 #[.pointer (some ⟨s.p, 0, none⟩), .slice a L.length c] w fun e w' => e = .returned (.tuple #[]) ∧ CacheAt w' B (cutL s L) ∧ Chg (CaF s) w w' := by
  have HV := hid hv
  have HH := hid h
  have HFF := hid hF
  clear hv h hF
  go_enter Tryz.func35, Tryz.ntmps35
  go_wp2_with fail
  go_loopw [9] (fun v wr => ∃ (k : Nat) (K1 : List Ke) (W1 : List Wh), k ≤ L.length ∧ v = .int .i64 k ∧ Hid (cutL s (L.take k) = { s with K := K1, W := W1 }) ∧ Hid (CacheAt wr B { s with K := K1, W := W1 }) ∧ Hid (Chg (CaF s) w wr)) (fun v _ => L.length - (intOf v).toNat)
  case atStart => exact ⟨0, s.K, s.W, Nat.zero_le _, rfl, hid rfl, hid HH.out, hid (Chg.refl _ _)⟩
  case round =>
    obtain ⟨k, K1, W1, hk, rfl, HS, HA, HC⟩ := hrel
    by_cases hlt : k < L.length
    · have hk0 : (0 : Int) ≤ (k : Int) := by omega
      have hk1 : (k : Int) < (L.length : Int) := by omega
      obtain ⟨g, hag, hBg, hgz, hc1, hc2⟩ := own_loc HV.out (by omega)
      obtain ⟨x, hx⟩ : ∃ x, L[k]? = some x := ⟨_, List.getElem?_eq_getElem hlt⟩
      subst hag
      have hvr : wr.ownsRow B' 53 2 (.slice (some ⟨g, 0, none⟩) L.length c) L.length (kyc L) := ownsRow_chg HV.out fun k hk h => HC.out.block k h (fun hf => by have := HFF.out k hf; have := (own_lt HV.out hk).1; omega)
      have b1 := keys_at (Rd.own hvr) hx
      have HVR := hid hvr
      have HX := hid hx
      clear hvr hx
      have c0 := blk3 (heap_old HA.out.hp (.cells #[.int .i64 x.dir, .string x.name] 53))
      have BX := blk2 (heap_new wr (.cells #[.int .i64 x.dir, .string x.name] 53))
      go_upto_region 3 with fail
      go_cut [18] (fun _ wx => Hid (CacheAt wx B { s with K := K1, W := delW x.dir W1 }) ∧ Hid (wx.heap[wr.heap.size]? = some (.cells #[.int .i64 x.dir, .string x.name] 53 (0, 0))) ∧ Hid (Chg (CaF s) wr wx))
      case first =>
        go_region_law (refine step_delete_w (by rfl) (.tmp 16) (.tmp 18) _ (by rfl) s.mw s.c2 (by rfl) x.dir (by rfl) W1 (by exact heap_old HA.out.hw _) ?_)
        all_goals
          go_wp2_with fail
          go_meet
          exact ⟨hid (CacheAt.delD (s := { s with K := K1, W := W1 }) x.dir (HA.out.below (bl1 wr _)).drew), hid (heap_setBlock_ne (w := (wr.alloc _).drew) (heap_new wr _) (Nat.ne_of_gt (blk_lt HA.out.hw))), hid (Chg.trans (Chg.below (bl1 wr _).drew) (chg_setBlock _ s.mw _) (fun _ _ h => h.elim) (fun _ _ h => .inr (.inr h)))⟩
      case rest =>
        obtain ⟨HA2, HX2, HC2⟩ := hcut
        have d0 := blk3 HA2.out.hp
        have BY := blk2 HX2.out
        clear c0 BX b1
        by_cases hn : x.name = ByteArray.empty
        · have hne2 : x.name.toList = [] := (name_empty _).1 hn
          have hne3 : x.name.toList.isEmpty = true := by rw [hne2]; rfl
          have hrg := run_range_k HA2.out.he
          have HNE := hid hn
          clear hn hne2
          go_wp2_with fail
          go_loopw [33] (fun _ wi => ∃ (D rest : List Ke), Hid (ItAt wi wc.heap.size s.me s.c1 K1 D rest) ∧ Hid (CacheAt wi B { s with K := leftD x.dir K1 D, W := delW x.dir W1 }) ∧ Hid (Chg (CaF s) wc wi)) (fun _ wi => K1.length - (wi.iterSeen wc.heap.size).size)
          case atStart => exact ⟨[], K1, hid ⟨⟨_, Nat.le_refl _, heap_new wc _⟩, List.Perm.refl _⟩, hid (by rw [leftD_nil]; exact HA2.out.below (bl1 wc _)), hid (Chg.mono (Chg.below (bl1 wc _)) (fun _ _ h => h.elim))⟩
          case round =>
            clear hrg d0 BY
            obtain ⟨D, rest, HI, HAI, HCI⟩ := hrel
            have hme : wc.heap.size ≠ s.me := fun e => by have := blk_lt HA2.out.he; simp at this; omega
            rcases next_d HI.out HAI.out.he hme HA2.out.b1 HA2.out.n1 with ⟨h0, hnx⟩ | ⟨y, rest', W, hnx, hen, hit, hchg, hxm, hpm⟩
            · have HN := hid (show leftD x.dir K1 D = K1.filter (fun x_1 => !(x_1.e.key.dir == x.dir)) by have := HI.out.pm; rw [h0, List.append_nil] at this; exact leftD_end this)
              clear h0
              go_wp2
              refine ⟨⟨k + 1, _, _, by omega, by go_num, hid (by rw [cutL_take HX.out, HS.out]; simp only [cut1, HNE.out, if_true]; try rfl), hid (by rw [← HN.out]; exact HAI.out), hid ?_⟩, by simp [intOf]; omega⟩
              exact Chg.trans (Chg.trans HC.out HC2.out (fun _ _ h => h) (fun _ _ h => h)) HCI.out (fun _ _ h => h) (fun _ _ h => h)
            · have HT := hid hit
              have HG := hid hchg
              have HM := hid hxm
              clear hit hchg hxm hpm
              have hz1 := HC.out.size
              have hz2 := HC2.out.size
              have hz3 := HCI.out.size
              have hz4 := HG.out.size
              have hzx := blk_lt HX2.out
              have cold := HA.out.old
              have he0 := heap_chg HG.out HAI.out.he (fun e => hme e.symm)
              have hp0 := heap_chg HG.out HAI.out.hp (Nat.ne_of_lt (blk_lt HA2.out.hp))
              have hx0 := heap_chg HG.out (heap_chg HCI.out HX2.out (cold _ (Nat.le_refl _))) (fun e => by omega)
              have P1 := blk3 (heap_old hp0 (.cells #[.int .i64 y.e.key.dir, .string y.e.key.name] 53))
              have P2 := blk2 (heap_old hx0 (.cells #[.int .i64 y.e.key.dir, .string y.e.key.name] 53))
              have P3 := blk2 (heap_new W (.cells #[.int .i64 y.e.key.dir, .string y.e.key.name] 53))
              have hac := (HAI.out.chg HG.out (fun k hk e => cold wc.heap.size (by omega) (e ▸ hk))).below (bl1 W (.cells #[.int .i64 y.e.key.dir, .string y.e.key.name] 53))
              have hcc : Chg (CaF s) wc (W.alloc (.cells #[.int .i64 y.e.key.dir, .string y.e.key.name] 53)) := Chg.trans (Chg.trans HCI.out HG.out (fun _ _ h => h) (fun i hi h => by omega)) (Chg.below (bl1 W _)) (fun _ _ h => h) (fun _ _ h => h.elim)
              have HAC := hid hac
              have HCC := hid hcc
              have HE0 := hid he0
              clear hac hcc he0 hp0 hx0
              by_cases hd : y.e.key.dir = x.dir
              · have hd' : (y.e.key.dir == x.dir) = true := by simpa using hd
                have HN := hid (leftD_drop (D := D) HA2.out.n1 HA2.out.k1 HM.out hd)
                have HD' := hid hd
                clear hd
                go_wp2_with fail
                go_region_law (refine step_delete_k (by rfl) (.tmp 44) (.tmp 45) _ (by rfl) s.me s.c1 (by rfl) y.e.key.dir y.e.key.name (by rfl) (leftD x.dir K1 D) (by exact heap_old HE0.out _) ?_)
                all_goals
                  go_wp2
                  have hI2 := ItAt.chgd (w := (W.alloc (.cells #[.int .i64 y.e.key.dir, .string y.e.key.name] 53)).drew) (HT.out.below (bl1 W _).drew) (chg_setBlock _ s.me (.map (kes (delK { dir := y.e.key.dir, name := y.e.key.name } (leftD x.dir K1 D))) s.c1)) hme
                  refine ⟨⟨D ++ [y], rest', hid hI2, hid (by rw [HN.out]; exact CacheAt.delE (s := { s with K := leftD x.dir K1 D, W := delW x.dir W1 }) y.e.key HAC.out.drew), hid (Chg.trans HCC.out.drew (chg_setBlock _ s.me _) (fun _ _ h => h) (fun _ _ h => .inr (.inl h)))⟩, HI.out.step hI2⟩
              · have hd' : (y.e.key.dir == x.dir) = false := by simpa using hd
                have HN := hid (leftD_keep (D := D) HA2.out.n1 HM.out hd)
                clear hd
                go_wp2
                refine ⟨⟨D ++ [y], rest', hid (HT.out.below (bl1 W _)), hid (by rw [HN.out]; exact HAC.out), HCC⟩, HI.out.step (HT.out.below (bl1 W _))⟩
        · have hne : x.name.toList ≠ [] := fun h3 => hn ((name_empty _).2 h3)
          have hne2 : x.name.toList.isEmpty = false := by simpa using hne
          go_wp2_with fail
          go_region_law (refine step_delete_k (by rfl) (.tmp 25) (.tmp 26) _ (by rfl) s.me s.c1 (by rfl) x.dir x.name (by rfl) K1 (by exact HA2.out.he) ?_)
          all_goals
            go_wp2
            refine ⟨⟨k + 1, _, _, by omega, by go_num, hid (by rw [cutL_take HX.out, HS.out]; simp only [cut1, hn, if_false]; try rfl), hid (CacheAt.delE (s := { s with K := K1, W := delW x.dir W1 }) x HA2.out.drew), hid ?_⟩, by simp [intOf]; omega⟩
            exact Chg.trans (Chg.trans HC.out HC2.out (fun _ _ h => h) (fun _ _ h => h)) (Chg.trans (Chg.below (below_drew0 wc)) (chg_setBlock _ s.me _) (fun _ _ h => h.elim) (fun _ _ h => h)) (fun _ _ h => h) (fun _ _ h => .inr (.inl h))
    · have hkk : k = L.length := by omega
      have HF := hid (show cutL s L = { s with K := K1, W := W1 } by rw [← HS.out, hkk, List.take_length])
      clear hkk
      go_wp2
      go_end0
      exact ⟨rfl, by rw [HF.out]; exact HA.out, HC.out⟩

end Go.Proofs.YtbjibkjenleloaaGreatDoor

end

section
namespace Go.Proofs.YtbjibkjenleloaaGreatDoor
set_option linter.unusedVariables false
set_option linter.unusedSimpArgs false
open Go.RowKit
open Go.ChangeMaps (setBlock)

/-! ### the cache in plain words: its entries in the order of use, and which directories are whole -/

def isK (k : Ky) (e : En) : Bool := decide (k = e.key)
def findL (k : Ky) (L : List En) : Option En := L.find? (isK k)
def dropL (k : Ky) (L : List En) : List En := L.filter fun e => !isK k e
def zeroE : En := ⟨⟨0, ByteArray.empty⟩, false, ⟨0, 0, 0, ByteArray.empty⟩⟩
def getE (k : Ky) (L : List En) : En := (findL k L).getD zeroE
def putL (e : En) (L : List En) : List En := if e.key.name = ByteArray.empty then L else dropL e.key L ++ [e]
def useL (k : Ky) (L : List En) : List En := match findL k L with | some e => dropL k L ++ [e] | none => L
def hitE (k : Ky) (e : En) : Bool := if k.name = ByteArray.empty then e.key.dir == k.dir else isK k e
def cutE (ks : List Ky) (L : List En) : List En := L.filter fun e => !ks.any fun k => hitE k e
def cutWh (ks : List Ky) (wh : Int → Bool) (d : Int) : Bool := wh d && !ks.any fun k => k.dir == d
def evictWh (k : Ky) (L : List En) (wh : Int → Bool) (d : Int) : Bool := wh d && !((findL k L).any (fun e => !e.neg) && k.dir == d)

/-- L is what K holds, in the order of use -/
structure Ordd (K : List Ke) (ck : Int) (L : List En) : Prop where
  ex : ∃ M : List Ke, M.Perm K ∧ M.Pairwise (fun x y => x.used < y.used) ∧ (∀ x ∈ M, 1 ≤ x.used ∧ x.used ≤ ck) ∧ L = M.map Ke.e

theorem Ordd.nil (ck : Int) : Ordd [] ck [] := ⟨[], List.Perm.refl _, List.Pairwise.nil, by simp, rfl⟩
theorem Ordd.le {K : List Ke} {ck ck' : Int} {L : List En} (h : Ordd K ck L) (hc : ck ≤ ck') : Ordd K ck' L := by
  obtain ⟨M, h1, h2, h3, h4⟩ := h.ex
  exact ⟨M, h1, h2, fun x hx => ⟨(h3 x hx).1, Int.le_trans (h3 x hx).2 hc⟩, h4⟩
theorem Ordd.snoc {K : List Ke} {ck : Int} {L : List En} {y : Ke} (h : Ordd K ck L) (h0 : 0 ≤ ck) (hy : y.used = ck + 1) : Ordd (K ++ [y]) (ck + 1) (L ++ [y.e]) := by
  obtain ⟨M, h1, h2, h3, rfl⟩ := h.ex
  refine ⟨M ++ [y], h1.append_right _, ?_, ?_, by simp⟩
  · rw [List.pairwise_append]
    exact ⟨h2, by simp, fun a ha b hb => by simp at hb; subst hb; have := h3 a ha; omega⟩
  · intro x hx
    rcases List.mem_append.1 hx with hx | hx
    · have := h3 x hx; exact ⟨this.1, by omega⟩
    · simp at hx; subst hx; exact ⟨by omega, by omega⟩
theorem Ordd.filt {K : List Ke} {ck : Int} {L : List En} (h : Ordd K ck L) (p : En → Bool) : Ordd (K.filter fun x => p x.e) ck (L.filter p) := by
  obtain ⟨M, h1, h2, h3, rfl⟩ := h.ex
  refine ⟨M.filter fun x => p x.e, h1.filter _, h2.filter _, fun x hx => h3 x (List.mem_filter.1 hx).1, ?_⟩
  rw [List.filter_map]; rfl
theorem Ordd.perm {K K' : List Ke} {ck : Int} {L : List En} (h : Ordd K ck L) (hp : K.Perm K') : Ordd K' ck L := by
  obtain ⟨M, h1, h2, h3, h4⟩ := h.ex
  exact ⟨M, h1.trans hp, h2, h3, h4⟩
theorem Ordd.permL {K : List Ke} {ck : Int} {L : List En} (h : Ordd K ck L) : L.Perm (K.map Ke.e) := by
  obtain ⟨M, h1, h2, h3, rfl⟩ := h.ex
  exact h1.map _
theorem len_used {M : List Ke} {lo hi : Int} (h2 : M.Pairwise fun x y => x.used < y.used) (h3 : ∀ x ∈ M, lo ≤ x.used ∧ x.used ≤ hi) (hh : lo ≤ hi + 1) : (M.length : Int) ≤ hi - lo + 1 := by
  induction M generalizing lo with
  | nil => simp; omega
  | cons x M ih =>
    rw [List.pairwise_cons] at h2
    have hx := h3 x (by simp)
    have := ih (lo := x.used + 1) h2.2 (fun y hy => ⟨by have := h2.1 y hy; omega, (h3 y (by simp [hy])).2⟩) (by omega)
    simp; omega
theorem Ordd.len {K : List Ke} {ck : Int} {L : List En} (h : Ordd K ck L) (h0 : 0 ≤ ck) : (L.length : Int) ≤ ck := by
  obtain ⟨M, h1, h2, h3, rfl⟩ := h.ex
  have := len_used h2 h3 (by omega)
  rw [List.length_map]; omega
theorem Ordd.drop {K : List Ke} {ck : Int} {L : List En} (h : Ordd K ck L) (k : Ky) (hn : (K.map fun x => x.e.key).Nodup) : Ordd (delK k K) ck (dropL k L) := by
  rw [delK_filter k hn]; exact h.filt fun e => !isK k e
theorem set_perm {α : Type} (K : List α) (j : Nat) (y : α) (hj : j < K.length) : (K.set j y).Perm (K.eraseIdx j ++ [y]) := by
  induction K generalizing j with
  | nil => simp at hj
  | cons x K ih =>
    cases j with
    | zero => simp only [List.set_cons_zero, List.eraseIdx_cons_zero]; exact (List.perm_append_singleton y K).symm
    | succ j => simp only [List.set_cons_succ, List.eraseIdx_cons_succ, List.cons_append]; exact (ih j (by simpa using hj)).cons x

theorem keysNodup {K : List Ke} {ck : Int} {L : List En} (h : Ordd K ck L) (hn : (K.map fun x => x.e.key).Nodup) : (L.map En.key).Nodup := by
  have := (h.permL.map En.key).nodup_iff.2 (by rw [List.map_map]; exact hn)
  exact this

theorem find_none {K : List Ke} {ck : Int} {L : List En} (h : Ordd K ck L) {k : Ky} (hk : atK k K = none) : findL k L = none := by
  rw [findL, List.find?_eq_none]
  intro e he
  obtain ⟨x, hx, rfl⟩ := List.mem_map.1 (h.permL.mem_iff.1 he)
  have := List.findIdx?_eq_none_iff.1 hk x hx
  simpa [isK] using this
theorem find_some {K : List Ke} {ck : Int} {L : List En} (h : Ordd K ck L) (hn : (K.map fun x => x.e.key).Nodup) {k : Ky} {j : Nat} {x : Ke} (hk : atK k K = some j) (hx : K[j]? = some x) : findL k L = some x.e := by
  have hkey := atK_key hk hx
  have hmem : x.e ∈ L := h.permL.mem_iff.2 (List.mem_map.2 ⟨x, List.mem_of_getElem? hx, rfl⟩)
  cases hf : findL k L with
  | none => rw [findL, List.find?_eq_none] at hf; have := hf _ hmem; simp [isK, hkey] at this
  | some e =>
    have h1 := List.mem_of_find?_eq_some hf
    have h2 := List.find?_some hf
    simp only [isK, decide_eq_true_eq] at h2
    rw [map_inj (keysNodup h hn) h1 hmem (by rw [← h2, hkey])]
theorem drop_none {k : Ky} {L : List En} (h : findL k L = none) : dropL k L = L := by
  rw [findL, List.find?_eq_none] at h
  rw [dropL, List.filter_eq_self]
  intro e he; have := h e he; simpa using this

theorem inW_iff {d : Int} {W : List Wh} : inW d W = true ↔ d ∈ W.map Wh.dir := by unfold inW; simp
theorem delW_in {k d : Int} {W : List Wh} (hn : (W.map Wh.dir).Nodup) : inW d (delW k W) = (inW d W && !(k == d)) := by
  have h : delW k W = W.filter fun x => !decide (k = x.dir) := by
    unfold delW atW
    clear d
    induction W with
    | nil => simp
    | cons x W ih =>
      simp only [List.map_cons, List.nodup_cons] at hn
      have ih := ih hn.2
      rw [List.findIdx?_cons]
      by_cases h : k = x.dir
      · have hno : ∀ y ∈ W, (!decide (k = y.dir)) = true := fun y hy => by
          have : k ≠ y.dir := fun e => hn.1 (List.mem_map.2 ⟨y, hy, by rw [← e, h]⟩)
          simp [this]
        simp [h]
        rw [← h]; exact (List.filter_eq_self.2 hno).symm
      · simp only [h, decide_false, Bool.false_eq_true, if_false]
        rw [List.filter_cons_of_pos (by simp [h])]
        cases hf : List.findIdx? (fun x => decide (k = x.dir)) W with
        | none => rw [hf] at ih; simp at ih ⊢; exact ih
        | some j => rw [hf] at ih; simp at ih ⊢; exact ih
  rw [h, Bool.eq_iff_iff, Bool.and_eq_true, inW_iff, inW_iff]
  simp only [List.mem_map, List.mem_filter]
  constructor
  · rintro ⟨x, ⟨hx, h2⟩, rfl⟩
    exact ⟨⟨x, hx, rfl⟩, by simpa using h2⟩
  · rintro ⟨⟨x, hx, rfl⟩, h2⟩
    exact ⟨x, ⟨hx, by simpa using h2⟩, rfl⟩

/-- a cache at p, in plain words; n: a bound of its clock -/
structure CAt (w : World) (B p n : Nat) (L : List En) (wh : Int → Bool) : Prop where
  ex : ∃ s : Ca, CacheAt w B s ∧ s.p = p ∧ s.me ≤ p ∧ s.mw ≤ p ∧ 0 ≤ s.ck ∧ s.ck ≤ (n : Int) ∧ Ordd s.K s.ck L ∧ ∀ d, inW d s.W = wh d

/-- the blocks of a cache -/
def CF (B p : Nat) (k : Nat) : Prop := B ≤ k ∧ k ≤ p

theorem CF.of {w : World} {B : Nat} {s : Ca} (h : CacheAt w B s) (h1 : s.me ≤ s.p) (h2 : s.mw ≤ s.p) : ∀ k, CaF s k → CF B s.p k := by
  have a := h.hB; have b := h.hBe; have c := h.hBw
  rintro k (rfl | rfl | rfl) <;> exact ⟨by omega, by omega⟩
theorem CAt.chg {w w' : World} {B p n : Nat} {L : List En} {wh : Int → Bool} (h : CAt w B p n L wh) {F : Nat → Prop} (hc : Chg F w w') (hF : ∀ k, CF B p k → ¬ F k) : CAt w' B p n L wh := by
  obtain ⟨s, h0, rfl, h1, h2, h3⟩ := h.ex
  exact ⟨s, h0.chg hc fun k hk => hF k (CF.of h0 h1 h2 k hk), rfl, h1, h2, h3⟩
theorem CAt.below {w w' : World} {B p n : Nat} {L : List En} {wh : Int → Bool} (h : CAt w B p n L wh) (hb : Below w.heap.size w w') : CAt w' B p n L wh := by
  obtain ⟨s, h0, h1⟩ := h.ex
  exact ⟨s, h0.below hb, h1⟩
theorem CAt.lt {w : World} {B p n : Nat} {L : List En} {wh : Int → Bool} (h : CAt w B p n L wh) : p < w.heap.size := by
  obtain ⟨s, h0, rfl, _⟩ := h.ex
  exact blk_lt h0.hp
theorem CAt.ge {w : World} {B p n : Nat} {L : List En} {wh : Int → Bool} (h : CAt w B p n L wh) : B ≤ p := by
  obtain ⟨s, h0, rfl, _⟩ := h.ex
  exact h0.hB
theorem CAt.keys {w : World} {B p n : Nat} {L : List En} {wh : Int → Bool} (h : CAt w B p n L wh) : (L.map En.key).Nodup := by
  obtain ⟨s, h0, rfl, h1, h2, h3, h4, h5, _⟩ := h.ex
  exact keysNodup h5 h0.k1
theorem CAt.len {w : World} {B p n : Nat} {L : List En} {wh : Int → Bool} (h : CAt w B p n L wh) : L.length ≤ n := by
  obtain ⟨s, h0, rfl, h1, h2, h3, h4, h5, _⟩ := h.ex
  have := h5.len h3; omega
theorem CAt.le {w : World} {B p n m : Nat} {L : List En} {wh : Int → Bool} (h : CAt w B p n L wh) (hm : n ≤ m) : CAt w B p m L wh := by
  obtain ⟨s, h0, h1, h2, h3, h4, h5, h6⟩ := h.ex
  exact ⟨s, h0, h1, h2, h3, h4, by omega, h6⟩

theorem c_new (w : World) : Calls Tryz.prog 47 #[] w fun e w' => e = .returned (.pointer (some ⟨w.heap.size + 2, 0, none⟩)) ∧ CAt w' w.heap.size (w.heap.size + 2) 0 [] (fun _ => false) ∧ Below w.heap.size w w' := by
  refine (dent_new w).mono ?_
  rintro e w' ⟨rfl, h, hb⟩
  exact ⟨rfl, ⟨_, h, rfl, by simp, by simp, Int.le_refl _, Int.le_refl _, Ordd.nil _, fun d => rfl⟩, hb⟩

theorem c_whole (w : World) (B p n : Nat) (L : List En) (wh : Int → Bool) (d : Int) (h : CAt w B p n L wh) :
    Calls Tryz.prog 37 #[.pointer (some ⟨p, 0, none⟩), .int .i64 d] w fun e w' => e = .returned (.bool (wh d)) ∧ w = w' := by
  obtain ⟨s, h0, rfl, h1, h2, h3, h4, h5, h6⟩ := h.ex
  have := dent_whole w B s d h0
  rw [h6 d] at this; exact this

theorem c_len (w : World) (B p n : Nat) (L : List En) (wh : Int → Bool) (h : CAt w B p n L wh) :
    Calls Tryz.prog 105 #[.pointer (some ⟨p, 0, none⟩)] w fun e w' => e = .returned (.int .i64 L.length) ∧ w = w' := by
  obtain ⟨s, h0, rfl, h1, h2, h3, h4, h5, h6⟩ := h.ex
  have := dent_len w B s h0
  rw [show s.K.length = L.length by have := h5.permL.length_eq; simpa using this.symm] at this; exact this

theorem c_put (w : World) (B p n : Nat) (L : List En) (wh : Int → Bool) (e : En) (h : CAt w B p n L wh) (hn : n < 4611686018427387904) :
    Calls Tryz.prog 66 #[.pointer (some ⟨p, 0, none⟩), .agg #[.int .i64 e.key.dir, .string e.key.name, .bool e.neg, .int .i64 e.node.id, .int .i64 e.node.kind, .int .i64 e.node.mode, .string e.node.target]] w fun r w' => r = .returned (.int .i64 (if e.key.name = ByteArray.empty then 1 else 0)) ∧ CAt w' B p (n + 1) (putL e L) wh ∧ Chg (CF B p) w w' := by
  obtain ⟨s, h0, rfl, h1, h2, h3, h4, h5, h6⟩ := h.ex
  by_cases hne : e.key.name = ByteArray.empty
  · refine (dent_put_arg w s.p e hne).mono ?_
    rintro r w' ⟨rfl, hb⟩
    exact ⟨by simp [hne], ⟨s, h0.below hb, rfl, h1, h2, h3, by omega, by simp [putL, hne, h5], h6⟩, Chg.mono (Chg.below hb) fun _ _ h => h.elim⟩
  · cases hk : atK e.key s.K with
    | none =>
      refine (dent_put_new w B s e hk h0 hne h3 (by omega)).mono ?_
      rintro r w' ⟨rfl, hc, hg⟩
      refine ⟨by simp [hne], ⟨_, hc, rfl, h1, h2, by simp; omega, by simp; omega, ?_, h6⟩, Chg.mono hg fun k _ hk => CF.of h0 h1 h2 k hk⟩
      have := h5.snoc (y := ⟨e, s.ck + 1, s.c1⟩) h3 rfl
      simp only [putL, hne, if_false]; rw [drop_none (find_none h5 hk)]; exact this
    | some j =>
      obtain ⟨x, hx, hkey⟩ := atK_at hk
      have hj : j < s.K.length := (List.getElem?_eq_some_iff.1 hx).1
      refine (dent_put_old w B s e j x hk hx h0 hne h3 (by omega)).mono ?_
      rintro r w' ⟨rfl, hc, hg⟩
      refine ⟨by simp [hne], ⟨_, hc, rfl, h1, h2, by simp; omega, by simp; omega, ?_, h6⟩, Chg.mono hg fun k _ hk => CF.of h0 h1 h2 k hk⟩
      have := ((h5.drop e.key h0.k1).snoc (y := ⟨e, s.ck + 1, x.born⟩) h3 rfl)
      simp only [putL, hne, if_false]
      refine this.perm ?_
      have h7 := (set_perm s.K j ⟨e, s.ck + 1, x.born⟩ hj).symm
      simpa [delK, hk] using h7

theorem c_use (w : World) (B p n : Nat) (L : List En) (wh : Int → Bool) (k : Ky) (h : CAt w B p n L wh) (hn : n < 4611686018427387904) :
    Calls Tryz.prog 140 #[.pointer (some ⟨p, 0, none⟩), .agg #[.int .i64 k.dir, .string k.name]] w fun r w' => r = .returned (.bool (findL k L).isSome) ∧ CAt w' B p (n + 1) (useL k L) wh ∧ Chg (CF B p) w w' := by
  obtain ⟨s, h0, rfl, h1, h2, h3, h4, h5, h6⟩ := h.ex
  cases hk : atK k s.K with
  | none =>
    have hf := find_none h5 hk
    refine (dent_use_no w B s k h0 hk).mono ?_
    rintro r w' ⟨rfl, hb⟩
    exact ⟨by simp [hf], ⟨s, h0.below hb, rfl, h1, h2, h3, by omega, by simp only [useL, hf]; exact h5, h6⟩, Chg.mono (Chg.below hb) fun _ _ h => h.elim⟩
  | some j =>
    obtain ⟨x, hx, rfl⟩ := atK_at hk
    have hj : j < s.K.length := (List.getElem?_eq_some_iff.1 hx).1
    have hf := find_some h5 h0.k1 hk hx
    refine (dent_use_yes w B s j x h0 hk hx h3 (by omega)).mono ?_
    rintro r w' ⟨rfl, hc, hg⟩
    refine ⟨by simp [hf], ⟨_, hc, rfl, h1, h2, by simp; omega, by simp; omega, ?_, h6⟩, Chg.mono hg fun k _ hk => CF.of h0 h1 h2 k hk⟩
    have := ((h5.drop x.e.key h0.k1).snoc (y := ⟨x.e, s.ck + 1, x.born⟩) h3 rfl)
    simp only [useL, hf]
    refine this.perm ?_
    have h7 := (set_perm s.K j ⟨x.e, s.ck + 1, x.born⟩ hj).symm
    simpa [delK, hk] using h7

theorem c_get (w : World) (B p n : Nat) (L : List En) (wh : Int → Bool) (k : Ky) (h : CAt w B p n L wh) :
    Calls Tryz.prog 210 #[.pointer (some ⟨p, 0, none⟩), .agg #[.int .i64 k.dir, .string k.name]] w fun r w' => r = .returned (.tuple #[(getE k L).v, .bool (findL k L).isSome]) ∧ Below w.heap.size w w' := by
  obtain ⟨s, h0, rfl, h1, h2, h3, h4, h5, h6⟩ := h.ex
  cases hk : atK k s.K with
  | none =>
    have hf := find_none h5 hk
    refine (dent_get_no w B s k h0 hk).mono ?_
    rintro r w' ⟨rfl, hb⟩
    exact ⟨by simp [hf, getE, zeroE, zeroEn, En.v], hb⟩
  | some j =>
    obtain ⟨x, hx, rfl⟩ := atK_at hk
    have hf := find_some h5 h0.k1 hk hx
    refine (dent_get_yes w B s _ j x h0 hk hx).mono ?_
    rintro r w' ⟨rfl, hb⟩
    exact ⟨by simp [hf, getE], hb⟩

theorem c_evict (w : World) (B p n : Nat) (L : List En) (wh : Int → Bool) (k : Ky) (h : CAt w B p n L wh) :
    Calls Tryz.prog 103 #[.pointer (some ⟨p, 0, none⟩), .agg #[.int .i64 k.dir, .string k.name]] w fun r w' => r = .returned (.bool (findL k L).isSome) ∧ CAt w' B p n (dropL k L) (evictWh k L wh) ∧ Chg (CF B p) w w' := by
  obtain ⟨s, h0, rfl, h1, h2, h3, h4, h5, h6⟩ := h.ex
  cases hk : atK k s.K with
  | none =>
    have hf := find_none h5 hk
    refine (dent_evict_no w B s k h0 hk).mono ?_
    rintro r w' ⟨rfl, hc, hg⟩
    exact ⟨by simp [hf], ⟨s, hc, rfl, h1, h2, h3, h4, by rw [drop_none hf]; exact h5, fun d => by simp [evictWh, hf, h6]⟩, Chg.mono hg fun k _ hk => CF.of h0 h1 h2 k hk⟩
  | some j =>
    obtain ⟨x, hx, rfl⟩ := atK_at hk
    have hf := find_some h5 h0.k1 hk hx
    cases hng : x.e.neg with
    | true =>
      refine (dent_evict_neg w B s _ j x h0 hk hx hng).mono ?_
      rintro r w' ⟨rfl, hc, hg⟩
      exact ⟨by simp [hf], ⟨_, hc, rfl, h1, h2, h3, h4, h5.drop _ h0.k1, fun d => by simp [evictWh, hf, h6, hng]⟩, Chg.mono hg fun k _ hk => CF.of h0 h1 h2 k hk⟩
    | false =>
      refine (dent_evict_pos w B s _ j x h0 hk hx hng).mono ?_
      rintro r w' ⟨rfl, hc, hg⟩
      exact ⟨by simp [hf], ⟨_, hc, rfl, h1, h2, h3, h4, h5.drop _ h0.k1, fun d => by
        show inW d (delW x.e.key.dir s.W) = _
        rw [delW_in h0.k2, h6]; simp [evictWh, hf, hng]⟩, Chg.mono hg fun k _ hk => CF.of h0 h1 h2 k hk⟩

theorem c_clear (w : World) (B p n : Nat) (L : List En) (wh : Int → Bool) (h : CAt w B p n L wh) :
    Calls Tryz.prog 33 #[.pointer (some ⟨p, 0, none⟩)] w fun r w' => r = .returned (.tuple #[]) ∧ CAt w' B p n [] (fun _ => false) ∧ Chg (CF B p) w w' := by
  obtain ⟨s, h0, rfl, h1, h2, h3, h4, h5, h6⟩ := h.ex
  refine (dent_clear w B s h0).mono ?_
  rintro r w' ⟨rfl, hc, hg⟩
  exact ⟨rfl, ⟨_, hc, rfl, h1, h2, h3, h4, Ordd.nil _, fun d => rfl⟩, Chg.mono hg fun k _ hk => CF.of h0 h1 h2 k hk⟩

theorem addW_form (d : Int) (s : Ca) : (addW d s).p = s.p ∧ (addW d s).me = s.me ∧ (addW d s).mw = s.mw ∧ (addW d s).K = s.K ∧ (addW d s).ck = s.ck ∧ ∀ d', inW d' (addW d s).W = (inW d' s.W || d == d') := by
  unfold addW
  cases hk : atW d s.W with
  | none =>
    refine ⟨rfl, rfl, rfl, rfl, rfl, fun d' => ?_⟩
    rw [Bool.eq_iff_iff, Bool.or_eq_true, inW_iff, inW_iff, List.map_append, List.mem_append, beq_iff_eq]
    simp only [List.map_cons, List.map_nil, List.mem_singleton]
    exact or_congr Iff.rfl ⟨fun h => h.symm, fun h => h.symm⟩
  | some j =>
    refine ⟨rfl, rfl, rfl, rfl, rfl, fun d' => ?_⟩
    obtain ⟨hjl, hj1, _⟩ := List.findIdx?_eq_some_iff_getElem.1 hk
    rw [Bool.eq_iff_iff, Bool.or_eq_true, inW_iff]
    constructor
    · exact .inl
    · rintro (h | h)
      · exact h
      · have h : d = d' := by simpa using h
        subst h
        exact List.mem_map.2 ⟨s.W[j], List.getElem_mem _, by simpa using (of_decide_eq_true hj1).symm⟩

theorem c_setwhole (w : World) (B p n : Nat) (L : List En) (wh : Int → Bool) (d : Int) (h : CAt w B p n L wh) :
    Calls Tryz.prog 67 #[.pointer (some ⟨p, 0, none⟩), .int .i64 d] w fun r w' => r = .returned (.tuple #[]) ∧ CAt w' B p n L (fun d' => wh d' || d == d') ∧ Chg (CF B p) w w' := by
  obtain ⟨s, h0, rfl, h1, h2, h3, h4, h5, h6⟩ := h.ex
  refine (dent_setwhole w B s d h0).mono ?_
  rintro r w' ⟨rfl, hc, hg⟩
  obtain ⟨f1, f2, f3, f4, f5, f6⟩ := addW_form d s
  exact ⟨rfl, ⟨_, hc, f1, by rw [f2]; exact h1, by rw [f3]; exact h2, by rw [f5]; exact h3, by rw [f5]; exact h4, by rw [f4, f5]; exact h5, fun d' => by rw [f6, h6]⟩, Chg.mono hg fun k _ hk => CF.of h0 h1 h2 k hk⟩

theorem cut1_ord {s : Ca} {L : List En} {k : Ky} (h : Ordd s.K s.ck L) (hn : (s.K.map fun x => x.e.key).Nodup) : Ordd (cut1 s k).K s.ck (L.filter fun e => !hitE k e) ∧ ((cut1 s k).K.map fun x => x.e.key).Nodup := by
  unfold cut1
  by_cases hk : k.name = ByteArray.empty
  · simp only [hk, if_true]
    refine ⟨?_, hn.sublist ((List.filter_sublist ..).map _)⟩
    have := h.filt fun e => !hitE k e
    simpa [hitE, hk] using this
  · simp only [hk, if_false]
    refine ⟨?_, hn.sublist ((sub_delK k s.K).map _)⟩
    have := h.drop k hn
    simpa [hitE, hk, dropL] using this

theorem cutL_spec (ks : List Ky) : ∀ (s : Ca) (L : List En) (wh : Int → Bool), Ordd s.K s.ck L → (s.K.map fun x => x.e.key).Nodup → (s.W.map Wh.dir).Nodup → (∀ d, inW d s.W = wh d) →
    Ordd (cutL s ks).K s.ck (cutE ks L) ∧ ∀ d, inW d (cutL s ks).W = cutWh ks wh d := by
  induction ks with
  | nil => intro s L wh h1 h2 h3 h4; exact ⟨by rw [show cutE [] L = L from List.filter_eq_self.2 (fun _ _ => rfl)]; exact h1, fun d => by simp [cutL, cutWh, h4]⟩
  | cons k ks ih =>
    intro s L wh h1 h2 h3 h4
    obtain ⟨a1, a2⟩ := cut1_ord (k := k) h1 h2
    have a3 : ((cut1 s k).W.map Wh.dir).Nodup := h3.sublist ((sub_delW k.dir s.W).map _)
    have a4 : ∀ d, inW d (cut1 s k).W = (wh d && !(k.dir == d)) := fun d => by
      show inW d (delW k.dir s.W) = _
      rw [delW_in h3, h4]
    obtain ⟨b1, b2⟩ := ih (cut1 s k) _ _ a1 a2 a3 a4
    refine ⟨?_, fun d => ?_⟩
    · have e1 : cutE ks (L.filter fun e => !hitE k e) = cutE (k :: ks) L := by
        unfold cutE; rw [List.filter_filter]; apply List.filter_congr; intro e _; simp [Bool.and_comm]
      rw [← e1]; exact b1
    · rw [show cutL s (k :: ks) = cutL (cut1 s k) ks from rfl, b2]
      simp [cutWh, Bool.and_assoc]

theorem c_cut (w : World) (B p n : Nat) (L : List En) (wh : Int → Bool) (ks : List Ky) (a : Option Addr) (c B' : Nat) (h : CAt w B p n L wh) (hv : w.ownsRow B' 53 2 (.slice a ks.length c) ks.length (kyc ks)) (hB : p < B') (hL : ks.length ≤ 140737488351232) :
    Calls Tryz.prog 35 #[.pointer (some ⟨p, 0, none⟩), .slice a ks.length c] w fun r w' => r = .returned (.tuple #[]) ∧ CAt w' B p n (cutE ks L) (cutWh ks wh) ∧ Chg (CF B p) w w' := by
  obtain ⟨s, h0, rfl, h1, h2, h3, h4, h5, h6⟩ := h.ex
  refine (dent_cut w B s ks a c B' h0 hv (fun k hk => by have := (CF.of h0 h1 h2 k hk).2; omega) hL).mono ?_
  rintro r w' ⟨rfl, hc, hg⟩
  obtain ⟨K1, W1, hf⟩ := cutL_form s ks
  obtain ⟨g1, g2⟩ := cutL_spec ks s L wh h5 h0.k1 h0.k2 h6
  rw [hf] at hc g1 g2
  exact ⟨rfl, ⟨_, hc, rfl, h1, h2, h3, h4, g1, g2⟩, Chg.mono hg fun k _ hk => CF.of h0 h1 h2 k hk⟩

end Go.Proofs.YtbjibkjenleloaaGreatDoor

end
