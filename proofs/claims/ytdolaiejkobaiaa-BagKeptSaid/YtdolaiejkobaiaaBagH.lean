import Derived.Test.YtdolaiejkobaiaaBagG
import Derived.Deep.DeepCutAuto
import Derived.Deep.CutBlock
import Derived.Test.YtdolaiejkobaiaaLibB
namespace Go.Proofs.Ytdolaiejkobaiaa
set_option linter.unusedVariables false
set_option linter.unusedSimpArgs false
open Go.RowKit
attribute [local go_sem ↓] Go.wp_at_zero Go.wp_at_succ

theorem bag_drop_in (w : World) (B p : Nat) (limit : Int) (a : Option Addr) (c : Nat) (L : List Lt) (i : Int) (h : BagAt 62 w B p limit a c L) (h0 : 0 ≤ i) (hi : i < (L.length : Int)) :
    Calls Try.prog 15 #[.pointer (some ⟨p, 0, none⟩), .int .i64 i] w fun e w' => e = .returned (.int .i64 0) ∧ BagAt 62 w' B p limit a c (L.eraseIdx i.toNat) ∧ Chg (BagF p a) w w' := by
  obtain ⟨n, rfl⟩ := Int.eq_ofNat_of_zero_le h0
  rw [Int.toNat_natCast]
  exact bag_drop_yes w B p limit a c L n h (by omega)

theorem bag_double_full_in (w : World) (B p : Nat) (limit : Int) (a : Option Addr) (c : Nat) (L : List Lt) (i : Int) (h : BagAt 62 w B p limit a c L) (h0 : 0 ≤ i) (hi : i < (L.length : Int)) (hl : limit ≤ L.length) :
    Calls Try.prog 16 #[.pointer (some ⟨p, 0, none⟩), .int .i64 i] w fun e w' => e = .returned (.int .i64 2) ∧ Below w.heap.size w w' := by
  obtain ⟨n, rfl⟩ := Int.eq_ofNat_of_zero_le h0
  exact bag_double_full w B p limit a c L n h (by omega) hl

theorem bag_double_in (w : World) (B p : Nat) (limit : Int) (a : Option Addr) (c : Nat) (L : List Lt) (i : Int) (y : Lt) (h : BagAt 62 w B p limit a c L) (h0 : 0 ≤ i) (hi : L[i.toNat]? = some y) (hl : L.length < limit) (hm : limit ≤ 64) (hBw : B ≤ w.heap.size)
    (hy : y.bs.length ≤ 140737488351232) :
    Calls Try.prog 16 #[.pointer (some ⟨p, 0, none⟩), .int .i64 i] w fun e w' => e = .returned (.int .i64 0) ∧ ∃ a' c' x, x.tw = y.tw ∧ x.bs = y.bs ∧ BagAt 62 w' B p limit a' c' (L ++ [x]) ∧
      w'.ownsRow w.heap.size 5 1 x.v y.bs.length (bys y.bs) ∧ (a'.map (·.block) = a.map (·.block) ∨ ∃ g, a'.map (·.block) = some g ∧ w.heap.size ≤ g) ∧ Chg (BagF p a) w w' := by
  obtain ⟨n, rfl⟩ := Int.eq_ofNat_of_zero_le h0
  rw [Int.toNat_natCast] at hi
  exact bag_double_ok w B p limit a c L n y h hi hl hm hBw hy

theorem bag_take_in (w : World) (B p : Nat) (limit : Int) (a : Option Addr) (c : Nat) (L : List Lt) (i : Int) (y : Lt) (h : BagAt 62 w B p limit a c L) (h0 : 0 ≤ i) (hi : L[i.toNat]? = some y) (hBw : B ≤ w.heap.size) :
    Calls Try.prog 13 #[.pointer (some ⟨p, 0, none⟩), .int .i64 i] w fun e w' => e = .returned (.tuple #[.agg #[.int .i64 y.tw, .slice y.a y.bs.length y.c], .int .i64 0]) ∧
      BagAt 62 w' B p limit a c (L.eraseIdx i.toNat) ∧ Chg (BagF p a) w w' := by
  obtain ⟨n, rfl⟩ := Int.eq_ofNat_of_zero_le h0
  rw [Int.toNat_natCast] at hi ⊢
  exact bag_take_yes w B p limit a c L n y h hi hBw

/-- a call of a script -/

structure Sop where
  kind : Int
  at_ : Int
  tw : Int
  a : Option Addr
  c : Nat
  bs : List Int

def Sop.v (x : Sop) : Value := .slice x.a x.bs.length x.c
def Sop.cells (x : Sop) : List Value := [.int .i64 x.kind, .int .i64 x.at_, .int .i64 x.tw, x.v]
def scs (S : List Sop) : List Value := S.flatMap Sop.cells

theorem scs_len (S : List Sop) : (scs S).length = S.length * 4 := by
  induction S with
  | nil => rfl
  | cons x S ih => simp [scs, Sop.cells] at ih ⊢; omega

theorem scs_at {S : List Sop} {k : Nat} {x : Sop} (h : S[k]? = some x) : (scs S)[k * 4]? = some (.int .i64 x.kind) ∧ (scs S)[k * 4 + 1]? = some (.int .i64 x.at_) ∧ (scs S)[k * 4 + 2]? = some (.int .i64 x.tw) ∧ (scs S)[k * 4 + 3]? = some x.v := by
  induction S generalizing k with
  | nil => simp at h
  | cons y S ih =>
    cases k with
    | zero => simp at h; subst h; simp [scs, Sop.cells]
    | succ k =>
      have := ih (by simpa using h)
      have e0 : (k + 1) * 4 = k * 4 + 1 + 1 + 1 + 1 := by omega
      simp only [scs, List.flatMap_cons, Sop.cells, List.cons_append, List.nil_append, e0, Nat.add_right_comm _ 1 2, Nat.add_right_comm _ 1 3, List.getElem?_cons_succ] at this ⊢
      exact this

/-- a script in memory -/
structure ScrAt (w : World) (v : Value) (S : List Sop) : Prop where
  row : Rd w v S.length (scs S)
  each : ∀ x ∈ S, Rd w x.v x.bs.length (bys x.bs)

theorem ScrAt.loc {w : World} {sa : Option Addr} {sc : Nat} {S : List Sop} (h : ScrAt w (.slice sa S.length sc) S) (hS : 0 < S.length) : ∃ b off, sa = some ⟨b, off, none⟩ := by
  obtain ⟨b, off, cap, hv, _⟩ := h.row.form (by rw [scs_len]; omega)
  simp only [Value.slice.injEq] at hv
  exact ⟨b, off, hv.1⟩

theorem scr_at {w wr : World} {b off sc : Nat} {S : List Sop} (h : ScrAt w (.slice (some ⟨b, off, none⟩) S.length sc) S) (hb : Below w.heap.size w wr) {k : Nat} {x : Sop} (hx : S[k]? = some x) :
    wr.cell? ⟨b, off + k * 4, none⟩ = some (.int .i64 x.kind) ∧ wr.cell? ⟨b, off + k * 4 + 1, none⟩ = some (.int .i64 x.at_) ∧ wr.cell? ⟨b, off + k * 4 + 2, none⟩ = some (.int .i64 x.tw) ∧ wr.cell? ⟨b, off + k * 4 + 3, none⟩ = some (.slice x.a x.bs.length x.c) := by
  have h1 := h.row.at
  have h2 := scs_at hx
  exact ⟨below_cell hb (Nat.le_refl _) (h1 _ _ h2.1), below_cell hb (Nat.le_refl _) (h1 _ _ h2.2.1), below_cell hb (Nat.le_refl _) (h1 _ _ h2.2.2.1), below_cell hb (Nat.le_refl _) (h1 _ _ h2.2.2.2)⟩

/-- a bag, letters that were posted tw it, the memory ahead of the call as it was -/
structure StN (w wr : World) (B p : Nat) (limit : Int) (a : Option Addr) (c : Nat) (L : List Lt) (a1 : Option Addr) (c1 : Nat) (P : List Lt) : Prop where
  bag : BagAt 62 wr B p limit a c L
  lets : LetsAt wr B a1 c1 P
  ne : ∀ k, a.map (·.block) = some k → a1.map (·.block) ≠ some k
  below : Below B w wr
  sz : B ≤ wr.heap.size
  lb : ∀ x ∈ L, x.bs.length ≤ 140737488351232

def SubL (L P : List Lt) : Prop := ∀ x ∈ cons_ L, x ∈ cons_ P

theorem BagAt.old {T : Nat} {w : World} {B p : Nat} {limit : Int} {a : Option Addr} {c : Nat} {L : List Lt} (h : BagAt T w B p limit a c L) {k : Nat} (hk : w.heap.size ≤ k) : ¬ BagF p a k := by
  rintro (rfl | h1)
  · exact absurd (blk_lt h.hp) (by omega)
  · exact absurd (own_lt h.row (by rw [ownBlock_slice]; exact h1)).2 (by omega)

theorem subL_snoc {L P : List Lt} (h : SubL L P) {x y : Lt} (hc : x.con = y.con) : SubL (L ++ [x]) (P ++ [y]) := by
  intro z hz
  simp only [cons_, List.map_append, List.mem_append, List.map_cons, List.map_nil, List.mem_singleton] at hz ⊢
  rcases hz with hz | hz
  · exact .inl (h z hz)
  · exact .inr (hz.trans hc)

theorem subL_old {L P : List Lt} (h : SubL L P) {x y : Lt} (hy : y ∈ L) (hc : x.con = y.con) : SubL (L ++ [x]) P := by
  intro z hz
  simp only [cons_, List.map_append, List.mem_append, List.map_cons, List.map_nil, List.mem_singleton] at hz
  rcases hz with hz | hz
  · exact h z hz
  · rw [hz, hc]; exact h _ (List.mem_map.2 ⟨y, hy, rfl⟩)

theorem subL_erase {L P : List Lt} (h : SubL L P) (i : Nat) : SubL (L.eraseIdx i) P := by
  intro z hz
  obtain ⟨y, hy, rfl⟩ := List.mem_map.1 hz
  exact h _ (List.mem_map.2 ⟨y, List.mem_of_mem_eraseIdx hy, rfl⟩)

theorem StN.alloc {w wr : World} {B p : Nat} {limit : Int} {a : Option Addr} {c : Nat} {L : List Lt} {a1 : Option Addr} {c1 : Nat} {P : List Lt} (h : StN w wr B p limit a c L a1 c1 P) {wr' : World} (hb : Below wr.heap.size wr wr') : StN w wr' B p limit a c L a1 c1 P :=
  ⟨h.bag.below hb, h.lets.below hb, h.ne, h.below.trans (hb.mono h.sz), Nat.le_trans h.sz hb.size, h.lb⟩

theorem StN.step {w wr : World} {B p : Nat} {limit : Int} {a : Option Addr} {c : Nat} {L : List Lt} {a1 : Option Addr} {c1 : Nat} {P : List Lt} (h : StN w wr B p limit a c L a1 c1 P) {wr' : World} {a' : Option Addr} {c' : Nat} {L' : List Lt}
    (hc : Chg (BagF p a) wr wr') (hbag : BagAt 62 wr' B p limit a' c' L') (ha : a'.map (·.block) = a.map (·.block) ∨ ∃ g, a'.map (·.block) = some g ∧ wr.heap.size ≤ g)
    (hlb : ∀ x ∈ L', x.bs.length ≤ 140737488351232) : StN w wr' B p limit a' c' L' a1 c1 P := by
  refine ⟨hbag, ⟨ownsRow_chg h.lets.row fun k hk hl => hc.block k hl ?_, fun x hx => ownsRow_chg (h.lets.each x hx) fun k hk hl => hc.block k hl ?_⟩, ?_, h.below.trans (hc.toBelow h.sz h.bag.low), Nat.le_trans h.sz hc.size, hlb⟩
  · rintro (rfl | h1)
    · exact own_ne h.lets.row h.bag.hp (by decide) hk
    · rw [ownBlock_slice] at hk; exact h.ne k h1 hk
  · exact h.bag.notF (by decide) (h.lets.each x hx) hk
  · intro k hk h1
    rcases ha with ha | ⟨g, ha, hg⟩
    · exact h.ne k (by rw [← ha]; exact hk) h1
    · have := own_lt h.lets.row (k := k) (by rw [ownBlock_slice]; exact h1)
      rw [ha] at hk; have := Option.some.inj hk; omega

theorem StN.more {w wr w2 : World} {B p : Nat} {limit : Int} {a : Option Addr} {c : Nat} {L : List Lt} {a1 a' a2 : Option Addr} {c1 c' c2 : Nat} {P : List Lt} {o : Obj} {tw : Int} {l : List Int} (h : StN w wr B p limit a c L a1 c1 P) {b0 : Nat} (hb0 : B ≤ b0)
    (hown : wr.ownsRow b0 5 1 (.slice a' l.length c') l.length (bys l)) (hgrow : (wr.alloc o).grownBy w2 (Value.slice a1 P.length c1).ownBlock)
    (hown2 : w2.ownsRow B 35 2 (.slice a2 (P.length + 1) c2) (P.length + 1) (lcs P ++ [.int .i64 tw, .slice a' l.length c']))
    (hat : (Value.slice a2 (P.length + 1) c2).ownBlock = (Value.slice a1 P.length c1).ownBlock ∨ (Value.slice a2 (P.length + 1) c2).ownBlock = some (wr.alloc o).heap.size) :
    StN w w2 B p limit a c L a2 c2 (P ++ [⟨tw, a', c', l⟩]) := by
  have hF : Chg (fun k => a1.map (·.block) = some k) wr w2 := Chg.grown ((Chg.refl _ _).alloc o) hgrow fun k hk => by rw [ownBlock_slice] at hk; exact .inl hk
  have hlow : ∀ i, i < B → ¬ a1.map (·.block) = some i := fun i hi h1 => by
    have := own_lt h.lets.row (k := i) (by rw [ownBlock_slice]; exact h1); omega
  refine ⟨h.bag.chg hF ?_ ?_ ?_, lets_snoc h.lets (ownsRow_mono hown hb0) hgrow hown2, ?_, h.below.trans (hF.toBelow h.sz hlow), Nat.le_trans h.sz hF.size, h.lb⟩
  · intro h1; exact own_ne h.lets.row h.bag.hp (by decide) (by rw [ownBlock_slice]; exact h1)
  · exact h.ne
  · intro x hx k hk h1; exact own_ne2 (h.bag.each x hx) h.lets.row (by decide) k hk (by rw [ownBlock_slice]; exact h1)
  · intro k hk h1
    simp only [ownBlock_slice] at hat
    rcases hat with hat | hat
    · exact h.ne k hk (by rw [← hat]; exact h1)
    · rw [hat] at h1
      have h2 := Option.some.inj h1
      have := own_lt h.bag.row (k := k) (by rw [ownBlock_slice]; exact hk)
      simp at h2; omega

def inB (y : Int × List Int) (l : List (Int × List Int)) : Bool := decide (y ∈ l)

theorem inB_snoc {l : List (Int × List Int)} {k : Nat} {x y : Int × List Int} (h : l[k]? = some x) : inB y (l.take (k + 1)) = (inB y (l.take k) || decide (x = y)) := by
  unfold inB
  rw [List.take_add_one, h, Bool.eq_iff_iff]
  simp only [Bool.or_eq_true, decide_eq_true_iff, List.mem_append, Option.toList_some, List.mem_singleton]
  exact or_congr Iff.rfl eq_comm

theorem LetsAt.loc {w : World} {B : Nat} {a : Option Addr} {c : Nat} {L : List Lt} (h : LetsAt w B a c L) (hL : 0 < L.length) : ∃ g, a = some ⟨g, 0, none⟩ := by
  rcases h.row.2 with ⟨hv, h0⟩ | ⟨g, cap, cur, hv, _⟩
  · omega
  · simp only [Value.slice.injEq] at hv; exact ⟨g, hv.1⟩

theorem LetsAt.at {w : World} {B g : Nat} {c : Nat} {L : List Lt} (h : LetsAt w B (some ⟨g, 0, none⟩) c L) {i : Nat} {x : Lt} (hx : L[i]? = some x) :
    w.cell? ⟨g, i * 2, none⟩ = some (.int .i64 x.tw) ∧ w.cell? ⟨g, i * 2 + 1, none⟩ = some (.slice x.a x.bs.length x.c) := by
  have h1 := (Rd.own h.row).at
  have h2 := lcs_at hx
  have h3 := h1 _ _ h2.1
  have h4 := h1 _ _ h2.2
  simp only [Nat.zero_add] at h3 h4
  exact ⟨h3, h4⟩

set_option maxRecDepth 100000 in
set_option maxHeartbeats 2000000 in
theorem bagNothing_walk (limit : Int) (sa : Option Addr) (sc : Nat) (S : List Sop) (w : World) (hS : ScrAt w (.slice sa S.length sc) S) (hz : S.length * 48 ≤ 140737488351232) (hbz : ∀ x ∈ S, x.bs.length ≤ 140737488351232) :
    Calls Try.prog 3 #[.int .i64 limit, .slice sa S.length sc] w fun e w' => e = .returned (.bool true) ∧ Below w.heap.size w w' := by
  by_cases hlim : limit < 1 ∨ 64 < limit
  · have HL := hid hlim
    by_cases h1 : limit < 1
    · clear hlim
      go_enter Try.func3, Try.ntmps3
      go_wp2_with (first
        | (go_at_call 8; refine (bag_new_no _ limit HL.out).mono ?_; rintro e w1 ⟨rfl, rfl⟩)
        | (go_at_call 9; refine (bag_awake _).mono ?_; rintro e w1 ⟨rfl, hb1⟩))
      go_ret
      exact ⟨rfl, hb1⟩
    · have h2 : 64 < limit := by omega
      clear hlim
      go_enter Try.func3, Try.ntmps3
      go_wp2_with (first
        | (go_at_call 8; refine (bag_new_no _ limit HL.out).mono ?_; rintro e w1 ⟨rfl, rfl⟩)
        | (go_at_call 9; refine (bag_awake _).mono ?_; rintro e w1 ⟨rfl, hb1⟩))
      go_ret
      exact ⟨rfl, hb1⟩
  · have h1 : 1 ≤ limit := by omega
    have h2 : limit ≤ 64 := by omega
    have HS := hid hS
    have HZ := hid hbz
    have hn : S.length ≤ 9223372036854775807 := by omega
    clear hlim hS hbz
    go_enter Try.func3, Try.ntmps3
    go_wp2_with (go_at_call 8; refine (bag_new_yes _ limit h1 h2).mono ?_; rintro e w1 ⟨rfl, hbag, hb1⟩)
    go_loopw [7, 8, 9, 10] (fun v7 v8 v9 v10 wr => ∃ (k ni no : Nat) (a : Option Addr) (c : Nat) (L : List Lt) (a1 : Option Addr) (c1 : Nat) (P : List Lt), k ≤ S.length ∧ v7 = .int .i64 ni ∧ v8 = .int .i64 no ∧ v9 = .slice a1 P.length c1 ∧ v10 = .int .i64 k ∧
      ni ≤ k ∧ no ≤ ni ∧ ni ≤ no + L.length ∧ no + L.length ≤ ni ∧ (L.length : Int) ≤ limit ∧ P.length ≤ k ∧ StN w wr w.heap.size w.heap.size limit a c L a1 c1 P ∧ Hid (SubL L P)) (fun _ _ _ v10 _ => S.length - (intOf v10).toNat)
    case atStart => exact ⟨0, 0, 0, none, 0, [], none, 0, [], Nat.zero_le _, rfl, rfl, rfl, rfl, by simp, by simp, by simp, by simp, by simp; omega, by simp, ⟨hbag, ⟨World.ownsRow_nil _ _ _ _, by simp⟩, by simp, hb1, hb1.size, by simp⟩, hid (by simp [SubL, cons_])⟩
    case round =>
      obtain ⟨k, ni, no, a, c, L, a1, c1, P, hk, rfl, rfl, rfl, rfl, g1, g2, g3, g4, g5, g6, hst, HSUB⟩ := hrel
      have ST := hid hst
      clear hst
      by_cases hlt : k < S.length
      · obtain ⟨x, hx⟩ : ∃ x, S[k]? = some x := ⟨_, List.getElem?_eq_getElem hlt⟩
        obtain ⟨b, off, rfl⟩ := HS.out.loc (by omega)
        have hxr := HS.out.each x (List.mem_of_getElem? hx)
        have hxl := HZ.out x (List.mem_of_getElem? hx)
        obtain ⟨f0, f1, f2, f3⟩ := scr_at HS.out ST.out.below hx
        have HX := hid hx
        have HR := hid (hxr.below ((Below.refl w.heap.size w).trans ST.out.below))
        have hk0 : (0 : Int) ≤ (k : Int) := by omega
        have hk1 : (k : Int) < (S.length : Int) := by omega
        clear hx hxr
        have h4 : x.kind % 4 = 0 ∨ x.kind % 4 = 1 ∨ x.kind % 4 = 2 ∨ x.kind % 4 = 3 := by omega
        have HQ := hid h4
        clear h4
        go_upto_block 2 with (first
          | (go_at_call 10; refine (place_pos _ 4 _ (by omega) (by omega)).mono ?_; rintro e wx ⟨rfl, rfl⟩))
        go_cut [7, 8, 9] (fun v7 v8 v9 wx => ∃ (ni no : Nat) (a : Option Addr) (c : Nat) (L : List Lt) (a1 : Option Addr) (c1 : Nat) (P : List Lt), v7 = .int .i64 ni ∧ v8 = .int .i64 no ∧ v9 = .slice a1 P.length c1 ∧
          ni ≤ k + 1 ∧ no ≤ ni ∧ ni ≤ no + L.length ∧ no + L.length ≤ ni ∧ (L.length : Int) ≤ limit ∧ P.length ≤ k + 1 ∧ StN w wx w.heap.size w.heap.size limit a c L a1 c1 P ∧ Hid (SubL L P))
        case first =>
          have hst1 := ST.out.alloc (bl1 wr (.cells #[.int .i64 x.kind, .int .i64 x.at_, .int .i64 x.tw, .slice x.a x.bs.length x.c] 31))
          have hbox := heap_new wr (.cells #[.int .i64 x.kind, .int .i64 x.at_, .int .i64 x.tw, .slice x.a x.bs.length x.c] 31)
          have hRx : ∀ W, Below w.heap.size w W → Rd W (.slice x.a x.bs.length x.c) x.bs.length (bys x.bs) := fun W hW => (HS.out.each x (List.mem_of_getElem? HX.out)).below hW
          have RX := hid hRx
          have ST1 := hid hst1
          have BX := hid hbox
          have hszr := ST.out.sz
          have hbl := ST.out.bag.low
          have BL := hid hbl
          clear hRx hst1 hbox hbl
          rcases HQ.out with hq | hq | hq | hq
          · have hb0 : (x.kind % 4 == 0) = true := by simp [hq]
            clear hq
            by_cases hfull : limit ≤ (L.length : Int)
            · go_wp2_with fail
              refine (letter_any _ _ _ _ x.bs _ (RX.out _ ST1.out.below) hxl).mono ?_
              rintro e w2 ⟨a', c', rfl, hown, hb2⟩
              have ST2 := hid (ST1.out.alloc hb2)
              go_wp2_with fail
              refine (bag_post_full _ w.heap.size w.heap.size limit a c L _ _ ST2.out.bag hfull).mono ?_
              rintro e w3 ⟨rfl, hb3⟩
              have ST3 := hid (ST2.out.alloc hb3)
              go_wp2_with fail
              go_meet
              case rel => exact ⟨ni, no, a, c, L, a1, c1, P, rfl, rfl, rfl, by omega, by omega, by omega, by omega, by omega, by omega, ST3.out, HSUB⟩
            · have hlt2 : (L.length : Int) < limit := by omega
              obtain ⟨i1, hi1, hy0, hy1, hy2⟩ := info_parts infoLt
              have HI := hid hi1
              have hboxlt := blk_lt BX.out
              clear hi1
              go_wp2_with fail
              refine (letter_any _ _ _ _ x.bs _ (RX.out _ ST1.out.below) hxl).mono ?_
              rintro e w2 ⟨a', c', rfl, hown, hb2⟩
              have ST2 := hid (ST1.out.alloc hb2)
              have hk2 := heap_below hb2 BX.out hboxlt
              have K2 := hid hk2
              clear hk2
              go_wp2_with fail
              refine (bag_post_ok _ w.heap.size w.heap.size limit a c L _ _ x.bs ST2.out.bag hlt2 h2 (Rd.own hown) hxl ST2.out.sz).mono ?_
              rintro e w3 ⟨rfl, a3, c3, ⟨yt, ya, yc, yb⟩, rfl, rfl, hbag3, hown3, hat3, hchg3⟩
              have ST3 := hid (ST2.out.step hchg3 hbag3 hat3 (fun z hz => by
                rcases List.mem_append.1 hz with hz | hz
                · exact ST2.out.lb z hz
                · obtain rfl := List.mem_singleton.1 hz; exact hxl))
              have hk3 := heap_chg hchg3 K2.out (ST.out.bag.old (Nat.le_refl _))
              have b3 := blk4 hk3
              clear hk3 hbag3 hown3 hat3 hchg3
              go_wp2_with fail
              refine (letter_any _ _ _ _ x.bs _ (RX.out _ ST3.out.below) hxl).mono ?_
              rintro e w4 ⟨a4, c4, rfl, hown4, hb4⟩
              have ST4 := hid (ST3.out.alloc hb4)
              have hs4 := ST4.out.sz
              go_wp2_with (at_builtin; refine wpList_append_rd rfl _ _ 28 rfl w.heap.size 35 i1 _ 2 32 Try.underlying28 HI.out hy0 hy1 hy2 rfl (by decide) (.slice a1 P.length c1) P.length (lcs P) rfl (own_alloc ST4.out.lets.row _) (.slice (some ⟨w4.heap.size, 0, none⟩) 1 1) 1 [.int .i64 x.tw, .slice a4 x.bs.length c4] rfl (rd_blk (heap_new w4 _) (by unfold maxLen; omega)) rfl (by intro u hu; simp at hu; rcases hu with rfl | rfl <;> rfl) (by unfold maxLen; omega) (by omega) (by simp; omega) ?_; intro a5 c5 w5 hown5 hgrow5 hat5)
              go_meet
              case rel => exact ⟨ni + 1, no, a3, c3, _, a5, c5, _, by go_num, rfl, by rw [List.length_append]; rfl, by omega, by omega, by rw [List.length_append]; simp; omega, by rw [List.length_append]; simp; omega, by rw [List.length_append]; simp; omega, by rw [List.length_append]; simp; omega, ST4.out.more (by have := ST3.out.sz; omega) hown4 hgrow5 hown5 hat5, hid (subL_snoc HSUB.out rfl)⟩
          · have hb0 : (x.kind % 4 == 0) = false := by simp [hq]
            have hb1 : (x.kind % 4 == 1) = true := by simp [hq]
            clear hq
            by_cases hr : 0 ≤ x.at_ ∧ x.at_ < (L.length : Int)
            · obtain ⟨i, hi⟩ : ∃ i, i = x.at_.toNat := ⟨_, rfl⟩
              have hil : i < L.length := by omega
              obtain ⟨hr0, hr1⟩ := hr
              have HIi := hid hi
              obtain ⟨y, hy⟩ : ∃ y, L[i]? = some y := ⟨_, List.getElem?_eq_getElem hil⟩
              have HY := hid hy
              clear hi hy
              go_wp2_with fail
              refine (bag_take_in _ w.heap.size w.heap.size limit a c L _ y ST1.out.bag hr0 (HIi.out ▸ HY.out) ST1.out.sz).mono ?_
              rintro e w3 ⟨rfl, hbag3, hchg3⟩
              rw [← HIi.out] at hbag3
              have hyo := ST1.out.bag.each y (List.mem_of_getElem? HY.out)
              have hrd : Rd w3 (.slice y.a y.bs.length y.c) y.bs.length (bys y.bs) := (Rd.own hyo).chg fun k hk hl => hchg3.block k hl (ST1.out.bag.notF (by decide) hyo hk)
              have hst3 := ST1.out.step hchg3 hbag3 (.inl rfl) (fun z hz => ST1.out.lb z (List.mem_of_mem_eraseIdx hz))
              have ST3 := hid (hst3.alloc (bl1 w3 (.cells #[.int .i64 y.tw, .slice y.a y.bs.length y.c] 35)))
              have RY := hid (hrd.alloc (.cells #[.int .i64 y.tw, .slice y.a y.bs.length y.c] 35))
              have KY := hid (blk2 (heap_new w3 (.cells #[.int .i64 y.tw, .slice y.a y.bs.length y.c] 35)))
              have hfind := HSUB.out y.con (List.mem_map.2 ⟨y, List.mem_of_getElem? HY.out, rfl⟩)
              have HF := hid hfind
              have hle := List.length_eraseIdx_of_lt hil
              have HLE := hid hle
              have hPl : P.length ≤ 9223372036854775807 := by omega
              obtain ⟨W4, hW4⟩ : ∃ W4, W4 = w3.alloc (.cells #[.int .i64 y.tw, .slice y.a y.bs.length y.c] 35) := ⟨_, rfl⟩
              rw [← hW4] at ST3 RY KY
              have HW4 := hid hW4
              clear hle hbag3 hyo hst3 hrd hfind hchg3 hW4
              go_wp2_with fail
              go_loopw [14, 15] (fun v14 v15 wi => ∃ (k2 : Nat) (f : Bool), k2 ≤ P.length ∧ v14 = .bool f ∧ v15 = .int .i64 k2 ∧ Hid (f = inB y.con ((cons_ P).take k2)) ∧ Hid (Dr W4 wi)) (fun _ v15 _ => P.length - (intOf v15).toNat)
              case atStart => exact ⟨0, false, Nat.zero_le _, rfl, rfl, hid (by simp [inB]), hid (HW4.out ▸ Dr.refl _)⟩
              case round =>
                obtain ⟨k2, f, hk2, rfl, rfl, HFF, HDR⟩ := hrel
                by_cases hlt3 : k2 < P.length
                · obtain ⟨gp, rfl⟩ := ST3.out.lets.loc (by omega)
                  obtain ⟨z, hz⟩ : ∃ z, P[k2]? = some z := ⟨_, List.getElem?_eq_getElem hlt3⟩
                  obtain ⟨p0, p1⟩ := ST3.out.lets.at hz
                  have p0' := HDR.out.cell p0
                  have p1' := HDR.out.cell p1
                  have q0 := HDR.out.cell KY.out.1
                  have q1 := HDR.out.cell KY.out.2.1
                  have RZ := hid (HDR.out.rd (Rd.own (ST3.out.lets.each z (List.mem_of_getElem? hz))))
                  have RY' := hid (HDR.out.rd RY.out)
                  have hcz : (cons_ P)[k2]? = some z.con := by simp [cons_, List.getElem?_map, hz]
                  have HN := hid (inB_snoc (y := y.con) hcz)
                  have hk20 : (0 : Int) ≤ (k2 : Int) := by omega
                  have hk21 : (k2 : Int) < (P.length : Int) := by omega
                  clear hz hcz p0 p1
                  cases f with
                  | true =>
                    go_wp2_with fail
                    go_quiet (fail)
                    go_wp2
                    exact ⟨⟨k2 + 1, true, by omega, rfl, by go_num, hid (by rw [HN.out, ← HFF.out]; rfl), hid (HDR.out.drewN _)⟩, by simp [intOf]; omega⟩
                  | false =>
                    by_cases ht : z.tw = y.tw
                    · have hte : (z.tw == y.tw) = true := by simpa using ht
                      have HTE := hid ht
                      clear ht
                      go_wp2_with fail
                      go_quiet ((go_at_call 14; exact Calls.quiet_of (sameBytes_any _ _ z.bs y.bs _ (RZ.out.drewN _) (RY'.out.drewN _))))
                      go_wp2
                      exact ⟨⟨k2 + 1, _, by omega, rfl, by go_num, hid (by rw [HN.out, ← HFF.out]; simp [Lt.con, HTE.out]), hid (HDR.out.drewN _)⟩, by simp [intOf]; omega⟩
                    · have hte : (z.tw == y.tw) = false := by simpa using ht
                      have HTE := hid ht
                      clear ht
                      go_wp2_with fail
                      go_quiet (fail)
                      go_wp2
                      exact ⟨⟨k2 + 1, false, by omega, rfl, by go_num, hid (by rw [HN.out, ← HFF.out]; simp [Lt.con, HTE.out]), hid (HDR.out.drewN _)⟩, by simp [intOf]; omega⟩
                · have hft : f = true := by
                    rw [HFF.out, List.take_of_length_le (by simp [cons_]; omega), inB, decide_eq_true_iff]; exact HF.out
                  subst hft
                  have ST5 := hid (ST3.out.alloc (HDR.out.below _))
                  go_wp2_with fail
                  go_meet
                  case rel => exact ⟨ni, no + 1, a, c, _, a1, c1, P, rfl, by go_num, rfl, by omega, by omega, by rw [HLE.out]; omega, by rw [HLE.out]; omega, by rw [HLE.out]; omega, by omega, ST5.out, hid (subL_erase HSUB.out i)⟩
            · have hr' : x.at_ < 0 ∨ (L.length : Int) ≤ x.at_ := by omega
              have HR' := hid hr'
              have hPl : P.length ≤ 9223372036854775807 := by omega
              clear hr hr'
              go_wp2_with fail
              refine (bag_take_no _ w.heap.size w.heap.size limit a c L x.at_ ST1.out.bag HR'.out).mono ?_
              rintro e w3 ⟨rfl, hb3⟩
              have ST3 := hid ((ST1.out.alloc hb3).alloc (bl1 w3 (.cells #[.int .i64 0, .slice none 0 0] 35)))
              obtain ⟨W4, hW4⟩ : ∃ W4, W4 = w3.alloc (.cells #[.int .i64 0, .slice none 0 0] 35) := ⟨_, rfl⟩
              rw [← hW4] at ST3
              have HW4 := hid hW4
              clear hW4
              go_wp2_with fail
              go_loopw [14, 15] (fun v14 v15 wi => ∃ (k2 : Nat), k2 ≤ P.length ∧ v14 = .bool true ∧ v15 = .int .i64 k2 ∧ Hid (Dr W4 wi)) (fun _ v15 _ => P.length - (intOf v15).toNat)
              case atStart => exact ⟨0, Nat.zero_le _, rfl, rfl, hid (HW4.out ▸ Dr.refl _)⟩
              case round =>
                obtain ⟨k2, hk2, rfl, rfl, HDR⟩ := hrel
                by_cases hlt3 : k2 < P.length
                · have hk20 : (0 : Int) ≤ (k2 : Int) := by omega
                  have hk21 : (k2 : Int) < (P.length : Int) := by omega
                  go_wp2_with fail
                  go_quiet (fail)
                  go_wp2
                  exact ⟨⟨k2 + 1, by omega, rfl, by go_num, hid (HDR.out.drewN _)⟩, by simp [intOf]; omega⟩
                · have ST5 := hid (ST3.out.alloc (HDR.out.below _))
                  go_wp2_with fail
                  go_meet
                  case rel => exact ⟨ni, no, a, c, L, a1, c1, P, rfl, rfl, rfl, by omega, by omega, by omega, by omega, by omega, by omega, ST5.out, HSUB⟩
          · have hb0 : (x.kind % 4 == 0) = false := by simp [hq]
            have hb1 : (x.kind % 4 == 1) = false := by simp [hq]
            have hb2 : (x.kind % 4 == 2) = true := by simp [hq]
            clear hq
            by_cases hr : 0 ≤ x.at_ ∧ x.at_ < (L.length : Int)
            · obtain ⟨i, hi⟩ : ∃ i, i = x.at_.toNat := ⟨_, rfl⟩
              have hil : i < L.length := by omega
              obtain ⟨hr0, hr1⟩ := hr
              have HIi := hid hi
              clear hi
              go_wp2_with fail
              refine (bag_drop_in _ w.heap.size w.heap.size limit a c L _ ST1.out.bag hr0 hr1).mono ?_
              rintro e w3 ⟨rfl, hbag3, hchg3⟩
              rw [← HIi.out] at hbag3
              have ST3 := hid (ST1.out.step hchg3 hbag3 (.inl rfl) (fun z hz => ST1.out.lb z (List.mem_of_mem_eraseIdx hz)))
              have hle := List.length_eraseIdx_of_lt hil
              have HLE := hid hle
              clear hle hbag3 hchg3
              go_wp2_with fail
              go_meet
              case rel => exact ⟨ni, no + 1, a, c, _, a1, c1, P, rfl, by go_num, rfl, by omega, by omega, by rw [HLE.out]; omega, by rw [HLE.out]; omega, by rw [HLE.out]; omega, by omega, ST3.out, hid (subL_erase HSUB.out i)⟩
            · have hr' : x.at_ < 0 ∨ (L.length : Int) ≤ x.at_ := by omega
              have HR' := hid hr'
              clear hr hr'
              go_wp2_with fail
              refine (bag_drop_no _ w.heap.size w.heap.size limit a c L x.at_ ST1.out.bag HR'.out).mono ?_
              rintro e w3 ⟨rfl, rfl⟩
              go_wp2_with fail
              go_meet
              case rel => exact ⟨ni, no, a, c, L, a1, c1, P, rfl, rfl, rfl, by omega, by omega, by omega, by omega, by omega, by omega, ST1.out, HSUB⟩
          · have hb0 : (x.kind % 4 == 0) = false := by simp [hq]
            have hb1 : (x.kind % 4 == 1) = false := by simp [hq]
            have hb2 : (x.kind % 4 == 2) = false := by simp [hq]
            have hb3 : (x.kind % 4 == 3) = true := by simp [hq]
            clear hq
            by_cases hr : 0 ≤ x.at_ ∧ x.at_ < (L.length : Int)
            · obtain ⟨i, hi⟩ : ∃ i, i = x.at_.toNat := ⟨_, rfl⟩
              have hil : i < L.length := by omega
              obtain ⟨hr0, hr1⟩ := hr
              have HIi := hid hi
              clear hi
              by_cases hfull : limit ≤ (L.length : Int)
              · go_wp2_with fail
                refine (bag_double_full_in _ w.heap.size w.heap.size limit a c L _ ST1.out.bag hr0 hr1 hfull).mono ?_
                rintro e w3 ⟨rfl, hb3⟩
                have ST3 := hid (ST1.out.alloc hb3)
                go_wp2_with fail
                go_meet
                case rel => exact ⟨ni, no, a, c, L, a1, c1, P, rfl, rfl, rfl, by omega, by omega, by omega, by omega, by omega, by omega, ST3.out, HSUB⟩
              · have hlt2 : (L.length : Int) < limit := by omega
                obtain ⟨y, hy⟩ : ∃ y, L[i]? = some y := ⟨_, List.getElem?_eq_getElem hil⟩
                have HY := hid hy
                have hyl := ST.out.lb y (List.mem_of_getElem? hy)
                clear hy
                go_wp2_with fail
                refine (bag_double_in _ w.heap.size w.heap.size limit a c L _ y ST1.out.bag hr0 (HIi.out ▸ HY.out) hlt2 h2 ST1.out.sz hyl).mono ?_
                rintro e w3 ⟨rfl, a3, c3, z, hz1, hz2, hbag3, hown3, hat3, hchg3⟩
                have ST3 := hid (ST1.out.step hchg3 hbag3 hat3 (fun z' hz => by
                  rcases List.mem_append.1 hz with hz | hz
                  · exact ST1.out.lb z' hz
                  · obtain rfl := List.mem_singleton.1 hz; rw [hz2]; exact hyl))
                have HZ1 := hid (show z.con = y.con by rw [Lt.con, Lt.con, hz1, hz2])
                clear hbag3 hown3 hat3 hchg3 hz1 hz2
                go_wp2_with fail
                go_meet
                case rel => exact ⟨ni + 1, no, a3, c3, _, a1, c1, P, by go_num, rfl, rfl, by omega, by omega, by rw [List.length_append]; simp; omega, by rw [List.length_append]; simp; omega, by rw [List.length_append]; simp; omega, by omega, ST3.out, hid (subL_old HSUB.out (List.mem_of_getElem? HY.out) HZ1.out)⟩
            · have hr' : x.at_ < 0 ∨ (L.length : Int) ≤ x.at_ := by omega
              have HR' := hid hr'
              clear hr hr'
              go_wp2_with fail
              refine (bag_double_no _ w.heap.size w.heap.size limit a c L x.at_ ST1.out.bag HR'.out).mono ?_
              rintro e w3 ⟨rfl, rfl⟩
              go_wp2_with fail
              go_meet
              case rel => exact ⟨ni, no, a, c, L, a1, c1, P, rfl, rfl, rfl, by omega, by omega, by omega, by omega, by omega, by omega, ST1.out, HSUB⟩
        case rest =>
          clear ST f0 f1 f2 f3 HR g1 g2 g3 g4 g5 g6 HSUB
          obtain ⟨ni', no', a', c', L', a1', c1', P', rfl, rfl, rfl, g1, g2, g3, g4, g5, g6, hst, HSUB⟩ := hcut
          have hb := hst.bag.hp
          have ST := hid hst
          have HBP := hid hb
          clear hst hb
          go_wp2_with (go_at_call 17; refine (bag_len w.heap.size limit a' L'.length c' _ (blk_cell HBP.out (i := 1) rfl)).mono ?_; rintro e w4 ⟨rfl, rfl⟩)
          exact ⟨⟨k + 1, ni', no', a', c', L', a1', c1', P', by omega, rfl, rfl, rfl, by go_num, by omega, by omega, by omega, by omega, by omega, by omega, ST.out, HSUB⟩, by simp [intOf]; omega⟩
      · go_wp2_with (go_at_call 9; refine (bag_awake _).mono ?_; rintro e w2 ⟨rfl, hb2⟩)
        go_ret
        exact ⟨rfl, ST.out.below.trans (hb2.mono ST.out.sz)⟩

end Go.Proofs.Ytdolaiejkobaiaa
