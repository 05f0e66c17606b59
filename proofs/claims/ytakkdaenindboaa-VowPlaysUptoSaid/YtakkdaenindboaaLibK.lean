import Derived.Test.YtakkdaenindboaaRows
import Derived.Test.YtakkdaenindboaaLibB
import Derived.Test.YtakkdaenindboaaLibR
import Derived.BigQuiet
import Derived.Deep.DeepMust
import Derived.Deep.RegionHeld3
import Derived.Deep.DrawnRows
import Derived.Deep.RegionLaw
import Derived.Deep.DeepCutAuto
import Derived.Deep.CutBlock
import Derived.Shelf.SlSortCmp.NoneTotal
import Derived.Shelf.SlicesG.Cmp
namespace Go.Proofs.Ytakkdaenindboaa
set_option linter.unusedVariables false
set_option linter.unusedSimpArgs false
open Go.RowKit
open Go.ChangeShapes Go.WideShapes
open Go.Sort (PermIn SortedIn grow grow_grow alloc_eq_grow putCells mapBlock onCells flatK get_flatK size_flatK HoldsK putRowK SWO)
attribute [local go_sem ↓] Go.wp_at_zero Go.wp_at_succ

structure Ky where
  dir : Int
  name : ByteArray
  deriving DecidableEq

def Ky.v (k : Ky) : Value := .agg #[.int .i64 k.dir, .string k.name]

def Ky.cells (k : Ky) : List Value := [.int .i64 k.dir, .string k.name]

theorem bytes_beq (a b : ByteArray) : (a.toList == b.toList) = decide (a = b) := by
  rw [Bool.eq_iff_iff, beq_iff_eq, decide_eq_true_iff, ByteArray.toList_eq, ByteArray.toList_eq]
  refine ⟨fun h => ?_, fun h => by rw [h]⟩
  cases a; cases b
  simp only [ByteArray.mk.injEq]
  exact Array.toList_inj.1 h

/-- '==' of keys -/
theorem eqIn_key (d d' : Int) (s s' : ByteArray) (w : World) : (Op.equalIn 10000 37 (.agg #[.int .i64 d, .string s]) (.agg #[.int .i64 d', .string s'])).run Try.prog w = .ok (decide ((⟨d, s⟩ : Ky) = ⟨d', s'⟩)) w := by
  rw [run_equalIn_agg w 9999 37 _ _ (by kernel_rfl) (by kernel_rfl)]
  have hu := Try.underlying37
  have hu3 := Try.underlying3
  have hu9 := Try.underlying9
  have hi : (Try.prog.fieldsOf 37) = (match Try.prog.underlying 37 with | some (.struct fs) => fs | _ => #[]) := by kernel_rfl
  rw [hi, hu]
  simp only [Op.eqFields]
  simp [go_sem, hu3, hu9, bytes_beq]
  by_cases h1 : d = d' <;> by_cases h2 : s = s' <;> simp [h1, h2]

theorem eq_key (k k' : Ky) (w : World) : (Op.equal 37 k.v k'.v).run Try.prog w = .ok (decide (k = k')) w := eqIn_key ..

theorem eqIn_key' (d d' : Int) (s s' : ByteArray) (w : World) : (Op.equalIn 9999 37 (.agg #[.int .i64 d, .string s]) (.agg #[.int .i64 d', .string s'])).run Try.prog w = .ok (decide ((⟨d, s⟩ : Ky) = ⟨d', s'⟩)) w := by
  rw [run_equalIn_agg w 9998 37 _ _ (by kernel_rfl) (by kernel_rfl)]
  have hu := Try.underlying37
  have hu3 := Try.underlying3
  have hu9 := Try.underlying9
  have hi : (Try.prog.fieldsOf 37) = (match Try.prog.underlying 37 with | some (.struct fs) => fs | _ => #[]) := by kernel_rfl
  rw [hi, hu]
  simp only [Op.eqFields]
  simp [go_sem, hu3, hu9, bytes_beq]
  by_cases h1 : d = d' <;> by_cases h2 : s = s' <;> simp [h1, h2]

theorem flatMap_len {α : Type} {f : α → List Value} {sz : Nat} (hf : ∀ x, (f x).length = sz) (S : List α) : (S.flatMap f).length = S.length * sz := by
  induction S with
  | nil => simp
  | cons x S ih => rw [List.flatMap_cons, List.length_append, ih, hf, List.length_cons, Nat.add_mul]; omega

theorem flatMap_at {α : Type} {f : α → List Value} {sz : Nat} (hf : ∀ x, (f x).length = sz) {S : List α} {k : Nat} {x : α} (h : S[k]? = some x) {j : Nat} {v : Value} (hj : (f x)[j]? = some v) : (S.flatMap f)[k * sz + j]? = some v := by
  rw [List.flatMap_def]
  exact flatten_at (fun c hc => by obtain ⟨y, _, rfl⟩ := List.mem_map.1 hc; exact hf y) (by rw [List.getElem?_map, h]; rfl) hj

theorem Rd.cellB {w wr : World} {b off n c m : Nat} {cs : List Value} (h : Rd w (.slice (some ⟨b, off, none⟩) n c) m cs) (hb : Below w.heap.size w wr) {i : Nat} {v : Value} (hi : cs[i]? = some v) : wr.cell? ⟨b, off + i, none⟩ = some v :=
  below_cell hb (Nat.le_refl _) (h.at _ _ hi)

/-- the cells of a row of keys -/
def kyc (L : List Ky) : List Value := L.flatMap Ky.cells

theorem kyc_len (L : List Ky) : (kyc L).length = L.length * 2 := by
  induction L with
  | nil => rfl
  | cons x L ih => simp [kyc, Ky.cells] at ih ⊢; omega

theorem kyc_snoc (L : List Ky) (x : Ky) : kyc (L ++ [x]) = kyc L ++ [.int .i64 x.dir, .string x.name] := by simp [kyc, Ky.cells]

theorem kyc_append (L M : List Ky) : kyc (L ++ M) = kyc L ++ kyc M := by simp [kyc]

theorem kyc_at {L : List Ky} {k : Nat} {x : Ky} (h : L[k]? = some x) : (kyc L)[k * 2]? = some (.int .i64 x.dir) ∧ (kyc L)[k * 2 + 1]? = some (.string x.name) := by
  induction L generalizing k with
  | nil => simp at h
  | cons y L ih =>
    cases k with
    | zero => simp at h; subst h; simp [kyc, Ky.cells]
    | succ k =>
      have := ih (by simpa using h)
      have e1 : (k + 1) * 2 = k * 2 + 1 + 1 := by omega
      have e2 : (k + 1) * 2 + 1 = k * 2 + 1 + 1 + 1 := by omega
      simp only [kyc, List.flatMap_cons, Ky.cells, List.cons_append, List.nil_append, e1, e2, List.getElem?_cons_succ] at this ⊢
      exact this

theorem kyc_one (L : List Ky) : ∀ u ∈ kyc L, u.oneCell' = true := by
  intro u hu
  simp only [kyc, List.mem_flatMap, Ky.cells] at hu
  obtain ⟨x, _, hx⟩ := hu
  simp at hx
  rcases hx with rfl | rfl <;> rfl

theorem keys_at {w : World} {b n c m : Nat} {L : List Ky} {k : Nat} {x : Ky} (h : Rd w (.slice (some ⟨b, 0, none⟩) n c) m (kyc L)) (hx : L[k]? = some x) :
    w.cell? ⟨b, k * 2, none⟩ = some (.int .i64 x.dir) ∧ w.cell? ⟨b, k * 2 + 1, none⟩ = some (.string x.name) := by
  have h1 := h.at
  have h2 := kyc_at hx
  have h3 := h1 _ _ h2.1
  have h4 := h1 _ _ h2.2
  simp only [Nat.zero_add] at h3 h4
  exact ⟨h3, h4⟩

theorem own_loc {w : World} {B e sz n : Nat} {a : Option Addr} {m c : Nat} {xs : List Value} (h : w.ownsRow B e sz (.slice a m c) n xs) (hL : 0 < n) : ∃ g, a = some ⟨g, 0, none⟩ ∧ B ≤ g ∧ g < w.heap.size ∧ n ≤ c ∧ c ≤ maxLen := by
  rcases h.2 with ⟨hv, h0⟩ | ⟨g, cap, cur, hv, hB, hg, h1, h2, _⟩
  · omega
  · simp only [Value.slice.injEq] at hv
    obtain ⟨rfl, _, rfl⟩ := hv
    exact ⟨g, rfl, hB, blk_lt hg, h1, h2⟩

theorem infoKy : (Try.prog.info? 37).map (fun i => (i.zero, i.size, i.bytes)) = some (some (.agg #[.int .i64 0, .string ByteArray.empty]), 2, 24) := by kernel_rfl

set_option maxHeartbeats 400000 in
theorem copyKeys_any (v : Value) (L : List Ky) (w : World) (hv : Rd w v L.length (kyc L)) (hl : L.length * 24 ≤ 140737488351232) :
    Calls Try.prog 15 #[v] w fun e w' => ∃ a c, e = .returned (.slice a L.length c) ∧ w'.ownsRow w.heap.size 37 2 (.slice a L.length c) L.length (kyc L) ∧ Below w.heap.size w w' := by
  obtain ⟨i0, hi, hz0, hz1, hz2⟩ := info_parts infoKy
  have HV := hid hv
  have HN := hid (kyc_len L)
  have HB := hid (kyc_one L)
  have HI := hid hi
  clear hv hi
  go_enter Try.func15, Try.ntmps15
  go_wp2_with (at_builtin; refine wpList_append_rd rfl _ _ 28 rfl w.heap.size 37 i0 _ 2 24 Try.underlying28 HI.out hz0 hz1 hz2 rfl (by decide) (.slice none 0 0) 0 [] rfl (World.ownsRow_nil _ _ _ _) v L.length (kyc L) rfl HV.out HN.out HB.out (by unfold maxLen; omega) (by omega) (Nat.le_refl _) ?_; intro a' c' w1 hown hgrow hat)
  go_ret
  simp only [Nat.zero_add, List.nil_append] at hown
  refine ⟨_, _, rfl, ?_, ?_⟩
  · exact hown
  · exact (Below.refl _ _).grown hgrow (Nat.le_refl _) (by simp [Value.ownBlock])

/-- key k of a call of a script -/
theorem ks_at {w wr : World} {b off n c m : Nat} {ks : List Ky} (h : Rd w (.slice (some ⟨b, off, none⟩) n c) m (kyc ks)) (hb : Below w.heap.size w wr) {k : Nat} {x : Ky} (hx : ks[k]? = some x) :
    wr.cell? ⟨b, off + k * 2, none⟩ = some (.int .i64 x.dir) ∧ wr.cell? ⟨b, off + k * 2 + 1, none⟩ = some (.string x.name) := by
  have h2 := kyc_at hx
  exact ⟨h.cellB hb h2.1, by rw [Nat.add_assoc]; exact h.cellB hb h2.2⟩

theorem ks_loc {w : World} {sa : Option Addr} {n c : Nat} {ks : List Ky} (h : Rd w (.slice sa n c) n (kyc ks)) (hS : 0 < ks.length) : ∃ b off, sa = some ⟨b, off, none⟩ := by
  obtain ⟨b, off, cap, hv, _⟩ := h.form (by rw [kyc_len]; omega)
  simp only [Value.slice.injEq] at hv
  exact ⟨b, off, hv.1⟩

theorem rd_lt {w : World} {a : Option Addr} {n c m q : Nat} {ks : List Ky} (h : Rd w (.slice a n c) m (kyc ks)) (hp : 0 < ks.length) (hq : (Value.slice a n c).ownBlock = some q) : q < w.heap.size := by
  obtain ⟨b, off, cap, hv, _, _, hb, _⟩ := h.form (by rw [kyc_len]; omega)
  simp only [Value.slice.injEq] at hv
  obtain ⟨rfl, _, _⟩ := hv
  simp only [Value.ownBlock, Option.some.injEq] at hq
  omega

theorem flatK_list {α : Type} [Inhabited α] {f : α → List Value} {sz : Nat} (hf : ∀ x, (f x).length = sz) (d : List α) : (flatK f sz d.toArray).toList = d.flatMap f := by
  apply List.ext_getElem?
  intro t
  by_cases ht : t < d.length * sz
  · have hsz : 0 < sz := by
      rcases Nat.eq_zero_or_pos sz with h | h
      · subst h; omega
      · exact h
    have hi : t / sz < d.length := Nat.div_lt_of_lt_mul (by rw [Nat.mul_comm]; exact ht)
    have hj : t % sz < (f d[t / sz]).length := by rw [hf]; exact Nat.mod_lt _ hsz
    have e : t / sz * sz + t % sz = t := Nat.div_add_mod' t sz
    have h1 := flatMap_at hf (List.getElem?_eq_getElem hi) (List.getElem?_eq_getElem hj)
    rw [e] at h1
    rw [h1]
    have h2 := get_flatK f sz d.toArray t (by simpa using ht)
    have h3 : t < (flatK f sz d.toArray).size := by simpa using ht
    rw [getElem!_pos (flatK f sz d.toArray) t h3] at h2
    rw [Array.getElem?_toList, Array.getElem?_eq_getElem h3, h2]
    have h4 : (d.toArray[t / sz]!) = d[t / sz] := by simp [hi]
    rw [h4]
    congr 1
    rw [getElem!_pos (f d[t / sz]) (t % sz) hj]
  · rw [List.getElem?_eq_none (by simp; omega), List.getElem?_eq_none (by rw [flatMap_len hf]; omega)]

theorem take_putCells (F cur : Array Value) (h : F.size ≤ cur.size) : (putCells id 0 F cur).toList.take F.size = F.toList := by
  apply List.ext_getElem?
  intro t
  by_cases ht : t < F.size
  · rw [List.getElem?_take_of_lt ht, Array.getElem?_toList, Array.getElem?_toList]
    unfold putCells
    have h1 : t < cur.size := by omega
    simp [h1, ht]
  · rw [List.getElem?_eq_none (by simp; omega), List.getElem?_eq_none (by simp; omega)]

theorem holdsK_own {α : Type} [Inhabited α] {f : α → List Value} {sz : Nat} (hf : ∀ x, (f x).length = sz) {w : World} {B e n c g : Nat} {L : List α} (h : w.ownsRow B e sz (.slice (some ⟨g, 0, none⟩) n c) n (L.flatMap f)) : HoldsK f sz w g 0 L.toArray := by
  intro j hj
  rw [size_flatK] at hj
  have hl : (L.flatMap f).length = L.length * sz := flatMap_len hf L
  have hr := Rd.own h
  have h1 := hr.at j ((L.flatMap f)[j]'(by rw [hl]; simpa using hj)) (List.getElem?_eq_getElem _)
  refine ⟨?_, ?_⟩
  · rw [h1]
    congr 1
    have h3 : j < (flatK f sz L.toArray).size := by simpa using hj
    rw [getElem!_pos (flatK f sz L.toArray) j h3]
    have h4 := flatK_list hf L
    have h5 : (flatK f sz L.toArray)[j] = (flatK f sz L.toArray).toList[j]'(by simpa using h3) := by simp
    rw [id, h5]; simp only [h4, id]
    rw [hl]
  · rcases h.2 with ⟨hv, _⟩ | ⟨g', cap, cur, hv, hB, hg, _⟩
    · simp at hv
    · simp only [Value.slice.injEq, Option.some.injEq, Addr.mk.injEq] at hv
      obtain ⟨⟨rfl, _⟩, _⟩ := hv
      exact blk_free hg _

theorem own_sort {α : Type} [Inhabited α] {f : α → List Value} {sz : Nat} (hf : ∀ x, (f x).length = sz) {w : World} {B e n c g m : Nat} {L M : List α} {os : Array Obj} (h : w.ownsRow B e sz (.slice (some ⟨g, 0, none⟩) n c) n (L.flatMap f)) (hM : M.length = L.length) :
    (sortWorldK f sz w g 0 m M.toArray os).ownsRow B e sz (.slice (some ⟨g, 0, none⟩) n c) n (M.flatMap f) ∧ Chg (fun k => k = g) w (sortWorldK f sz w g 0 m M.toArray os) := by
  have hlL : (L.flatMap f).length = L.length * sz := flatMap_len hf L
  have hlM : (M.flatMap f).length = M.length * sz := flatMap_len hf M
  rcases h.2 with ⟨hv, _⟩ | ⟨g', cap, cur, hv, hB, hg, h1, h2, h3, h4⟩
  · simp at hv
  · simp only [Value.slice.injEq, Option.some.injEq, Addr.mk.injEq] at hv
    obtain ⟨⟨rfl, _⟩, _, rfl⟩ := hv
    have hlt := blk_lt hg
    have hn : L.length * sz = n * sz := by rw [← hlL]; exact h.1
    have hcur : n * sz ≤ cur.size := by rw [h3]; exact Nat.mul_le_mul_right _ h1
    have hmod : ∀ k, (sortWorldK f sz w g 0 m M.toArray os).heap[k]? = if k < w.heap.size then (w.heap.modify g (onCells (putCells id 0 (flatK f sz M.toArray))))[k]? else os[k - w.heap.size]? := by
      intro k
      unfold sortWorldK putRowK Go.Sort.putRow mapBlock grow Go.Sort.ahead
      simp only
      rw [Array.getElem?_append]
      simp
    refine ⟨⟨by rw [hlM, hM]; exact hn, .inr ⟨g, c, putCells id 0 (flatK f sz M.toArray) cur, rfl, hB, ?_, h1, h2, ?_, ?_⟩⟩, ⟨rfl, rfl, rfl, ?_, ?_⟩⟩
    · rw [hmod g, if_pos hlt, Array.getElem?_modify, if_pos rfl, hg]; rfl
    · unfold putCells; simp [h3]
    · rw [← flatK_list hf M, ← take_putCells (flatK f sz M.toArray) cur (by simp [hM]; omega)]
      congr 1
      simp [hM]; exact hn.symm
    · exact size_sortWorldK_c f sz w g 0 m M.toArray os
    · intro k hk hne
      rw [hmod k, if_pos hk, Array.getElem?_modify, if_neg (fun e => hne e.symm)]

theorem perm_sorted {α : Type} [Inhabited α] {lt : α → α → Bool} {L : List α} {d' : Array α} (hp : PermIn 0 L.toArray.size L.toArray d') (hs : SortedIn lt 0 L.toArray.size d') : d'.toList.Perm L ∧ d'.toList.Pairwise (fun x y => lt y x = false) := by
  obtain ⟨h1, _, h3⟩ := hp
  refine ⟨?_, ?_⟩
  · have e1 : d'.extract 0 L.toArray.size = d' := by rw [← h1]; simp
    have e2 : L.toArray.extract 0 L.toArray.size = L.toArray := by simp
    rw [e1, e2] at h3; simpa using h3
  · rw [List.pairwise_iff_getElem]
    intro i j hi hj hij
    have := hs i j (Nat.zero_le _) hij (by rw [← h1]; simpa using hj)
    rw [getElem!_pos _ _ (by simpa using hj), getElem!_pos _ _ (by simpa using hi)] at this
    simpa using this

def nmLt (a b : ByteArray) : Bool := Op.bytesLess a.toList b.toList

theorem bl_irrefl : ∀ l : List UInt8, Op.bytesLess l l = false
  | [] => rfl
  | a :: l => by simp [Op.bytesLess, bl_irrefl l]

theorem bl_total : ∀ l m : List UInt8, Op.bytesLess l m = false → Op.bytesLess m l = false → l = m
  | [], [], _, _ => rfl
  | [], _ :: _, h, _ => by simp [Op.bytesLess] at h
  | _ :: _, [], _, h => by simp [Op.bytesLess] at h
  | a :: l, b :: m, h1, h2 => by
    simp only [Op.bytesLess, Bool.or_eq_false_iff, Bool.and_eq_false_iff, decide_eq_false_iff_not, beq_eq_false_iff_ne] at h1 h2
    have hab : a = b := by
      apply UInt8.le_antisymm
      · exact UInt8.not_lt.1 h2.1
      · exact UInt8.not_lt.1 h1.1
    subst hab
    have h3 := h1.2; have h4 := h2.2
    simp at h3 h4
    rw [bl_total l m h3 h4]

theorem bl_trans : ∀ l m n : List UInt8, Op.bytesLess l m = true → Op.bytesLess m n = true → Op.bytesLess l n = true
  | l, m, [], _, h => by cases m <;> simp [Op.bytesLess] at h
  | [], _, _ :: _, _, _ => rfl
  | a :: l, [], _ :: _, h, _ => by simp [Op.bytesLess] at h
  | a :: l, b :: m, c :: n, h1, h2 => by
    simp only [Op.bytesLess, Bool.or_eq_true, Bool.and_eq_true, decide_eq_true_eq, beq_iff_eq] at h1 h2 ⊢
    rcases h1 with h1 | ⟨rfl, h1⟩ <;> rcases h2 with h2 | ⟨rfl, h2⟩
    · exact .inl (UInt8.lt_trans h1 h2)
    · exact .inl h1
    · exact .inl h2
    · exact .inr ⟨rfl, bl_trans l m n h1 h2⟩

theorem nm_irrefl (a : ByteArray) : nmLt a a = false := bl_irrefl _

theorem nm_trans {a b c : ByteArray} (h1 : nmLt a b = true) (h2 : nmLt b c = true) : nmLt a c = true := bl_trans _ _ _ h1 h2

theorem toList_inj {a b : ByteArray} (h : a.toList = b.toList) : a = b := by
  have := bytes_beq a b
  rw [h] at this
  simpa using this.symm

theorem nm_total {a b : ByteArray} (h1 : nmLt a b = false) (h2 : nmLt b a = false) : a = b := toList_inj (bl_total _ _ h1 h2)

theorem nm_asymm {a b : ByteArray} (h : nmLt a b = true) : nmLt b a = false := by
  cases h2 : nmLt b a with
  | false => rfl
  | true => have := nm_trans h h2; rw [nm_irrefl] at this; cases this

def cmpS (a b : ByteArray) : Int := if nmLt a b = true then -1 else if (nmLt a b || a.toList == b.toList) = true then 0 else 1

set_option maxHeartbeats 1000000 in
theorem cmp_string (a b : ByteArray) (w : World) : Calls Try.prog 65 #[.string a, .string b] w fun e w' => e = .returned (.int .i64 (cmpS a b)) ∧ w = w' := by
  unfold cmpS nmLt
  have hnan : ∀ (s : ByteArray) (w : World), Calls Try.prog 72 #[.string s] w fun e w' => e = .returned (.bool false) ∧ w = w' := by
    intro s w
    have hs : (s.toList == s.toList) = true := by simp
    go_enter Try.func72, Try.ntmps72
    go_wp2
    go_ret
    exact ⟨by simp, rfl⟩
  cases h1 : Op.bytesLess a.toList b.toList with
  | true =>
    go_enter Try.func65, Try.ntmps65
    go_wp2_with (go_at_call 72; refine (hnan _ _).mono ?_; rintro e wx ⟨rfl, rfl⟩)
    go_ret
    exact ⟨rfl, rfl⟩
  | false =>
    cases h2 : (a.toList == b.toList) with
    | true =>
      go_enter Try.func65, Try.ntmps65
      go_wp2_with (go_at_call 72; refine (hnan _ _).mono ?_; rintro e wx ⟨rfl, rfl⟩)
      go_ret
      exact ⟨rfl, rfl⟩
    | false =>
      go_enter Try.func65, Try.ntmps65
      go_wp2_with (go_at_call 72; refine (hnan _ _).mono ?_; rintro e wx ⟨rfl, rfl⟩)
      go_ret
      exact ⟨rfl, rfl⟩

theorem Chg.of_eq {F : Nat → Prop} {w w' : World} (h : w = w') : Chg F w w' := h ▸ Chg.refl _ _

theorem uniq_sorted {α : Type} {r : α → α → Prop} : ∀ {M M0 : List α}, M.Perm M0 → M0.Pairwise r → M.Pairwise (fun x y => ¬ r y x) → M = M0
  | M, [], hp, _, _ => by simpa using hp
  | [], x :: T, hp, _, _ => by have := hp.length_eq; simp at this
  | y :: M, x :: T, hp, h0, h1 => by
    rw [List.pairwise_cons] at h0 h1
    have hxy : y = x := by
      rcases List.mem_cons.1 (hp.mem_iff.2 (List.mem_cons_self (a := x) (l := T))) with h | h
      · exact h.symm
      · rcases List.mem_cons.1 (hp.mem_iff.1 (List.mem_cons_self (a := y) (l := M))) with h2 | h2
        · exact h2
        · exact absurd (h0.1 y h2) (h1.1 x h)
    subst hxy
    rw [uniq_sorted (List.Perm.cons_inv hp) h0.2 h1.2]

def lessK (a b : Ky) : Bool := decide (a.dir < b.dir) || (a.dir == b.dir && nmLt a.name b.name)

theorem r_less (w : World) (a b : Ky) :
    Calls Try.prog 68 #[.agg #[.int .i64 a.dir, .string a.name], .agg #[.int .i64 b.dir, .string b.name]] w fun r w' => r = .returned (.bool (lessK a b)) ∧ Below w.heap.size w w' := by
  have ba := blk2 (heap_old (heap_new w (.cells #[.int .i64 a.dir, .string a.name] 37)) (.cells #[.int .i64 b.dir, .string b.name] 37))
  have bb := blk2 (show ((w.alloc (.cells #[.int .i64 a.dir, .string a.name] 37)).alloc (.cells #[.int .i64 b.dir, .string b.name] 37)).heap[w.heap.size + 1]? = some (.cells #[.int .i64 b.dir, .string b.name] 37) by have e := heap_new (w.alloc (.cells #[.int .i64 a.dir, .string a.name] 37)) (.cells #[.int .i64 b.dir, .string b.name] 37); rw [World.size_alloc] at e; exact e)
  have hl : lessK a b = (decide (a.dir < b.dir) || (a.dir == b.dir && Op.bytesLess a.name.toList b.name.toList)) := rfl
  generalize hbl : Op.bytesLess a.name.toList b.name.toList = t at hl
  have HL := hid hl
  clear hl
  cases h1 : decide (a.dir < b.dir) <;> cases h2 : (a.dir == b.dir)
  all_goals
    rw [h1, h2] at HL
    go_enter Try.func68, Try.ntmps68
    go_wp2
    go_ret
    exact ⟨by rw [HL.out]; simp, bl2 w _ _⟩

theorem own_setc {w : World} {B e sz n g c : Nat} {xs : List Value} (h : w.ownsRow B e sz (.slice (some ⟨g, 0, none⟩) n c) n xs) (i : Nat) (u : Value) : (w.setCell ⟨g, i, none⟩ u).ownsRow B e sz (.slice (some ⟨g, 0, none⟩) n c) n (xs.set i u) := by
  refine ⟨by rw [List.length_set]; exact h.1, .inr ?_⟩
  rcases h.2 with ⟨hv, _⟩ | ⟨g', cap, cur, hv, hb, hg, h1, h2, h3, h4⟩
  · cases hv
  · simp only [Value.slice.injEq, Option.some.injEq, Addr.mk.injEq] at hv
    obtain ⟨⟨rfl, _⟩, _, rfl⟩ := hv
    refine ⟨g, c, _, rfl, hb, heap_set hg i u, h1, h2, by simp [h3], ?_⟩
    rw [← h4]; simp [List.take_set]

theorem set_mid (a b c : List Value) (i : Nat) (v : Value) (hi : i < b.length) : (a ++ (b ++ c)).set (a.length + i) v = a ++ (b.set i v ++ c) := by
  rw [List.set_append_right _ _ (by omega), Nat.add_sub_cancel_left, List.set_append_left _ _ hi]

theorem lessK_iff (a b : Ky) : lessK a b = true ↔ a.dir < b.dir ∨ a.dir = b.dir ∧ nmLt a.name b.name = true := by simp [lessK]

theorem lessK_trans {a b c : Ky} (h1 : lessK a b = true) (h2 : lessK b c = true) : lessK a c = true := by
  rw [lessK_iff] at *
  rcases h1 with h1 | ⟨e1, h1⟩ <;> rcases h2 with h2 | ⟨e2, h2⟩
  · left; omega
  · left; omega
  · left; omega
  · right; exact ⟨e1.trans e2, nm_trans h1 h2⟩

theorem lessK_irrefl (a : Ky) : lessK a a = false := by
  cases h : lessK a a with
  | false => rfl
  | true => rw [lessK_iff] at h; rcases h with h | ⟨_, h⟩
            · omega
            · rw [nm_irrefl] at h; cases h

theorem lessK_asymm {a b : Ky} (h : lessK a b = true) : lessK b a = false := by
  cases h2 : lessK b a with
  | false => rfl
  | true => have := lessK_trans h h2; rw [lessK_irrefl] at this; cases this

theorem lessK_total {a b : Ky} (h1 : lessK a b = false) (h2 : lessK b a = false) : a = b := by
  have n1 : ¬ (a.dir < b.dir ∨ a.dir = b.dir ∧ nmLt a.name b.name = true) := fun h => by rw [(lessK_iff a b).2 h] at h1; cases h1
  have n2 : ¬ (b.dir < a.dir ∨ b.dir = a.dir ∧ nmLt b.name a.name = true) := fun h => by rw [(lessK_iff b a).2 h] at h2; cases h2
  have hd : a.dir = b.dir := by
    have : ¬ a.dir < b.dir := fun h => n1 (.inl h)
    have : ¬ b.dir < a.dir := fun h => n2 (.inl h)
    omega
  have h3 : nmLt a.name b.name = false := by cases h : nmLt a.name b.name with | false => rfl | true => exact absurd (.inr ⟨hd, h⟩) n1
  have h4 : nmLt b.name a.name = false := by cases h : nmLt b.name a.name with | false => rfl | true => exact absurd (.inr ⟨hd.symm, h⟩) n2
  have hn := nm_total h3 h4
  cases a; cases b; simp only at hd hn; rw [hd, hn]

/-- a row of the call's own, cut short -/
theorem own_prefix {w : World} {B e sz n m g c : Nat} {xs : List Value} (h : w.ownsRow B e sz (.slice (some ⟨g, 0, none⟩) n c) n xs) (hm : m ≤ n) : w.ownsRow B e sz (.slice (some ⟨g, 0, none⟩) m c) m (xs.take (m * sz)) := by
  have hl := h.1
  have hmn : m * sz ≤ n * sz := Nat.mul_le_mul_right _ hm
  refine ⟨by rw [List.length_take]; omega, .inr ?_⟩
  rcases h.2 with ⟨hv, _⟩ | ⟨g', cap, cur, hv, hb, hg, h1, h2, h3, h4⟩
  · cases hv
  · simp only [Value.slice.injEq, Option.some.injEq, Addr.mk.injEq] at hv
    obtain ⟨⟨rfl, _⟩, _, rfl⟩ := hv
    refine ⟨g, c, cur, rfl, hb, hg, by omega, h2, h3, ?_⟩
    rw [← h4, List.take_take, Nat.min_eq_left hmn]

theorem Ky.one (x : Ky) : ∀ u ∈ x.cells, u.oneCell' = true := by
  intro u hu; simp [Ky.cells] at hu; rcases hu with rfl | rfl <;> rfl

set_option maxHeartbeats 2000000 in
theorem same_keys (w : World) (L M : List Ky) (a1 a2 : Option Addr) (c1 c2 : Nat) (h1 : Rd w (.slice a1 L.length c1) L.length (kyc L)) (h2 : Rd w (.slice a2 M.length c2) M.length (kyc M)) (hLM : L = M) :
    Calls Try.prog 22 #[.slice a1 L.length c1, .slice a2 M.length c2] w fun e w' => e = .returned (.bool true) ∧ Below w.heap.size w w' := by
  subst hLM
  have H1 := hid h1
  have H2 := hid h2
  have hl1 := h1.len
  unfold maxLen at hl1
  clear h1 h2
  go_enter Try.func22, Try.ntmps22
  go_wp2_with fail
  go_loopw [5] (fun v wr => ∃ (i : Nat), i ≤ L.length ∧ v = .int .i64 i ∧ Hid (Below w.heap.size w wr)) (fun v _ => L.length - (intOf v).toNat)
  case atStart => exact ⟨0, Nat.zero_le _, rfl, hid (Below.refl _ _)⟩
  case round =>
    obtain ⟨i, hi, rfl, HB⟩ := hrel
    by_cases hlt : i < L.length
    · have hk0 : (0 : Int) ≤ (i : Int) := by omega
      have hk1 : (i : Int) < (L.length : Int) := by omega
      obtain ⟨b1, o1, rfl⟩ := ks_loc H1.out (by omega)
      obtain ⟨b2, o2, rfl⟩ := ks_loc H2.out (by omega)
      obtain ⟨x, hx⟩ : ∃ x, L[i]? = some x := ⟨_, List.getElem?_eq_getElem hlt⟩
      have P1 := ks_at H1.out HB.out hx
      have P2 := ks_at H2.out HB.out hx
      have heq := fun W => eqIn_key x.dir x.dir x.name x.name W
      simp only [decide_true] at heq
      clear hx
      go_wp2_with fail
      go_quiet (fail)
      go_wp2
      exact ⟨⟨i + 1, by omega, by go_num, hid (below_drewN HB.out _)⟩, by simp [intOf]; omega⟩
    · go_wp2
      go_ret
      exact ⟨rfl, HB.out⟩

section
variable {H : Type} {enc : TypeId × Value → H} {w : World} {base : Nat} {spare : Nat → Bool} {held : Bool}
theorem key_of {c : List Value} (h : Dat enc Try.prog w base spare held 37 c) : ∃ x : Ky, c = x.cells ∧ x.name.size ≤ reachBytes := by
  obtain ⟨hl, hf⟩ := h.fields [(3, 0, 1), (9, 1, 1)] Try.underlying37 (by kernel_rfl) 2 (by kernel_rfl)
  match c, hl with
  | [c0, c1], _ =>
    have f0 := hf 0 _ _ _ rfl
    have f1 := hf 1 _ _ _ rfl
    simp only [List.drop_zero, List.drop_succ_cons, List.take_succ_cons, List.take_zero] at f0 f1
    obtain ⟨k, e0, _⟩ := f0.int Try.underlying3
    obtain ⟨s, e1, h1⟩ := f1.str Try.underlying9
    simp only [List.cons.injEq, and_true] at e0 e1
    subst e0 e1
    exact ⟨⟨k, s⟩, rfl, h1⟩

theorem keys_of {a : Option Addr} {n c : Nat} (h : Dat enc Try.prog w base spare held 28 [.slice a n c]) : ∃ ks : List Ky, n = ks.length ∧ Rd w (.slice a n c) ks.length (kyc ks) ∧ ks.length * 24 ≤ 140737488351232 := by
  obtain ⟨css, hl, _, hr, hb, hd⟩ := h.slice (sz := 2) (by_ := 24) Try.underlying28 (by kernel_rfl) (by decide) (by kernel_rfl)
  obtain ⟨S, rfl, hS⟩ := list_of_cells (f := Ky.cells) (Q := fun _ => True) fun c hc => by obtain ⟨x, hx, _⟩ := key_of (hd c hc); exact ⟨x, hx, trivial⟩
  rw [List.length_map] at hl
  subst hl
  refine ⟨S, rfl, ?_, by unfold reachBytes at hb; omega⟩
  rw [kyc, List.flatMap_def]; exact hr
end

end Go.Proofs.Ytakkdaenindboaa
