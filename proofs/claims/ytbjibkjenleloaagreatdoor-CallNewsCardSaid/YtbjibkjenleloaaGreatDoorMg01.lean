/- Parts of a proof about the given program, in build order: DentA, DentB. No condition. -/
import Derived.Test.YtbjibkjenleloaaGreatDoorRows
import Derived.Test.YtbjibkjenleloaaGreatDoorMg00
import Derived.BigQuiet
import Derived.Deep.DeepMust
import Derived.Deep.RegionHeld3
import Derived.Deep.DrawnRows
import Derived.Deep.RegionLaw
import Derived.Maps.RangeRun
import Derived.Deep.DeepCutAuto
import Derived.Deep.CutBlock
section
namespace Go.Proofs.YtbjibkjenleloaaGreatDoor
set_option linter.unusedVariables false
set_option linter.unusedSimpArgs false
open Go.RowKit

structure Ky where
  dir : Int
  name : ByteArray
  deriving DecidableEq
structure Nd where
  id : Int
  kind : Int
  mode : Int
  target : ByteArray
  deriving DecidableEq
structure En where
  key : Ky
  neg : Bool
  node : Nd
  deriving DecidableEq

def Ky.v (k : Ky) : Value := .agg #[.int .i64 k.dir, .string k.name]
def Ky.cells (k : Ky) : List Value := [.int .i64 k.dir, .string k.name]
def En.v (e : En) : Value := .agg #[.int .i64 e.key.dir, .string e.key.name, .bool e.neg, .int .i64 e.node.id, .int .i64 e.node.kind, .int .i64 e.node.mode, .string e.node.target]
def En.cells (e : En) : List Value := [.int .i64 e.key.dir, .string e.key.name, .bool e.neg, .int .i64 e.node.id, .int .i64 e.node.kind, .int .i64 e.node.mode, .string e.node.target]

theorem bytes_beq (a b : ByteArray) : (a.toList == b.toList) = decide (a = b) := by
  rw [Bool.eq_iff_iff, beq_iff_eq, decide_eq_true_iff, ByteArray.toList_eq, ByteArray.toList_eq]
  refine ⟨fun h => ?_, fun h => by rw [h]⟩
  cases a; cases b
  simp only [ByteArray.mk.injEq]
  exact Array.toList_inj.1 h

theorem ckK (b : Bool) (d : Int) (s : ByteArray) (w : World) : (Instr.checkKey b 10000 53 (.agg #[.int .i64 d, .string s])).run Tryz.prog w = .ok () w := by kernel_rfl
theorem ckI (b : Bool) (d : Int) (w : World) : (Instr.checkKey b 10000 3 (.int .i64 d)).run Tryz.prog w = .ok () w := by kernel_rfl

/-- '==' of keys -/
theorem eqIn_key (d d' : Int) (s s' : ByteArray) (w : World) : (Op.equalIn 10000 53 (.agg #[.int .i64 d, .string s]) (.agg #[.int .i64 d', .string s'])).run Tryz.prog w = .ok (decide ((⟨d, s⟩ : Ky) = ⟨d', s'⟩)) w := by
  rw [run_equalIn_agg w 9999 53 _ _ (by kernel_rfl) (by kernel_rfl)]
  have hu := Tryz.underlying53
  have hu3 := Tryz.underlying3
  have hu9 := Tryz.underlying9
  have hi : (Tryz.prog.fieldsOf 53) = (match Tryz.prog.underlying 53 with | some (.struct fs) => fs | _ => #[]) := by kernel_rfl
  rw [hi, hu]
  simp only [Op.eqFields]
  simp [go_sem, hu3, hu9, bytes_beq]
  by_cases h1 : d = d' <;> by_cases h2 : s = s' <;> simp [h1, h2]

theorem eq_key (k k' : Ky) (w : World) : (Op.equal 53 k.v k'.v).run Tryz.prog w = .ok (decide (k = k')) w := eqIn_key ..

theorem eqIn_node (i k m i' k' m' : Int) (t t' : ByteArray) (w : World) : (Op.equalIn 9999 40 (.agg #[.int .i64 i, .int .i64 k, .int .i64 m, .string t]) (.agg #[.int .i64 i', .int .i64 k', .int .i64 m', .string t'])).run Tryz.prog w = .ok (decide ((⟨i, k, m, t⟩ : Nd) = ⟨i', k', m', t'⟩)) w := by
  rw [run_equalIn_agg w 9998 40 _ _ (by kernel_rfl) (by kernel_rfl)]
  have hu := Tryz.underlying40
  have hu3 := Tryz.underlying3
  have hu9 := Tryz.underlying9
  have hi : (Tryz.prog.fieldsOf 40) = (match Tryz.prog.underlying 40 with | some (.struct fs) => fs | _ => #[]) := by kernel_rfl
  rw [hi, hu]
  simp only [Op.eqFields]
  simp [go_sem, hu3, hu9, bytes_beq]
  by_cases h1 : i = i' <;> by_cases h2 : k = k' <;> by_cases h3 : m = m' <;> by_cases h4 : t = t' <;> simp [h1, h2, h3, h4]

theorem eqIn_key' (d d' : Int) (s s' : ByteArray) (w : World) : (Op.equalIn 9999 53 (.agg #[.int .i64 d, .string s]) (.agg #[.int .i64 d', .string s'])).run Tryz.prog w = .ok (decide ((⟨d, s⟩ : Ky) = ⟨d', s'⟩)) w := by
  rw [run_equalIn_agg w 9998 53 _ _ (by kernel_rfl) (by kernel_rfl)]
  have hu := Tryz.underlying53
  have hu3 := Tryz.underlying3
  have hu9 := Tryz.underlying9
  have hi : (Tryz.prog.fieldsOf 53) = (match Tryz.prog.underlying 53 with | some (.struct fs) => fs | _ => #[]) := by kernel_rfl
  rw [hi, hu]
  simp only [Op.eqFields]
  simp [go_sem, hu3, hu9, bytes_beq]
  by_cases h1 : d = d' <;> by_cases h2 : s = s' <;> simp [h1, h2]

/-- '==' of entries -/
theorem eqIn_entry (d d' i k m i' k' m' : Int) (s s' t t' : ByteArray) (n n' : Bool) (w : World) :
    (Op.equalIn 10000 55 (.agg #[.int .i64 d, .string s, .bool n, .int .i64 i, .int .i64 k, .int .i64 m, .string t]) (.agg #[.int .i64 d', .string s', .bool n', .int .i64 i', .int .i64 k', .int .i64 m', .string t'])).run Tryz.prog w = .ok (decide ((⟨⟨d, s⟩, n, ⟨i, k, m, t⟩⟩ : En) = ⟨⟨d', s'⟩, n', ⟨i', k', m', t'⟩⟩)) w := by
  rw [run_equalIn_agg w 9999 55 _ _ (by kernel_rfl) (by kernel_rfl)]
  have hu := Tryz.underlying55
  have hu4 := Tryz.underlying4
  have p0 : ∀ (x0 x1 x2 x3 x4 x5 x6 : Value) (w : World), (part 53 #[x0, x1, x2, x3, x4, x5, x6] 0).run Tryz.prog w = .ok (.agg #[x0, x1]) w := fun _ _ _ _ _ _ _ _ => by kernel_rfl
  have p1 : ∀ (x0 x1 x2 x3 x4 x5 x6 : Value) (w : World), (part 4 #[x0, x1, x2, x3, x4, x5, x6] 2).run Tryz.prog w = .ok x2 w := fun _ _ _ _ _ _ _ _ => by kernel_rfl
  have p2 : ∀ (x0 x1 x2 x3 x4 x5 x6 : Value) (w : World), (part 40 #[x0, x1, x2, x3, x4, x5, x6] 3).run Tryz.prog w = .ok (.agg #[x3, x4, x5, x6]) w := fun _ _ _ _ _ _ _ _ => by kernel_rfl
  have hi : (Tryz.prog.fieldsOf 55) = (match Tryz.prog.underlying 55 with | some (.struct fs) => fs | _ => #[]) := by kernel_rfl
  rw [hi, hu]
  simp only [Op.eqFields]
  simp [p0, p1, p2, eqIn_key', eqIn_node, hu4, go_sem]
  by_cases h1 : d = d' <;> simp [h1]
  by_cases h2 : s = s' <;> simp [h2]
  by_cases h3 : n = n' <;> simp [h3]
  by_cases h4 : i = i' <;> simp [h4]
  by_cases h5 : k = k' <;> simp [h5]
  by_cases h6 : m = m' <;> simp [h6]
  by_cases h7 : t = t' <;> simp [h7]

/-! ### the cache's two maps -/

/-- an entry that is kept: when it was used last, the map's own stamp -/
structure Ke where
  e : En
  used : Int
  born : Nat

def Ke.val (x : Ke) : Value := .agg #[.int .i64 x.e.key.dir, .string x.e.key.name, .bool x.e.neg, .int .i64 x.e.node.id, .int .i64 x.e.node.kind, .int .i64 x.e.node.mode, .string x.e.node.target, .int .i64 x.used]
def Ke.me (x : Ke) : MapEntry := ⟨x.e.key.v, x.val, x.born⟩
def kes (K : List Ke) : Array MapEntry := (K.map Ke.me).toArray
/-- a whole directory, the map's stamp -/
structure Wh where
  dir : Int
  born : Nat
def Wh.me (x : Wh) : MapEntry := ⟨.int .i64 x.dir, .bool true, x.born⟩
def wes (W : List Wh) : Array MapEntry := (W.map Wh.me).toArray

/-- the first place of a key -/
def atK (k : Ky) (K : List Ke) : Option Nat := K.findIdx? fun x => k = x.e.key
def atW (d : Int) (W : List Wh) : Option Nat := W.findIdx? fun x => d = x.dir

theorem findAsking_key (k : Ky) (w : World) : ∀ (K : List Ke) (i : Nat), (Instr.findAsking 53 k.v (K.map Ke.me) i).run Tryz.prog w = .ok ((K.findIdx? fun x => decide (k = x.e.key)).bind fun j => (K[j]?).map fun x => (i + j, x.val)) w
  | [], i => by simp [Instr.findAsking]
  | x :: K, i => by
    rw [List.map_cons, Instr.findAsking]
    simp only [Sem.run_bind, Ke.me, eq_key, Result.andThen_ok, List.findIdx?_cons]
    by_cases h : k = x.e.key
    · simp [h]
    · have ih := findAsking_key k w K (i + 1)
      simp only [h, decide_false, Bool.false_eq_true, if_false]
      rw [ih]
      cases hf : K.findIdx? (fun x => decide (k = x.e.key)) with
      | none => simp
      | some j => simp [Nat.add_assoc, Nat.add_comm 1]

theorem findKey_key (k : Ky) (w : World) (K : List Ke) : (Instr.findKey 53 k.v (K.map Ke.me)).run Tryz.prog w = .ok ((atK k K).bind fun j => (K[j]?).map fun x => (j, x.val)) w := by
  simp only [Instr.findKey, Sem.run_bind, run_underlying Tryz.underlying53, Result.andThen_ok]
  cases K with
  | nil => simp [Instr.findNow, atK]
  | cons x K =>
    have h0 : Instr.findNow (.struct #[]) k.v ((x :: K).map Ke.me) 0 = none := by
      simp [Instr.findNow, Ke.me, Ky.v, Instr.sameNow]
    have h1 : ∀ fs, Instr.findNow (.struct fs) k.v ((x :: K).map Ke.me) 0 = none := fun fs => by
      simp [Instr.findNow, Ke.me, Ky.v, Instr.sameNow]
    rw [h1]
    have h2 := findAsking_key k w (x :: K) 0
    simp only [Nat.zero_add] at h2
    exact h2

theorem findNow_dir (d : Int) : ∀ (W : List Wh) (i : Nat), Instr.findNow (.int .i64) (.int .i64 d) (W.map Wh.me) i = some ((W.findIdx? fun x => decide (d = x.dir)).bind fun j => (W[j]?).map fun _ => (i + j, .bool true))
  | [], i => by simp [Instr.findNow]
  | x :: W, i => by
    rw [List.map_cons, Instr.findNow]
    simp only [Wh.me, Instr.sameNow, if_true, List.findIdx?_cons]
    by_cases h : d = x.dir
    · simp [h]
    · have ih := findNow_dir d W (i + 1)
      have h' : (d == x.dir) = false := by simpa using h
      simp only [h, h', decide_false, Bool.false_eq_true, if_false]
      rw [ih]
      cases hf : W.findIdx? (fun x => decide (d = x.dir)) with
      | none => simp
      | some j => simp [Nat.add_assoc, Nat.add_comm 1]

theorem findKey_dir (d : Int) (w : World) (W : List Wh) : (Instr.findKey 3 (.int .i64 d) (W.map Wh.me)).run Tryz.prog w = .ok ((atW d W).bind fun j => (W[j]?).map fun _ => (j, .bool true)) w := by
  simp only [Instr.findKey, Sem.run_bind, run_underlying Tryz.underlying3, Result.andThen_ok, findNow_dir, Nat.zero_add]
  rfl

open Go.ChangeMaps (setBlock)

theorem heap_setBlock {w : World} {r : Nat} {o x : Obj} (h : w.heap[r]? = some x) : (setBlock w r o).heap[r]? = some o := by
  have := blk_lt h
  simp [setBlock, this]
theorem heap_setBlock_ne {w : World} {r k : Nat} {o x : Obj} (h : w.heap[k]? = some x) (hne : k ≠ r) : (setBlock w r o).heap[k]? = some x := by
  simp [setBlock, Array.getElem?_setIfInBounds, hne.symm, h]
theorem size_setBlock (w : World) (r : Nat) (o : Obj) : (setBlock w r o).heap.size = w.heap.size := by simp [setBlock]
theorem chg_setBlock (w : World) (r : Nat) (o : Obj) : Chg (fun k => k = r) w (setBlock w r o) :=
  ⟨rfl, rfl, rfl, by rw [size_setBlock]; exact Nat.le_refl _, fun k _ hk => by simp [setBlock, Array.getElem?_setIfInBounds, Ne.symm hk]⟩

theorem kes_toList (K : List Ke) : (kes K).toList = K.map Ke.me := by simp [kes]
theorem wes_toList (W : List Wh) : (wes W).toList = W.map Wh.me := by simp [wes]

def zeroKept : Value := .agg #[.int .i64 0, .string ByteArray.empty, .bool false, .int .i64 0, .int .i64 0, .int .i64 0, .string ByteArray.empty, .int .i64 0]
theorem zero_kept (w : World) : (zeroValue 142).run Tryz.prog w = .ok zeroKept w := by kernel_rfl

theorem run_look_yes {w : World} {me cl j : Nat} {K : List Ke} {x : Ke} {d : Int} {s : ByteArray} (h : w.heap[me]? = some (.map (kes K) cl)) (hj : atK ⟨d, s⟩ K = some j) (hx : K[j]? = some x) :
    (Instr.lookup 134 (.map (some me)) (.agg #[.int .i64 d, .string s]) true).run Tryz.prog w = .ok (.tuple #[x.val, .bool true]) w := by
  have hf := findKey_key ⟨d, s⟩ w K
  simp only [Ky.v] at hf
  simp only [Instr.lookup, Sem.run_bind, run_underlying Tryz.underlying134, Result.andThen_ok, getObj, Sem.run, h, ckK]
  simp [kes_toList, hf, hj, hx]

theorem run_look_no {w : World} {me cl : Nat} {K : List Ke} {d : Int} {s : ByteArray} (h : w.heap[me]? = some (.map (kes K) cl)) (hj : atK ⟨d, s⟩ K = none) :
    (Instr.lookup 134 (.map (some me)) (.agg #[.int .i64 d, .string s]) true).run Tryz.prog w = .ok (.tuple #[zeroKept, .bool false]) w := by
  have hf := findKey_key ⟨d, s⟩ w K
  simp only [Ky.v] at hf
  simp only [Instr.lookup, Sem.run_bind, run_underlying Tryz.underlying134, Result.andThen_ok, getObj, Sem.run, h, ckK]
  simp [kes_toList, hf, hj, zero_kept]
  rfl

theorem run_lookw {w : World} {mw cl : Nat} {W : List Wh} {d : Int} (h : w.heap[mw]? = some (.map (wes W) cl)) :
    (Instr.lookup 135 (.map (some mw)) (.int .i64 d) false).run Tryz.prog w = .ok (.bool (decide (d ∈ W.map Wh.dir))) w := by
  have hf := findKey_dir d w W
  have hz : (zeroValue 4).run Tryz.prog w = .ok (.bool false) w := by kernel_rfl
  simp only [Instr.lookup, Sem.run_bind, run_underlying Tryz.underlying135, Result.andThen_ok, getObj, Sem.run, h, ckI]
  cases ha : atW d W with
  | none =>
    have : d ∉ W.map Wh.dir := by
      intro hd
      obtain ⟨x, hx, rfl⟩ := List.mem_map.1 hd
      have := List.findIdx?_eq_none_iff.1 ha x hx
      simp at this
    simp [wes_toList, hf, ha, hz, this]
  | some j =>
    obtain ⟨hjl, hj1, _⟩ := List.findIdx?_eq_some_iff_getElem.1 ha
    have : d ∈ W.map Wh.dir := List.mem_map.2 ⟨W[j], List.getElem_mem _, by simpa using (of_decide_eq_true hj1).symm⟩
    simp [wes_toList, hf, ha, this, List.getElem?_eq_getElem hjl]

theorem same_key (n : Nat) (d : Int) (s : ByteArray) : Instr.sameBits (n + 1) (.agg #[.int .i64 d, .string s]) (.agg #[.int .i64 d, .string s]) = true := by
  have h : (s == s) = true := by rw [beq_toListBytes]; simp
  simp [Instr.sameBits, h]

theorem run_put_old {w : World} {me cl j : Nat} {K : List Ke} {x : Ke} (y : Ke) (h : w.heap[me]? = some (.map (kes K) cl)) (hj : atK y.e.key K = some j) (hx : K[j]? = some x) (hb : y.born = x.born) (hk : x.e.key = y.e.key) :
    (Instr.mapUpdate 134 (.map (some me)) (.agg #[.int .i64 y.e.key.dir, .string y.e.key.name]) y.val).run Tryz.prog w = .ok () (setBlock w me (.map (kes (K.set j y)) cl)) := by
  have hf := findKey_key y.e.key w K
  simp only [Ky.v] at hf
  have hjl : j < K.length := (List.getElem?_eq_some_iff.1 hx).1
  have he : ((kes K)[j]?).map (·.key) = some (.agg #[.int .i64 y.e.key.dir, .string y.e.key.name]) := by
    simp [kes, hx, Ke.me, Ky.v, hk]
  have hm : (kes K).modify j (fun e => { e with key := .agg #[.int .i64 y.e.key.dir, .string y.e.key.name], val := y.val }) = kes (K.set j y) := by
    apply Array.toList_inj.1
    rw [kes_toList, Array.toList_modify, kes_toList]
    apply List.ext_getElem?
    intro i
    by_cases hi : i = j
    · subst hi
      have hxx : K[i] = x := (List.getElem?_eq_some_iff.1 hx).2
      simp [hjl, Ke.me, Ky.v, hb, hxx]
    · simp [List.getElem?_modify, List.getElem?_set, Ne.symm hi]
  simp only [Instr.mapUpdate, Sem.run_bind, run_underlying Tryz.underlying134, Result.andThen_ok, getObj, Sem.run, h, ckK, kes_toList, hf, hj]
  simp only [Option.bind_some, hx, Option.map_some, he, Option.getD_some, Instr.keyThatStays, same_key, if_true]
  simp only [Sem.run_bind, Sem.run_pure, Result.andThen_ok, setObj, Sem.run, h, hm]
  rfl

theorem run_put_new {w : World} {me cl : Nat} {K : List Ke} (y : Ke) (h : w.heap[me]? = some (.map (kes K) cl)) (hj : atK y.e.key K = none) (hb : y.born = cl) :
    (Instr.mapUpdate 134 (.map (some me)) (.agg #[.int .i64 y.e.key.dir, .string y.e.key.name]) y.val).run Tryz.prog w = .ok () (setBlock w me (.map (kes (K ++ [y])) (cl + 1))) := by
  have hf := findKey_key y.e.key w K
  simp only [Ky.v] at hf
  have hm : (kes K).push { key := .agg #[.int .i64 y.e.key.dir, .string y.e.key.name], val := y.val, born := cl } = kes (K ++ [y]) := by
    simp [kes, Ke.me, Ky.v, hb]
  simp only [Instr.mapUpdate, Sem.run_bind, run_underlying Tryz.underlying134, Result.andThen_ok, getObj, Sem.run, h, ckK, kes_toList, hf, hj]
  simp only [Option.bind_none, setObj, Sem.run, h, hm]
  rfl

theorem run_setw_old {w : World} {mw cl j : Nat} {W : List Wh} {d : Int} (h : w.heap[mw]? = some (.map (wes W) cl)) (hj : atW d W = some j) :
    (Instr.mapUpdate 135 (.map (some mw)) (.int .i64 d) (.bool true)).run Tryz.prog w = .ok () (setBlock w mw (.map (wes W) cl)) := by
  have hf := findKey_dir d w W
  obtain ⟨hjl, hj1, _⟩ := List.findIdx?_eq_some_iff_getElem.1 hj
  have hd : W[j].dir = d := by simpa using (of_decide_eq_true hj1).symm
  have he : ((wes W)[j]?).map (·.key) = some (.int .i64 d) := by
    simp [wes, hjl, Wh.me, hd]
  have hm : (wes W).modify j (fun e => { e with key := .int .i64 d, val := .bool true }) = wes W := by
    apply Array.toList_inj.1
    rw [wes_toList, Array.toList_modify, wes_toList]
    apply List.ext_getElem?
    intro i
    by_cases hi : i = j
    · subst hi
      simp [hjl, Wh.me, hd]
    · simp [List.getElem?_modify, Ne.symm hi]
  simp only [Instr.mapUpdate, Sem.run_bind, run_underlying Tryz.underlying135, Result.andThen_ok, getObj, Sem.run, h, ckI, wes_toList, hf, hj]
  simp only [Option.bind_some, List.getElem?_eq_getElem hjl, Option.map_some, he, Option.getD_some, Instr.keyThatStays]
  simp only [Instr.sameBits, beq_self_eq_true, Bool.and_self, if_true, Sem.run_bind, Sem.run_pure, Result.andThen_ok, setObj, Sem.run, h, hm]
  rfl

theorem run_setw_new {w : World} {mw cl : Nat} {W : List Wh} {d : Int} (h : w.heap[mw]? = some (.map (wes W) cl)) (hj : atW d W = none) :
    (Instr.mapUpdate 135 (.map (some mw)) (.int .i64 d) (.bool true)).run Tryz.prog w = .ok () (setBlock w mw (.map (wes (W ++ [⟨d, cl⟩])) (cl + 1))) := by
  have hf := findKey_dir d w W
  have hm : (wes W).push { key := .int .i64 d, val := .bool true, born := cl } = wes (W ++ [⟨d, cl⟩]) := by simp [wes, Wh.me]
  simp only [Instr.mapUpdate, Sem.run_bind, run_underlying Tryz.underlying135, Result.andThen_ok, getObj, Sem.run, h, ckI, wes_toList, hf, hj]
  simp only [Option.bind_none, setObj, Sem.run, h, hm]
  rfl

/-- without the first of a key -/
def delK (k : Ky) (K : List Ke) : List Ke := match atK k K with | some j => K.eraseIdx j | none => K
def delW (d : Int) (W : List Wh) : List Wh := match atW d W with | some j => W.eraseIdx j | none => W

theorem run_del {w : World} {me cl : Nat} {K : List Ke} {d : Int} {s : ByteArray} (ty kt : TypeId) (h : w.heap[me]? = some (.map (kes K) cl)) :
    (Builtin.delete_ #[134, kt] ty #[.map (some me), .agg #[.int .i64 d, .string s]]).run Tryz.prog w = .ok (.tuple #[]) (setBlock w me (.map (kes (delK ⟨d, s⟩ K)) cl)) := by
  have hf := findKey_key ⟨d, s⟩ w K
  simp only [Ky.v] at hf
  simp only [Builtin.delete_, List.getElem?_toArray, List.getElem?_cons_zero, List.getElem?_cons_succ, Sem.run_bind, run_underlying Tryz.underlying134, Result.andThen_ok, getObj, Sem.run, h, ckK, kes_toList, hf]
  cases hj : atK ⟨d, s⟩ K with
  | none => simp [delK, hj, setObj, Sem.run, h, setBlock]
  | some j =>
    obtain ⟨hjl, _⟩ := List.findIdx?_eq_some_iff_getElem.1 hj
    have hm : (kes K).eraseIdxIfInBounds j = kes (K.eraseIdx j) := by
      apply Array.toList_inj.1
      simp [kes, Array.eraseIdxIfInBounds, hjl]
      exact (Go.ChangeMaps.map_eraseIdx _ _ _).symm
    simp [delK, hj, setObj, Sem.run, h, setBlock, List.getElem?_eq_getElem hjl, hm]

theorem run_delw {w : World} {mw cl : Nat} {W : List Wh} {d : Int} (ty kt : TypeId) (h : w.heap[mw]? = some (.map (wes W) cl)) :
    (Builtin.delete_ #[135, kt] ty #[.map (some mw), .int .i64 d]).run Tryz.prog w = .ok (.tuple #[]) (setBlock w mw (.map (wes (delW d W)) cl)) := by
  have hf := findKey_dir d w W
  simp only [Builtin.delete_, List.getElem?_toArray, List.getElem?_cons_zero, List.getElem?_cons_succ, Sem.run_bind, run_underlying Tryz.underlying135, Result.andThen_ok, getObj, Sem.run, h, ckI, wes_toList, hf]
  cases hj : atW d W with
  | none => simp [delW, hj, setObj, Sem.run, h, setBlock]
  | some j =>
    obtain ⟨hjl, _⟩ := List.findIdx?_eq_some_iff_getElem.1 hj
    have hm : (wes W).eraseIdxIfInBounds j = wes (W.eraseIdx j) := by
      apply Array.toList_inj.1
      simp [wes, Array.eraseIdxIfInBounds, hjl]
      exact (Go.ChangeMaps.map_eraseIdx _ _ _).symm
    simp [delW, hj, setObj, Sem.run, h, setBlock, List.getElem?_eq_getElem hjl, hm]

theorem wp_delete_k {w : World} {o : Oper} {a : Act} {K : Act → World → Prop} {Q : Exit → Act → World → Prop} (d s : Operand) (kt : TypeId)
    (ho : o.op = .call { callee := .builtin .delete, args := #[d, s], argTypes := #[134, kt] }) (me cl : Nat) (hd : a.eval d = .map (some me)) (dr : Int) (nm : ByteArray) (hs : a.eval s = .agg #[.int .i64 dr, .string nm]) (L : List Ke) (hm : w.heap[me]? = some (.map (kes L) cl))
    (h : K (a.put o.dst (.tuple #[])) (setBlock w me (.map (kes (delK ⟨dr, nm⟩ L)) cl))) : Oper.wp Tryz.prog o a w K Q := by
  have hrun := run_del (d := dr) (s := nm) o.type kt hm
  unfold Oper.wp execOp
  simp only [ho, resolve, invoke, builtin, Sem.run_bind, Sem.run_pure, Result.andThen_ok, List.map_toArray, List.map_cons, List.map_nil, hd, hs, hrun]
  exact h

theorem wpList_delete_k {w : World} {ops : Array Oper} {rest : List Oper} {o : Oper} {a : Act} {Q : Exit → Act → World → Prop} (hgd : o.guard = none) (d s : Operand) (kt : TypeId)
    (ho : o.op = .call { callee := .builtin .delete, args := #[d, s], argTypes := #[134, kt] }) (me cl : Nat) (hd : a.eval d = .map (some me)) (dr : Int) (nm : ByteArray) (hs : a.eval s = .agg #[.int .i64 dr, .string nm]) (L : List Ke) (hm : w.heap[me]? = some (.map (kes L) cl))
    (h : wpList Tryz.prog ops Q rest (a.put o.dst (.tuple #[])) (setBlock w me (.map (kes (delK ⟨dr, nm⟩ L)) cl))) : wpList Tryz.prog ops Q (o :: rest) a w :=
  wpList_plain hgd fun _ hK => wp_delete_k d s kt ho me cl hd dr nm hs L hm (hK _ _ h)

theorem step_delete_k {w : World} {ops : Array Oper} {o : Oper} {a : Act} {K : Act → World → Prop} {Q : Exit → Act → World → Prop} {E : Prop} (hgd : o.guard = none) (d s : Operand) (kt : TypeId)
    (ho : o.op = .call { callee := .builtin .delete, args := #[d, s], argTypes := #[134, kt] }) (me cl : Nat) (hd : a.eval d = .map (some me)) (dr : Int) (nm : ByteArray) (hs : a.eval s = .agg #[.int .i64 dr, .string nm]) (L : List Ke) (hm : w.heap[me]? = some (.map (kes L) cl))
    (h : K (a.put o.dst (.tuple #[])) (setBlock w me (.map (kes (delK ⟨dr, nm⟩ L)) cl))) : if Region.wanted o (yielded ops a.tmps) = true then Oper.wp Tryz.prog o a w K Q else E := by
  have hw : Region.wanted o (yielded ops a.tmps) = true := by simp [Region.wanted, hgd]
  rw [if_pos hw]
  exact wp_delete_k d s kt ho me cl hd dr nm hs L hm h

theorem wp_delete_w {w : World} {o : Oper} {a : Act} {K : Act → World → Prop} {Q : Exit → Act → World → Prop} (d s : Operand) (kt : TypeId)
    (ho : o.op = .call { callee := .builtin .delete, args := #[d, s], argTypes := #[135, kt] }) (me cl : Nat) (hd : a.eval d = .map (some me)) (dr : Int) (hs : a.eval s = .int .i64 dr) (L : List Wh) (hm : w.heap[me]? = some (.map (wes L) cl))
    (h : K (a.put o.dst (.tuple #[])) (setBlock w me (.map (wes (delW dr L)) cl))) : Oper.wp Tryz.prog o a w K Q := by
  have hrun := run_delw (d := dr) o.type kt hm
  unfold Oper.wp execOp
  simp only [ho, resolve, invoke, builtin, Sem.run_bind, Sem.run_pure, Result.andThen_ok, List.map_toArray, List.map_cons, List.map_nil, hd, hs, hrun]
  exact h

theorem wpList_delete_w {w : World} {ops : Array Oper} {rest : List Oper} {o : Oper} {a : Act} {Q : Exit → Act → World → Prop} (hgd : o.guard = none) (d s : Operand) (kt : TypeId)
    (ho : o.op = .call { callee := .builtin .delete, args := #[d, s], argTypes := #[135, kt] }) (me cl : Nat) (hd : a.eval d = .map (some me)) (dr : Int) (hs : a.eval s = .int .i64 dr) (L : List Wh) (hm : w.heap[me]? = some (.map (wes L) cl))
    (h : wpList Tryz.prog ops Q rest (a.put o.dst (.tuple #[])) (setBlock w me (.map (wes (delW dr L)) cl))) : wpList Tryz.prog ops Q (o :: rest) a w :=
  wpList_plain hgd fun _ hK => wp_delete_w d s kt ho me cl hd dr hs L hm (hK _ _ h)

theorem step_delete_w {w : World} {ops : Array Oper} {o : Oper} {a : Act} {K : Act → World → Prop} {Q : Exit → Act → World → Prop} {E : Prop} (hgd : o.guard = none) (d s : Operand) (kt : TypeId)
    (ho : o.op = .call { callee := .builtin .delete, args := #[d, s], argTypes := #[135, kt] }) (me cl : Nat) (hd : a.eval d = .map (some me)) (dr : Int) (hs : a.eval s = .int .i64 dr) (L : List Wh) (hm : w.heap[me]? = some (.map (wes L) cl))
    (h : K (a.put o.dst (.tuple #[])) (setBlock w me (.map (wes (delW dr L)) cl))) : if Region.wanted o (yielded ops a.tmps) = true then Oper.wp Tryz.prog o a w K Q else E := by
  have hw : Region.wanted o (yielded ops a.tmps) = true := by simp [Region.wanted, hgd]
  rw [if_pos hw]
  exact wp_delete_w d s kt ho me cl hd dr hs L hm h

theorem run_clear_k {w : World} {me cl : Nat} {L : List Ke} (ty : TypeId) (h : w.heap[me]? = some (.map (kes L) cl)) :
    (Builtin.clear_ #[134] ty #[.map (some me)]).run Tryz.prog w = .ok (.tuple #[]) (setBlock w me (.map (kes []) cl)) := by
  simp [Builtin.clear_, run_underlying Tryz.underlying134, getObj, Sem.run, h, setObj, setBlock, kes]
theorem run_clear_w {w : World} {me cl : Nat} {L : List Wh} (ty : TypeId) (h : w.heap[me]? = some (.map (wes L) cl)) :
    (Builtin.clear_ #[135] ty #[.map (some me)]).run Tryz.prog w = .ok (.tuple #[]) (setBlock w me (.map (wes []) cl)) := by
  simp [Builtin.clear_, run_underlying Tryz.underlying135, getObj, Sem.run, h, setObj, setBlock, wes]

theorem wpList_clear_k {w : World} {ops : Array Oper} {rest : List Oper} {o : Oper} {a : Act} {Q : Exit → Act → World → Prop} (hgd : o.guard = none) (d : Operand)
    (ho : o.op = .call { callee := .builtin .clear, args := #[d], argTypes := #[134] }) (me cl : Nat) (hd : a.eval d = .map (some me)) (L : List Ke) (hm : w.heap[me]? = some (.map (kes L) cl))
    (h : wpList Tryz.prog ops Q rest (a.put o.dst (.tuple #[])) (setBlock w me (.map (kes []) cl))) : wpList Tryz.prog ops Q (o :: rest) a w := by
  refine wpList_plain hgd fun _ hK => ?_
  have hrun := run_clear_k o.type hm
  unfold Oper.wp execOp
  simp only [ho, resolve, invoke, builtin, Sem.run_bind, Sem.run_pure, Result.andThen_ok, List.map_toArray, List.map_cons, List.map_nil, hd, hrun]
  exact hK _ _ h

theorem wpList_clear_w {w : World} {ops : Array Oper} {rest : List Oper} {o : Oper} {a : Act} {Q : Exit → Act → World → Prop} (hgd : o.guard = none) (d : Operand)
    (ho : o.op = .call { callee := .builtin .clear, args := #[d], argTypes := #[135] }) (me cl : Nat) (hd : a.eval d = .map (some me)) (L : List Wh) (hm : w.heap[me]? = some (.map (wes L) cl))
    (h : wpList Tryz.prog ops Q rest (a.put o.dst (.tuple #[])) (setBlock w me (.map (wes []) cl))) : wpList Tryz.prog ops Q (o :: rest) a w := by
  refine wpList_plain hgd fun _ hK => ?_
  have hrun := run_clear_w o.type hm
  unfold Oper.wp execOp
  simp only [ho, resolve, invoke, builtin, Sem.run_bind, Sem.run_pure, Result.andThen_ok, List.map_toArray, List.map_cons, List.map_nil, hd, hrun]
  exact hK _ _ h

end Go.Proofs.YtbjibkjenleloaaGreatDoor

end

section
namespace Go.Proofs.YtbjibkjenleloaaGreatDoor
set_option linter.unusedVariables false
set_option linter.unusedSimpArgs false
open Go.RowKit
open Go.ChangeMaps (setBlock)
attribute [local go_sem ↓] Go.wp_at_zero Go.wp_at_succ

/-- the cache's state, in plain words -/
structure Ca where
  p : Nat
  me : Nat
  mw : Nat
  K : List Ke
  W : List Wh
  ck : Int
  c1 : Nat
  c2 : Nat

/-- a cache in memory; all of it lies from B on -/
structure CacheAt (w : World) (B : Nat) (s : Ca) : Prop where
  hB : B ≤ s.p
  hBe : B ≤ s.me
  hBw : B ≤ s.mw
  hp : w.heap[s.p]? = some (.cells #[.map (some s.me), .map (some s.mw), .int .i64 s.ck] 137 (0, 0))
  he : w.heap[s.me]? = some (.map (kes s.K) s.c1)
  hw : w.heap[s.mw]? = some (.map (wes s.W) s.c2)
  hne : s.me ≠ s.mw
  b1 : ∀ x ∈ s.K, x.born < s.c1
  n1 : (s.K.map Ke.born).Nodup
  k1 : (s.K.map fun x => x.e.key).Nodup
  b2 : ∀ x ∈ s.W, x.born < s.c2
  n2 : (s.W.map Wh.born).Nodup
  k2 : (s.W.map Wh.dir).Nodup

/-- the blocks that a cache writes to -/
def CaF (s : Ca) (k : Nat) : Prop := k = s.p ∨ k = s.me ∨ k = s.mw

theorem CacheAt.chg {w w' : World} {B : Nat} {s : Ca} (h : CacheAt w B s) {F : Nat → Prop} (hc : Chg F w w') (hF : ∀ k, CaF s k → ¬ F k) : CacheAt w' B s :=
  ⟨h.hB, h.hBe, h.hBw, heap_chg hc h.hp (hF _ (.inl rfl)), heap_chg hc h.he (hF _ (.inr (.inl rfl))), heap_chg hc h.hw (hF _ (.inr (.inr rfl))), h.hne, h.b1, h.n1, h.k1, h.b2, h.n2, h.k2⟩
theorem CacheAt.below {w w' : World} {B : Nat} {s : Ca} (h : CacheAt w B s) (hb : Below w.heap.size w w') : CacheAt w' B s :=
  h.chg (Chg.below hb) fun _ _ h => h
theorem CacheAt.low {w : World} {B : Nat} {s : Ca} (h : CacheAt w B s) : ∀ i, i < B → ¬ CaF s i := by
  have := h.hB; have := h.hBe; have := h.hBw
  rintro i hi (rfl | rfl | rfl) <;> omega
theorem CacheAt.old {w : World} {B : Nat} {s : Ca} (h : CacheAt w B s) : ∀ i, w.heap.size ≤ i → ¬ CaF s i := by
  have := blk_lt h.hp; have := blk_lt h.he; have := blk_lt h.hw
  rintro i hi (rfl | rfl | rfl) <;> omega
theorem CacheAt.pe {w : World} {B : Nat} {s : Ca} (h : CacheAt w B s) : s.p ≠ s.me := by
  intro e; have h1 := h.hp; rw [e, h.he] at h1; cases h1
theorem CacheAt.pw {w : World} {B : Nat} {s : Ca} (h : CacheAt w B s) : s.p ≠ s.mw := by
  intro e; have h1 := h.hp; rw [e, h.hw] at h1; cases h1

set_option maxHeartbeats 400000 in
theorem dent_new (w : World) : Calls Tryz.prog 47 #[] w fun e w' => e = .returned (.pointer (some ⟨w.heap.size + 2, 0, none⟩)) ∧ CacheAt w' w.heap.size ⟨w.heap.size + 2, w.heap.size, w.heap.size + 1, [], [], 0, 0, 0⟩ ∧ Below w.heap.size w w' := by
  have hmm := @run_makeMap Tryz.prog
  go_enter Tryz.func47, Tryz.ntmps47
  go_wp2
  go_ret
  refine ⟨rfl, ⟨by simp, by simp, by simp, ?_, ?_, ?_, by simp, by simp, by simp, by simp, by simp, by simp, by simp⟩, bl3 w _ _ _⟩
  · have h := heap_new ((w.alloc (.map #[] 0)).alloc (.map #[] 0)) (.cells #[.map (some w.heap.size), .map (some (w.heap.size + 1)), .int .i64 0] 137)
    simp only [World.size_alloc] at h; exact h
  · exact heap_old (heap_old (heap_new w _) _) _
  · have h := heap_old (heap_new (w.alloc (.map #[] 0)) (.map #[] 0)) (.cells #[.map (some w.heap.size), .map (some (w.heap.size + 1)), .int .i64 0] 137)
    simp only [World.size_alloc] at h; exact h

set_option maxHeartbeats 400000 in
theorem dent_tick (w : World) (B : Nat) (s : Ca) (h : CacheAt w B s) (h1 : 0 ≤ s.ck) (h2 : s.ck < 9223372036854775807) :
    Calls Tryz.prog 100 #[.pointer (some ⟨s.p, 0, none⟩)] w fun e w' => e = .returned (.int .i64 (s.ck + 1)) ∧ CacheAt w' B { s with ck := s.ck + 1 } ∧ Chg (fun k => k = s.p) w w' := by
  have b0 := blk3 h.hp
  have HH := hid h
  clear h
  go_enter Tryz.func100, Tryz.ntmps100
  go_wp2
  go_ret
  have hc : Chg (fun k => k = s.p) w (w.setCell ⟨s.p, 2, none⟩ (.int .i64 (s.ck + 1))) := (Chg.refl (fun k => k = s.p) w).setCell ⟨s.p, 2, none⟩ _ (.inl rfl)
  have hh := HH.out
  exact ⟨rfl, ⟨hh.hB, hh.hBe, hh.hBw, heap_set hh.hp 2 _, heap_chg hc hh.he (Ne.symm hh.pe), heap_chg hc hh.hw (Ne.symm hh.pw), hh.hne, hh.b1, hh.n1, hh.k1, hh.b2, hh.n2, hh.k2⟩, hc⟩

set_option maxHeartbeats 400000 in
theorem dent_len (w : World) (B : Nat) (s : Ca) (h : CacheAt w B s) :
    Calls Tryz.prog 105 #[.pointer (some ⟨s.p, 0, none⟩)] w fun e w' => e = .returned (.int .i64 s.K.length) ∧ w = w' := by
  have b0 := blk3 h.hp
  have hlen : ∀ ty : TypeId, (Builtin.len_ #[134] ty #[.map (some s.me)]).run Tryz.prog w = .ok (.int .i64 s.K.length) w := fun ty => by
    simp [Builtin.len_, getObj, Sem.run, h.he, kes, goInt]
  clear h
  go_enter Tryz.func105, Tryz.ntmps105
  go_wp2
  go_ret
  exact ⟨rfl, rfl⟩

def inW (d : Int) (W : List Wh) : Bool := decide (d ∈ W.map Wh.dir)

set_option maxHeartbeats 400000 in
theorem dent_whole (w : World) (B : Nat) (s : Ca) (d : Int) (h : CacheAt w B s) :
    Calls Tryz.prog 37 #[.pointer (some ⟨s.p, 0, none⟩), .int .i64 d] w fun e w' => e = .returned (.bool (inW d s.W)) ∧ w = w' := by
  have b0 := blk3 h.hp
  have hl := run_lookw (d := d) h.hw
  rw [show decide (d ∈ s.W.map Wh.dir) = inW d s.W from rfl] at hl
  clear h
  go_enter Tryz.func37, Tryz.ntmps37
  go_wp2
  go_ret
  exact ⟨rfl, rfl⟩

end Go.Proofs.YtbjibkjenleloaaGreatDoor

end
