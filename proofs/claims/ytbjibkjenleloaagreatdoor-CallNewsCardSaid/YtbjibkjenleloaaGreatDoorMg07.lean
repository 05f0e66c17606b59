/- Parts of a proof about the given program, in build order: DentL, ShelfSortKept, ShelfSortEnt, ShelfCmpInt, Shelf, DentM, DentN. No condition. -/
import Derived.Test.YtbjibkjenleloaaGreatDoorMg06
import Derived.Test.YtbjibkjenleloaaGreatDoorMg05
import Derived.Shelf.SlSortCmp.NoneTotal
import Derived.Ground.SlsfProg
import Derived.Ground.SlgcProg
import Derived.Shelf.SlicesG.Cmp
import Derived.Test.YtbjibkjenleloaaGreatDoorProg
section
namespace Go.Proofs.YtbjibkjenleloaaGreatDoor
set_option linter.unusedVariables false
set_option linter.unusedSimpArgs false
open Go.RowKit
attribute [local go_sem ↓] Go.wp_at_zero Go.wp_at_succ

theorem blk10 {w : World} {k t : Nat} {x0 x1 x2 x3 x4 x5 x6 x7 x8 x9 : Value} (h : w.heap[k]? = some (.cells #[x0, x1, x2, x3, x4, x5, x6, x7, x8, x9] t (0, 0))) :
    w.cell? ⟨k, 0, none⟩ = some x0 ∧ w.cell? ⟨k, 1, none⟩ = some x1 ∧ w.cell? ⟨k, 2, none⟩ = some x2 ∧ w.cell? ⟨k, 3, none⟩ = some x3 ∧ w.cell? ⟨k, 4, none⟩ = some x4 ∧ w.cell? ⟨k, 5, none⟩ = some x5 ∧ w.cell? ⟨k, 6, none⟩ = some x6 ∧ w.cell? ⟨k, 7, none⟩ = some x7 ∧ w.cell? ⟨k, 8, none⟩ = some x8 ∧ w.cell? ⟨k, 9, none⟩ = some x9 ∧ w.frozen? ⟨k, 0, none⟩ = false ∧ w.frozen? ⟨k, 1, none⟩ = false ∧ w.frozen? ⟨k, 2, none⟩ = false ∧ w.frozen? ⟨k, 3, none⟩ = false ∧ w.frozen? ⟨k, 4, none⟩ = false ∧ w.frozen? ⟨k, 5, none⟩ = false ∧ w.frozen? ⟨k, 6, none⟩ = false ∧ w.frozen? ⟨k, 7, none⟩ = false ∧ w.frozen? ⟨k, 8, none⟩ = false ∧ w.frozen? ⟨k, 9, none⟩ = false := by
  simp [World.cell?, World.frozen?, h]

theorem box_keep {w w' : World} {B p k : Nat} {o : Obj} (hg : Chg (CF B p) w w') (hk : p < k) (h : w.heap[k]? = some o) : w'.heap[k]? = some o := heap_chg hg h (fun e => by have := e.2; omega)
theorem CF.low {B p : Nat} : ∀ i, i < B → ¬ CF B p i := fun i hi h => by have := h.1; omega


end Go.Proofs.YtbjibkjenleloaaGreatDoor

end

/- A contract of the library's at this program, laid by the shelf's tool (lay-plain.mjs): slices.SortFunc[[]vista/dent.kept,vista/dent.kept]. -/
section
namespace Go.Proofs
open Go.Shelf
def Tryz.sortKept_ren : Go.Shelf.Ren := ⟨fun | 6 => 69 | 15 => 107 | 14 => 106 | 28 => 131 | 29 => 132 | 20 => 123 | 21 => 124 | 22 => 125 | 23 => 126 | 24 => 127 | 25 => 128 | 26 => 129 | 27 => 130 | 46 => 148 | 47 => 149 | 48 => 150 | 49 => 151 | 50 => 152 | 57 => 160 | n => n, fun | 22 => 140 | 24 => 142 | 25 => 144 | 3 => 3 | 39 => 168 | 0 => 0 | 53 => 191 | 55 => 193 | 4 => 4 | 46 => 184 | 45 => 183 | 50 => 188 | 5 => 5 | 9 => 9 | 66 => 214 | 70 => 218 | 76 => 225 | 77 => 226 | n => n, fun | n => n⟩
theorem Tryz.sortKept : Go.Proofs.SlLaysF0.n6 Tryz.prog Tryz.sortKept_ren := {
  mixed := by kernel_rfl
  f6 := ⟨Tryz.f69.name, by decide, Tryz.func69.trans (congrArg some (by kernel_rfl))⟩
  f14 := ⟨Tryz.f106.name, by decide, Tryz.func106.trans (congrArg some (by kernel_rfl))⟩
  f15 := Tryz.func107.trans (congrArg some (by kernel_rfl))
  f20 := ⟨Tryz.f123.name, by decide, Tryz.func123.trans (congrArg some (by kernel_rfl))⟩
  f21 := ⟨Tryz.f124.name, by decide, Tryz.func124.trans (congrArg some (by kernel_rfl))⟩
  f22 := ⟨Tryz.f125.name, by decide, Tryz.func125.trans (congrArg some (by kernel_rfl))⟩
  f23 := ⟨Tryz.f126.name, by decide, Tryz.func126.trans (congrArg some (by kernel_rfl))⟩
  f24 := ⟨Tryz.f127.name, by decide, Tryz.func127.trans (congrArg some (by kernel_rfl))⟩
  f25 := ⟨Tryz.f128.name, by decide, Tryz.func128.trans (congrArg some (by kernel_rfl))⟩
  f26 := ⟨Tryz.f129.name, by decide, Tryz.func129.trans (congrArg some (by kernel_rfl))⟩
  f27 := ⟨Tryz.f130.name, by decide, Tryz.func130.trans (congrArg some (by kernel_rfl))⟩
  f28 := Tryz.func131.trans (congrArg some (by kernel_rfl))
  f29 := Tryz.func132.trans (congrArg some (by kernel_rfl))
  f46 := ⟨Tryz.f148.name, by decide, Tryz.func148.trans (congrArg some (by kernel_rfl))⟩
  f47 := Tryz.func149.trans (congrArg some (by kernel_rfl))
  f48 := Tryz.func150.trans (congrArg some (by kernel_rfl))
  f49 := ⟨Tryz.f151.name, by decide, Tryz.func151.trans (congrArg some (by kernel_rfl))⟩
  f50 := ⟨Tryz.f152.name, by decide, Tryz.func152.trans (congrArg some (by kernel_rfl))⟩
  f57 := ⟨Tryz.f160.name, by decide, Tryz.func160.trans (congrArg some (by kernel_rfl))⟩
  t0 := Tryz.underlying0
  a0 := Tryz.isAgg0
  z0 := Tryz.sizeOf0
  v0 := Tryz.zeroValue0
  t3 := Tryz.underlying3
  a3 := Tryz.isAgg3
  z3 := Tryz.sizeOf3
  v3 := Tryz.zeroValue3
  t4 := Tryz.underlying4
  a4 := Tryz.isAgg4
  z4 := Tryz.sizeOf4
  v4 := Tryz.zeroValue4
  t5 := Tryz.underlying5
  a5 := Tryz.isAgg5
  z5 := Tryz.sizeOf5
  v5 := Tryz.zeroValue5
  t9 := Tryz.underlying9
  a9 := Tryz.isAgg9
  z9 := Tryz.sizeOf9
  v9 := Tryz.zeroValue9
  t22 := Tryz.underlying140
  a22 := Tryz.isAgg140
  z22 := Tryz.sizeOf140
  v22 := Tryz.zeroValue140
  t25 := Tryz.underlying144
  a25 := Tryz.isAgg144
  z25 := Tryz.sizeOf144
  v25 := Tryz.zeroValue144
  t39 := Tryz.underlying168
  a39 := Tryz.isAgg168
  z39 := Tryz.sizeOf168
  v39 := Tryz.zeroValue168
  t45 := Tryz.underlying183
  a45 := Tryz.isAgg183
  z45 := Tryz.sizeOf183
  v45 := Tryz.zeroValue183
  t46 := Tryz.underlying184
  a46 := Tryz.isAgg184
  z46 := Tryz.sizeOf184
  v46 := Tryz.zeroValue184
  t50 := Tryz.underlying188
  a50 := Tryz.isAgg188
  z50 := Tryz.sizeOf188
  v50 := Tryz.zeroValue188
  t53 := Tryz.underlying191
  a53 := Tryz.isAgg191
  z53 := Tryz.sizeOf191
  v53 := Tryz.zeroValue191
  t55 := Tryz.underlying193
  a55 := Tryz.isAgg193
  z55 := Tryz.sizeOf193
  v55 := Tryz.zeroValue193
  t66 := Tryz.underlying214
  a66 := Tryz.isAgg214
  z66 := Tryz.sizeOf214
  v66 := Tryz.zeroValue214
  t70 := Tryz.underlying218
  a70 := Tryz.isAgg218
  z70 := Tryz.sizeOf218
  v70 := Tryz.zeroValue218
  t76 := Tryz.underlying225
  a76 := Tryz.isAgg225
  z76 := Tryz.sizeOf225
  v76 := Tryz.zeroValue225
  t77 := Tryz.underlying226
  a77 := Tryz.isAgg226
  z77 := Tryz.sizeOf226
  v77 := Tryz.zeroValue226 }
end Go.Proofs

end

/- A contract of the library's at this program, laid by the shelf's tool (lay-plain.mjs): slices.SortFunc[[]vista/api.Entry,vista/api.Entry]. -/
section
namespace Go.Proofs
open Go.Shelf
def Tryz.sortEnt_ren : Go.Shelf.Ren := ⟨fun | 6 => 137 | 15 => 107 | 14 => 158 | 28 => 131 | 29 => 132 | 20 => 169 | 21 => 170 | 22 => 171 | 23 => 172 | 24 => 173 | 25 => 174 | 26 => 175 | 27 => 176 | 46 => 182 | 47 => 149 | 48 => 150 | 49 => 183 | 50 => 184 | 57 => 187 | n => n, fun | 22 => 47 | 24 => 55 | 25 => 199 | 3 => 3 | 39 => 168 | 0 => 0 | 53 => 191 | 55 => 193 | 4 => 4 | 46 => 184 | 45 => 183 | 50 => 188 | 5 => 5 | 9 => 9 | 66 => 214 | 70 => 218 | 76 => 225 | 77 => 226 | n => n, fun | n => n⟩
theorem Tryz.sortEnt : Go.Proofs.SlLaysF0.n6 Tryz.prog Tryz.sortEnt_ren := {
  mixed := by kernel_rfl
  f6 := ⟨Tryz.f137.name, by decide, Tryz.func137.trans (congrArg some (by kernel_rfl))⟩
  f14 := ⟨Tryz.f158.name, by decide, Tryz.func158.trans (congrArg some (by kernel_rfl))⟩
  f15 := Tryz.func107.trans (congrArg some (by kernel_rfl))
  f20 := ⟨Tryz.f169.name, by decide, Tryz.func169.trans (congrArg some (by kernel_rfl))⟩
  f21 := ⟨Tryz.f170.name, by decide, Tryz.func170.trans (congrArg some (by kernel_rfl))⟩
  f22 := ⟨Tryz.f171.name, by decide, Tryz.func171.trans (congrArg some (by kernel_rfl))⟩
  f23 := ⟨Tryz.f172.name, by decide, Tryz.func172.trans (congrArg some (by kernel_rfl))⟩
  f24 := ⟨Tryz.f173.name, by decide, Tryz.func173.trans (congrArg some (by kernel_rfl))⟩
  f25 := ⟨Tryz.f174.name, by decide, Tryz.func174.trans (congrArg some (by kernel_rfl))⟩
  f26 := ⟨Tryz.f175.name, by decide, Tryz.func175.trans (congrArg some (by kernel_rfl))⟩
  f27 := ⟨Tryz.f176.name, by decide, Tryz.func176.trans (congrArg some (by kernel_rfl))⟩
  f28 := Tryz.func131.trans (congrArg some (by kernel_rfl))
  f29 := Tryz.func132.trans (congrArg some (by kernel_rfl))
  f46 := ⟨Tryz.f182.name, by decide, Tryz.func182.trans (congrArg some (by kernel_rfl))⟩
  f47 := Tryz.func149.trans (congrArg some (by kernel_rfl))
  f48 := Tryz.func150.trans (congrArg some (by kernel_rfl))
  f49 := ⟨Tryz.f183.name, by decide, Tryz.func183.trans (congrArg some (by kernel_rfl))⟩
  f50 := ⟨Tryz.f184.name, by decide, Tryz.func184.trans (congrArg some (by kernel_rfl))⟩
  f57 := ⟨Tryz.f187.name, by decide, Tryz.func187.trans (congrArg some (by kernel_rfl))⟩
  t0 := Tryz.underlying0
  a0 := Tryz.isAgg0
  z0 := Tryz.sizeOf0
  v0 := Tryz.zeroValue0
  t3 := Tryz.underlying3
  a3 := Tryz.isAgg3
  z3 := Tryz.sizeOf3
  v3 := Tryz.zeroValue3
  t4 := Tryz.underlying4
  a4 := Tryz.isAgg4
  z4 := Tryz.sizeOf4
  v4 := Tryz.zeroValue4
  t5 := Tryz.underlying5
  a5 := Tryz.isAgg5
  z5 := Tryz.sizeOf5
  v5 := Tryz.zeroValue5
  t9 := Tryz.underlying9
  a9 := Tryz.isAgg9
  z9 := Tryz.sizeOf9
  v9 := Tryz.zeroValue9
  t22 := Tryz.underlying47
  a22 := Tryz.isAgg47
  z22 := Tryz.sizeOf47
  v22 := Tryz.zeroValue47
  t25 := Tryz.underlying199
  a25 := Tryz.isAgg199
  z25 := Tryz.sizeOf199
  v25 := Tryz.zeroValue199
  t39 := Tryz.underlying168
  a39 := Tryz.isAgg168
  z39 := Tryz.sizeOf168
  v39 := Tryz.zeroValue168
  t45 := Tryz.underlying183
  a45 := Tryz.isAgg183
  z45 := Tryz.sizeOf183
  v45 := Tryz.zeroValue183
  t46 := Tryz.underlying184
  a46 := Tryz.isAgg184
  z46 := Tryz.sizeOf184
  v46 := Tryz.zeroValue184
  t50 := Tryz.underlying188
  a50 := Tryz.isAgg188
  z50 := Tryz.sizeOf188
  v50 := Tryz.zeroValue188
  t53 := Tryz.underlying191
  a53 := Tryz.isAgg191
  z53 := Tryz.sizeOf191
  v53 := Tryz.zeroValue191
  t55 := Tryz.underlying193
  a55 := Tryz.isAgg193
  z55 := Tryz.sizeOf193
  v55 := Tryz.zeroValue193
  t66 := Tryz.underlying214
  a66 := Tryz.isAgg214
  z66 := Tryz.sizeOf214
  v66 := Tryz.zeroValue214
  t70 := Tryz.underlying218
  a70 := Tryz.isAgg218
  z70 := Tryz.sizeOf218
  v70 := Tryz.zeroValue218
  t76 := Tryz.underlying225
  a76 := Tryz.isAgg225
  z76 := Tryz.sizeOf225
  v76 := Tryz.zeroValue225
  t77 := Tryz.underlying226
  a77 := Tryz.isAgg226
  z77 := Tryz.sizeOf226
  v77 := Tryz.zeroValue226 }
end Go.Proofs

end

/- A contract of the library's at this program, laid by the shelf's tool (lay-plain.mjs): cmp.Compare[int]. -/
section
namespace Go.Proofs
open Go.Shelf
def Tryz.cmpInt_ren : Go.Shelf.Ren := ⟨fun | 5 => 71 | 7 => 108 | n => n, fun | 22 => 3 | 3 => 3 | 4 => 4 | n => n, fun | n => n⟩
theorem Tryz.cmpInt : Go.Proofs.SlLaysC2.n5 Tryz.prog Tryz.cmpInt_ren := {
  mixed := by kernel_rfl
  f5 := ⟨Tryz.f71.name, by decide, Tryz.func71.trans (congrArg some (by kernel_rfl))⟩
  f7 := ⟨Tryz.f108.name, by decide, Tryz.func108.trans (congrArg some (by kernel_rfl))⟩
  t3 := Tryz.underlying3
  a3 := Tryz.isAgg3
  z3 := Tryz.sizeOf3
  v3 := Tryz.zeroValue3
  t4 := Tryz.underlying4
  a4 := Tryz.isAgg4
  z4 := Tryz.sizeOf4
  v4 := Tryz.zeroValue4
  t22 := Tryz.underlying3
  a22 := Tryz.isAgg3
  z22 := Tryz.sizeOf3
  v22 := Tryz.zeroValue3 }
end Go.Proofs

end

/- The library's contracts that the dent texts lean on. -/
section
end

section
namespace Go.Proofs.YtbjibkjenleloaaGreatDoor
set_option linter.unusedVariables false
set_option linter.unusedSimpArgs false
open Go.RowKit
open Go.Sort (PermIn SortedIn grow grow_grow alloc_eq_grow putCells mapBlock onCells flatK get_flatK size_flatK HoldsK putRowK)
attribute [local go_sem ↓] Go.wp_at_zero Go.wp_at_succ

/-! ### a sorted row -/

theorem flatK_list {α : Type} [Inhabited α] {f : α → List Value} {sz : Nat} (hf : ∀ x, (f x).length = sz) (d : List α) : (flatK f sz d.toArray).toList = d.flatMap f := by
  apply List.ext_getElem?
  intro t
  by_cases ht : t < d.length * sz
  · have hsz : 0 < sz := by
      rcases Nat.eq_zero_or_pos sz with h | h
      · subst h; omega
      · exact h
    have hi : t / sz < d.length := Nat.div_lt_of_lt_mul (by rw [Nat.mul_comm]; exact ht)
    have hj : t % sz < (f d[t / sz]).length := by rw [hf]; exact Nat.mod_lt _ hsz
    have e : t / sz * sz + t % sz = t := Nat.div_add_mod' t sz
    have h1 := flatMap_at hf (List.getElem?_eq_getElem hi) (List.getElem?_eq_getElem hj)
    rw [e] at h1
    rw [h1]
    have h2 := get_flatK f sz d.toArray t (by simpa using ht)
    have h3 : t < (flatK f sz d.toArray).size := by simpa using ht
    rw [getElem!_pos (flatK f sz d.toArray) t h3] at h2
    rw [Array.getElem?_toList, Array.getElem?_eq_getElem h3, h2]
    have h4 : (d.toArray[t / sz]!) = d[t / sz] := by simp [hi]
    rw [h4]
    congr 1
    rw [getElem!_pos (f d[t / sz]) (t % sz) hj]
  · rw [List.getElem?_eq_none (by simp; omega), List.getElem?_eq_none (by rw [flatMap_len hf]; omega)]

theorem take_putCells (F cur : Array Value) (h : F.size ≤ cur.size) : (putCells id 0 F cur).toList.take F.size = F.toList := by
  apply List.ext_getElem?
  intro t
  by_cases ht : t < F.size
  · rw [List.getElem?_take_of_lt ht, Array.getElem?_toList, Array.getElem?_toList]
    unfold putCells
    have h1 : t < cur.size := by omega
    simp [h1, ht]
  · rw [List.getElem?_eq_none (by simp; omega), List.getElem?_eq_none (by simp; omega)]

theorem holdsK_own {α : Type} [Inhabited α] {f : α → List Value} {sz : Nat} (hf : ∀ x, (f x).length = sz) {w : World} {B e n c g : Nat} {L : List α} (h : w.ownsRow B e sz (.slice (some ⟨g, 0, none⟩) n c) n (L.flatMap f)) : HoldsK f sz w g 0 L.toArray := by
  intro j hj
  rw [size_flatK] at hj
  have hl : (L.flatMap f).length = L.length * sz := flatMap_len hf L
  have hr := Rd.own h
  have h1 := hr.at j ((L.flatMap f)[j]'(by rw [hl]; simpa using hj)) (List.getElem?_eq_getElem _)
  refine ⟨?_, ?_⟩
  · rw [h1]
    congr 1
    have h3 : j < (flatK f sz L.toArray).size := by simpa using hj
    rw [getElem!_pos (flatK f sz L.toArray) j h3]
    have h4 := flatK_list hf L
    have h5 : (flatK f sz L.toArray)[j] = (flatK f sz L.toArray).toList[j]'(by simpa using h3) := by simp
    rw [id, h5]; simp only [h4, id]
    rw [hl]
  · rcases h.2 with ⟨hv, _⟩ | ⟨g', cap, cur, hv, hB, hg, _⟩
    · simp at hv
    · simp only [Value.slice.injEq, Option.some.injEq, Addr.mk.injEq] at hv
      obtain ⟨⟨rfl, _⟩, _⟩ := hv
      exact blk_free hg _

theorem own_sort {α : Type} [Inhabited α] {f : α → List Value} {sz : Nat} (hf : ∀ x, (f x).length = sz) {w : World} {B e n c g m : Nat} {L M : List α} {os : Array Obj} (h : w.ownsRow B e sz (.slice (some ⟨g, 0, none⟩) n c) n (L.flatMap f)) (hM : M.length = L.length) :
    (sortWorldK f sz w g 0 m M.toArray os).ownsRow B e sz (.slice (some ⟨g, 0, none⟩) n c) n (M.flatMap f) ∧ Chg (fun k => k = g) w (sortWorldK f sz w g 0 m M.toArray os) := by
  have hlL : (L.flatMap f).length = L.length * sz := flatMap_len hf L
  have hlM : (M.flatMap f).length = M.length * sz := flatMap_len hf M
  rcases h.2 with ⟨hv, _⟩ | ⟨g', cap, cur, hv, hB, hg, h1, h2, h3, h4⟩
  · simp at hv
  · simp only [Value.slice.injEq, Option.some.injEq, Addr.mk.injEq] at hv
    obtain ⟨⟨rfl, _⟩, _, rfl⟩ := hv
    have hlt := blk_lt hg
    have hn : L.length * sz = n * sz := by rw [← hlL]; exact h.1
    have hcur : n * sz ≤ cur.size := by rw [h3]; exact Nat.mul_le_mul_right _ h1
    have hmod : ∀ k, (sortWorldK f sz w g 0 m M.toArray os).heap[k]? = if k < w.heap.size then (w.heap.modify g (onCells (putCells id 0 (flatK f sz M.toArray))))[k]? else os[k - w.heap.size]? := by
      intro k
      unfold sortWorldK putRowK Go.Sort.putRow mapBlock grow Go.Sort.ahead
      simp only
      rw [Array.getElem?_append]
      simp
    refine ⟨⟨by rw [hlM, hM]; exact hn, .inr ⟨g, c, putCells id 0 (flatK f sz M.toArray) cur, rfl, hB, ?_, h1, h2, ?_, ?_⟩⟩, ⟨rfl, rfl, rfl, ?_, ?_⟩⟩
    · rw [hmod g, if_pos hlt, Array.getElem?_modify, if_pos rfl, hg]; rfl
    · unfold putCells; simp [h3]
    · rw [← flatK_list hf M, ← take_putCells (flatK f sz M.toArray) cur (by simp [hM]; omega)]
      congr 1
      simp [hM]; exact hn.symm
    · exact size_sortWorldK_c f sz w g 0 m M.toArray os
    · intro k hk hne
      rw [hmod k, if_pos hk, Array.getElem?_modify, if_neg (fun e => hne e.symm)]

theorem perm_sorted {α : Type} [Inhabited α] {lt : α → α → Bool} {L : List α} {d' : Array α} (hp : PermIn 0 L.toArray.size L.toArray d') (hs : SortedIn lt 0 L.toArray.size d') : d'.toList.Perm L ∧ d'.toList.Pairwise (fun x y => lt y x = false) := by
  obtain ⟨h1, _, h3⟩ := hp
  refine ⟨?_, ?_⟩
  · have e1 : d'.extract 0 L.toArray.size = d' := by rw [← h1]; simp
    have e2 : L.toArray.extract 0 L.toArray.size = L.toArray := by simp
    rw [e1, e2] at h3; simpa using h3
  · rw [List.pairwise_iff_getElem]
    intro i j hi hj hij
    have := hs i j (Nat.zero_le _) hij (by rw [← h1]; simpa using hj)
    rw [getElem!_pos _ _ (by simpa using hj), getElem!_pos _ _ (by simpa using hi)] at this
    simpa using this

end Go.Proofs.YtbjibkjenleloaaGreatDoor

end

section
namespace Go.Proofs.YtbjibkjenleloaaGreatDoor
set_option linter.unusedVariables false
set_option linter.unusedSimpArgs false
open Go.RowKit
open Go.Sort (PermIn SortedIn grow grow_grow alloc_eq_grow SWO)
attribute [local go_sem ↓] Go.wp_at_zero Go.wp_at_succ

instance : Inhabited Ke := ⟨⟨zeroE, 0, 0⟩⟩
instance : Inhabited En := ⟨zeroE⟩

def Ke.cells (x : Ke) : List Value := [.int .i64 x.e.key.dir, .string x.e.key.name, .bool x.e.neg, .int .i64 x.e.node.id, .int .i64 x.e.node.kind, .int .i64 x.e.node.mode, .string x.e.node.target, .int .i64 x.used]
def kvs (L : List Ke) : List Value := L.flatMap Ke.cells
def ecs (L : List En) : List Value := L.flatMap En.cells
theorem kvs_len (L : List Ke) : (kvs L).length = L.length * 8 := flatMap_len (f := Ke.cells) (sz := 8) (fun _ => rfl) L
theorem ecs_len (L : List En) : (ecs L).length = L.length * 7 := flatMap_len (f := En.cells) (sz := 7) (fun _ => rfl) L
theorem kvs_snoc (L : List Ke) (x : Ke) : kvs (L ++ [x]) = kvs L ++ x.cells := by simp [kvs]
theorem ecs_snoc (L : List En) (x : En) : ecs (L ++ [x]) = ecs L ++ x.cells := by simp [ecs]
theorem Ke.one (x : Ke) : ∀ u ∈ x.cells, u.oneCell' = true := by
  intro u hu; simp [Ke.cells] at hu; rcases hu with rfl | rfl | rfl | rfl | rfl | rfl | rfl | rfl <;> rfl
theorem En.one (x : En) : ∀ u ∈ x.cells, u.oneCell' = true := by
  intro u hu; simp [En.cells] at hu; rcases hu with rfl | rfl | rfl | rfl | rfl | rfl | rfl <;> rfl
theorem infoKe : (Tryz.prog.info? 142).map (fun i => (i.zero, i.size, i.bytes)) = some (some (.agg #[.int .i64 0, .string ByteArray.empty, .bool false, .int .i64 0, .int .i64 0, .int .i64 0, .string ByteArray.empty, .int .i64 0]), 8, 80) := by kernel_rfl
theorem infoEn : (Tryz.prog.info? 55).map (fun i => (i.zero, i.size, i.bytes)) = some (some (.agg #[.int .i64 0, .string ByteArray.empty, .bool false, .int .i64 0, .int .i64 0, .int .i64 0, .string ByteArray.empty]), 7, 72) := by kernel_rfl

/-! ### the two comparisons -/
def cmpU (x y : Ke) : Int := Lib.compareInt x.used y.used
theorem ltU (x y : Ke) : ltOf cmpU x y = decide (x.used < y.used) := by
  unfold ltOf cmpU Lib.compareInt
  by_cases h1 : x.used < y.used
  · simp [h1]
  · by_cases h2 : y.used < x.used <;> simp [h1, h2]
theorem swoU : SWO (ltOf cmpU) where
  irrefl x := by rw [ltU]; simp
  trans x y z h1 h2 := by rw [ltU] at *; simp at *; omega
  ntrans x y z h1 h2 := by rw [ltU] at *; simp at *; omega

set_option maxHeartbeats 1000000 in
theorem closeU (x y : Ke) (W : World) : Calls Tryz.prog 70 #[.agg #[.int .i64 x.e.key.dir, .string x.e.key.name, .bool x.e.neg, .int .i64 x.e.node.id, .int .i64 x.e.node.kind, .int .i64 x.e.node.mode, .string x.e.node.target, .int .i64 x.used], .agg #[.int .i64 y.e.key.dir, .string y.e.key.name, .bool y.e.neg, .int .i64 y.e.node.id, .int .i64 y.e.node.kind, .int .i64 y.e.node.mode, .string y.e.node.target, .int .i64 y.used]] W
    fun e w' => e = .returned (.int .i64 (cmpU x y)) ∧ ∃ q os', w' = grow (W.drewN q) os' := by
  have hcon := fun W' => AnyG.cmp_Compare_int Tryz.cmpInt x.used y.used W'
  change ∀ W', Calls Tryz.prog 71 _ _ _ at hcon
  unfold cmpU
  generalize Lib.compareInt x.used y.used = r at hcon ⊢
  go_enter Tryz.func70, Tryz.ntmps70
  go_wp2_with (go_at_call 71; refine (hcon _).mono ?_; rintro e w' ⟨rfl, rfl⟩)
  go_ret
  exact ⟨rfl, 0, _, by rw [alloc_eq_grow, alloc_eq_grow, grow_grow]; rfl⟩

/-! ### names -/
def nmLt (a b : ByteArray) : Bool := Op.bytesLess a.toList b.toList
theorem bl_irrefl : ∀ l : List UInt8, Op.bytesLess l l = false
  | [] => rfl
  | a :: l => by simp [Op.bytesLess, bl_irrefl l]
theorem bl_total : ∀ l m : List UInt8, Op.bytesLess l m = false → Op.bytesLess m l = false → l = m
  | [], [], _, _ => rfl
  | [], _ :: _, h, _ => by simp [Op.bytesLess] at h
  | _ :: _, [], _, h => by simp [Op.bytesLess] at h
  | a :: l, b :: m, h1, h2 => by
    simp only [Op.bytesLess, Bool.or_eq_false_iff, Bool.and_eq_false_iff, decide_eq_false_iff_not, beq_eq_false_iff_ne] at h1 h2
    have hab : a = b := by
      apply UInt8.le_antisymm
      · exact UInt8.not_lt.1 h2.1
      · exact UInt8.not_lt.1 h1.1
    subst hab
    have h3 := h1.2; have h4 := h2.2
    simp at h3 h4
    rw [bl_total l m h3 h4]
theorem bl_trans : ∀ l m n : List UInt8, Op.bytesLess l m = true → Op.bytesLess m n = true → Op.bytesLess l n = true
  | l, m, [], _, h => by cases m <;> simp [Op.bytesLess] at h
  | [], _, _ :: _, _, _ => rfl
  | a :: l, [], _ :: _, h, _ => by simp [Op.bytesLess] at h
  | a :: l, b :: m, c :: n, h1, h2 => by
    simp only [Op.bytesLess, Bool.or_eq_true, Bool.and_eq_true, decide_eq_true_eq, beq_iff_eq] at h1 h2 ⊢
    rcases h1 with h1 | ⟨rfl, h1⟩ <;> rcases h2 with h2 | ⟨rfl, h2⟩
    · exact .inl (UInt8.lt_trans h1 h2)
    · exact .inl h1
    · exact .inl h2
    · exact .inr ⟨rfl, bl_trans l m n h1 h2⟩
theorem nm_irrefl (a : ByteArray) : nmLt a a = false := bl_irrefl _
theorem nm_trans {a b c : ByteArray} (h1 : nmLt a b = true) (h2 : nmLt b c = true) : nmLt a c = true := bl_trans _ _ _ h1 h2
theorem toList_inj {a b : ByteArray} (h : a.toList = b.toList) : a = b := by
  have := bytes_beq a b
  rw [h] at this
  simpa using this.symm
theorem nm_total {a b : ByteArray} (h1 : nmLt a b = false) (h2 : nmLt b a = false) : a = b := toList_inj (bl_total _ _ h1 h2)
theorem nm_asymm {a b : ByteArray} (h : nmLt a b = true) : nmLt b a = false := by
  cases h2 : nmLt b a with
  | false => rfl
  | true => have := nm_trans h h2; rw [nm_irrefl] at this; cases this

def cmpS (a b : ByteArray) : Int := if nmLt a b = true then -1 else if (nmLt a b || a.toList == b.toList) = true then 0 else 1
def cmpN (x y : En) : Int := cmpS x.key.name y.key.name
theorem ltN (x y : En) : ltOf cmpN x y = nmLt x.key.name y.key.name := by
  unfold ltOf cmpN cmpS
  cases h1 : nmLt x.key.name y.key.name
  · by_cases h2 : (x.key.name.toList == y.key.name.toList) = true <;> simp [h2]
  · simp
theorem swoN : SWO (ltOf cmpN) where
  irrefl x := by rw [ltN]; exact nm_irrefl _
  trans x y z h1 h2 := by rw [ltN] at *; exact nm_trans h1 h2
  ntrans x y z h1 h2 := by
    rw [ltN] at *
    cases h3 : nmLt x.key.name z.key.name with
    | false => rfl
    | true =>
      cases h4 : nmLt y.key.name x.key.name with
      | true => have := nm_trans h4 h3; rw [h2] at this; cases this
      | false => have := nm_total h1 h4; rw [this, h2] at h3; cases h3

set_option maxHeartbeats 1000000 in
theorem cmp_string (a b : ByteArray) (w : World) : Calls Tryz.prog 139 #[.string a, .string b] w fun e w' => e = .returned (.int .i64 (cmpS a b)) ∧ w = w' := by
  unfold cmpS nmLt
  have hnan : ∀ (s : ByteArray) (w : World), Calls Tryz.prog 159 #[.string s] w fun e w' => e = .returned (.bool false) ∧ w = w' := by
    intro s w
    have hs : (s.toList == s.toList) = true := by simp
    go_enter Tryz.func159, Tryz.ntmps159
    go_wp2
    go_ret
    exact ⟨by simp, rfl⟩
  cases h1 : Op.bytesLess a.toList b.toList with
  | true =>
    go_enter Tryz.func139, Tryz.ntmps139
    go_wp2_with (go_at_call 159; refine (hnan _ _).mono ?_; rintro e wx ⟨rfl, rfl⟩)
    go_ret
    exact ⟨rfl, rfl⟩
  | false =>
    cases h2 : (a.toList == b.toList) with
    | true =>
      go_enter Tryz.func139, Tryz.ntmps139
      go_wp2_with (go_at_call 159; refine (hnan _ _).mono ?_; rintro e wx ⟨rfl, rfl⟩)
      go_ret
      exact ⟨rfl, rfl⟩
    | false =>
      go_enter Tryz.func139, Tryz.ntmps139
      go_wp2_with (go_at_call 159; refine (hnan _ _).mono ?_; rintro e wx ⟨rfl, rfl⟩)
      go_ret
      exact ⟨rfl, rfl⟩

set_option maxHeartbeats 1000000 in
theorem closeN (x y : En) (W : World) : Calls Tryz.prog 138 #[.agg #[.int .i64 x.key.dir, .string x.key.name, .bool x.neg, .int .i64 x.node.id, .int .i64 x.node.kind, .int .i64 x.node.mode, .string x.node.target], .agg #[.int .i64 y.key.dir, .string y.key.name, .bool y.neg, .int .i64 y.node.id, .int .i64 y.node.kind, .int .i64 y.node.mode, .string y.node.target]] W
    fun e w' => e = .returned (.int .i64 (cmpN x y)) ∧ ∃ q os', w' = grow (W.drewN q) os' := by
  unfold cmpN
  go_enter Tryz.func138, Tryz.ntmps138
  go_wp2_with (go_at_call 139; refine (cmp_string _ _ _).mono ?_; rintro e w' ⟨rfl, rfl⟩)
  go_ret
  exact ⟨rfl, 0, _, by rw [alloc_eq_grow, alloc_eq_grow, grow_grow]; rfl⟩

/-! ### sorting a row -/
theorem Chg.of_eq {F : Nat → Prop} {w w' : World} (h : w = w') : Chg F w w' := h ▸ Chg.refl _ _

theorem sort_used (w : World) (B : Nat) (a : Option Addr) (c : Nat) (L : List Ke) (h : w.ownsRow B 142 8 (.slice a L.length c) L.length (kvs L)) (hn : L.length < 4611686018427387904) :
    Calls Tryz.prog 69 #[.slice a L.length c, .func (.func 70) #[] #[]] w fun e w' => e = .returned (.tuple #[]) ∧ ∃ M : List Ke, M.Perm L ∧ M.Pairwise (fun x y => ¬ y.used < x.used) ∧ w'.ownsRow B 142 8 (.slice a M.length c) M.length (kvs M) ∧ Chg (fun k => B ≤ k) w w' := by
  by_cases h0 : 0 < L.length
  · obtain ⟨g, rfl, hBg, hgz, _, _⟩ := own_loc h h0
    have eg : ∀ args w, (callFunc 70 args).run Tryz.prog w = .ok (.enter 70 args) w := enters_of Tryz.func70 (by kernel_rfl) rfl
    have hcon := AnyQ.slices_SortFunc Tryz.sortKept 8 Tryz.isAgg142 Tryz.sizeOf142 Ke.cells (fun _ => rfl) (fun x => Ke.one x) cmpU swoU 70 #[] g 0 c L.toArray w eg (fun _ _ _ _ x y => closeU x y _) (holdsK_own (f := Ke.cells) (sz := 8) (fun _ => rfl) h) hgz (by simpa using hn)
    change Calls Tryz.prog 69 _ _ _ at hcon
    have e1 : (L.toArray.size) = L.length := by simp
    rw [e1] at hcon
    refine hcon.mono ?_
    rintro e w' ⟨rfl, d', n, os, hp, hs, rfl⟩
    have hp' : PermIn 0 L.toArray.size L.toArray d' := by rw [e1]; exact hp
    have hs' : SortedIn (ltOf cmpU) 0 L.toArray.size d' := by rw [e1]; exact hs
    obtain ⟨p1, p2⟩ := perm_sorted hp' hs'
    have hlen := p1.length_eq
    obtain ⟨o1, o2⟩ := own_sort (M := d'.toList) (m := n) (os := os) (f := Ke.cells) (sz := 8) (fun _ => rfl) h hlen
    refine ⟨rfl, d'.toList, p1, p2.imp (fun {x y} hxy => by rw [ltU] at hxy; simpa using hxy), ?_, o2.mono (fun i _ hi => by subst hi; exact hBg)⟩
    rw [hlen]; exact o1
  · have hl : L.length = 0 := by omega
    have hcon := AnyF.slices_SortFunc_none { Tryz.sortKept with } a c (.func (.func 70) #[] #[]) w
    change Calls Tryz.prog 69 _ _ _ at hcon
    rw [hl]
    refine hcon.mono ?_
    rintro e w' ⟨rfl, rfl⟩
    exact ⟨rfl, L, List.Perm.refl _, by rw [List.length_eq_zero_iff.1 hl]; exact List.Pairwise.nil, h, Chg.refl _ _⟩

theorem sort_names (w : World) (B : Nat) (a : Option Addr) (c : Nat) (L : List En) (h : w.ownsRow B 55 7 (.slice a L.length c) L.length (ecs L)) (hn : L.length < 4611686018427387904) :
    Calls Tryz.prog 137 #[.slice a L.length c, .func (.func 138) #[] #[]] w fun e w' => e = .returned (.tuple #[]) ∧ ∃ M : List En, M.Perm L ∧ M.Pairwise (fun x y => nmLt y.key.name x.key.name = false) ∧ w'.ownsRow B 55 7 (.slice a M.length c) M.length (ecs M) ∧ Chg (fun k => B ≤ k) w w' := by
  by_cases h0 : 0 < L.length
  · obtain ⟨g, rfl, hBg, hgz, _, _⟩ := own_loc h h0
    have eg : ∀ args w, (callFunc 138 args).run Tryz.prog w = .ok (.enter 138 args) w := enters_of Tryz.func138 (by kernel_rfl) rfl
    have hcon := AnyQ.slices_SortFunc Tryz.sortEnt 7 Tryz.isAgg55 Tryz.sizeOf55 En.cells (fun _ => rfl) (fun x => En.one x) cmpN swoN 138 #[] g 0 c L.toArray w eg (fun _ _ _ _ x y => closeN x y _) (holdsK_own (f := En.cells) (sz := 7) (fun _ => rfl) h) hgz (by simpa using hn)
    change Calls Tryz.prog 137 _ _ _ at hcon
    have e1 : (L.toArray.size) = L.length := by simp
    rw [e1] at hcon
    refine hcon.mono ?_
    rintro e w' ⟨rfl, d', n, os, hp, hs, rfl⟩
    have hp' : PermIn 0 L.toArray.size L.toArray d' := by rw [e1]; exact hp
    have hs' : SortedIn (ltOf cmpN) 0 L.toArray.size d' := by rw [e1]; exact hs
    obtain ⟨p1, p2⟩ := perm_sorted hp' hs'
    have hlen := p1.length_eq
    obtain ⟨o1, o2⟩ := own_sort (M := d'.toList) (m := n) (os := os) (f := En.cells) (sz := 7) (fun _ => rfl) h hlen
    refine ⟨rfl, d'.toList, p1, p2.imp (fun {x y} hxy => by rw [ltN] at hxy; exact hxy), ?_, o2.mono (fun i _ hi => by subst hi; exact hBg)⟩
    rw [hlen]; exact o1
  · have hl : L.length = 0 := by omega
    have hcon := AnyF.slices_SortFunc_none { Tryz.sortEnt with } a c (.func (.func 138) #[] #[]) w
    change Calls Tryz.prog 137 _ _ _ at hcon
    rw [hl]
    refine hcon.mono ?_
    rintro e w' ⟨rfl, rfl⟩
    exact ⟨rfl, L, List.Perm.refl _, by rw [List.length_eq_zero_iff.1 hl]; exact List.Pairwise.nil, h, Chg.refl _ _⟩

theorem uniq_sorted {α : Type} {r : α → α → Prop} : ∀ {M M0 : List α}, M.Perm M0 → M0.Pairwise r → M.Pairwise (fun x y => ¬ r y x) → M = M0
  | M, [], hp, _, _ => by simpa using hp
  | [], x :: T, hp, _, _ => by have := hp.length_eq; simp at this
  | y :: M, x :: T, hp, h0, h1 => by
    rw [List.pairwise_cons] at h0 h1
    have hxy : y = x := by
      rcases List.mem_cons.1 (hp.mem_iff.2 (List.mem_cons_self (a := x) (l := T))) with h | h
      · exact h.symm
      · rcases List.mem_cons.1 (hp.mem_iff.1 (List.mem_cons_self (a := y) (l := M))) with h2 | h2
        · exact h2
        · exact absurd (h0.1 y h2) (h1.1 x h)
    subst hxy
    rw [uniq_sorted (List.Perm.cons_inv hp) h0.2 h1.2]

end Go.Proofs.YtbjibkjenleloaaGreatDoor

end
