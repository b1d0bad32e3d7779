/- DERIVED: THE SHELF's CONTRACTS AT THIS DUMP, IN PLAIN WORDS (tools/lay-plain.mjs out of 'TryShelf.lean', which tools/lay-shelf.mjs wrote): THE SAME DECLARATIONS UNDER THE SAME NAMES: 'import', 'namespace', 'open', 'def', 'theorem' AND NOTHING ELSE: no command of the shelf's: FOR A HAND-IN. Each laying: the table of numbers ('.._ren') and one theorem, a field a fact of the dump's own or the kernel's comparison; each contract: ONE APPLICATION.; Chapter 17: the places of nodes, in plain terms; Sorting: what a sort of a row of numbers does to the abstract heap; Chapter 17: the nodes' sort; Chapter 17: Places; Chapter 17: the law OrderPlaces. Conditions: none. -/
import Derived.Test.YtggaonafmiklaaaMF
import Derived.Shelf.Small.Bits
import Derived.Shelf.Strconv.Itoa0
import Derived.Shelf.Slices.Equal
import Derived.Shelf.Slices.Empties2
import Derived.Ground.SlsfProg
import Derived.Shelf.SlSortCmp.Insertion
import Derived.Shelf.SlSortCmp.SiftDown1
import Derived.Shelf.SlSortCmp.HeapSort1
import Derived.Shelf.SlSortCmp.Insertion1
import Derived.Shelf.SlSortCmp.Median1
import Derived.Shelf.SlSortCmp.Pivot1
import Derived.Shelf.SlSortCmp.ReverseRange1
import Derived.Shelf.SlSortCmp.PartialInsertion1
import Derived.Shelf.SlSortCmp.PartitionEqual1
import Derived.Shelf.SlSortCmp.Partition1
import Derived.Shelf.SlSortCmp.Pdq1
import Derived.Shelf.SlSortCmp.Whole1
import Derived.Shelf.SlSortCmp.NoneTotal
import Derived.Test.YtggaonafmiklaaaProg
namespace Go.Proofs
open Go.Shelf
def Try.laysSlF6_f31_ren : Go.Shelf.Ren := ⟨fun | 6 => 31 | 15 => 40 | 14 => 39 | 28 => 51 | 29 => 52 | 20 => 43 | 21 => 44 | 22 => 45 | 23 => 46 | 24 => 47 | 25 => 48 | 26 => 49 | 27 => 50 | 46 => 53 | 47 => 54 | 48 => 55 | 49 => 56 | 50 => 57 | 57 => 58 | n => n, fun | 22 => 29 | 24 => 3 | 25 => 61 | 3 => 3 | 39 => 69 | 0 => 0 | 53 => 84 | 55 => 86 | 4 => 4 | 46 => 78 | 45 => 77 | 50 => 49 | 5 => 5 | 9 => 9 | 66 => 87 | 70 => 91 | 76 => 93 | 77 => 94 | n => n, fun | n => n⟩
theorem Try.laysSlF6_f31 : Go.Proofs.SlLaysF.n6 Try.prog Try.laysSlF6_f31_ren := {
  mixed := by kernel_rfl
  f6 := ⟨Try.f31.name, by decide, Try.func31.trans (congrArg some (by kernel_rfl))⟩
  f14 := ⟨Try.f39.name, by decide, Try.func39.trans (congrArg some (by kernel_rfl))⟩
  f15 := Try.func40.trans (congrArg some (by kernel_rfl))
  f20 := ⟨Try.f43.name, by decide, Try.func43.trans (congrArg some (by kernel_rfl))⟩
  f21 := ⟨Try.f44.name, by decide, Try.func44.trans (congrArg some (by kernel_rfl))⟩
  f22 := ⟨Try.f45.name, by decide, Try.func45.trans (congrArg some (by kernel_rfl))⟩
  f23 := ⟨Try.f46.name, by decide, Try.func46.trans (congrArg some (by kernel_rfl))⟩
  f24 := ⟨Try.f47.name, by decide, Try.func47.trans (congrArg some (by kernel_rfl))⟩
  f25 := ⟨Try.f48.name, by decide, Try.func48.trans (congrArg some (by kernel_rfl))⟩
  f26 := ⟨Try.f49.name, by decide, Try.func49.trans (congrArg some (by kernel_rfl))⟩
  f27 := ⟨Try.f50.name, by decide, Try.func50.trans (congrArg some (by kernel_rfl))⟩
  f28 := Try.func51.trans (congrArg some (by kernel_rfl))
  f29 := Try.func52.trans (congrArg some (by kernel_rfl))
  f46 := ⟨Try.f53.name, by decide, Try.func53.trans (congrArg some (by kernel_rfl))⟩
  f47 := Try.func54.trans (congrArg some (by kernel_rfl))
  f48 := Try.func55.trans (congrArg some (by kernel_rfl))
  f49 := ⟨Try.f56.name, by decide, Try.func56.trans (congrArg some (by kernel_rfl))⟩
  f50 := ⟨Try.f57.name, by decide, Try.func57.trans (congrArg some (by kernel_rfl))⟩
  f57 := ⟨Try.f58.name, by decide, Try.func58.trans (congrArg some (by kernel_rfl))⟩
  t0 := Try.underlying0
  a0 := Try.isAgg0
  z0 := Try.sizeOf0
  v0 := Try.zeroValue0
  t3 := Try.underlying3
  a3 := Try.isAgg3
  z3 := Try.sizeOf3
  v3 := Try.zeroValue3
  t4 := Try.underlying4
  a4 := Try.isAgg4
  z4 := Try.sizeOf4
  v4 := Try.zeroValue4
  t5 := Try.underlying5
  a5 := Try.isAgg5
  z5 := Try.sizeOf5
  v5 := Try.zeroValue5
  t9 := Try.underlying9
  a9 := Try.isAgg9
  z9 := Try.sizeOf9
  v9 := Try.zeroValue9
  t22 := Try.underlying29
  a22 := Try.isAgg29
  z22 := Try.sizeOf29
  v22 := Try.zeroValue29
  a24 := Try.isAgg3
  z24 := Try.sizeOf3
  t25 := Try.underlying61
  a25 := Try.isAgg61
  z25 := Try.sizeOf61
  v25 := Try.zeroValue61
  t39 := Try.underlying69
  a39 := Try.isAgg69
  z39 := Try.sizeOf69
  v39 := Try.zeroValue69
  t45 := Try.underlying77
  a45 := Try.isAgg77
  z45 := Try.sizeOf77
  v45 := Try.zeroValue77
  t46 := Try.underlying78
  a46 := Try.isAgg78
  z46 := Try.sizeOf78
  v46 := Try.zeroValue78
  t50 := Try.underlying49
  a50 := Try.isAgg49
  z50 := Try.sizeOf49
  v50 := Try.zeroValue49
  t53 := Try.underlying84
  a53 := Try.isAgg84
  z53 := Try.sizeOf84
  v53 := Try.zeroValue84
  t55 := Try.underlying86
  a55 := Try.isAgg86
  z55 := Try.sizeOf86
  v55 := Try.zeroValue86
  t66 := Try.underlying87
  a66 := Try.isAgg87
  z66 := Try.sizeOf87
  v66 := Try.zeroValue87
  t70 := Try.underlying91
  a70 := Try.isAgg91
  z70 := Try.sizeOf91
  v70 := Try.zeroValue91
  t76 := Try.underlying93
  a76 := Try.isAgg93
  z76 := Try.sizeOf93
  v76 := Try.zeroValue93
  t77 := Try.underlying94
  a77 := Try.isAgg94
  z77 := Try.sizeOf94
  v77 := Try.zeroValue94 }
open Go.RowKit Go.Lib Go.Sort in
theorem Try.slices_SortFunc_total {α : Type} [Inhabited α] (enc : α → Value) (h1 : OneCell enc) (cf : α → α → Int) (hO : SWO (ltOf cf)) (g : Nat) (cb : Array Value) (blk off cap : Nat) (d : Array α) (w : World) (eg : ∀ args w, (callFunc g args).run Try.prog w = .ok (.enter g args) w) (hcmp : CmpLays1 Try.prog g cb enc cf blk off d.size w) (hH : Holds enc w blk off d) (hblk : blk < w.heap.size) (hsz : d.size < 4611686018427387904) (hT : ∀ x y, (ltOf cf) x y = false → (ltOf cf) y x = false → x = y) :
    Calls Try.prog 31 #[.slice (some ⟨blk, off, none⟩) d.size cap, .func (.func g) #[] cb] w fun e w' =>
      e = .returned (.tuple #[]) ∧ ∃ n os, w' = sortWorld enc w blk off n (d.toList.mergeSort fun x y => !(ltOf cf) y x).toArray os := Any.slices_SortFunc_total Try.laysSlF6_f31 enc h1 cf hO g cb blk off cap d w eg hcmp hH hblk hsz hT
end Go.Proofs
namespace Go.Proofs.Ytggaonafmiklaaa
set_option linter.unusedSimpArgs false
set_option linter.unusedVariables false
def ltN (L : List Int) (a b : Nat) : Bool := decide (L.getD a 0 < L.getD b 0) || (decide (L.getD a 0 = L.getD b 0) && decide (a < b))
def leN (L : List Int) (a b : Nat) : Bool := !ltN L b a
def ndsN (L : List Int) (n : Nat) : List Nat := (List.range n).filter fun i => decide (0 ≤ L.getD i 0)
def srtN (L : List Int) : List Nat := (ndsN L L.length).mergeSort (leN L)
theorem ltN_iff {L : List Int} {a b : Nat} : ltN L a b = true ↔ (L.getD a 0 < L.getD b 0 ∨ (L.getD a 0 = L.getD b 0 ∧ a < b)) := by
  unfold ltN; simp
theorem leN_iff {L : List Int} {a b : Nat} : leN L a b = true ↔ ¬ (L.getD b 0 < L.getD a 0 ∨ (L.getD b 0 = L.getD a 0 ∧ b < a)) := by
  unfold leN
  rw [Bool.not_eq_true', ← ltN_iff, Bool.not_eq_true]
theorem mem_nds {L : List Int} {n i : Nat} : i ∈ ndsN L n ↔ i < n ∧ 0 ≤ L.getD i 0 := by
  unfold ndsN; simp
theorem nds_nodup (L : List Int) (n : Nat) : (ndsN L n).Nodup := List.Pairwise.filter _ List.nodup_range
theorem nds_succ (L : List Int) (n : Nat) : ndsN L (n + 1) = ndsN L n ++ (if 0 ≤ L.getD n 0 then [n] else []) := by
  unfold ndsN
  rw [List.range_succ, List.filter_append]
  congr 1
  by_cases h : 0 ≤ L.getD n 0
  · rw [if_pos h, List.filter_cons, if_pos (decide_eq_true h)]; rfl
  · rw [if_neg h, List.filter_cons, if_neg (by simpa using h)]; rfl
theorem nds_len (L : List Int) (n : Nat) : (ndsN L n).length ≤ n := by
  have := List.length_filter_le (fun i => decide (0 ≤ L.getD i 0)) (List.range n)
  unfold ndsN; simpa using this
theorem srt_perm (L : List Int) : (srtN L).Perm (ndsN L L.length) := List.mergeSort_perm _ _
theorem srt_mem {L : List Int} {i : Nat} : i ∈ srtN L ↔ i < L.length ∧ 0 ≤ L.getD i 0 := by rw [(srt_perm L).mem_iff, mem_nds]
theorem srt_nodup (L : List Int) : (srtN L).Nodup := (srt_perm L).nodup_iff.2 (nds_nodup L _)
theorem srt_len (L : List Int) : (srtN L).length ≤ L.length := by rw [(srt_perm L).length_eq]; exact nds_len L _
theorem srt_le (L : List Int) : (srtN L).Pairwise fun a b => leN L a b = true :=
  List.pairwise_mergeSort (le := leN L) (fun a b c h1 h2 => by rw [leN_iff] at *; omega) (fun a b => by
    rw [Bool.or_eq_true, leN_iff, leN_iff]; omega) _
def plF (L : List Int) (i : Nat) : Int := if i ∈ srtN L then ((srtN L).idxOf i : Nat) else -1
theorem plF_yes {L : List Int} {i : Nat} (h : i ∈ srtN L) : plF L i = ((srtN L).idxOf i : Nat) := if_pos h
theorem plF_no {L : List Int} {i : Nat} (h : ¬ i ∈ srtN L) : plF L i = -1 := if_neg h
theorem plF_neg {L : List Int} {i : Nat} (hi : i < L.length) : plF L i < 0 ↔ L.getD i 0 < 0 := by
  by_cases h : i ∈ srtN L
  · rw [plF_yes h]; have := (srt_mem.1 h).2; omega
  · rw [plF_no h]
    have : ¬ 0 ≤ L.getD i 0 := fun h2 => h (srt_mem.2 ⟨hi, h2⟩)
    omega
theorem plF_lt {L : List Int} {i : Nat} : plF L i < (srtN L).length := by
  by_cases h : i ∈ srtN L
  · rw [plF_yes h]; have := List.idxOf_lt_length_of_mem h; omega
  · rw [plF_no h]; omega
theorem plF_le {L : List Int} {i : Nat} : -1 ≤ plF L i := by
  by_cases h : i ∈ srtN L
  · rw [plF_yes h]; omega
  · rw [plF_no h]; omega
theorem plF_get {L : List Int} {x : Nat} (h : x < (srtN L).length) : plF L ((srtN L)[x]) = x := by
  rw [plF_yes (List.getElem_mem h), (srt_nodup L).idxOf_getElem]
theorem plF_inj {L : List Int} {i k : Nat} (h : plF L i = plF L k) (h0 : 0 ≤ plF L i) : i = k := by
  have hi : i ∈ srtN L := by
    apply Classical.byContradiction; intro hn; rw [plF_no hn] at h0; omega
  have hk : k ∈ srtN L := by
    apply Classical.byContradiction; intro hn; rw [h, plF_no hn] at h0; omega
  rw [plF_yes hi, plF_yes hk] at h
  have h2 : (srtN L).idxOf i = (srtN L).idxOf k := by omega
  have e1 := List.getElem_idxOf (List.idxOf_lt_length_of_mem hi)
  have e2 := List.getElem_idxOf (List.idxOf_lt_length_of_mem hk)
  rw [← e1, ← e2]
  simp only [h2]
theorem plF_ord {L : List Int} {i k : Nat} (hi : i ∈ srtN L) (hk : k ∈ srtN L) : plF L i < plF L k ↔ ltN L i k = true := by
  rw [plF_yes hi, plF_yes hk]
  have l1 := List.idxOf_lt_length_of_mem hi
  have l2 := List.idxOf_lt_length_of_mem hk
  have e1 := List.getElem_idxOf l1
  have e2 := List.getElem_idxOf l2
  have hp := List.pairwise_iff_getElem.1 (srt_le L)
  constructor
  · intro h
    have h2 := hp _ _ l1 l2 (by omega)
    rw [e1, e2, leN_iff] at h2
    rw [ltN_iff]
    have : i ≠ k := by intro e; subst e; omega
    omega
  · intro h
    rcases Nat.lt_trichotomy ((srtN L).idxOf i) ((srtN L).idxOf k) with h2 | h2 | h2
    · omega
    · have : i = k := by rw [← e1, ← e2]; simp only [h2]
      subst this
      rw [ltN_iff] at h; omega
    · have h3 := hp _ _ l2 l1 h2
      rw [e1, e2, leN_iff] at h3
      rw [ltN_iff] at h; omega
theorem plF_top {L : List Int} {r : Nat} (hr : r ∈ srtN L) (h : ∀ k, k ∈ srtN L → k ≠ r → ltN L r k = true) : plF L r = 0 := by
  have l1 := List.idxOf_lt_length_of_mem hr
  have h0 := plF_get (L := L) (x := 0) (by omega)
  by_cases e : (srtN L)[0]'(by omega) = r
  · rw [e] at h0; simpa using h0
  · have h1 := (plF_ord hr (List.getElem_mem _)).2 (h _ (List.getElem_mem _) e)
    rw [h0] at h1
    rw [plF_yes hr] at h1 ⊢
    omega
theorem plF_above {L : List Int} {i k : Nat} (hi : i < L.length) (hk : k < L.length) : (decide (0 ≤ L.getD i 0) && (decide (0 ≤ L.getD k 0) && ltN L i k)) = (decide (0 ≤ plF L i) && (decide (0 ≤ plF L k) && decide (plF L i < plF L k))) := by
  have n1 := plF_neg hi
  have n2 := plF_neg hk
  by_cases h1 : 0 ≤ L.getD i 0
  · by_cases h2 : 0 ≤ L.getD k 0
    · have := plF_ord (srt_mem.2 ⟨hi, h1⟩) (srt_mem.2 ⟨hk, h2⟩)
      rw [decide_eq_true h1, decide_eq_true h2, decide_eq_true (show 0 ≤ plF L i by omega), decide_eq_true (show 0 ≤ plF L k by omega)]
      simp only [Bool.true_and]
      rw [Bool.eq_iff_iff, decide_eq_true_iff]; exact this.symm
    · rw [decide_eq_false h2, decide_eq_false (show ¬ 0 ≤ plF L k by omega)]; simp
  · rw [decide_eq_false h1, decide_eq_false (show ¬ 0 ≤ plF L i by omega)]; simp
def plT (L : List Int) (t : Nat) (i : Nat) : Int := if i ∈ (srtN L).take t then ((srtN L).idxOf i : Nat) else -1
theorem plT_zero (L : List Int) (i : Nat) : plT L 0 i = -1 := by simp [plT]
theorem plT_all (L : List Int) (i : Nat) : plT L (srtN L).length i = plF L i := by unfold plT plF; rw [List.take_length]
theorem plT_succ {L : List Int} {t : Nat} (h : t < (srtN L).length) (i : Nat) : plT L (t + 1) i = if i = (srtN L)[t] then (t : Int) else plT L t i := by
  have hm : i ∈ (srtN L).take (t + 1) ↔ (i ∈ (srtN L).take t ∨ i = (srtN L)[t]) := by
    rw [List.take_succ_eq_append_getElem h, List.mem_append, List.mem_singleton]
  unfold plT
  by_cases e : i = (srtN L)[t]
  · rw [if_pos (hm.2 (.inr e)), if_pos e, e, (srt_nodup L).idxOf_getElem]
  · rw [if_neg e]
    by_cases e2 : i ∈ (srtN L).take t
    · rw [if_pos (hm.2 (.inl e2)), if_pos e2]
    · rw [if_neg (fun h => (hm.1 h).elim e2 e), if_neg e2]
end Go.Proofs.Ytggaonafmiklaaa
namespace Go.Proofs.Ytggaonafmiklaaa
set_option linter.unusedSimpArgs false
set_option linter.unusedVariables false
open Go.RowKit Go.Sort
set_option maxRecDepth 20000

section
variable {α : Type} [Inhabited α] {B : Nat} {R : RO} {ι : IM} {h : LH} {w : World}
theorem sort_heap (enc : α → Value) (b o n : Nat) (d : Array α) (os : Array Obj) (x : Nat) (hx : x < w.heap.size) :
    (sortWorld enc w b o n d os).heap[x]? = if x = b then (w.heap[x]?).map (onCells (putCells enc o d)) else w.heap[x]? := by
  show ((w.heap.modify b (onCells (putCells enc o d))) ++ os)[x]? = _
  rw [Array.getElem?_append_left (by simpa using hx), Array.getElem?_modify]
  by_cases e : b = x
  · rw [if_pos e, if_pos e.symm]
  · rw [if_neg e, if_neg (fun h => e h.symm)]
theorem sort_size (enc : α → Value) (b o n : Nat) (d : Array α) (os : Array Obj) : w.heap.size ≤ (sortWorld enc w b o n d os).heap.size := by
  show _ ≤ ((w.heap.modify b (onCells (putCells enc o d))) ++ os).size
  rw [Array.size_append, Array.size_modify]; omega
theorem put_size (enc : α → Value) (o : Nat) (d : Array α) (c : Array Value) : (putCells enc o d c).size = c.size := by
  unfold putCells; exact Array.size_mapIdx
theorem put_get (enc : α → Value) (o : Nat) (d : Array α) (c : Array Value) (j : Nat) (hj : j < c.size) : (putCells enc o d c)[j]? = some (if o ≤ j ∧ j < o + d.size then enc d[j - o]! else c[j]) := by
  unfold putCells
  rw [Array.getElem?_mapIdx, Array.getElem?_eq_getElem hj]; rfl
theorem sort_trans (enc : α → Value) (g : α → Int) (henc : ∀ x, enc x = .int .i64 (g x)) (hr : Rep R ι h B w) (hB : B ≤ w.heap.size) {k ver : Nat} (hk : k < h.n) {xs : List Int} (hob : h.f k = (ver, .ints xs)) (hne : xs ≠ [])
    (d : Array α) (hs : d.size = xs.length) (n : Nat) (os : Array Obj) :
    Trans B R ι h w R ι (h.set k (ver, .ints (d.toList.map g))) (sortWorld enc w (ι k).b (ι k).o n d os) := by
  have hl : (h.f k).2.live = true := by rw [hob]; rfl
  have hm : (h.f k).2.isMap = false := by rw [hob]; rfl
  have hsz : (h.f k).2.size = xs.length := by rw [hob]; rfl
  have hpos : 0 < xs.length := List.length_pos_iff.2 hne
  have hm0 : (ι k).m ≠ 0 := fun e => by
    have := hr.empty k hk hl hm e
    omega
  obtain ⟨cl, e, hw, hcs, hle, hpl, hcl⟩ := (hr.cells k hk hl hm hm0).ex
  have hbs := (hr.base k hk hl (.inl hm0)).2.1
  have := hr.change hB hk (hdr := Nat.le_add_right _ _) (ver' := ver) (ob' := .ints (d.toList.map g)) (x' := ι k) (w' := sortWorld enc w (ι k).b (ι k).o n d os) hl (by rw [hob]; exact Nat.le_refl _) (fun _ => rfl) rfl rfl hm
    rfl rfl rfl (sort_size enc _ _ n d os) (fun b hb hne => by rw [sort_heap _ _ _ _ _ _ _ hb, if_neg hne]) (.inl ⟨rfl, hm0⟩)
    (fun mono _ => ⟨putCells enc (ι k).o d cl, e, by
      rw [sort_heap _ _ _ _ _ _ _ hbs, if_pos rfl, hw]; rfl, by rw [put_size]; exact hcs, by
      show (d.toList.map g).length ≤ _
      rw [List.length_map, Array.length_toList, hs, ← hsz]; exact hle, fun j hj => by
      rw [put_size] at hj
      rw [Array.getD_eq_getD_getElem?, put_get _ _ _ _ _ hj, Option.getD_some]
      split
      · rw [henc]; rfl
      · have := hpl j hj
        rw [Array.getD_eq_getD_getElem?, Array.getElem?_eq_getElem hj] at this
        exact this, fun i c' lv hx => by
      have hx2 : (if c' = 0 then ((d.toList.map g)[i]?).map fun x => LV.sc (.int .i64 x) else none) = some lv := hx
      split at hx2
      · rename_i hc0
        subst hc0
        obtain ⟨y, hy, hy2⟩ := Option.map_eq_some_iff.1 hx2
        subst hy2
        have hi : i < d.size := by
          have := (List.getElem?_eq_some_iff.1 hy).1
          simpa using this
        have hi2 : (ι k).o + (i * 1 + 0) < cl.size := by rw [hsz] at hle; omega
        refine ⟨.int .i64 y, ?_, .ro (.sc _ rfl)⟩
        show (putCells enc (ι k).o d cl)[(ι k).o + (i * 1 + 0)]? = _
        rw [put_get _ _ _ _ _ hi2, if_pos ⟨by omega, by omega⟩, henc]
        rw [show (ι k).o + (i * 1 + 0) - (ι k).o = i by omega, getElem!_pos d i hi]
        rw [List.getElem?_map, Array.getElem?_toList, Array.getElem?_eq_getElem hi] at hy
        simp only [Option.map_some, Option.some.injEq] at hy
        rw [hy]
      · simp at hx2⟩) (fun e => absurd e hm0)
  rw [updI_self] at this
  exact this
theorem sort_holds (enc : α → Value) (g : α → Int) (henc : ∀ x, enc x = .int .i64 (g x)) (hr : Rep R ι h B w) {k ver : Nat} (hk : k < h.n) {d : Array α} (hob : h.f k = (ver, .ints (d.toList.map g))) (hne : 0 < d.size) :
    Holds enc w (ι k).b (ι k).o d ∧ (ι k).b < w.heap.size := by
  have hl : (h.f k).2.live = true := by rw [hob]; rfl
  have hm : (h.f k).2.isMap = false := by rw [hob]; rfl
  have hsz : (h.f k).2.size = d.size := by
    rw [hob]
    show (d.toList.map g).length = _
    rw [List.length_map, Array.length_toList]
  have hm0 : (ι k).m ≠ 0 := fun e => by
    have := hr.empty k hk hl hm e
    omega
  obtain ⟨cl, e, hw, hcs, hle, hpl, hcl⟩ := (hr.cells k hk hl hm hm0).ex
  refine ⟨fun j hj => ⟨?_, by simp [World.frozen?, hw]⟩, (hr.base k hk hl (.inl hm0)).2.1⟩
  obtain ⟨v, hv1, hv2⟩ := hcl j 0 (.sc (.int .i64 (g d[j]))) (by
    rw [hob]
    show (if 0 = 0 then ((d.toList.map g)[j]?).map fun x => LV.sc (.int .i64 x) else none) = _
    rw [if_pos rfl, List.getElem?_map, Array.getElem?_toList, Array.getElem?_eq_getElem hj]; rfl)
  have h1 := hv2.sc_inv.1
  subst h1
  have hz : (h.f k).2.sz = 1 := by rw [hob]; rfl
  rw [hz] at hv1
  simp only [World.cell?, hw]
  rw [getElem!_pos d j hj, henc]
  simpa using hv1
end
theorem grow_of_below {w w' : World} (h : BelowD w.heap.size w w') : ∃ q os', w' = grow (w.drewN q) os' := by
  refine ⟨w'.drawn - w.drawn, w'.heap.extract w.heap.size w'.heap.size, ?_⟩
  have e1 : w'.heap = w.heap ++ w'.heap.extract w.heap.size w'.heap.size := by
    apply Array.ext_getElem?
    intro i
    by_cases hi : i < w.heap.size
    · rw [h.block i hi, Array.getElem?_append_left hi]
    · rw [Array.getElem?_append_right (by omega), Array.getElem?_extract]
      by_cases h2 : i < w'.heap.size
      · rw [if_pos (by have := h.size; omega)]; congr 1; omega
      · rw [Array.getElem?_eq_none (by omega), if_neg (by omega)]
  have e2 : w'.drawn = w.drawn + (w'.drawn - w.drawn) := by have := h.drawn; omega
  have h1 := h.os
  have h2 := h.tape
  have h3 := h.output
  obtain ⟨a1, a2, a3, a4, a5⟩ := w'
  obtain ⟨b1, b2, b3, b4, b5⟩ := w
  simp only at h1 h2 h3 e1 e2
  subst h1; subst h2; subst h3
  unfold grow World.drewN
  simp only [World.mk.injEq]
  exact ⟨e1, trivial, e2, trivial, trivial⟩
end Go.Proofs.Ytggaonafmiklaaa
namespace Go.Proofs.Ytggaonafmiklaaa
set_option linter.unusedSimpArgs false
set_option linter.unusedVariables false
open Go.RowKit Go.Sort
set_option maxRecDepth 20000

def cfN (L : List Int) (x y : Nat) : Int := orI [cmpI (L.getD x 0) (L.getD y 0), cmpI x y]
theorem cmpI_cases (a b : Int) : (a < b ∧ cmpI a b = -1) ∨ (a = b ∧ cmpI a b = 0) ∨ (b < a ∧ cmpI a b = 1) := by
  unfold cmpI
  rcases Int.lt_trichotomy a b with h | h | h
  · exact .inl ⟨h, by rw [decide_eq_true h]; rfl⟩
  · exact .inr (.inl ⟨h, by rw [decide_eq_false (show ¬ a < b by omega), decide_eq_false (show ¬ b < a by omega)]; rfl⟩)
  · exact .inr (.inr ⟨h, by rw [decide_eq_false (show ¬ a < b by omega), decide_eq_true h]; rfl⟩)
theorem cfN_lt (L : List Int) (x y : Nat) : decide (cfN L x y < 0) = ltN L x y := by
  unfold cfN ltN
  generalize L.getD x 0 = a
  generalize L.getD y 0 = b
  rcases cmpI_cases a b with ⟨h, e⟩ | ⟨h, e⟩ | ⟨h, e⟩
  · rw [e, decide_eq_true h]; rfl
  · rw [e, decide_eq_false (show ¬ a < b by omega), decide_eq_true h]
    show decide (orI [cmpI x y] < 0) = decide (x < y)
    rcases cmpI_cases x y with ⟨h, e⟩ | ⟨h, e⟩ | ⟨h, e⟩
    · rw [e, decide_eq_true (show x < y by omega)]; rfl
    · rw [e, decide_eq_false (show ¬ x < y by omega)]; rfl
    · rw [e, decide_eq_false (show ¬ x < y by omega)]; rfl
  · rw [e, decide_eq_false (show ¬ a < b by omega), decide_eq_false (show ¬ a = b by omega)]; rfl
theorem ev_cmpN (L : List Int) (x y : Nat) (hx : x < L.length) (hy : y < L.length) : Ev Try.prog 32 [.sc (.int .i64 (x : Nat)), .sc (.int .i64 (y : Nat)), .rptr [intsV L]] (.sc (.int .i64 (cfN L x y))) := by
  have h1 := fun a b => ev_compare a b
  have h2 := fun l => ev_or l
  unfold intsV at *
  refine ev_fn Try.func32 comp32 (show 3 ≤ Try.f32.ntmps by decide) ?_; unfold cf32 rf32; simp only [↓EVP0, EVQ0, EVQ1, EVQ2, EVQ3, EVQ4, EVA, EVK, EVF, ↓reduceIte, Nat.reduceEqDiff, Nat.reduceAdd, Nat.reduceSub, Nat.reduceMul, Nat.reduceLT, Nat.reduceLeDiff, reduceCtorEq, Int.reduceToNat, Int.reduceLT, Int.reduceLE, Int.reduceAdd, Int.reduceSub, Int.reduceMul, Int.reduceNeg, Int.reduceEq, Nat.reduceMod, forall_eq_or_imp, forall_eq, forall_const, cond_true, cond_false, decide_true, decide_false, true_imp_iff, implies_true, Int.cast_ofNat_Int, forall_eq']
  refine ⟨⟨by omega, by omega⟩, ⟨by omega, by omega⟩, ?_⟩
  first | refine qCallK_ro (h1 _ _) ?_ ?_ | refine eCallK_ro (h1 _ _) ?_ ?_
  · simp only [↓EVP0, EVQ0, EVQ1, EVQ2, EVQ3, EVQ4, EVA, EVK, EVF, ↓reduceIte, Nat.reduceEqDiff, Nat.reduceAdd, Nat.reduceSub, Nat.reduceMul, Nat.reduceLT, Nat.reduceLeDiff, reduceCtorEq, Int.reduceToNat, Int.reduceLT, Int.reduceLE, Int.reduceAdd, Int.reduceSub, Int.reduceMul, Int.reduceNeg, Int.reduceEq, Nat.reduceMod, forall_eq_or_imp, forall_eq, forall_const, cond_true, cond_false, decide_true, decide_false, true_imp_iff, implies_true, Int.cast_ofNat_Int, forall_eq']
  simp only [↓EVP0, EVQ0, EVQ1, EVQ2, EVQ3, EVQ4, EVA, EVK, EVF, ↓reduceIte, Nat.reduceEqDiff, Nat.reduceAdd, Nat.reduceSub, Nat.reduceMul, Nat.reduceLT, Nat.reduceLeDiff, reduceCtorEq, Int.reduceToNat, Int.reduceLT, Int.reduceLE, Int.reduceAdd, Int.reduceSub, Int.reduceMul, Int.reduceNeg, Int.reduceEq, Nat.reduceMod, forall_eq_or_imp, forall_eq, forall_const, cond_true, cond_false, decide_true, decide_false, true_imp_iff, implies_true, Int.cast_ofNat_Int, forall_eq']
  first | refine qCallK_ro (h1 _ _) ?_ ?_ | refine eCallK_ro (h1 _ _) ?_ ?_
  · simp only [↓EVP0, EVQ0, EVQ1, EVQ2, EVQ3, EVQ4, EVA, EVK, EVF, ↓reduceIte, Nat.reduceEqDiff, Nat.reduceAdd, Nat.reduceSub, Nat.reduceMul, Nat.reduceLT, Nat.reduceLeDiff, reduceCtorEq, Int.reduceToNat, Int.reduceLT, Int.reduceLE, Int.reduceAdd, Int.reduceSub, Int.reduceMul, Int.reduceNeg, Int.reduceEq, Nat.reduceMod, forall_eq_or_imp, forall_eq, forall_const, cond_true, cond_false, decide_true, decide_false, true_imp_iff, implies_true, Int.cast_ofNat_Int, forall_eq']
  simp only [↓EVP0, EVQ0, EVQ1, EVQ2, EVQ3, EVQ4, EVA, EVK, EVF, ↓reduceIte, Nat.reduceEqDiff, Nat.reduceAdd, Nat.reduceSub, Nat.reduceMul, Nat.reduceLT, Nat.reduceLeDiff, reduceCtorEq, Int.reduceToNat, Int.reduceLT, Int.reduceLE, Int.reduceAdd, Int.reduceSub, Int.reduceMul, Int.reduceNeg, Int.reduceEq, Nat.reduceMod, forall_eq_or_imp, forall_eq, forall_const, cond_true, cond_false, decide_true, decide_false, true_imp_iff, implies_true, Int.cast_ofNat_Int, forall_eq']
  refine ⟨intsF [cmpI (L.getD x 0) (L.getD y 0), cmpI x y], fun i hi => ?_, qCallK_ro (ev_or [cmpI (L.getD x 0) (L.getD y 0), cmpI x y]) ?_ ?_⟩
  · obtain rfl | rfl : i = 0 ∨ i = 1 := by omega
    · rfl
    · rfl
  · simp only [↓EVP0, EVQ0, EVQ1, EVQ2, EVQ3, EVQ4, EVA, EVK, EVF, ↓reduceIte, Nat.reduceEqDiff, Nat.reduceAdd, Nat.reduceSub, Nat.reduceMul, Nat.reduceLT, Nat.reduceLeDiff, reduceCtorEq, Int.reduceToNat, Int.reduceLT, Int.reduceLE, Int.reduceAdd, Int.reduceSub, Int.reduceMul, Int.reduceNeg, Int.reduceEq, Nat.reduceMod, forall_eq_or_imp, forall_eq, forall_const, cond_true, cond_false, decide_true, decide_false, true_imp_iff, implies_true, Int.cast_ofNat_Int, forall_eq']
  simp only [↓EVP0, EVQ0, EVQ1, EVQ2, EVQ3, EVQ4, EVA, EVK, EVF, ↓reduceIte, Nat.reduceEqDiff, Nat.reduceAdd, Nat.reduceSub, Nat.reduceMul, Nat.reduceLT, Nat.reduceLeDiff, reduceCtorEq, Int.reduceToNat, Int.reduceLT, Int.reduceLE, Int.reduceAdd, Int.reduceSub, Int.reduceMul, Int.reduceNeg, Int.reduceEq, Nat.reduceMod, forall_eq_or_imp, forall_eq, forall_const, cond_true, cond_false, decide_true, decide_false, true_imp_iff, implies_true, Int.cast_ofNat_Int, forall_eq']
  rfl
theorem sc_invQ {R : RO} {a v : Value} (h : Ro R (.sc a) v) : v = a := by cases h; rfl
theorem swo_ltN (L : List Int) : ∀ {n : Nat}, SWO (ltOf fun x y : Fin n => cfN L x.1 y.1) := by
  intro n
  have e : ∀ x y : Fin n, (ltOf fun x y : Fin n => cfN L x.1 y.1) x y = ltN L x.1 y.1 := fun x y => cfN_lt L x.1 y.1
  refine ⟨fun x => ?_, fun x y z h1 h2 => ?_, fun x y z h1 h2 => ?_⟩
  · rw [e, ← Bool.not_eq_true, ltN_iff]; omega
  · rw [e, ltN_iff] at *; omega
  · rw [e, ← Bool.not_eq_true, ltN_iff] at *; omega
def encF (n : Nat) (x : Fin n) : Value := .int .i64 (x.1 : Int)
theorem lc_sortN (L : List Int) {h : LH} {k ver kb vb : Nat} (xs : List Nat) (hx : ∀ x, x ∈ xs → x < L.length) (hne : xs ≠ []) (hlen : xs.length < 4611686018427387904)
    (hk : k < h.n) (hob : h.f k = (ver, .ints (xs.map fun x : Nat => (x : Int)))) (hkb : kb < h.n) (hbx : h.f kb = (vb, .box [intsV L])) (hkk : kb ≠ k) :
    LCall Try.prog 31 [.sl k ver 1 0 xs.length, .fn 32 [.ptr kb vb 0 0 0]] h (.tup []) (h.set k (ver, .ints ((xs.mergeSort (leN L)).map fun x : Nat => (x : Int)))) := by
  intro B R ι w ⟨vs⟩ hB hr hsz hargs
  match vs, hsz with
  | [v0, v1], _ =>
    have hlp : 0 < xs.length := List.length_pos_iff.2 hne
    obtain ⟨a, cap, e0, _, _, hlc, hm, hz⟩ := (hargs 0 _ rfl).sl_inv
    obtain ⟨cs, e1, hc1, hcv⟩ := (hargs 1 _ rfl).fn_inv
    change v0 = _ at e0
    change v1 = _ at e1
    subst e0; subst e1
    have hver : ver = (h.f k).1 := by rw [hob]
    obtain ⟨ha, _⟩ := (hz.resolve_left (by omega)) hver
    simp only [Nat.zero_mul, Nat.add_zero] at ha
    subst ha
    haveI : Inhabited (Fin L.length) := ⟨⟨xs.head hne, hx _ (List.head_mem hne)⟩⟩
    let d : Array (Fin L.length) := (xs.pmap (fun x hx => (⟨x, hx⟩ : Fin L.length)) hx).toArray
    have hds : d.size = xs.length := by simp [d]
    have hdl : d.toList.map (fun x => x.1) = xs := by simp [d, List.map_pmap]
    have hdi : d.toList.map (fun x => (x.1 : Int)) = xs.map fun x : Nat => (x : Int) := by rw [← hdl, List.map_map]; rfl
    have hob2 : h.f k = (ver, .ints (d.toList.map (fun x => (x.1 : Int)))) := by rw [hdi]; exact hob
    obtain ⟨hH, hblk⟩ := sort_holds (encF L.length) (fun x => (x.1 : Int)) (fun _ => rfl) hr hk hob2 (by omega)
    -- what stands beside the row while it is sorted
    let R' : RO := fun b => if b = (ι k).b then none else w.heap[b]?
    have hkl : (h.f k).2.live = true := by rw [hob]; rfl
    have hkm : (ι k).m ≠ 0 := fun e => by
      have := hr.empty k hk hkl (by rw [hob]; rfl) e
      rw [hob] at this
      change (xs.map fun x : Nat => (x : Int)).length = 0 at this
      rw [List.length_map] at this; omega
    have hRk := (hr.base k hk hkl (.inl hkm)).2.2
    have hle : RoLe R R' := by
      intro b o hb
      show (if b = (ι k).b then none else w.heap[b]?) = some o
      rw [if_neg (fun e => by rw [e, hRk] at hb; simp at hb)]
      exact hr.ro b o hb
    have hcap : Ro R' (.rptr [intsV L]) (cs.getD 0 undef) := by
      refine roTo2_okD (D := [kb]) hr hle (fun j hj hjn hjl hjm => ?_) (hcv 0 _ rfl) ?_ ?_
      · obtain rfl : j = kb := by simpa using hj
        show (if (ι j).b = (ι k).b then none else w.heap[(ι j).b]?) = _
        rw [if_neg (fun e => hkk (hr.apart j k hjn hk hjl hkl hjm (.inl hkm) e))]
      · exact roTo2_cell hkb hbx
      · refine ⟨by simp, ?_⟩
        rw [hbx]
        exact ⟨trivial, trivial⟩
    have hcs : (⟨[.slice (some ⟨(ι k).b, (ι k).o, none⟩) xs.length cap, .func (.func 32) #[] cs]⟩ : Array Value) = #[.slice (some ⟨(ι k).b, (ι k).o, none⟩) d.size cap, .func (.func 32) #[] cs] := by rw [hds]
    rw [hcs]
    have hcmp : CmpLays1 Try.prog 32 cs (encF L.length) (fun x y => cfN L x.1 y.1) (ι k).b (ι k).o d.size w := by
      intro m os dk hdk x y
      have hRw : ∀ b o, R' b = some o → (sortWorld (encF L.length) w (ι k).b (ι k).o m dk os).heap[b]? = some o := by
        intro b o hb
        have hb2 : (if b = (ι k).b then none else w.heap[b]?) = some o := hb
        by_cases e : b = (ι k).b
        · rw [if_pos e] at hb2; simp at hb2
        · rw [if_neg e] at hb2
          rw [sort_heap _ _ _ _ _ _ _ (Array.getElem?_eq_some_iff.1 hb2).1, if_neg e]; exact hb2
      have hc0 : cs = #[cs.getD 0 undef] := by
        match cs, hc1 with
        | ⟨[c]⟩, _ => rfl
      have := ev_cmpN L x.1 y.1 x.2 y.2 R' (sortWorld (encF L.length) w (ι k).b (ι k).o m dk os) (#[encF L.length x, encF L.length y] ++ cs) hRw (hr.gl.mono hle) (by rw [Array.size_append, hc1]; rfl) (fun i a hi => by
        rw [hc0]
        match i, hi with
        | 0, hi => simp at hi; subst hi; exact .sc _ rfl
        | 1, hi => simp at hi; subst hi; exact .sc _ rfl
        | 2, hi => simp at hi; subst hi; exact hcap
        | i + 3, hi => simp at hi)
      refine this.mono ?_
      rintro e w' ⟨v, R2, rfl, _, _, _, hbel, hv⟩
      have hv2 := sc_invQ hv
      subst hv2
      exact ⟨rfl, grow_of_below hbel⟩
    have eg : ∀ args w, (callFunc 32 args).run Try.prog w = .ok (.enter 32 args) w := enters_of Try.func32 (by kernel_rfl) rfl
    refine (Try.slices_SortFunc_total (encF L.length) (fun _ => rfl) (fun x y => cfN L x.1 y.1) (swo_ltN L) 32 cs (ι k).b (ι k).o cap d w eg hcmp hH hblk (by omega) (fun x y h1 h2 => ?_)).mono ?_
    · have f1 : ltN L x.1 y.1 = false := by rw [← cfN_lt]; exact h1
      have f2 : ltN L y.1 x.1 = false := by rw [← cfN_lt]; exact h2
      rw [← Bool.not_eq_true, ltN_iff] at f1 f2
      exact Fin.ext (by omega)
    · rintro e w' ⟨rfl, n, os, rfl⟩
      have hms : (d.toList.mergeSort fun x y => !(ltOf fun x y : Fin L.length => cfN L x.1 y.1) y x).map (fun x => (x.1 : Int)) = (xs.mergeSort (leN L)).map fun x : Nat => (x : Int) := by
        have h1 := List.map_mergeSort (r := fun x y : Fin L.length => !(ltOf fun x y : Fin L.length => cfN L x.1 y.1) y x) (s := leN L) (f := fun x : Fin L.length => x.1) (l := d.toList) (fun a _ b _ => by
          show (!(decide (cfN L b.1 a.1 < 0))) = leN L a.1 b.1
          rw [cfN_lt]; rfl)
        rw [hdl] at h1
        rw [← h1, List.map_map]; rfl
      have hT := sort_trans (encF L.length) (fun x => (x.1 : Int)) (fun _ => rfl) hr hB hk hob (by simpa using hne) (d.toList.mergeSort fun x y => !(ltOf fun x y : Fin L.length => cfN L x.1 y.1) y x).toArray (by rw [List.size_toArray, List.length_mergeSort, Array.length_toList, hds, List.length_map]) n os
      rw [show (List.toArray (d.toList.mergeSort fun x y => !(ltOf fun x y : Fin L.length => cfN L x.1 y.1) y x)).toList = d.toList.mergeSort fun x y => !(ltOf fun x y : Fin L.length => cfN L x.1 y.1) y x from rfl, hms] at hT
      exact ⟨_, R, ι, rfl, hT, .tup _ _ rfl fun i c hi => by simp at hi⟩
end Go.Proofs.Ytggaonafmiklaaa
namespace Go.Proofs.Ytggaonafmiklaaa
set_option linter.unusedSimpArgs false
set_option linter.unusedVariables false
open Go.RowKit Go.Sort
set_option maxRecDepth 20000

def toI (xs : List Nat) : List Int := xs.map fun x : Nat => (x : Int)
theorem toI_len (xs : List Nat) : (toI xs).length = xs.length := List.length_map _
theorem toI_app (xs ys : List Nat) : toI (xs ++ ys) = toI xs ++ toI ys := List.map_append
theorem toI_get {xs : List Nat} {i : Nat} (h : i < xs.length) : (toI xs).getD i 0 = (xs[i] : Nat) := by
  unfold toI
  rw [List.getD_eq_getElem?_getD, List.getElem?_map, List.getElem?_eq_getElem h]; rfl
def plA (n k : Nat) : List Int := List.replicate k (-1) ++ List.replicate (n - k) 0
theorem plA_len {n k : Nat} (h : k ≤ n) : (plA n k).length = n := by unfold plA; rw [List.length_append, List.length_replicate, List.length_replicate]; omega
theorem plA_zero (n : Nat) : plA n 0 = List.replicate n 0 := rfl
theorem plA_all (n : Nat) : plA n n = List.replicate n (-1) := by unfold plA; rw [Nat.sub_self]; simp
theorem plA_set {n k : Nat} (h : k < n) : (plA n k).set k (-1) = plA n (k + 1) := by
  apply List.ext_getElem?
  intro i
  have hl := plA_len (n := n) (k := k) (by omega)
  unfold plA at *
  rw [List.getElem?_set, hl]
  by_cases e : k = i
  · subst e
    rw [if_pos rfl, if_pos h, List.getElem?_append_left (by simp), List.getElem?_replicate, if_pos (by omega)]
  · rw [if_neg e]
    by_cases h1 : i < k
    · rw [List.getElem?_append_left (by simpa using h1), List.getElem?_append_left (by simp; omega), List.getElem?_replicate, List.getElem?_replicate, if_pos h1, if_pos (by omega)]
    · rw [List.getElem?_append_right (by simp; omega), List.getElem?_append_right (by simp; omega), List.getElem?_replicate, List.getElem?_replicate, List.length_replicate, List.length_replicate]
      by_cases h2 : i < n
      · rw [if_pos (by omega), if_pos (by omega)]
      · rw [if_neg (by omega), if_neg (by omega)]
def plB (L : List Int) (t : Nat) : List Int := (List.range L.length).map (plT L t)
theorem plB_len (L : List Int) (t : Nat) : (plB L t).length = L.length := by simp [plB]
theorem plB_zero (L : List Int) : plB L 0 = List.replicate L.length (-1) := by
  unfold plB
  rw [show (plT L 0) = fun _ => -1 from funext fun i => plT_zero L i]
  rw [List.map_const', List.length_range]
theorem plB_set {L : List Int} {t : Nat} (h : t < (srtN L).length) : (plB L t).set ((srtN L)[t]) (t : Int) = plB L (t + 1) := by
  apply List.ext_getElem?
  intro i
  rw [List.getElem?_set]
  have hs : (srtN L)[t] < L.length := (srt_mem.1 (List.getElem_mem h)).1
  unfold plB
  simp only [List.getElem?_map]
  by_cases hi : i < L.length
  · rw [List.getElem?_range hi]
    simp only [Option.map_some]
    by_cases e : (srtN L)[t] = i
    · rw [if_pos e, if_pos (by simp; omega), plT_succ h, if_pos e.symm]
    · rw [if_neg e, plT_succ h, if_neg (fun h2 => e h2.symm)]
  · rw [List.getElem?_eq_none (by simp; omega)]
    rw [if_neg (by omega)]; rfl
def plcL (L : List Int) : List Int := (List.range L.length).map (plF L)
theorem plB_all (L : List Int) : plB L (srtN L).length = plcL L := by
  unfold plB plcL
  rw [show plT L (srtN L).length = plF L from funext fun i => plT_all L i]
theorem ev_places (L : List Int) (hL : L.length ≤ 1000) (hne : ndsN L L.length ≠ []) : Ev Try.prog 23 [.agg [intsV L]] (intsV (plcL L)) := by
  unfold intsV
  refine ev_fn Try.func23 comp23 (show 1 ≤ Try.f23.ntmps by decide) ?_; unfold cf23 rf23; simp only [↓EVP0, EVQ0, EVQ1, EVQ2, EVQ3, EVQ4, EVA, EVK, EVF, ↓reduceIte, Nat.reduceEqDiff, Nat.reduceAdd, Nat.reduceSub, Nat.reduceMul, Nat.reduceLT, Nat.reduceLeDiff, reduceCtorEq, Int.reduceToNat, Int.reduceLT, Int.reduceLE, Int.reduceAdd, Int.reduceSub, Int.reduceMul, Int.reduceNeg, Int.reduceEq, Nat.reduceMod, forall_eq_or_imp, forall_eq, forall_const, cond_true, cond_false, decide_true, decide_false, true_imp_iff, implies_true, Int.cast_ofNat_Int, forall_eq']
  intro _
  refine ⟨by unfold mksC; omega, fun _ => ?_⟩
  refine lwp_for (α := Unit) L.length (fun _ _ => True) (fun k _ => [(1, .ptr 0 0 0 0 0), (3, .sl 1 0 1 0 L.length), (4, if ndsN L k = [] then .nsl else .sl 3 ((ndsN L k).length - 1) 1 0 (ndsN L k).length), (14, .rsl 1 L.length (intsF L)), (15, .sc (.int .i64 L.length)), (16, .sc (.int .i64 k))])
    (fun k _ => if ndsN L k = [] then [(0, .box [.rsl 1 L.length (intsF L)]), (0, .ints (plA L.length k))] else [(0, .box [.rsl 1 L.length (intsF L)]), (0, .ints (plA L.length k)), (0, .ints [(toI (ndsN L k)).getD 0 0]), ((ndsN L k).length - 1, .ints (toI (ndsN L k)))]) () trivial ?_ (fun _ _ => Nat.zero_le _) ?_
  · rw [show ndsN L 0 = [] from rfl, plA_zero]
    simp only [if_true]
    simp only [↓EVP0, EVQ0, EVQ1, EVQ2, EVQ3, EVQ4, EVA, EVK, EVF, ↓reduceIte, Nat.reduceEqDiff, Nat.reduceAdd, Nat.reduceSub, Nat.reduceMul, Nat.reduceLT, Nat.reduceLeDiff, reduceCtorEq, Int.reduceToNat, Int.reduceLT, Int.reduceLE, Int.reduceAdd, Int.reduceSub, Int.reduceMul, Int.reduceNeg, Int.reduceEq, Nat.reduceMod, forall_eq_or_imp, forall_eq, forall_const, cond_true, cond_false, decide_true, decide_false, true_imp_iff, implies_true, Int.cast_ofNat_Int, forall_eq']
  intro k _ hk _
  have hps := nds_succ L k
  have hple := nds_len L k
  have hpa := plA_len (n := L.length) (k := k) hk
  by_cases hq : ndsN L k = []
  · by_cases hdk : 0 ≤ L.getD k 0
    · have hp1 : ndsN L (k + 1) = [k] := by rw [hps, if_pos hdk, hq]; rfl
      simp only [hp1, hq, List.cons_ne_nil, if_true, if_false]
      unfold lb23_1
      simp only [↓EVP0, EVQ0, EVQ1, EVQ2, EVQ3, EVQ4, EVA, EVK, EVF, ↓reduceIte, Nat.reduceEqDiff, Nat.reduceAdd, Nat.reduceSub, Nat.reduceMul, Nat.reduceLT, Nat.reduceLeDiff, reduceCtorEq, Int.reduceToNat, Int.reduceLT, Int.reduceLE, Int.reduceAdd, Int.reduceSub, Int.reduceMul, Int.reduceNeg, Int.reduceEq, Nat.reduceMod, forall_eq_or_imp, forall_eq, forall_const, cond_true, cond_false, decide_true, decide_false, true_imp_iff, implies_true, Int.cast_ofNat_Int, forall_eq']
      refine ⟨fun hg => ?_, fun hg => ?_⟩
      · have hk2 : k < L.length := by have := of_decide_eq_true hg; omega
        rw [hpa]
        refine ⟨⟨by omega, by omega⟩, ⟨by omega, by omega⟩, hk2, fun _ => ?_, fun h => absurd hdk (of_decide_eq_false h)⟩
        exact ⟨by unfold appRoom; omega, by unfold In64; omega, hk2, (), plA_set hk2, rfl, rfl⟩
      · have hkk : k = L.length := by have := of_decide_eq_false hg; omega
        subst hkk
        exact absurd hq hne
    · have hp1 : ndsN L (k + 1) = [] := by rw [hps, if_neg hdk, hq]; rfl
      simp only [hp1, hq, if_true]
      unfold lb23_1
      simp only [↓EVP0, EVQ0, EVQ1, EVQ2, EVQ3, EVQ4, EVA, EVK, EVF, ↓reduceIte, Nat.reduceEqDiff, Nat.reduceAdd, Nat.reduceSub, Nat.reduceMul, Nat.reduceLT, Nat.reduceLeDiff, reduceCtorEq, Int.reduceToNat, Int.reduceLT, Int.reduceLE, Int.reduceAdd, Int.reduceSub, Int.reduceMul, Int.reduceNeg, Int.reduceEq, Nat.reduceMod, forall_eq_or_imp, forall_eq, forall_const, cond_true, cond_false, decide_true, decide_false, true_imp_iff, implies_true, Int.cast_ofNat_Int, forall_eq']
      refine ⟨fun hg => ?_, fun hg => ?_⟩
      · have hk2 : k < L.length := by have := of_decide_eq_true hg; omega
        rw [hpa]
        refine ⟨⟨by omega, by omega⟩, ⟨by omega, by omega⟩, hk2, fun h => absurd (of_decide_eq_true h) hdk, fun _ => ?_⟩
        exact ⟨by unfold In64; omega, hk2, (), plA_set hk2⟩
      · have hkk : k = L.length := by have := of_decide_eq_false hg; omega
        subst hkk
        exact absurd hq hne
  · by_cases hdk : 0 ≤ L.getD k 0
    · have hp1 : ndsN L (k + 1) = ndsN L k ++ [k] := by rw [hps, if_pos hdk]
      simp only [hp1, hq, List.append_eq_nil_iff, List.cons_ne_nil, and_false, if_false]
      unfold lb23_1
      simp only [↓EVP0, EVQ0, EVQ1, EVQ2, EVQ3, EVQ4, EVA, EVK, EVF, ↓reduceIte, Nat.reduceEqDiff, Nat.reduceAdd, Nat.reduceSub, Nat.reduceMul, Nat.reduceLT, Nat.reduceLeDiff, reduceCtorEq, Int.reduceToNat, Int.reduceLT, Int.reduceLE, Int.reduceAdd, Int.reduceSub, Int.reduceMul, Int.reduceNeg, Int.reduceEq, Nat.reduceMod, forall_eq_or_imp, forall_eq, forall_const, cond_true, cond_false, decide_true, decide_false, true_imp_iff, implies_true, Int.cast_ofNat_Int, forall_eq']
      refine ⟨fun hg => ?_, fun hg => ?_⟩
      · have hk2 : k < L.length := by have := of_decide_eq_true hg; omega
        rw [hpa]
        refine ⟨⟨by omega, by omega⟩, ⟨by omega, by omega⟩, hk2, fun _ => ?_, fun h => absurd hdk (of_decide_eq_false h)⟩
        have hl0 : 0 < (ndsN L k).length := List.length_pos_iff.2 hq
        have hl1 : (ndsN L k ++ [k]).length = (ndsN L k).length + 1 := by simp
        have hg0 : (toI (ndsN L k ++ [k])).getD 0 0 = (toI (ndsN L k)).getD 0 0 := by
          rw [toI_app, List.getD_eq_getElem?_getD, List.getElem?_append_left (by rw [toI_len]; exact hl0), ← List.getD_eq_getElem?_getD]
        rw [hl1, hg0, List.take_of_length_le (by rw [toI_len]; exact Nat.le_refl _), show (ndsN L k).length - 1 + 1 = (ndsN L k).length + 1 - 1 by omega]
        exact ⟨by rw [toI_len]; exact Nat.le_refl _, by unfold appRoom; omega, by unfold In64; omega, hk2, (), rfl, plA_set hk2, rfl, rfl, by rw [toI_app]; rfl⟩
      · have hkk : k = L.length := by have := of_decide_eq_false hg; omega
        subst hkk
        clear hp1 hps
        have hlc := lc_sortN L (h := mkH [(0, .box [.rsl 1 L.length (intsF L)]), (0, .ints (plA L.length L.length)), (0, .ints [(toI (ndsN L L.length)).getD 0 0]), ((ndsN L L.length).length - 1, .ints (toI (ndsN L L.length)))]) (k := 3) (ver := (ndsN L L.length).length - 1) (kb := 0) (vb := 0) (ndsN L L.length) (fun x hx => (mem_nds.1 hx).1) hq (by omega) (by simp [mkH]) rfl (by simp [mkH]) rfl (by decide)
        refine callK_mut hlc ?_
        simp only [↓EVP0, EVQ0, EVQ1, EVQ2, EVQ3, EVQ4, EVA, EVK, EVF, ↓reduceIte, Nat.reduceEqDiff, Nat.reduceAdd, Nat.reduceSub, Nat.reduceMul, Nat.reduceLT, Nat.reduceLeDiff, reduceCtorEq, Int.reduceToNat, Int.reduceLT, Int.reduceLE, Int.reduceAdd, Int.reduceSub, Int.reduceMul, Int.reduceNeg, Int.reduceEq, Nat.reduceMod, forall_eq_or_imp, forall_eq, forall_const, cond_true, cond_false, decide_true, decide_false, true_imp_iff, implies_true, Int.cast_ofNat_Int, forall_eq']
        intro _
        have hm := (srt_perm L).length_eq
        have hml := srt_len L
        rw [← hm, plA_all, ← plB_zero]
        refine lwp_for (α := Unit) (srtN L).length (fun _ _ => True) (fun t _ => [(3, .sl 1 0 1 0 L.length), (34, .sl 3 ((srtN L).length - 1) 1 0 (srtN L).length), (35, .sc (.int .i64 (srtN L).length)), (36, .sc (.int .i64 t))])
          (fun t _ => [(0, .box [.rsl 1 L.length (intsF L)]), (0, .ints (plB L t)), (0, .ints [(toI (ndsN L L.length)).getD 0 0]), ((srtN L).length - 1, .ints (toI (srtN L)))]) () trivial ?_ (fun _ _ => Nat.zero_le _) ?_
        · simp only [↓EVP0, EVQ0, EVQ1, EVQ2, EVQ3, EVQ4, EVA, EVK, EVF, ↓reduceIte, Nat.reduceEqDiff, Nat.reduceAdd, Nat.reduceSub, Nat.reduceMul, Nat.reduceLT, Nat.reduceLeDiff, reduceCtorEq, Int.reduceToNat, Int.reduceLT, Int.reduceLE, Int.reduceAdd, Int.reduceSub, Int.reduceMul, Int.reduceNeg, Int.reduceEq, Nat.reduceMod, forall_eq_or_imp, forall_eq, forall_const, cond_true, cond_false, decide_true, decide_false, true_imp_iff, implies_true, Int.cast_ofNat_Int, forall_eq']
          rfl
        intro t _ ht _
        have hbl := plB_len L t
        unfold lb23_0
        simp only [↓EVP0, EVQ0, EVQ1, EVQ2, EVQ3, EVQ4, EVA, EVK, EVF, ↓reduceIte, Nat.reduceEqDiff, Nat.reduceAdd, Nat.reduceSub, Nat.reduceMul, Nat.reduceLT, Nat.reduceLeDiff, reduceCtorEq, Int.reduceToNat, Int.reduceLT, Int.reduceLE, Int.reduceAdd, Int.reduceSub, Int.reduceMul, Int.reduceNeg, Int.reduceEq, Nat.reduceMod, forall_eq_or_imp, forall_eq, forall_const, cond_true, cond_false, decide_true, decide_false, true_imp_iff, implies_true, Int.cast_ofNat_Int, forall_eq']
        refine ⟨fun hg => ?_, fun hg => ?_⟩
        · have ht2 : t < (srtN L).length := by have := of_decide_eq_true hg; omega
          have hs : (srtN L)[t] < L.length := (srt_mem.1 (List.getElem_mem ht2)).1
          rw [toI_get ht2, toI_len, hbl]
          exact ⟨⟨by omega, by omega⟩, ht2, ⟨by omega, by omega⟩, hs, by unfold In64; omega, ht2, (), plB_set ht2⟩
        · have htt : t = (srtN L).length := by have := of_decide_eq_false hg; omega
          subst htt
          rw [plB_all]
          have hpl : (plcL L).length = L.length := by simp [plcL]
          exact ⟨hpl, by omega, fun _ _ => rfl⟩
    · have hp1 : ndsN L (k + 1) = ndsN L k := by rw [hps, if_neg hdk]; simp
      simp only [hp1, hq, if_false]
      unfold lb23_1
      simp only [↓EVP0, EVQ0, EVQ1, EVQ2, EVQ3, EVQ4, EVA, EVK, EVF, ↓reduceIte, Nat.reduceEqDiff, Nat.reduceAdd, Nat.reduceSub, Nat.reduceMul, Nat.reduceLT, Nat.reduceLeDiff, reduceCtorEq, Int.reduceToNat, Int.reduceLT, Int.reduceLE, Int.reduceAdd, Int.reduceSub, Int.reduceMul, Int.reduceNeg, Int.reduceEq, Nat.reduceMod, forall_eq_or_imp, forall_eq, forall_const, cond_true, cond_false, decide_true, decide_false, true_imp_iff, implies_true, Int.cast_ofNat_Int, forall_eq']
      refine ⟨fun hg => ?_, fun hg => ?_⟩
      · have hk2 : k < L.length := by have := of_decide_eq_true hg; omega
        rw [hpa]
        refine ⟨⟨by omega, by omega⟩, ⟨by omega, by omega⟩, hk2, fun h => absurd (of_decide_eq_true h) hdk, fun _ => ?_⟩
        exact ⟨by unfold In64; omega, hk2, (), plA_set hk2⟩
      · have hkk : k = L.length := by have := of_decide_eq_false hg; omega
        subst hkk
        exact absurd (show 0 ≤ L.getD L.length 0 by rw [List.getD_eq_getElem?_getD, List.getElem?_eq_none (Nat.le_refl _)]; exact Int.le_refl _) hdk
end Go.Proofs.Ytggaonafmiklaaa
namespace Go.Proofs.Ytggaonafmiklaaa
set_option linter.unusedSimpArgs false
set_option linter.unusedVariables false
open Go.RowKit
set_option maxRecDepth 20000

def keyI (x : Int) : Value := .int .i64 x
theorem keyI_inj : ∀ x y : Int, keyI x = keyI y → x = y := fun x y h => by injection h
def snL (L : List Int) (i : Nat) : List Int := (ndsN L i).map (plF L)
theorem snL_new {L : List Int} {i : Nat} (hi : i < L.length) (h0 : 0 ≤ L.getD i 0) : ¬ plF L i ∈ snL L i := by
  intro h
  unfold snL at h
  obtain ⟨j, hj, e⟩ := List.mem_map.1 h
  have h1 := mem_nds.1 hj
  have h2 := (plF_neg (L := L) (i := i) hi)
  have := plF_inj e (by have := (plF_neg (L := L) (i := j) (by omega)); omega)
  omega
theorem snL_len (L : List Int) : (snL L L.length).length = (srtN L).length := by
  unfold snL; rw [List.length_map, (srt_perm L).length_eq]
theorem snL_all {L : List Int} {x : Nat} (h : x < (srtN L).length) : (x : Int) ∈ snL L L.length := by
  unfold snL
  refine List.mem_map.2 ⟨(srtN L)[x], ?_, plF_get h⟩
  rw [← (srt_perm L).mem_iff]; exact List.getElem_mem h
theorem plc_len (L : List Int) : (plcL L).length = L.length := by simp [plcL]
theorem plc_get {L : List Int} {i : Nat} (h : i < L.length) : (plcL L).getD i 0 = plF L i := by
  unfold plcL
  rw [List.getD_eq_getElem?_getD, List.getElem?_map, List.getElem?_range h]; rfl
theorem above_ltN {L : List Int} {i k : Nat} (hi : i < L.length) (hk : k < L.length) : aboveB L (i : Int) (k : Int) = (decide (0 ≤ plF L i) && (decide (0 ≤ plF L k) && decide (plF L i < plF L k))) := by
  rw [← plF_above hi hk]
  unfold aboveB hasB ltN
  rw [decide_eq_true (show 0 ≤ (i : Int) by omega), decide_eq_true (show 0 ≤ (k : Int) by omega), decide_eq_true (show (i : Int) < L.length by omega), decide_eq_true (show (k : Int) < L.length by omega)]
  simp only [Bool.true_and, Int.toNat_natCast]
  rw [show decide ((i : Int) < (k : Int)) = decide (i < k) from decide_eq_decide.2 (by omega)]
theorem ev_lawPlaces (p : Pl) (hp : PlOk p) (up : List Bool) (r : Int) (hr : In64 r) : Ev Try.prog 8 [plV p, boolsV up, .sc (.int .i64 r)] (.sc (.bool true)) := by
  have h1 := ev_awake
  have h2 := ev_few p
  have h3 := ev_of p hp up r
  have h4 := fun l x y => ev_above l x y
  have h5 := fun l hl hne => ev_places l hl hne
  unfold plV boolsV intsV at *
  refine ev_fn Try.func8 comp8 (show 3 ≤ Try.f8.ntmps by decide) ?_; unfold cf8 rf8; simp only [↓EVP0, EVQ0, EVQ1, EVQ2, EVQ3, EVQ4, EVA, EVK, EVF, ↓reduceIte, Nat.reduceEqDiff, Nat.reduceAdd, Nat.reduceSub, Nat.reduceMul, Nat.reduceLT, Nat.reduceLeDiff, reduceCtorEq, Int.reduceToNat, Int.reduceLT, Int.reduceLE, Int.reduceAdd, Int.reduceSub, Int.reduceMul, Int.reduceNeg, Int.reduceEq, Nat.reduceMod, forall_eq_or_imp, forall_eq, forall_const, cond_true, cond_false, decide_true, decide_false, true_imp_iff, implies_true, Int.cast_ofNat_Int, forall_eq']
  refine callK_ro (h1) ?_ ?_
  · simp only [↓EVP0, EVQ0, EVQ1, EVQ2, EVQ3, EVQ4, EVA, EVK, EVF, ↓reduceIte, Nat.reduceEqDiff, Nat.reduceAdd, Nat.reduceSub, Nat.reduceMul, Nat.reduceLT, Nat.reduceLeDiff, reduceCtorEq, Int.reduceToNat, Int.reduceLT, Int.reduceLE, Int.reduceAdd, Int.reduceSub, Int.reduceMul, Int.reduceNeg, Int.reduceEq, Nat.reduceMod, forall_eq_or_imp, forall_eq, forall_const, cond_true, cond_false, decide_true, decide_false, true_imp_iff, implies_true, Int.cast_ofNat_Int, forall_eq']
  simp only [↓EVP0, EVQ0, EVQ1, EVQ2, EVQ3, EVQ4, EVA, EVK, EVF, ↓reduceIte, Nat.reduceEqDiff, Nat.reduceAdd, Nat.reduceSub, Nat.reduceMul, Nat.reduceLT, Nat.reduceLeDiff, reduceCtorEq, Int.reduceToNat, Int.reduceLT, Int.reduceLE, Int.reduceAdd, Int.reduceSub, Int.reduceMul, Int.reduceNeg, Int.reduceEq, Nat.reduceMod, forall_eq_or_imp, forall_eq, forall_const, cond_true, cond_false, decide_true, decide_false, true_imp_iff, implies_true, Int.cast_ofNat_Int, forall_eq']
  (refine lops_ge_imp ?_; simp only [↓EVP0, EVQ0, EVQ1, EVQ2, EVQ3, EVQ4, EVA, EVK, EVF, ↓reduceIte, Nat.reduceEqDiff, Nat.reduceAdd, Nat.reduceSub, Nat.reduceMul, Nat.reduceLT, Nat.reduceLeDiff, reduceCtorEq, Int.reduceToNat, Int.reduceLT, Int.reduceLE, Int.reduceAdd, Int.reduceSub, Int.reduceMul, Int.reduceNeg, Int.reduceEq, Nat.reduceMod, forall_eq_or_imp, forall_eq, forall_const, cond_true, cond_false, decide_true, decide_false, true_imp_iff, implies_true, Int.cast_ofNat_Int, forall_eq'])
  refine gCallK_ro _ (fun _ => h2) (fun _ => ?_) ?_
  · simp only [↓EVP0, EVQ0, EVQ1, EVQ2, EVQ3, EVQ4, EVA, EVK, EVF, ↓reduceIte, Nat.reduceEqDiff, Nat.reduceAdd, Nat.reduceSub, Nat.reduceMul, Nat.reduceLT, Nat.reduceLeDiff, reduceCtorEq, Int.reduceToNat, Int.reduceLT, Int.reduceLE, Int.reduceAdd, Int.reduceSub, Int.reduceMul, Int.reduceNeg, Int.reduceEq, Nat.reduceMod, forall_eq_or_imp, forall_eq, forall_const, cond_true, cond_false, decide_true, decide_false, true_imp_iff, implies_true, Int.cast_ofNat_Int, forall_eq']
  simp only [↓EVP0, EVQ0, EVQ1, EVQ2, EVQ3, EVQ4, EVA, EVK, EVF, ↓reduceIte, Nat.reduceEqDiff, Nat.reduceAdd, Nat.reduceSub, Nat.reduceMul, Nat.reduceLT, Nat.reduceLeDiff, reduceCtorEq, Int.reduceToNat, Int.reduceLT, Int.reduceLE, Int.reduceAdd, Int.reduceSub, Int.reduceMul, Int.reduceNeg, Int.reduceEq, Nat.reduceMod, forall_eq_or_imp, forall_eq, forall_const, cond_true, cond_false, decide_true, decide_false, true_imp_iff, implies_true, Int.cast_ofNat_Int, forall_eq']
  refine ⟨fun _ => ?_, fun hg => ?_⟩
  · refine callK_ro (h1) ?_ ?_
    · simp only [↓EVP0, EVQ0, EVQ1, EVQ2, EVQ3, EVQ4, EVA, EVK, EVF, ↓reduceIte, Nat.reduceEqDiff, Nat.reduceAdd, Nat.reduceSub, Nat.reduceMul, Nat.reduceLT, Nat.reduceLeDiff, reduceCtorEq, Int.reduceToNat, Int.reduceLT, Int.reduceLE, Int.reduceAdd, Int.reduceSub, Int.reduceMul, Int.reduceNeg, Int.reduceEq, Nat.reduceMod, forall_eq_or_imp, forall_eq, forall_const, cond_true, cond_false, decide_true, decide_false, true_imp_iff, implies_true, Int.cast_ofNat_Int, forall_eq']
    simp only [↓EVP0, EVQ0, EVQ1, EVQ2, EVQ3, EVQ4, EVA, EVK, EVF, ↓reduceIte, Nat.reduceEqDiff, Nat.reduceAdd, Nat.reduceSub, Nat.reduceMul, Nat.reduceLT, Nat.reduceLeDiff, reduceCtorEq, Int.reduceToNat, Int.reduceLT, Int.reduceLE, Int.reduceAdd, Int.reduceSub, Int.reduceMul, Int.reduceNeg, Int.reduceEq, Nat.reduceMod, forall_eq_or_imp, forall_eq, forall_const, cond_true, cond_false, decide_true, decide_false, true_imp_iff, implies_true, Int.cast_ofNat_Int, forall_eq']
  refine callK_ro (h3) ?_ ?_
  · simp only [↓EVP0, EVQ0, EVQ1, EVQ2, EVQ3, EVQ4, EVA, EVK, EVF, ↓reduceIte, Nat.reduceEqDiff, Nat.reduceAdd, Nat.reduceSub, Nat.reduceMul, Nat.reduceLT, Nat.reduceLeDiff, reduceCtorEq, Int.reduceToNat, Int.reduceLT, Int.reduceLE, Int.reduceAdd, Int.reduceSub, Int.reduceMul, Int.reduceNeg, Int.reduceEq, Nat.reduceMod, forall_eq_or_imp, forall_eq, forall_const, cond_true, cond_false, decide_true, decide_false, true_imp_iff, implies_true, Int.cast_ofNat_Int, forall_eq']
  simp only [↓EVP0, EVQ0, EVQ1, EVQ2, EVQ3, EVQ4, EVA, EVK, EVF, ↓reduceIte, Nat.reduceEqDiff, Nat.reduceAdd, Nat.reduceSub, Nat.reduceMul, Nat.reduceLT, Nat.reduceLeDiff, reduceCtorEq, Int.reduceToNat, Int.reduceLT, Int.reduceLE, Int.reduceAdd, Int.reduceSub, Int.reduceMul, Int.reduceNeg, Int.reduceEq, Nat.reduceMod, forall_eq_or_imp, forall_eq, forall_const, cond_true, cond_false, decide_true, decide_false, true_imp_iff, implies_true, Int.cast_ofNat_Int, forall_eq']
  refine ⟨fun _ => trivial, fun he => ?_⟩
  obtain ⟨hv, hup, hin, hof⟩ := of_ok (p := p) (up := up) (r := r) (by simpa using he)
  rw [hof]
  simp only [↓EVP0, EVQ0, EVQ1, EVQ2, EVQ3, EVQ4, EVA, EVK, EVF, ↓reduceIte, Nat.reduceEqDiff, Nat.reduceAdd, Nat.reduceSub, Nat.reduceMul, Nat.reduceLT, Nat.reduceLeDiff, reduceCtorEq, Int.reduceToNat, Int.reduceLT, Int.reduceLE, Int.reduceAdd, Int.reduceSub, Int.reduceMul, Int.reduceNeg, Int.reduceEq, Nat.reduceMod, forall_eq_or_imp, forall_eq, forall_const, cond_true, cond_false, decide_true, decide_false, true_imp_iff, implies_true, Int.cast_ofNat_Int, forall_eq']
  have hdl : (distL p.ns.length (upU p.cs up) r).length = p.ns.length := distL_length
  have hV := valid_of hv
  have hU := upU_in (n := p.ns.length) (up := up) hV.cab
  have hr0 : lvl (distL p.ns.length (upU p.cs up) r) r = 0 := by rw [lvl_dist hin, distX_zero hU hin]
  have hr1 : ∀ x, inN p.ns.length x → lvl (distL p.ns.length (upU p.cs up) r) x = 0 → x = r := fun x hx h => by rw [lvl_dist hx, distX_zero hU hin] at h; exact h
  have hin' := hin
  unfold inN at hin'
  have hn16 := hV.n16
  generalize distL p.ns.length (upU p.cs up) r = d at *
  have hrd : r.toNat < d.length := by omega
  have hrm : r.toNat ∈ ndsN d d.length := mem_nds.2 ⟨hrd, by rw [show d.getD r.toNat 0 = 0 from hr0]; exact Int.le_refl _⟩
  have h6 := h5 d (by omega) (List.ne_nil_of_mem hrm)
  have hpr : plF d r.toNat = 0 := by
    refine plF_top (srt_mem.2 (mem_nds.1 hrm)) fun k hk hne => ?_
    have hk2 := srt_mem.1 hk
    have hk3 : d.getD k 0 ≠ 0 := fun h0 => hne (by
      have := hr1 (k : Int) ⟨by omega, by omega⟩ (by unfold lvl; rw [Int.toNat_natCast]; exact h0)
      omega)
    rw [ltN_iff, show d.getD r.toNat 0 = 0 from hr0]
    omega
  refine callK_ro (h6) ?_ ?_
  · simp only [↓EVP0, EVQ0, EVQ1, EVQ2, EVQ3, EVQ4, EVA, EVK, EVF, ↓reduceIte, Nat.reduceEqDiff, Nat.reduceAdd, Nat.reduceSub, Nat.reduceMul, Nat.reduceLT, Nat.reduceLeDiff, reduceCtorEq, Int.reduceToNat, Int.reduceLT, Int.reduceLE, Int.reduceAdd, Int.reduceSub, Int.reduceMul, Int.reduceNeg, Int.reduceEq, Nat.reduceMod, forall_eq_or_imp, forall_eq, forall_const, cond_true, cond_false, decide_true, decide_false, true_imp_iff, implies_true, Int.cast_ofNat_Int, forall_eq']
  simp only [↓EVP0, EVQ0, EVQ1, EVQ2, EVQ3, EVQ4, EVA, EVK, EVF, ↓reduceIte, Nat.reduceEqDiff, Nat.reduceAdd, Nat.reduceSub, Nat.reduceMul, Nat.reduceLT, Nat.reduceLeDiff, reduceCtorEq, Int.reduceToNat, Int.reduceLT, Int.reduceLE, Int.reduceAdd, Int.reduceSub, Int.reduceMul, Int.reduceNeg, Int.reduceEq, Nat.reduceMod, forall_eq_or_imp, forall_eq, forall_const, cond_true, cond_false, decide_true, decide_false, true_imp_iff, implies_true, Int.cast_ofNat_Int, forall_eq']
  have hpl := plc_len d
  rw [hpl, hdl]
  intro _ _
  refine ⟨fun _ => hin', ?_⟩
  rw [plc_get hrd, hpr, decide_eq_true (rfl : (p.ns.length : Int) = p.ns.length)]
  simp only [↓EVP0, EVQ0, EVQ1, EVQ2, EVQ3, EVQ4, EVA, EVK, EVF, ↓reduceIte, Nat.reduceEqDiff, Nat.reduceAdd, Nat.reduceSub, Nat.reduceMul, Nat.reduceLT, Nat.reduceLeDiff, reduceCtorEq, Int.reduceToNat, Int.reduceLT, Int.reduceLE, Int.reduceAdd, Int.reduceSub, Int.reduceMul, Int.reduceNeg, Int.reduceEq, Nat.reduceMod, forall_eq_or_imp, forall_eq, forall_const, cond_true, cond_false, decide_true, decide_false, true_imp_iff, implies_true, Int.cast_ofNat_Int, forall_eq']
  intro _
  have hI : ∀ i, In64 (plF d i) := fun i => by
    have h1 := plF_le (L := d) (i := i)
    have h2 := plF_lt (L := d) (i := i)
    have h3 := srt_len d
    unfold In64; omega
  have hkO : ∀ (i : Nat) (x : Int), In64 x → keysOk Try.prog 3 (setM keyI (snL d i)) (keyI x) := fun i x hx => by
    refine keys_setM fun y hy => key_int (by kernel_rfl) ?_
    rcases List.mem_cons.1 hy with rfl | hy
    · exact hx
    · obtain ⟨j, _, rfl⟩ := List.mem_map.1 hy
      exact hI j
  rw [show (LO.map []) = LO.map (setM keyI (snL d 0)) from rfl]
  refine lwp_for (α := Unit) p.ns.length (fun _ _ => True) (fun i _ => [(7, .ptr 1 0 0 0 0), (9, .rsl 1 p.ns.length (intsF (plcL d))), (10, .mp 2 0), (54, .rsl 1 p.ns.length (intsF (plcL d))), (55, .sc (.int .i64 p.ns.length)), (56, .sc (.int .i64 i))])
    (fun i _ => [(0, .box [.rsl 3 p.ns.length (ndsF p.ns), .rsl 6 p.cs.length (cbsF p.cs)]), (0, .box [.rsl 1 p.ns.length (intsF d)]), (0, .map (setM keyI (snL d i)))]) () trivial ?_ (fun _ _ => Nat.zero_le _) ?_
  · simp only [↓EVP0, EVQ0, EVQ1, EVQ2, EVQ3, EVQ4, EVA, EVK, EVF, ↓reduceIte, Nat.reduceEqDiff, Nat.reduceAdd, Nat.reduceSub, Nat.reduceMul, Nat.reduceLT, Nat.reduceLeDiff, reduceCtorEq, Int.reduceToNat, Int.reduceLT, Int.reduceLE, Int.reduceAdd, Int.reduceSub, Int.reduceMul, Int.reduceNeg, Int.reduceEq, Nat.reduceMod, forall_eq_or_imp, forall_eq, forall_const, cond_true, cond_false, decide_true, decide_false, true_imp_iff, implies_true, Int.cast_ofNat_Int, forall_eq']
    exact allC_setM _ _
  intro i _ hi _
  by_cases hi2 : i < p.ns.length
  · have hi3 : i < d.length := by omega
    have hng := plF_neg hi3
    have hlt := plF_lt (L := d) (i := i)
    have hsl := srt_len d
    have hsu : snL d (i + 1) = if 0 ≤ d.getD i 0 then snL d i ++ [plF d i] else snL d i := by
      unfold snL
      rw [nds_succ]
      split <;> simp
    have hgi := plc_get hi3
    unfold lb8_2
    simp only [↓EVP0, EVQ0, EVQ1, EVQ2, EVQ3, EVQ4, EVA, EVK, EVF, ↓reduceIte, Nat.reduceEqDiff, Nat.reduceAdd, Nat.reduceSub, Nat.reduceMul, Nat.reduceLT, Nat.reduceLeDiff, reduceCtorEq, Int.reduceToNat, Int.reduceLT, Int.reduceLE, Int.reduceAdd, Int.reduceSub, Int.reduceMul, Int.reduceNeg, Int.reduceEq, Nat.reduceMod, forall_eq_or_imp, forall_eq, forall_const, cond_true, cond_false, decide_true, decide_false, true_imp_iff, implies_true, Int.cast_ofNat_Int, forall_eq']
    refine ⟨fun _ => ?_, fun h => by have := of_decide_eq_false h; omega⟩
    rw [hgi, show Value.int .i64 (plF d i) = keyI (plF d i) from rfl, mfind_setM keyI_inj]
    have hx1 : (bif true ^^ decide (decide (plF d i < 0) = decide (d.getD i 0 < 0)) then true else decide ((p.ns.length : Int) ≤ plF d i)) = false := by
      rw [decide_eq_true (decide_eq_decide.2 hng : decide (plF d i < 0) = decide (d.getD i 0 < 0)), decide_eq_false (by omega)]; rfl
    rw [hx1]
    refine ⟨⟨by omega, by omega⟩, ⟨by omega, by omega⟩, hkO _ _ (hI _), ?_⟩
    by_cases h0 : 0 ≤ d.getD i 0
    · rw [if_neg (snL_new hi3 h0), decide_eq_true (show 0 ≤ plF d i by omega), mput_setM keyI_inj _ _ (snL_new hi3 h0)]
      rw [if_pos h0] at hsu
      rw [← hsu]
      simp only [Option.getD_none]
      simp only [↓EVP0, EVQ0, EVQ1, EVQ2, EVQ3, EVQ4, EVA, EVK, EVF, ↓reduceIte, Nat.reduceEqDiff, Nat.reduceAdd, Nat.reduceSub, Nat.reduceMul, Nat.reduceLT, Nat.reduceLeDiff, reduceCtorEq, Int.reduceToNat, Int.reduceLT, Int.reduceLE, Int.reduceAdd, Int.reduceSub, Int.reduceMul, Int.reduceNeg, Int.reduceEq, Nat.reduceMod, forall_eq_or_imp, forall_eq, forall_const, cond_true, cond_false, decide_true, decide_false, true_imp_iff, implies_true, Int.cast_ofNat_Int, forall_eq']
      refine ⟨hkO _ _ (hI _), fun _ => ?_⟩
      refine lwp_for (α := Unit) p.ns.length (fun _ _ => True) (fun k _ => [(7, .ptr 1 0 0 0 0), (9, .rsl 1 p.ns.length (intsF (plcL d))), (10, .mp 2 0), (11, .sc (.int .i64 i)), (12, .sc (.int .i64 (plF d i))), (54, .rsl 1 p.ns.length (intsF (plcL d))), (55, .sc (.int .i64 p.ns.length)), (56, .sc (.int .i64 i)), (89, .rsl 1 p.ns.length (intsF (plcL d))), (90, .sc (.int .i64 p.ns.length)), (91, .sc (.int .i64 k))])
        (fun _ _ => [(0, .box [.rsl 3 p.ns.length (ndsF p.ns), .rsl 6 p.cs.length (cbsF p.cs)]), (0, .box [.rsl 1 p.ns.length (intsF d)]), (0, .map (setM keyI (snL d (i + 1))))]) () trivial ?_ (fun _ _ => Nat.zero_le _) ?_
      · simp only [↓EVP0, EVQ0, EVQ1, EVQ2, EVQ3, EVQ4, EVA, EVK, EVF, ↓reduceIte, Nat.reduceEqDiff, Nat.reduceAdd, Nat.reduceSub, Nat.reduceMul, Nat.reduceLT, Nat.reduceLeDiff, reduceCtorEq, Int.reduceToNat, Int.reduceLT, Int.reduceLE, Int.reduceAdd, Int.reduceSub, Int.reduceMul, Int.reduceNeg, Int.reduceEq, Nat.reduceMod, forall_eq_or_imp, forall_eq, forall_const, cond_true, cond_false, decide_true, decide_false, true_imp_iff, implies_true, Int.cast_ofNat_Int, forall_eq']
        exact ⟨rfl, allC_setM _ _⟩
      intro k _ hk _
      unfold lb8_1
      simp only [↓EVP0, EVQ0, EVQ1, EVQ2, EVQ3, EVQ4, EVA, EVK, EVF, ↓reduceIte, Nat.reduceEqDiff, Nat.reduceAdd, Nat.reduceSub, Nat.reduceMul, Nat.reduceLT, Nat.reduceLeDiff, reduceCtorEq, Int.reduceToNat, Int.reduceLT, Int.reduceLE, Int.reduceAdd, Int.reduceSub, Int.reduceMul, Int.reduceNeg, Int.reduceEq, Nat.reduceMod, forall_eq_or_imp, forall_eq, forall_const, cond_true, cond_false, decide_true, decide_false, true_imp_iff, implies_true, Int.cast_ofNat_Int, forall_eq']
      refine ⟨fun hg => ?_, fun hg => ?_⟩
      · have hk2 : k < d.length := by have := of_decide_eq_true hg; omega
        have h7 := h4 d (i : Int) (k : Int)
        rw [hdl] at h7
        refine ⟨⟨by omega, by omega⟩, ?_⟩
        refine callK_ro (h7) ?_ ?_
        · simp only [↓EVP0, EVQ0, EVQ1, EVQ2, EVQ3, EVQ4, EVA, EVK, EVF, ↓reduceIte, Nat.reduceEqDiff, Nat.reduceAdd, Nat.reduceSub, Nat.reduceMul, Nat.reduceLT, Nat.reduceLeDiff, reduceCtorEq, Int.reduceToNat, Int.reduceLT, Int.reduceLE, Int.reduceAdd, Int.reduceSub, Int.reduceMul, Int.reduceNeg, Int.reduceEq, Nat.reduceMod, forall_eq_or_imp, forall_eq, forall_const, cond_true, cond_false, decide_true, decide_false, true_imp_iff, implies_true, Int.cast_ofNat_Int, forall_eq']
        simp only [↓EVP0, EVQ0, EVQ1, EVQ2, EVQ3, EVQ4, EVA, EVK, EVF, ↓reduceIte, Nat.reduceEqDiff, Nat.reduceAdd, Nat.reduceSub, Nat.reduceMul, Nat.reduceLT, Nat.reduceLeDiff, reduceCtorEq, Int.reduceToNat, Int.reduceLT, Int.reduceLE, Int.reduceAdd, Int.reduceSub, Int.reduceMul, Int.reduceNeg, Int.reduceEq, Nat.reduceMod, forall_eq_or_imp, forall_eq, forall_const, cond_true, cond_false, decide_true, decide_false, true_imp_iff, implies_true, Int.cast_ofNat_Int, forall_eq']
        rw [plc_get hk2, above_ltN hi3 hk2]
        have hxx : (decide (0 ≤ plF d i) && (decide (0 ≤ plF d k) && decide (plF d i < plF d k))) = bif bif decide (0 ≤ plF d i) then decide (0 ≤ plF d k) else false then decide (plF d i < plF d k) else false := by
          cases decide (0 ≤ plF d i) <;> cases decide (0 ≤ plF d k) <;> rfl
        rw [hxx, decide_eq_true rfl]
        exact ⟨fun h => by simp at h, fun _ => ⟨by unfold In64; omega, by omega, (), allC_setM _ _⟩⟩
      · have hkk : k = p.ns.length := by have := of_decide_eq_false hg; omega
        exact ⟨by unfold In64; omega, hi2, (), allC_setM _ _⟩
    · rw [decide_eq_false (show ¬ 0 ≤ plF d i by omega)]
      rw [if_neg h0] at hsu
      rw [← hsu]
      simp only [↓EVP0, EVQ0, EVQ1, EVQ2, EVQ3, EVQ4, EVA, EVK, EVF, ↓reduceIte, Nat.reduceEqDiff, Nat.reduceAdd, Nat.reduceSub, Nat.reduceMul, Nat.reduceLT, Nat.reduceLeDiff, reduceCtorEq, Int.reduceToNat, Int.reduceLT, Int.reduceLE, Int.reduceAdd, Int.reduceSub, Int.reduceMul, Int.reduceNeg, Int.reduceEq, Nat.reduceMod, forall_eq_or_imp, forall_eq, forall_const, cond_true, cond_false, decide_true, decide_false, true_imp_iff, implies_true, Int.cast_ofNat_Int, forall_eq']
      intro _
      refine lwp_for (α := Unit) p.ns.length (fun _ _ => True) (fun k _ => [(7, .ptr 1 0 0 0 0), (9, .rsl 1 p.ns.length (intsF (plcL d))), (10, .mp 2 0), (11, .sc (.int .i64 i)), (12, .sc (.int .i64 (plF d i))), (54, .rsl 1 p.ns.length (intsF (plcL d))), (55, .sc (.int .i64 p.ns.length)), (56, .sc (.int .i64 i)), (89, .rsl 1 p.ns.length (intsF (plcL d))), (90, .sc (.int .i64 p.ns.length)), (91, .sc (.int .i64 k))])
        (fun _ _ => [(0, .box [.rsl 3 p.ns.length (ndsF p.ns), .rsl 6 p.cs.length (cbsF p.cs)]), (0, .box [.rsl 1 p.ns.length (intsF d)]), (0, .map (setM keyI (snL d (i + 1))))]) () trivial ?_ (fun _ _ => Nat.zero_le _) ?_
      · simp only [↓EVP0, EVQ0, EVQ1, EVQ2, EVQ3, EVQ4, EVA, EVK, EVF, ↓reduceIte, Nat.reduceEqDiff, Nat.reduceAdd, Nat.reduceSub, Nat.reduceMul, Nat.reduceLT, Nat.reduceLeDiff, reduceCtorEq, Int.reduceToNat, Int.reduceLT, Int.reduceLE, Int.reduceAdd, Int.reduceSub, Int.reduceMul, Int.reduceNeg, Int.reduceEq, Nat.reduceMod, forall_eq_or_imp, forall_eq, forall_const, cond_true, cond_false, decide_true, decide_false, true_imp_iff, implies_true, Int.cast_ofNat_Int, forall_eq']
        exact ⟨rfl, allC_setM _ _⟩
      intro k _ hk _
      unfold lb8_1
      simp only [↓EVP0, EVQ0, EVQ1, EVQ2, EVQ3, EVQ4, EVA, EVK, EVF, ↓reduceIte, Nat.reduceEqDiff, Nat.reduceAdd, Nat.reduceSub, Nat.reduceMul, Nat.reduceLT, Nat.reduceLeDiff, reduceCtorEq, Int.reduceToNat, Int.reduceLT, Int.reduceLE, Int.reduceAdd, Int.reduceSub, Int.reduceMul, Int.reduceNeg, Int.reduceEq, Nat.reduceMod, forall_eq_or_imp, forall_eq, forall_const, cond_true, cond_false, decide_true, decide_false, true_imp_iff, implies_true, Int.cast_ofNat_Int, forall_eq']
      refine ⟨fun hg => ?_, fun hg => ?_⟩
      · have hk2 : k < d.length := by have := of_decide_eq_true hg; omega
        have h7 := h4 d (i : Int) (k : Int)
        rw [hdl] at h7
        refine ⟨⟨by omega, by omega⟩, ?_⟩
        refine callK_ro (h7) ?_ ?_
        · simp only [↓EVP0, EVQ0, EVQ1, EVQ2, EVQ3, EVQ4, EVA, EVK, EVF, ↓reduceIte, Nat.reduceEqDiff, Nat.reduceAdd, Nat.reduceSub, Nat.reduceMul, Nat.reduceLT, Nat.reduceLeDiff, reduceCtorEq, Int.reduceToNat, Int.reduceLT, Int.reduceLE, Int.reduceAdd, Int.reduceSub, Int.reduceMul, Int.reduceNeg, Int.reduceEq, Nat.reduceMod, forall_eq_or_imp, forall_eq, forall_const, cond_true, cond_false, decide_true, decide_false, true_imp_iff, implies_true, Int.cast_ofNat_Int, forall_eq']
        simp only [↓EVP0, EVQ0, EVQ1, EVQ2, EVQ3, EVQ4, EVA, EVK, EVF, ↓reduceIte, Nat.reduceEqDiff, Nat.reduceAdd, Nat.reduceSub, Nat.reduceMul, Nat.reduceLT, Nat.reduceLeDiff, reduceCtorEq, Int.reduceToNat, Int.reduceLT, Int.reduceLE, Int.reduceAdd, Int.reduceSub, Int.reduceMul, Int.reduceNeg, Int.reduceEq, Nat.reduceMod, forall_eq_or_imp, forall_eq, forall_const, cond_true, cond_false, decide_true, decide_false, true_imp_iff, implies_true, Int.cast_ofNat_Int, forall_eq']
        rw [plc_get hk2, above_ltN hi3 hk2]
        have hxx : (decide (0 ≤ plF d i) && (decide (0 ≤ plF d k) && decide (plF d i < plF d k))) = bif bif decide (0 ≤ plF d i) then decide (0 ≤ plF d k) else false then decide (plF d i < plF d k) else false := by
          cases decide (0 ≤ plF d i) <;> cases decide (0 ≤ plF d k) <;> rfl
        rw [hxx, decide_eq_true rfl]
        exact ⟨fun h => by simp at h, fun _ => ⟨by unfold In64; omega, by omega, (), allC_setM _ _⟩⟩
      · have hkk : k = p.ns.length := by have := of_decide_eq_false hg; omega
        exact ⟨by unfold In64; omega, hi2, (), allC_setM _ _⟩
  · have hi4 : i = p.ns.length := by omega
    subst hi4
    unfold lb8_2
    simp only [↓EVP0, EVQ0, EVQ1, EVQ2, EVQ3, EVQ4, EVA, EVK, EVF, ↓reduceIte, Nat.reduceEqDiff, Nat.reduceAdd, Nat.reduceSub, Nat.reduceMul, Nat.reduceLT, Nat.reduceLeDiff, reduceCtorEq, Int.reduceToNat, Int.reduceLT, Int.reduceLE, Int.reduceAdd, Int.reduceSub, Int.reduceMul, Int.reduceNeg, Int.reduceEq, Nat.reduceMod, forall_eq_or_imp, forall_eq, forall_const, cond_true, cond_false, decide_true, decide_false, true_imp_iff, implies_true, Int.cast_ofNat_Int, forall_eq']
    refine ⟨fun h => by have := of_decide_eq_true h; omega, fun _ => ?_⟩
    have hsn := snL_len d
    rw [hdl] at hsn
    have hml := srt_len d
    have hml2 : (setM keyI (snL d p.ns.length)).length = (srtN d).length := by unfold setM; rw [List.length_map, hsn]
    rw [hml2]
    refine lwp_for (α := Unit) (srtN d).length (fun _ _ => True) (fun x _ => [(10, .mp 2 0), (115, .sc (.int .i64 (srtN d).length)), (116, .sc (.int .i64 x))])
      (fun _ _ => [(0, .box [.rsl 3 p.ns.length (ndsF p.ns), .rsl 6 p.cs.length (cbsF p.cs)]), (0, .box [.rsl 1 p.ns.length (intsF d)]), (0, .map (setM keyI (snL d p.ns.length)))]) () trivial ?_ (fun _ _ => Nat.zero_le _) ?_
    · simp only [↓EVP0, EVQ0, EVQ1, EVQ2, EVQ3, EVQ4, EVA, EVK, EVF, ↓reduceIte, Nat.reduceEqDiff, Nat.reduceAdd, Nat.reduceSub, Nat.reduceMul, Nat.reduceLT, Nat.reduceLeDiff, reduceCtorEq, Int.reduceToNat, Int.reduceLT, Int.reduceLE, Int.reduceAdd, Int.reduceSub, Int.reduceMul, Int.reduceNeg, Int.reduceEq, Nat.reduceMod, forall_eq_or_imp, forall_eq, forall_const, cond_true, cond_false, decide_true, decide_false, true_imp_iff, implies_true, Int.cast_ofNat_Int, forall_eq']
      exact allC_setM _ _
    intro x _ hx _
    unfold lb8_0
    simp only [↓EVP0, EVQ0, EVQ1, EVQ2, EVQ3, EVQ4, EVA, EVK, EVF, ↓reduceIte, Nat.reduceEqDiff, Nat.reduceAdd, Nat.reduceSub, Nat.reduceMul, Nat.reduceLT, Nat.reduceLeDiff, reduceCtorEq, Int.reduceToNat, Int.reduceLT, Int.reduceLE, Int.reduceAdd, Int.reduceSub, Int.reduceMul, Int.reduceNeg, Int.reduceEq, Nat.reduceMod, forall_eq_or_imp, forall_eq, forall_const, cond_true, cond_false, decide_true, decide_false, true_imp_iff, implies_true, Int.cast_ofNat_Int, forall_eq']
    refine ⟨fun hg => ?_, fun _ => trivial⟩
    have hx2 : x < (srtN d).length := by have := of_decide_eq_true hg; omega
    have hxm := snL_all hx2
    rw [hdl] at hxm
    rw [show Value.int .i64 (x : Int) = keyI (x : Int) from rfl, mfind_setM keyI_inj, if_pos hxm]
    simp only [Option.getD_some]
    simp only [↓EVP0, EVQ0, EVQ1, EVQ2, EVQ3, EVQ4, EVA, EVK, EVF, ↓reduceIte, Nat.reduceEqDiff, Nat.reduceAdd, Nat.reduceSub, Nat.reduceMul, Nat.reduceLT, Nat.reduceLeDiff, reduceCtorEq, Int.reduceToNat, Int.reduceLT, Int.reduceLE, Int.reduceAdd, Int.reduceSub, Int.reduceMul, Int.reduceNeg, Int.reduceEq, Nat.reduceMod, forall_eq_or_imp, forall_eq, forall_const, cond_true, cond_false, decide_true, decide_false, true_imp_iff, implies_true, Int.cast_ofNat_Int, forall_eq']
    exact ⟨hkO _ _ (by unfold In64; omega), by unfold In64; omega, hx2, (), allC_setM _ _⟩
end Go.Proofs.Ytggaonafmiklaaa
