/- Plans of networks as plain data; the contracts of chapter 14's checks of names and nodes. Conditions: none. -/
import Derived.Test.YtggaonafmiklaaaC1
namespace Go.Proofs.Ytggaonafmiklaaa
set_option linter.unusedSimpArgs false
set_option linter.unusedVariables false
open Go.RowKit

structure Nd where
  name : ByteArray
  sw : Bool
  ports : Int
structure Cb where
  a : Int
  ap : Int
  b : Int
  bp : Int
  dl : Int
  cp : Int
deriving DecidableEq
structure Pl where
  ns : List Nd
  cs : List Cb
instance : Inhabited Nd := ⟨⟨⟨#[]⟩, false, 0⟩⟩
instance : Inhabited Cb := ⟨⟨0, 0, 0, 0, 0, 0⟩⟩
def ndL (n : Nd) : List LV := [.sc (.string n.name), .sc (.bool n.sw), .sc (.int .i64 n.ports)]
def cbL (c : Cb) : List LV := [.sc (.int .i64 c.a), .sc (.int .i64 c.ap), .sc (.int .i64 c.b), .sc (.int .i64 c.bp), .sc (.int .i64 c.dl), .sc (.int .i64 c.cp)]
def ndsF (l : List Nd) (i : Nat) : List LV := ndL (l.getD i default)
def cbsF (l : List Cb) (i : Nat) : List LV := cbL (l.getD i default)
def plV (p : Pl) : LV := .agg [.rsl 3 p.ns.length (ndsF p.ns), .rsl 6 p.cs.length (cbsF p.cs)]
def intsF (l : List Int) (i : Nat) : List LV := [.sc (.int .i64 (l.getD i 0))]
def boolsF (l : List Bool) (i : Nat) : List LV := [.sc (.bool (l.getD i false))]
def intsV (l : List Int) : LV := .rsl 1 l.length (intsF l)
def boolsV (l : List Bool) : LV := .rsl 1 l.length (boolsF l)

theorem ndsF_eq (l : List Nd) (i : Nat) : ndsF l i = [.sc (.string (l.getD i default).name), .sc (.bool (l.getD i default).sw), .sc (.int .i64 (l.getD i default).ports)] := rfl
theorem cbsF_eq (l : List Cb) (i : Nat) : cbsF l i = [.sc (.int .i64 (l.getD i default).a), .sc (.int .i64 (l.getD i default).ap), .sc (.int .i64 (l.getD i default).b), .sc (.int .i64 (l.getD i default).bp), .sc (.int .i64 (l.getD i default).dl), .sc (.int .i64 (l.getD i default).cp)] := rfl
theorem intsF_eq (l : List Int) (i : Nat) : intsF l i = [.sc (.int .i64 (l.getD i 0))] := rfl
theorem boolsF_eq (l : List Bool) (i : Nat) : boolsF l i = [.sc (.bool (l.getD i false))] := rfl

theorem EVF : (∀ (l : List Nd) (i : Nat), ndsF l i = [.sc (.string (l.getD i default).name), .sc (.bool (l.getD i default).sw), .sc (.int .i64 (l.getD i default).ports)])
    ∧ (∀ (l : List Cb) (i : Nat), cbsF l i = [.sc (.int .i64 (l.getD i default).a), .sc (.int .i64 (l.getD i default).ap), .sc (.int .i64 (l.getD i default).b), .sc (.int .i64 (l.getD i default).bp), .sc (.int .i64 (l.getD i default).dl), .sc (.int .i64 (l.getD i default).cp)])
    ∧ (∀ (l : List Int) (i : Nat), intsF l i = [.sc (.int .i64 (l.getD i 0))])
    ∧ (∀ (l : List Bool) (i : Nat), boolsF l i = [.sc (.bool (l.getD i false))]) := ⟨ndsF_eq, cbsF_eq, intsF_eq, boolsF_eq⟩
/-- A plan's numbers and names are such as Go's values hold. -/
structure PlOk (p : Pl) : Prop where
  nm : ∀ n, n ∈ p.ns → n.name.size ≤ 9223372036854775807 ∧ In64 n.ports
  cb : ∀ c, c ∈ p.cs → In64 c.a ∧ In64 c.ap ∧ In64 c.b ∧ In64 c.bp ∧ In64 c.dl ∧ In64 c.cp

theorem key_str {P : Program} {t : TypeId} (hu : P.underlying t = some .string) {s : ByteArray} (h : s.size ≤ 9223372036854775807) : (keyOf P t (.string s)).isSome = true := by
  have : s.size ≤ maxLen := h
  simp [keyOf, hu, mapKey, this]
theorem wf_i64 {a : Int} (h : In64 a) : (Lit.int .i64 a).wf = true := by
  unfold In64 at h
  have h1 : IntKind.i64.min = -9223372036854775808 := by decide
  have h2 : IntKind.i64.max = 9223372036854775807 := by decide
  simp [Lit.wf, h1, h2, h]
theorem key_int {P : Program} {t : TypeId} (hu : P.underlying t = some (.int .i64)) {a : Int} (h : In64 a) : (keyOf P t (.int .i64 a)).isSome = true := by
  have : (Lit.int .i64 a).wf = true := wf_i64 h
  simp [keyOf, hu, mapKey, this]
theorem key_arr2 {P : Program} {t e : TypeId} (hu : P.underlying t = some (.array 2 e)) (he : P.underlying e = some (.int .i64)) (hk : P.keyType t = true) (hc : P.cellsOf t = 2) (hce : P.cellsOf e = 1) (hz : P.types.size ≠ 0) {a b : Int} (ha : In64 a) (hb : In64 b) :
    (keyOf P t (.agg #[.int .i64 a, .int .i64 b])).isSome = true := by
  have h1 : (Lit.int .i64 a).wf = true := wf_i64 ha
  have h2 : (Lit.int .i64 b).wf = true := wf_i64 hb
  have hl : ∀ x, (Lit.int .i64 x).wf = true → P.keyLits P.types.size e [.int .i64 x] = some [.int .i64 x] := by
    intro x hx
    obtain ⟨d, hd⟩ : ∃ d, P.types.size = d + 1 := ⟨P.types.size - 1, by omega⟩
    rw [hd]
    simp [Program.keyLits, he, hx]
  simp [keyOf, hu, hk, Value.formed, hc, Program.keyLits, he, hce, h1, h2, List.range_succ, Value.cells, hl]

/-- A map that stands for a set, its keys in the order of their coming. -/
def setM {α : Type} (f : α → Value) (l : List α) : List (Value × LV) := l.map fun x => (f x, .sc (.bool true))
open Classical in
theorem mfind_setM {α : Type} {f : α → Value} (hf : ∀ x y, f x = f y → x = y) (l : List α) (x : α) : mfind (setM f l) (f x) = if x ∈ l then some (.sc (.bool true)) else none := by
  induction l with
  | nil => simp [setM, mfind]
  | cons y r ih =>
    simp only [setM, List.map_cons, mfind]
    by_cases e : f y = f x
    · have : x = y := (hf _ _ e).symm
      subst this; simp
    · rw [if_neg e]
      have : x ≠ y := fun h => e (by rw [h])
      simp only [setM] at ih
      rw [ih]; simp [this]
theorem mput_setM {α : Type} {f : α → Value} (hf : ∀ x y, f x = f y → x = y) (l : List α) (x : α) (hx : x ∉ l) : mput (setM f l) (f x) (.sc (.bool true)) = setM f (l ++ [x]) := by
  induction l with
  | nil => simp [setM, mput]
  | cons y r ih =>
    simp only [setM, List.map_cons, mput, List.cons_append]
    have hxy : x ≠ y := fun h => hx (by rw [h]; simp)
    rw [if_neg (fun e => hxy (hf _ _ e).symm)]
    have := ih (fun h => hx (List.mem_cons_of_mem _ h))
    simp only [setM] at this
    rw [this]
theorem allC_setM {α : Type} {f : α → Value} (n : Nat) (l : List α) : allC n ((setM f l).map (·.2)) := by
  induction l with
  | nil => trivial
  | cons y r ih => exact ⟨trivial, ih⟩
theorem keys_setM {P : Program} {t : TypeId} {α : Type} {f : α → Value} {l : List α} {x : α} (hk : ∀ y, y ∈ x :: l → (keyOf P t (f y)).isSome = true) : keysOk P t (setM f l) (f x) := by
  refine ⟨hk _ (by simp), ?_⟩
  intro kv hkv
  simp only [setM, List.mem_map] at hkv
  obtain ⟨y, hy, rfl⟩ := hkv
  exact hk _ (List.mem_cons_of_mem _ hy)

def nmOk (s : ByteArray) (i : Nat) : Bool :=
  (decide (97 ≤ (sbyte s i).toNat) && decide ((sbyte s i).toNat ≤ 122)) || (decide (i ≠ 0) && (decide (48 ≤ (sbyte s i).toNat) && decide ((sbyte s i).toNat ≤ 57)))
def nmAll (s : ByteArray) : Nat → Bool
  | 0 => true
  | i + 1 => nmAll s i && nmOk s i
def nameOk (s : ByteArray) : Bool := decide (1 ≤ s.size) && (decide (s.size ≤ 20) && nmAll s s.size)

theorem nmAll_le (s : ByteArray) {i : Nat} (hx : nmOk s i = false) : ∀ {n : Nat}, i < n → nmAll s n = false := by
  intro n
  induction n with
  | zero => intro h; omega
  | succ n ih =>
    intro h
    by_cases e : i = n
    · subst e; simp [nmAll, hx]
    · simp [nmAll, ih (by omega)]
theorem ev_validName (s : ByteArray) : Ev Try.prog 41 [.sc (.string s)] (.sc (.bool (nameOk s))) := by
  refine ev_fn Try.func41 comp41 (show 1 ≤ Try.f41.ntmps by decide) ?_; unfold cf41 rf41; simp only [↓EVP0, EVQ0, EVQ1, EVQ2, EVQ3, EVQ4, EVA, EVK, EVF, ↓reduceIte, Nat.reduceEqDiff, Nat.reduceAdd, Nat.reduceSub, Nat.reduceMul, Nat.reduceLT, Nat.reduceLeDiff, reduceCtorEq, Int.reduceToNat, Int.reduceLT, Int.reduceLE, Int.reduceAdd, Int.reduceSub, Int.reduceMul, Int.reduceNeg, Int.reduceEq, Nat.reduceMod, forall_eq_or_imp, forall_eq, forall_const, cond_true, cond_false, decide_true, decide_false, true_imp_iff, implies_true, Int.cast_ofNat_Int, forall_eq']
  refine ⟨fun hg => ?_, fun hg => ?_⟩
  · have : nameOk s = false := by
      unfold nameOk
      by_cases h1 : s.size < 1
      · simp; omega
      · have : (20 : Int) < s.size := by simpa [show ¬ ((s.size : Int) < 1) by omega] using hg
        simp; omega
    rw [this]
  · have hs : 1 ≤ s.size ∧ s.size ≤ 20 := by
      by_cases h1 : (s.size : Int) < 1
      · simp [h1] at hg
      · simp [h1] at hg; omega
    refine lwp_for (α := Unit) s.size (fun i _ => nmAll s i = true) (fun i _ => [(0, .sc (.string s)), (15, .sc (.int .i64 s.size)), (16, .sc (.int .i64 i))]) (fun _ _ => []) () rfl ?_ (fun _ _ => Nat.le_refl _) ?_
    · simp only [↓EVP0, EVQ0, EVQ1, EVQ2, EVQ3, EVQ4, EVA, EVK, EVF, ↓reduceIte, Nat.reduceEqDiff, Nat.reduceAdd, Nat.reduceSub, Nat.reduceMul, Nat.reduceLT, Nat.reduceLeDiff, reduceCtorEq, Int.reduceToNat, Int.reduceLT, Int.reduceLE, Int.reduceAdd, Int.reduceSub, Int.reduceMul, Int.reduceNeg, Int.reduceEq, Nat.reduceMod, forall_eq_or_imp, forall_eq, forall_const, cond_true, cond_false, decide_true, decide_false, true_imp_iff, implies_true, Int.cast_ofNat_Int, forall_eq']
    · intro i _ hi hx
      unfold lb41_0
      simp only [↓EVP0, EVQ0, EVQ1, EVQ2, EVQ3, EVQ4, EVA, EVK, EVF, ↓reduceIte, Nat.reduceEqDiff, Nat.reduceAdd, Nat.reduceSub, Nat.reduceMul, Nat.reduceLT, Nat.reduceLeDiff, reduceCtorEq, Int.reduceToNat, Int.reduceLT, Int.reduceLE, Int.reduceAdd, Int.reduceSub, Int.reduceMul, Int.reduceNeg, Int.reduceEq, Nat.reduceMod, forall_eq_or_imp, forall_eq, forall_const, cond_true, cond_false, decide_true, decide_false, true_imp_iff, implies_true, Int.cast_ofNat_Int, forall_eq']
      refine ⟨fun hg => ?_, fun hg => ?_⟩
      · have hi2 : i < s.size := by simpa using hg
        refine ⟨⟨by omega, hi2⟩, fun _ => ⟨by omega, hi2⟩, ⟨by omega, hi2⟩, fun _ => ⟨by omega, hi2⟩, fun hg => ?_, fun hg => ?_⟩
        · have h1 : nmOk s i = false := by
            simp [nmOk] at hg ⊢
            omega
          have := nmAll_le s h1 hi2
          simp [nameOk, this]
        · have h1 : nmOk s i = true := by
            simp [nmOk] at hg ⊢
            omega
          exact ⟨by unfold In64; omega, hi2, by simp [nmAll, hx, h1]⟩
      · have hi2 : i = s.size := by simp at hg; omega
        subst hi2
        simp [nameOk, hx, hs]
end Go.Proofs.Ytggaonafmiklaaa
