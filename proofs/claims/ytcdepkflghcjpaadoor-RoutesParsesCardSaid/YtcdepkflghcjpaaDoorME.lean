/- Plans of networks as plain data; the contracts of chapter 14's checks of names and nodes; Chapter 14's Valid, step by step: nodes, ports, and what occurs twice; Chapter 14's Valid; Distances in a plan: the plain law of the search by a queue; Distances in a plan: the search by a queue keeps what it must; Distances in a plan: the search by a queue ends with the distances; Distances in a plan: the program's own steps; Chapter 17's Of. Conditions: none. -/
import Derived.Test.YtcdepkflghcjpaaDoorMD
import Derived.KernelRfl
namespace Go.Proofs.YtcdepkflghcjpaaDoor
set_option linter.unusedSimpArgs false
set_option linter.unusedVariables false
open Go.RowKit

structure Nd where
  name : ByteArray
  sw : Bool
  ports : Int
structure Cb where
  a : Int
  ap : Int
  b : Int
  bp : Int
  dl : Int
  cp : Int
deriving DecidableEq
structure Pl where
  ns : List Nd
  cs : List Cb
instance : Inhabited Nd := ⟨⟨⟨#[]⟩, false, 0⟩⟩
instance : Inhabited Cb := ⟨⟨0, 0, 0, 0, 0, 0⟩⟩
def ndL (n : Nd) : List LV := [.sc (.string n.name), .sc (.bool n.sw), .sc (.int .i64 n.ports)]
def cbL (c : Cb) : List LV := [.sc (.int .i64 c.a), .sc (.int .i64 c.ap), .sc (.int .i64 c.b), .sc (.int .i64 c.bp), .sc (.int .i64 c.dl), .sc (.int .i64 c.cp)]
def ndsF (l : List Nd) (i : Nat) : List LV := ndL (l.getD i default)
def cbsF (l : List Cb) (i : Nat) : List LV := cbL (l.getD i default)
def plV (p : Pl) : LV := .agg [.rsl 3 p.ns.length (ndsF p.ns), .rsl 6 p.cs.length (cbsF p.cs)]
def intsF (l : List Int) (i : Nat) : List LV := [.sc (.int .i64 (l.getD i 0))]
def boolsF (l : List Bool) (i : Nat) : List LV := [.sc (.bool (l.getD i false))]
def intsV (l : List Int) : LV := .rsl 1 l.length (intsF l)
def boolsV (l : List Bool) : LV := .rsl 1 l.length (boolsF l)

theorem ndsF_eq (l : List Nd) (i : Nat) : ndsF l i = [.sc (.string (l.getD i default).name), .sc (.bool (l.getD i default).sw), .sc (.int .i64 (l.getD i default).ports)] := rfl
theorem cbsF_eq (l : List Cb) (i : Nat) : cbsF l i = [.sc (.int .i64 (l.getD i default).a), .sc (.int .i64 (l.getD i default).ap), .sc (.int .i64 (l.getD i default).b), .sc (.int .i64 (l.getD i default).bp), .sc (.int .i64 (l.getD i default).dl), .sc (.int .i64 (l.getD i default).cp)] := rfl
theorem intsF_eq (l : List Int) (i : Nat) : intsF l i = [.sc (.int .i64 (l.getD i 0))] := rfl
theorem boolsF_eq (l : List Bool) (i : Nat) : boolsF l i = [.sc (.bool (l.getD i false))] := rfl

theorem EVF : (∀ (l : List Nd) (i : Nat), ndsF l i = [.sc (.string (l.getD i default).name), .sc (.bool (l.getD i default).sw), .sc (.int .i64 (l.getD i default).ports)])
    ∧ (∀ (l : List Cb) (i : Nat), cbsF l i = [.sc (.int .i64 (l.getD i default).a), .sc (.int .i64 (l.getD i default).ap), .sc (.int .i64 (l.getD i default).b), .sc (.int .i64 (l.getD i default).bp), .sc (.int .i64 (l.getD i default).dl), .sc (.int .i64 (l.getD i default).cp)])
    ∧ (∀ (l : List Int) (i : Nat), intsF l i = [.sc (.int .i64 (l.getD i 0))])
    ∧ (∀ (l : List Bool) (i : Nat), boolsF l i = [.sc (.bool (l.getD i false))]) := ⟨ndsF_eq, cbsF_eq, intsF_eq, boolsF_eq⟩
structure PlOk (p : Pl) : Prop where
  nm : ∀ n, n ∈ p.ns → n.name.size ≤ 9223372036854775807 ∧ In64 n.ports
  cb : ∀ c, c ∈ p.cs → In64 c.a ∧ In64 c.ap ∧ In64 c.b ∧ In64 c.bp ∧ In64 c.dl ∧ In64 c.cp

theorem key_str {P : Program} {t : TypeId} (hu : P.underlying t = some .string) {s : ByteArray} (h : s.size ≤ 9223372036854775807) : (keyOf P t (.string s)).isSome = true := by
  have : s.size ≤ maxLen := h
  simp [keyOf, hu, mapKey, this]
theorem wf_i64 {a : Int} (h : In64 a) : (Lit.int .i64 a).wf = true := by
  unfold In64 at h
  have h1 : IntKind.i64.min = -9223372036854775808 := by decide
  have h2 : IntKind.i64.max = 9223372036854775807 := by decide
  simp [Lit.wf, h1, h2, h]
theorem key_arr2 {P : Program} {t e : TypeId} (hu : P.underlying t = some (.array 2 e)) (he : P.underlying e = some (.int .i64)) (hk : P.keyType t = true) (hc : P.cellsOf t = 2) (hce : P.cellsOf e = 1) (hz : P.types.size ≠ 0) {a b : Int} (ha : In64 a) (hb : In64 b) :
    (keyOf P t (.agg #[.int .i64 a, .int .i64 b])).isSome = true := by
  have h1 : (Lit.int .i64 a).wf = true := wf_i64 ha
  have h2 : (Lit.int .i64 b).wf = true := wf_i64 hb
  have hl : ∀ x, (Lit.int .i64 x).wf = true → P.keyLits P.types.size e [.int .i64 x] = some [.int .i64 x] := by
    intro x hx
    obtain ⟨d, hd⟩ : ∃ d, P.types.size = d + 1 := ⟨P.types.size - 1, by omega⟩
    rw [hd]
    simp [Program.keyLits, he, hx]
  simp [keyOf, hu, hk, Value.formed, hc, Program.keyLits, he, hce, h1, h2, List.range_succ, Value.cells, hl]

def setM {α : Type} (f : α → Value) (l : List α) : List (Value × LV) := l.map fun x => (f x, .sc (.bool true))
open Classical in
theorem mfind_setM {α : Type} {f : α → Value} (hf : ∀ x y, f x = f y → x = y) (l : List α) (x : α) : mfind (setM f l) (f x) = if x ∈ l then some (.sc (.bool true)) else none := by
  induction l with
  | nil => simp [setM, mfind]
  | cons y r ih =>
    simp only [setM, List.map_cons, mfind]
    by_cases e : f y = f x
    · have : x = y := (hf _ _ e).symm
      subst this; simp
    · rw [if_neg e]
      have : x ≠ y := fun h => e (by rw [h])
      simp only [setM] at ih
      rw [ih]; simp [this]
theorem mput_setM {α : Type} {f : α → Value} (hf : ∀ x y, f x = f y → x = y) (l : List α) (x : α) (hx : x ∉ l) : mput (setM f l) (f x) (.sc (.bool true)) = setM f (l ++ [x]) := by
  induction l with
  | nil => simp [setM, mput]
  | cons y r ih =>
    simp only [setM, List.map_cons, mput, List.cons_append]
    have hxy : x ≠ y := fun h => hx (by rw [h]; simp)
    rw [if_neg (fun e => hxy (hf _ _ e).symm)]
    have := ih (fun h => hx (List.mem_cons_of_mem _ h))
    simp only [setM] at this
    rw [this]
theorem allC_setM {α : Type} {f : α → Value} (n : Nat) (l : List α) : allC n ((setM f l).map (·.2)) := by
  induction l with
  | nil => trivial
  | cons y r ih => exact ⟨trivial, ih⟩
theorem keys_setM {P : Program} {t : TypeId} {α : Type} {f : α → Value} {l : List α} {x : α} (hk : ∀ y, y ∈ x :: l → (keyOf P t (f y)).isSome = true) : keysOk P t (setM f l) (f x) := by
  refine ⟨hk _ (by simp), ?_⟩
  intro kv hkv
  simp only [setM, List.mem_map] at hkv
  obtain ⟨y, hy, rfl⟩ := hkv
  exact hk _ (List.mem_cons_of_mem _ hy)

def nmOk (s : ByteArray) (i : Nat) : Bool :=
  (decide (97 ≤ (sbyte s i).toNat) && decide ((sbyte s i).toNat ≤ 122)) || (decide (i ≠ 0) && (decide (48 ≤ (sbyte s i).toNat) && decide ((sbyte s i).toNat ≤ 57)))
def nmAll (s : ByteArray) : Nat → Bool
  | 0 => true
  | i + 1 => nmAll s i && nmOk s i
def nameOk (s : ByteArray) : Bool := decide (1 ≤ s.size) && (decide (s.size ≤ 20) && nmAll s s.size)

theorem nmAll_le (s : ByteArray) {i : Nat} (hx : nmOk s i = false) : ∀ {n : Nat}, i < n → nmAll s n = false := by
  intro n
  induction n with
  | zero => intro h; omega
  | succ n ih =>
    intro h
    by_cases e : i = n
    · subst e; simp [nmAll, hx]
    · simp [nmAll, ih (by omega)]
theorem ev_validName (s : ByteArray) : Ev Tryd.prog 96 [.sc (.string s)] (.sc (.bool (nameOk s))) := by
  refine ev_fn Tryd.func96 comp96 (show 1 ≤ Tryd.f96.ntmps by decide) ?_; unfold cf96 rf96; simp only [↓EVP0, EVQ0, EVQ1, EVQ2, EVQ3, EVQ4, EVA, EVK, EVF, ↓reduceIte, Nat.reduceEqDiff, Nat.reduceAdd, Nat.reduceSub, Nat.reduceMul, Nat.reduceLT, Nat.reduceLeDiff, reduceCtorEq, Int.reduceToNat, Int.reduceLT, Int.reduceLE, Int.reduceAdd, Int.reduceSub, Int.reduceMul, Int.reduceNeg, Int.reduceEq, Nat.reduceMod, forall_eq_or_imp, forall_eq, forall_const, cond_true, cond_false, decide_true, decide_false, true_imp_iff, implies_true, Int.cast_ofNat_Int, forall_eq']
  refine ⟨fun hg => ?_, fun hg => ?_⟩
  · have : nameOk s = false := by
      unfold nameOk
      by_cases h1 : s.size < 1
      · simp; omega
      · have : (20 : Int) < s.size := by simpa [show ¬ ((s.size : Int) < 1) by omega] using hg
        simp; omega
    rw [this]
  · have hs : 1 ≤ s.size ∧ s.size ≤ 20 := by
      by_cases h1 : (s.size : Int) < 1
      · simp [h1] at hg
      · simp [h1] at hg; omega
    refine lwp_for (α := Unit) s.size (fun i _ => nmAll s i = true) (fun i _ => [(0, .sc (.string s)), (15, .sc (.int .i64 s.size)), (16, .sc (.int .i64 i))]) (fun _ _ => []) () rfl ?_ (fun _ _ => Nat.le_refl _) ?_
    · simp only [↓EVP0, EVQ0, EVQ1, EVQ2, EVQ3, EVQ4, EVA, EVK, EVF, ↓reduceIte, Nat.reduceEqDiff, Nat.reduceAdd, Nat.reduceSub, Nat.reduceMul, Nat.reduceLT, Nat.reduceLeDiff, reduceCtorEq, Int.reduceToNat, Int.reduceLT, Int.reduceLE, Int.reduceAdd, Int.reduceSub, Int.reduceMul, Int.reduceNeg, Int.reduceEq, Nat.reduceMod, forall_eq_or_imp, forall_eq, forall_const, cond_true, cond_false, decide_true, decide_false, true_imp_iff, implies_true, Int.cast_ofNat_Int, forall_eq']
    · intro i _ hi hx
      unfold lb96_0
      simp only [↓EVP0, EVQ0, EVQ1, EVQ2, EVQ3, EVQ4, EVA, EVK, EVF, ↓reduceIte, Nat.reduceEqDiff, Nat.reduceAdd, Nat.reduceSub, Nat.reduceMul, Nat.reduceLT, Nat.reduceLeDiff, reduceCtorEq, Int.reduceToNat, Int.reduceLT, Int.reduceLE, Int.reduceAdd, Int.reduceSub, Int.reduceMul, Int.reduceNeg, Int.reduceEq, Nat.reduceMod, forall_eq_or_imp, forall_eq, forall_const, cond_true, cond_false, decide_true, decide_false, true_imp_iff, implies_true, Int.cast_ofNat_Int, forall_eq']
      refine ⟨fun hg => ?_, fun hg => ?_⟩
      · have hi2 : i < s.size := by simpa using hg
        refine ⟨⟨by omega, hi2⟩, fun _ => ⟨by omega, hi2⟩, ⟨by omega, hi2⟩, fun _ => ⟨by omega, hi2⟩, fun hg => ?_, fun hg => ?_⟩
        · have h1 : nmOk s i = false := by
            simp [nmOk] at hg ⊢
            omega
          have := nmAll_le s h1 hi2
          simp [nameOk, this]
        · have h1 : nmOk s i = true := by
            simp [nmOk] at hg ⊢
            omega
          exact ⟨by unfold In64; omega, hi2, by simp [nmAll, hx, h1]⟩
      · have hi2 : i = s.size := by simp at hg; omega
        subst hi2
        simp [nameOk, hx, hs]
end Go.Proofs.YtcdepkflghcjpaaDoor
namespace Go.Proofs.YtcdepkflghcjpaaDoor
set_option linter.unusedSimpArgs false
set_option linter.unusedVariables false
open Go.RowKit

def nodeOk (n : Nd) : Bool := nameOk n.name && (bif n.sw then decide (1 ≤ n.ports) && decide (n.ports ≤ 8) else decide (n.ports = 1))
theorem ev_validNode (n : Nd) : Ev Tryd.prog 77 [.agg (ndL n)] (.sc (.bool (nodeOk n))) := by
  unfold ndL
  refine ev_fn Tryd.func77 comp77 (show 1 ≤ Tryd.f77.ntmps by decide) ?_; unfold cf77 rf77; simp only [↓EVP0, EVQ0, EVQ1, EVQ2, EVQ3, EVQ4, EVA, EVK, EVF, ↓reduceIte, Nat.reduceEqDiff, Nat.reduceAdd, Nat.reduceSub, Nat.reduceMul, Nat.reduceLT, Nat.reduceLeDiff, reduceCtorEq, Int.reduceToNat, Int.reduceLT, Int.reduceLE, Int.reduceAdd, Int.reduceSub, Int.reduceMul, Int.reduceNeg, Int.reduceEq, Nat.reduceMod, forall_eq_or_imp, forall_eq, forall_const, cond_true, cond_false, decide_true, decide_false, true_imp_iff, implies_true, Int.cast_ofNat_Int, forall_eq']
  unfold callK
  refine ⟨_, _, lcall_ro (ev_validName n.name) ?_, ?_⟩
  · simp only [↓EVP0, EVQ0, EVQ1, EVQ2, EVQ3, EVQ4, EVA, EVK, EVF, ↓reduceIte, Nat.reduceEqDiff, Nat.reduceAdd, Nat.reduceSub, Nat.reduceMul, Nat.reduceLT, Nat.reduceLeDiff, reduceCtorEq, Int.reduceToNat, Int.reduceLT, Int.reduceLE, Int.reduceAdd, Int.reduceSub, Int.reduceMul, Int.reduceNeg, Int.reduceEq, Nat.reduceMod, forall_eq_or_imp, forall_eq, forall_const, cond_true, cond_false, decide_true, decide_false, true_imp_iff, implies_true, Int.cast_ofNat_Int, forall_eq']
  simp only [↓EVP0, EVQ0, EVQ1, EVQ2, EVQ3, EVQ4, EVA, EVK, EVF, ↓reduceIte, Nat.reduceEqDiff, Nat.reduceAdd, Nat.reduceSub, Nat.reduceMul, Nat.reduceLT, Nat.reduceLeDiff, reduceCtorEq, Int.reduceToNat, Int.reduceLT, Int.reduceLE, Int.reduceAdd, Int.reduceSub, Int.reduceMul, Int.reduceNeg, Int.reduceEq, Nat.reduceMod, forall_eq_or_imp, forall_eq, forall_const, cond_true, cond_false, decide_true, decide_false, true_imp_iff, implies_true, Int.cast_ofNat_Int, forall_eq']
  unfold nodeOk
  refine ⟨fun hg => ?_, fun hg => ⟨fun h2 => ?_, fun h2 => ?_⟩⟩
  · simp at hg; simp [hg]
  · simp at hg; simp [hg, h2]
  · simp at hg; simp [hg, h2]
def portOk (p : Pl) (a ap : Int) : Bool := decide (0 ≤ a) && (decide (a < p.ns.length) && (decide (0 ≤ ap) && decide (ap < (p.ns.getD a.toNat default).ports)))
theorem ev_hasPort (p : Pl) (a ap : Int) : Ev Tryd.prog 78 [plV p, .sc (.int .i64 a), .sc (.int .i64 ap)] (.sc (.bool (portOk p a ap))) := by
  unfold plV
  refine ev_fn Tryd.func78 comp78 (show 3 ≤ Tryd.f78.ntmps by decide) ?_; unfold cf78 rf78; simp only [↓EVP0, EVQ0, EVQ1, EVQ2, EVQ3, EVQ4, EVA, EVK, EVF, ↓reduceIte, Nat.reduceEqDiff, Nat.reduceAdd, Nat.reduceSub, Nat.reduceMul, Nat.reduceLT, Nat.reduceLeDiff, reduceCtorEq, Int.reduceToNat, Int.reduceLT, Int.reduceLE, Int.reduceAdd, Int.reduceSub, Int.reduceMul, Int.reduceNeg, Int.reduceEq, Nat.reduceMod, forall_eq_or_imp, forall_eq, forall_const, cond_true, cond_false, decide_true, decide_false, true_imp_iff, implies_true, Int.cast_ofNat_Int, forall_eq']
  refine ⟨fun hg => ?_, ?_⟩
  · simp at hg; omega
  · unfold portOk
    cases decide (0 ≤ a) <;> cases decide (a < p.ns.length) <;> cases decide (0 ≤ ap) <;> simp

def endsC (c : Cb) : List (Int × Int) := [(c.a, c.ap), (c.b, c.bp)]
def endsOf (l : List Cb) : List (Int × Int) := l.flatMap endsC
def repOk (p : Pl) : Bool := !(decide (p.ns.map (·.name)).Nodup && decide (endsOf p.cs).Nodup)
def endV (e : Int × Int) : Value := .agg #[.int .i64 e.1, .int .i64 e.2]
theorem endV_inj (x y : Int × Int) (h : endV x = endV y) : x = y := by
  unfold endV at h
  injection h with h
  have h1 : (#[Value.int .i64 x.1, .int .i64 x.2] : Array Value).toList = (#[Value.int .i64 y.1, .int .i64 y.2] : Array Value).toList := by rw [h]
  simp at h1
  exact Prod.ext h1.1 h1.2
theorem take_succ_getD {α : Type} (d : α) (l : List α) (i : Nat) (h : i < l.length) : l.take (i + 1) = l.take i ++ [l.getD i d] := by
  rw [List.take_add_one, List.getElem?_eq_getElem h, List.getD_eq_getElem?_getD, List.getElem?_eq_getElem h]; rfl
theorem nodup_take {α : Type} {l : List α} {x : α} : (l ++ [x]).Nodup ↔ l.Nodup ∧ x ∉ l := by
  rw [List.nodup_append]
  constructor
  · rintro ⟨h1, _, h3⟩; exact ⟨h1, fun hx => h3 x hx x (by simp) rfl⟩
  · rintro ⟨h1, h2⟩; exact ⟨h1, by simp, fun a ha b hb => by simp at hb; subst hb; intro e; subst e; exact h2 ha⟩

theorem ev_repeats (p : Pl) (hp : PlOk p) : Ev Tryd.prog 79 [plV p] (.sc (.bool (repOk p))) := by
  unfold plV
  refine ev_fn Tryd.func79 comp79 (show 1 ≤ Tryd.f79.ntmps by decide) ?_; unfold cf79 rf79; simp only [↓EVP0, EVQ0, EVQ1, EVQ2, EVQ3, EVQ4, EVA, EVK, EVF, ↓reduceIte, Nat.reduceEqDiff, Nat.reduceAdd, Nat.reduceSub, Nat.reduceMul, Nat.reduceLT, Nat.reduceLeDiff, reduceCtorEq, Int.reduceToNat, Int.reduceLT, Int.reduceLE, Int.reduceAdd, Int.reduceSub, Int.reduceMul, Int.reduceNeg, Int.reduceEq, Nat.reduceMod, forall_eq_or_imp, forall_eq, forall_const, cond_true, cond_false, decide_true, decide_false, true_imp_iff, implies_true, Int.cast_ofNat_Int, forall_eq']
  intro hn
  have hname : ∀ i, i < p.ns.length → (p.ns.getD i default).name.size ≤ 9223372036854775807 := fun i hi => by
    rw [List.getD_eq_getElem?_getD, List.getElem?_eq_getElem hi]; exact (hp.nm _ (List.getElem_mem hi)).1
  refine lwp_for (α := Unit) p.ns.length (fun i m => ((p.ns.take i).map (·.name)).Nodup) (fun i m => [(1, .ptr 0 0 0 0 0), (3, .mp 1 0), (13, .rsl 3 p.ns.length (ndsF p.ns)), (14, .sc (.int .i64 p.ns.length)), (15, .sc (.int .i64 i))])
    (fun i m => [(0, .box [.rsl 3 p.ns.length (ndsF p.ns), .rsl 6 p.cs.length (cbsF p.cs)]), (0, .map (setM Value.string ((p.ns.take i).map (·.name))))]) () ?_ ?_ (fun _ _ => Nat.zero_le _) ?_
  · simp
  · simp only [↓EVP0, EVQ0, EVQ1, EVQ2, EVQ3, EVQ4, EVA, EVK, EVF, ↓reduceIte, Nat.reduceEqDiff, Nat.reduceAdd, Nat.reduceSub, Nat.reduceMul, Nat.reduceLT, Nat.reduceLeDiff, reduceCtorEq, Int.reduceToNat, Int.reduceLT, Int.reduceLE, Int.reduceAdd, Int.reduceSub, Int.reduceMul, Int.reduceNeg, Int.reduceEq, Nat.reduceMod, forall_eq_or_imp, forall_eq, forall_const, cond_true, cond_false, decide_true, decide_false, true_imp_iff, implies_true, Int.cast_ofNat_Int, forall_eq']
    simp [setM, allC]
  intro i m hi hx
  unfold lb79_2
  simp only [↓EVP0, EVQ0, EVQ1, EVQ2, EVQ3, EVQ4, EVA, EVK, EVF, ↓reduceIte, Nat.reduceEqDiff, Nat.reduceAdd, Nat.reduceSub, Nat.reduceMul, Nat.reduceLT, Nat.reduceLeDiff, reduceCtorEq, Int.reduceToNat, Int.reduceLT, Int.reduceLE, Int.reduceAdd, Int.reduceSub, Int.reduceMul, Int.reduceNeg, Int.reduceEq, Nat.reduceMod, forall_eq_or_imp, forall_eq, forall_const, cond_true, cond_false, decide_true, decide_false, true_imp_iff, implies_true, Int.cast_ofNat_Int, forall_eq']
  refine ⟨fun hg => ?_, fun hg => ?_⟩
  · have hi2 : i < p.ns.length := by simpa using hg
    have hs : (p.ns.take (i + 1)).map (·.name) = (p.ns.take i).map (·.name) ++ [(p.ns.getD i default).name] := by
      rw [take_succ_getD default _ _ hi2]; simp
    have hk : keysOk Tryd.prog 9 (setM Value.string ((p.ns.take i).map (·.name))) (Value.string (p.ns.getD i default).name) := by
      refine keys_setM fun y hy => key_str (by kernel_rfl) ?_
      rcases List.mem_cons.1 hy with rfl | hy
      · exact hname i hi2
      · simp only [List.mem_map] at hy
        obtain ⟨n, hn, rfl⟩ := hy
        exact (hp.nm n (List.mem_of_mem_take hn)).1
    have hinj : ∀ x y : ByteArray, Value.string x = Value.string y → x = y := fun x y h => by injection h
    rw [mfind_setM hinj]
    by_cases hin : (p.ns.getD i default).name ∈ (p.ns.take i).map (·.name)
    · rw [if_pos hin]
      simp only [Option.getD_some]
      simp only [↓EVP0, EVQ0, EVQ1, EVQ2, EVQ3, EVQ4, EVA, EVK, EVF, ↓reduceIte, Nat.reduceEqDiff, Nat.reduceAdd, Nat.reduceSub, Nat.reduceMul, Nat.reduceLT, Nat.reduceLeDiff, reduceCtorEq, Int.reduceToNat, Int.reduceLT, Int.reduceLE, Int.reduceAdd, Int.reduceSub, Int.reduceMul, Int.reduceNeg, Int.reduceEq, Nat.reduceMod, forall_eq_or_imp, forall_eq, forall_const, cond_true, cond_false, decide_true, decide_false, true_imp_iff, implies_true, Int.cast_ofNat_Int, forall_eq']
      refine ⟨⟨by omega, by omega⟩, hk, ?_⟩
      have h1 : ¬ (p.ns.map (·.name)).Nodup := by
        intro hd
        have : ((p.ns.take (i + 1)).map (·.name)).Nodup := by rw [List.map_take]; exact hd.sublist (List.take_sublist _ _)
        rw [hs, nodup_take] at this
        exact this.2 hin
      simp [repOk, h1]
    · rw [if_neg hin, mput_setM hinj _ _ hin, hs, nodup_take]
      simp only [Option.getD_none]
      simp only [↓EVP0, EVQ0, EVQ1, EVQ2, EVQ3, EVQ4, EVA, EVK, EVF, ↓reduceIte, Nat.reduceEqDiff, Nat.reduceAdd, Nat.reduceSub, Nat.reduceMul, Nat.reduceLT, Nat.reduceLeDiff, reduceCtorEq, Int.reduceToNat, Int.reduceLT, Int.reduceLE, Int.reduceAdd, Int.reduceSub, Int.reduceMul, Int.reduceNeg, Int.reduceEq, Nat.reduceMod, forall_eq_or_imp, forall_eq, forall_const, cond_true, cond_false, decide_true, decide_false, true_imp_iff, implies_true, Int.cast_ofNat_Int, forall_eq']
      refine ⟨⟨by omega, by omega⟩, hk, hk, by unfold In64; omega, hi2, (), ⟨hx, hin⟩, allC_setM _ _⟩
  intro hm
  have hii : i = p.ns.length := by simp at hg; omega
  subst hii
  rw [List.take_length] at hx ⊢
  have hel : ∀ i, i < p.cs.length → In64 (p.cs.getD i default).a ∧ In64 (p.cs.getD i default).ap ∧ In64 (p.cs.getD i default).b ∧ In64 (p.cs.getD i default).bp := fun i hi => by
    rw [List.getD_eq_getElem?_getD, List.getElem?_eq_getElem hi]
    obtain ⟨h1, h2, h3, h4, _⟩ := hp.cb _ (List.getElem_mem hi)
    exact ⟨h1, h2, h3, h4⟩
  refine lwp_for (α := Unit) p.cs.length (fun i m => (endsOf (p.cs.take i)).Nodup) (fun i m => [(6, .mp 2 0), (29, .rsl 6 p.cs.length (cbsF p.cs)), (30, .sc (.int .i64 p.cs.length)), (31, .sc (.int .i64 i))])
    (fun i m => [(0, .box [.rsl 3 p.ns.length (ndsF p.ns), .rsl 6 p.cs.length (cbsF p.cs)]), (0, .map (setM Value.string (p.ns.map (·.name)))), (0, .map (setM endV (endsOf (p.cs.take i))))]) () ?_ ?_ (fun _ _ => Nat.zero_le _) ?_
  · simp [endsOf]
  · simp only [↓EVP0, EVQ0, EVQ1, EVQ2, EVQ3, EVQ4, EVA, EVK, EVF, ↓reduceIte, Nat.reduceEqDiff, Nat.reduceAdd, Nat.reduceSub, Nat.reduceMul, Nat.reduceLT, Nat.reduceLeDiff, reduceCtorEq, Int.reduceToNat, Int.reduceLT, Int.reduceLE, Int.reduceAdd, Int.reduceSub, Int.reduceMul, Int.reduceNeg, Int.reduceEq, Nat.reduceMod, forall_eq_or_imp, forall_eq, forall_const, cond_true, cond_false, decide_true, decide_false, true_imp_iff, implies_true, Int.cast_ofNat_Int, forall_eq']
    exact ⟨allC_setM _ _, rfl, allC_setM _ _⟩
  intro i m hi hx2
  unfold lb79_1
  simp only [↓EVP0, EVQ0, EVQ1, EVQ2, EVQ3, EVQ4, EVA, EVK, EVF, ↓reduceIte, Nat.reduceEqDiff, Nat.reduceAdd, Nat.reduceSub, Nat.reduceMul, Nat.reduceLT, Nat.reduceLeDiff, reduceCtorEq, Int.reduceToNat, Int.reduceLT, Int.reduceLE, Int.reduceAdd, Int.reduceSub, Int.reduceMul, Int.reduceNeg, Int.reduceEq, Nat.reduceMod, forall_eq_or_imp, forall_eq, forall_const, cond_true, cond_false, decide_true, decide_false, true_imp_iff, implies_true, Int.cast_ofNat_Int, forall_eq']
  refine ⟨fun hg => ?_, fun hg => ?_⟩
  · have hi2 : i < p.cs.length := by simpa using hg
    obtain ⟨b1, b2, b3, b4⟩ := hel i hi2
    generalize hc : p.cs.getD i default = c at b1 b2 b3 b4 ⊢
    have hs : endsOf (p.cs.take (i + 1)) = endsOf (p.cs.take i) ++ endsC c := by
      rw [take_succ_getD default _ _ hi2, hc]; simp [endsOf]
    have hks : ∀ y, y ∈ endsOf (p.cs.take i) ++ endsC c → In64 y.1 ∧ In64 y.2 := by
      intro y hy
      rcases List.mem_append.1 hy with hy | hy
      · simp only [endsOf, List.mem_flatMap] at hy
        obtain ⟨q, hq, hy⟩ := hy
        obtain ⟨g1, g2, g3, g4, _⟩ := hp.cb q (List.mem_of_mem_take hq)
        simp only [endsC, List.mem_cons, List.not_mem_nil, or_false] at hy
        rcases hy with rfl | rfl <;> simp [*]
      · simp only [endsC, List.mem_cons, List.not_mem_nil, or_false] at hy
        rcases hy with rfl | rfl <;> simp [*]
    have hkey : ∀ y, In64 y.1 ∧ In64 y.2 → (keyOf Tryd.prog 85 (endV y)).isSome = true := fun y hy => key_arr2 (e := 3) (by kernel_rfl) (by kernel_rfl) (by kernel_rfl) (by kernel_rfl) (by kernel_rfl) (ne_of_beq_false (by kernel_rfl)) hy.1 hy.2
    have hnd : ∀ e q, e ∈ q → ¬ (q ++ [e] : List (Int × Int)).Nodup := fun e q he h => (nodup_take.1 h).2 he
    have hrep : ∀ q, q <+: endsOf (p.cs.take i) ++ endsC c → ¬ q.Nodup → repOk p = true := by
      intro q hq hn
      have h1 : ¬ (endsOf p.cs).Nodup := by
        intro hd
        apply hn
        have h2 : (endsOf (p.cs.take (i + 1))).Nodup := by
          refine hd.sublist ?_
          unfold endsOf
          conv => rhs; rw [← List.take_append_drop (i + 1) p.cs, List.flatMap_append]
          exact List.sublist_append_left _ _
        rw [hs] at h2
        exact h2.sublist hq.sublist
      simp [repOk, h1]
    refine ⟨⟨by omega, by omega⟩, ?_⟩
    generalize hL : endsOf (p.cs.take i) = L at *
    refine lwp_for (α := Unit) 2 (fun j m => (L ++ (endsC c).take j).Nodup) (fun j m => [(6, .mp 2 0), (29, .rsl 6 p.cs.length (cbsF p.cs)), (30, .sc (.int .i64 p.cs.length)), (31, .sc (.int .i64 i)), (45, .agg [.sc (.int .i64 c.a), .sc (.int .i64 c.ap), .sc (.int .i64 c.b), .sc (.int .i64 c.bp)]), (46, .sc (.int .i64 j))])
      (fun j m => [(0, .box [.rsl 3 p.ns.length (ndsF p.ns), .rsl 6 p.cs.length (cbsF p.cs)]), (0, .map (setM Value.string (p.ns.map (·.name)))), (0, .map (setM endV (L ++ (endsC c).take j)))]) () ?_ ?_ (fun _ _ => Nat.zero_le _) ?_
    · simpa using hx2
    · simp only [↓EVP0, EVQ0, EVQ1, EVQ2, EVQ3, EVQ4, EVA, EVK, EVF, ↓reduceIte, Nat.reduceEqDiff, Nat.reduceAdd, Nat.reduceSub, Nat.reduceMul, Nat.reduceLT, Nat.reduceLeDiff, reduceCtorEq, Int.reduceToNat, Int.reduceLT, Int.reduceLE, Int.reduceAdd, Int.reduceSub, Int.reduceMul, Int.reduceNeg, Int.reduceEq, Nat.reduceMod, forall_eq_or_imp, forall_eq, forall_const, cond_true, cond_false, decide_true, decide_false, true_imp_iff, implies_true, Int.cast_ofNat_Int, forall_eq']
      simp only [List.append_nil]
      exact ⟨allC_setM _ _, trivial, allC_setM _ _⟩
    intro j _ hj hx3
    unfold lb79_0
    have hstep : ∀ (q : List (Int × Int)) (e : Int × Int), (∃ r, q ++ [e] ++ r = L ++ endsC c) → q.Nodup → keysOk Tryd.prog 85 (setM endV q) (endV e) ∧ ((e ∈ q ∧ mfind (setM endV q) (endV e) = some (.sc (.bool true)) ∧ repOk p = true) ∨ (e ∉ q ∧ mfind (setM endV q) (endV e) = none ∧ (q ++ [e]).Nodup ∧ mput (setM endV q) (endV e) (.sc (.bool true)) = setM endV (q ++ [e]))) := by
      rintro q e ⟨r, hr⟩ hq
      have hsub : ∀ y, y ∈ e :: q → In64 y.1 ∧ In64 y.2 := fun y hy => hks y (by rw [← hr]; simp at hy ⊢; rcases hy with h | h <;> simp [h])
      refine ⟨keys_setM fun y hy => hkey y (hsub y hy), ?_⟩
      rw [mfind_setM endV_inj]
      by_cases he : e ∈ q
      · exact .inl ⟨he, if_pos he, hrep (q ++ [e]) ⟨r, hr⟩ (hnd e q he)⟩
      · exact .inr ⟨he, if_neg he, nodup_take.2 ⟨hq, he⟩, mput_setM endV_inj _ _ he⟩
    obtain rfl | rfl | rfl : j = 0 ∨ j = 1 ∨ j = 2 := by omega
    · obtain ⟨hk, ⟨h1, h2, h3⟩ | ⟨h1, h2, h3, h4⟩⟩ := hstep L (c.a, c.ap) ⟨[(c.b, c.bp)], by simp [endsC]⟩ hx2
      · simp only [endV] at h2 hk
        simp only [↓EVP0, EVQ0, EVQ1, EVQ2, EVQ3, EVQ4, EVA, EVK, EVF, ↓reduceIte, Nat.reduceEqDiff, Nat.reduceAdd, Nat.reduceSub, Nat.reduceMul, Nat.reduceLT, Nat.reduceLeDiff, reduceCtorEq, Int.reduceToNat, Int.reduceLT, Int.reduceLE, Int.reduceAdd, Int.reduceSub, Int.reduceMul, Int.reduceNeg, Int.reduceEq, Nat.reduceMod, forall_eq_or_imp, forall_eq, forall_const, cond_true, cond_false, decide_true, decide_false, true_imp_iff, implies_true, Int.cast_ofNat_Int, forall_eq']
        simp only [endsC, List.take_zero, List.append_nil, h2, Option.getD_some]
        simp only [↓EVP0, EVQ0, EVQ1, EVQ2, EVQ3, EVQ4, EVA, EVK, EVF, ↓reduceIte, Nat.reduceEqDiff, Nat.reduceAdd, Nat.reduceSub, Nat.reduceMul, Nat.reduceLT, Nat.reduceLeDiff, reduceCtorEq, Int.reduceToNat, Int.reduceLT, Int.reduceLE, Int.reduceAdd, Int.reduceSub, Int.reduceMul, Int.reduceNeg, Int.reduceEq, Nat.reduceMod, forall_eq_or_imp, forall_eq, forall_const, cond_true, cond_false, decide_true, decide_false, true_imp_iff, implies_true, Int.cast_ofNat_Int, forall_eq']
        exact ⟨hk, h3.symm⟩
      · simp only [endV] at h2 hk h4
        simp only [↓EVP0, EVQ0, EVQ1, EVQ2, EVQ3, EVQ4, EVA, EVK, EVF, ↓reduceIte, Nat.reduceEqDiff, Nat.reduceAdd, Nat.reduceSub, Nat.reduceMul, Nat.reduceLT, Nat.reduceLeDiff, reduceCtorEq, Int.reduceToNat, Int.reduceLT, Int.reduceLE, Int.reduceAdd, Int.reduceSub, Int.reduceMul, Int.reduceNeg, Int.reduceEq, Nat.reduceMod, forall_eq_or_imp, forall_eq, forall_const, cond_true, cond_false, decide_true, decide_false, true_imp_iff, implies_true, Int.cast_ofNat_Int, forall_eq']
        simp only [endsC, List.take_zero, List.append_nil, h2, Option.getD_none]
        simp only [↓EVP0, EVQ0, EVQ1, EVQ2, EVQ3, EVQ4, EVA, EVK, EVF, ↓reduceIte, Nat.reduceEqDiff, Nat.reduceAdd, Nat.reduceSub, Nat.reduceMul, Nat.reduceLT, Nat.reduceLeDiff, reduceCtorEq, Int.reduceToNat, Int.reduceLT, Int.reduceLE, Int.reduceAdd, Int.reduceSub, Int.reduceMul, Int.reduceNeg, Int.reduceEq, Nat.reduceMod, forall_eq_or_imp, forall_eq, forall_const, cond_true, cond_false, decide_true, decide_false, true_imp_iff, implies_true, Int.cast_ofNat_Int, forall_eq']
        exact ⟨hk, hk, by unfold In64; decide, (), h3, allC_setM _ _, h4, allC_setM _ _⟩
    · obtain ⟨hk, ⟨h1, h2, h3⟩ | ⟨h1, h2, h3, h4⟩⟩ := hstep (L ++ [(c.a, c.ap)]) (c.b, c.bp) ⟨[], by simp [endsC]⟩ hx3
      · simp only [endV] at h2 hk
        simp only [↓EVP0, EVQ0, EVQ1, EVQ2, EVQ3, EVQ4, EVA, EVK, EVF, ↓reduceIte, Nat.reduceEqDiff, Nat.reduceAdd, Nat.reduceSub, Nat.reduceMul, Nat.reduceLT, Nat.reduceLeDiff, reduceCtorEq, Int.reduceToNat, Int.reduceLT, Int.reduceLE, Int.reduceAdd, Int.reduceSub, Int.reduceMul, Int.reduceNeg, Int.reduceEq, Nat.reduceMod, forall_eq_or_imp, forall_eq, forall_const, cond_true, cond_false, decide_true, decide_false, true_imp_iff, implies_true, Int.cast_ofNat_Int, forall_eq']
        simp only [endsC, List.take_succ_cons, List.take_zero, h2, Option.getD_some]
        simp only [↓EVP0, EVQ0, EVQ1, EVQ2, EVQ3, EVQ4, EVA, EVK, EVF, ↓reduceIte, Nat.reduceEqDiff, Nat.reduceAdd, Nat.reduceSub, Nat.reduceMul, Nat.reduceLT, Nat.reduceLeDiff, reduceCtorEq, Int.reduceToNat, Int.reduceLT, Int.reduceLE, Int.reduceAdd, Int.reduceSub, Int.reduceMul, Int.reduceNeg, Int.reduceEq, Nat.reduceMod, forall_eq_or_imp, forall_eq, forall_const, cond_true, cond_false, decide_true, decide_false, true_imp_iff, implies_true, Int.cast_ofNat_Int, forall_eq']
        exact ⟨hk, h3.symm⟩
      · simp only [endV] at h2 hk h4
        simp only [↓EVP0, EVQ0, EVQ1, EVQ2, EVQ3, EVQ4, EVA, EVK, EVF, ↓reduceIte, Nat.reduceEqDiff, Nat.reduceAdd, Nat.reduceSub, Nat.reduceMul, Nat.reduceLT, Nat.reduceLeDiff, reduceCtorEq, Int.reduceToNat, Int.reduceLT, Int.reduceLE, Int.reduceAdd, Int.reduceSub, Int.reduceMul, Int.reduceNeg, Int.reduceEq, Nat.reduceMod, forall_eq_or_imp, forall_eq, forall_const, cond_true, cond_false, decide_true, decide_false, true_imp_iff, implies_true, Int.cast_ofNat_Int, forall_eq']
        simp only [endsC, List.take_succ_cons, List.take_zero, h2, Option.getD_none]
        simp only [↓EVP0, EVQ0, EVQ1, EVQ2, EVQ3, EVQ4, EVA, EVK, EVF, ↓reduceIte, Nat.reduceEqDiff, Nat.reduceAdd, Nat.reduceSub, Nat.reduceMul, Nat.reduceLT, Nat.reduceLeDiff, reduceCtorEq, Int.reduceToNat, Int.reduceLT, Int.reduceLE, Int.reduceAdd, Int.reduceSub, Int.reduceMul, Int.reduceNeg, Int.reduceEq, Nat.reduceMod, forall_eq_or_imp, forall_eq, forall_const, cond_true, cond_false, decide_true, decide_false, true_imp_iff, implies_true, Int.cast_ofNat_Int, forall_eq']
        simp only [List.append_assoc, List.cons_append, List.nil_append] at h3 h4
        exact ⟨hk, hk, by unfold In64; decide, (), h3, allC_setM _ _, h4, allC_setM _ _⟩
    · simp only [↓EVP0, EVQ0, EVQ1, EVQ2, EVQ3, EVQ4, EVA, EVK, EVF, ↓reduceIte, Nat.reduceEqDiff, Nat.reduceAdd, Nat.reduceSub, Nat.reduceMul, Nat.reduceLT, Nat.reduceLeDiff, reduceCtorEq, Int.reduceToNat, Int.reduceLT, Int.reduceLE, Int.reduceAdd, Int.reduceSub, Int.reduceMul, Int.reduceNeg, Int.reduceEq, Nat.reduceMod, forall_eq_or_imp, forall_eq, forall_const, cond_true, cond_false, decide_true, decide_false, true_imp_iff, implies_true, Int.cast_ofNat_Int, forall_eq']
      have hq : L ++ List.take 2 (endsC c) = endsOf (p.cs.take (i + 1)) := by rw [hs]; rfl
      rw [hq] at hx3 ⊢
      exact ⟨by unfold In64; omega, hi2, (), hx3, allC_setM _ _, rfl, allC_setM _ _⟩
  · have hii : i = p.cs.length := by simp at hg; omega
    subst hii
    rw [List.take_length] at hx2
    simp [repOk, hx, hx2]
end Go.Proofs.YtcdepkflghcjpaaDoor
namespace Go.Proofs.YtcdepkflghcjpaaDoor
set_option linter.unusedSimpArgs false
set_option linter.unusedVariables false
open Go.RowKit

theorem all_step {α : Type} {q : α → Bool} {l : List α} {i : Nat} (d : α) (h : i < l.length) (hx : (l.take i).all q = true) (hq : q (l.getD i d) = true) : (l.take (i + 1)).all q = true := by
  rw [take_succ_getD d l i h, List.all_append, hx]; simp [← List.getD_eq_getElem?_getD, hq]
theorem all_fail {α : Type} {q : α → Bool} {l : List α} {i : Nat} (d : α) (h : i < l.length) (hq : q (l.getD i d) = false) : l.all q = false := by
  rw [List.getD_eq_getElem?_getD, List.getElem?_eq_getElem h] at hq
  rw [List.all_eq_false]
  exact ⟨_, List.getElem_mem h, by simpa using hq⟩
theorem all_len {α : Type} {q : α → Bool} {l : List α} (hx : (l.take l.length).all q = true) : l.all q = true := by rwa [List.take_length] at hx

def portsOk (p : Pl) (c : Cb) : Bool := portOk p c.a c.ap && portOk p c.b c.bp
def selfOk (c : Cb) : Bool := !decide (c.a = c.b)
def numOk (c : Cb) : Bool := (decide (1 ≤ c.dl) && decide (c.dl ≤ 100)) && (decide (1 ≤ c.cp) && decide (c.cp ≤ 1000))
def validE (p : Pl) : Int :=
  bif decide (16 < p.ns.length) || decide (32 < p.cs.length) then 5
  else bif !p.ns.all nodeOk then 1
  else bif !p.cs.all (portsOk p) then 2
  else bif repOk p then 8
  else bif !p.cs.all selfOk then 12
  else bif !p.cs.all numOk then 3 else 0

theorem ev_valid (p : Pl) (hp : PlOk p) : Ev Tryd.prog 46 [plV p] (.sc (.int .i64 (validE p))) := by
  have h33 := ev_validNode
  have h34 := ev_hasPort
  have h35 := ev_repeats p hp
  unfold plV ndL at *
  refine ev_fn Tryd.func46 comp46 (show 1 ≤ Tryd.f46.ntmps by decide) ?_; unfold cf46 rf46; simp only [↓EVP0, EVQ0, EVQ1, EVQ2, EVQ3, EVQ4, EVA, EVK, EVF, ↓reduceIte, Nat.reduceEqDiff, Nat.reduceAdd, Nat.reduceSub, Nat.reduceMul, Nat.reduceLT, Nat.reduceLeDiff, reduceCtorEq, Int.reduceToNat, Int.reduceLT, Int.reduceLE, Int.reduceAdd, Int.reduceSub, Int.reduceMul, Int.reduceNeg, Int.reduceEq, Nat.reduceMod, forall_eq_or_imp, forall_eq, forall_const, cond_true, cond_false, decide_true, decide_false, true_imp_iff, implies_true, Int.cast_ofNat_Int, forall_eq']
  intro hn
  refine ⟨fun hg => ?_, fun hg _ => ?_⟩
  · have : (decide (16 < p.ns.length) || decide (32 < p.cs.length)) = true := by simp at hg ⊢; omega
    simp [validE, this]
  have hsz : p.ns.length ≤ 16 ∧ p.cs.length ≤ 32 := by simp at hg; omega
  have hsb : (decide (16 < p.ns.length) || decide (32 < p.cs.length)) = false := by simp; omega
  refine lwp_for (α := Unit) p.ns.length (fun i m => (p.ns.take i).all nodeOk = true) (fun i m => [(1, .ptr 0 0 0 0 0), (22, .rsl 3 p.ns.length (ndsF p.ns)), (23, .sc (.int .i64 p.ns.length)), (24, .sc (.int .i64 i))])
    (fun i m => [(0, .box [.rsl 3 p.ns.length (ndsF p.ns), .rsl 6 p.cs.length (cbsF p.cs)])]) () rfl ?_ (fun _ _ => Nat.zero_le _) ?_
  · simp only [↓EVP0, EVQ0, EVQ1, EVQ2, EVQ3, EVQ4, EVA, EVK, EVF, ↓reduceIte, Nat.reduceEqDiff, Nat.reduceAdd, Nat.reduceSub, Nat.reduceMul, Nat.reduceLT, Nat.reduceLeDiff, reduceCtorEq, Int.reduceToNat, Int.reduceLT, Int.reduceLE, Int.reduceAdd, Int.reduceSub, Int.reduceMul, Int.reduceNeg, Int.reduceEq, Nat.reduceMod, forall_eq_or_imp, forall_eq, forall_const, cond_true, cond_false, decide_true, decide_false, true_imp_iff, implies_true, Int.cast_ofNat_Int, forall_eq']
  intro i _ hi hx
  unfold lb46_3
  simp only [↓EVP0, EVQ0, EVQ1, EVQ2, EVQ3, EVQ4, EVA, EVK, EVF, ↓reduceIte, Nat.reduceEqDiff, Nat.reduceAdd, Nat.reduceSub, Nat.reduceMul, Nat.reduceLT, Nat.reduceLeDiff, reduceCtorEq, Int.reduceToNat, Int.reduceLT, Int.reduceLE, Int.reduceAdd, Int.reduceSub, Int.reduceMul, Int.reduceNeg, Int.reduceEq, Nat.reduceMod, forall_eq_or_imp, forall_eq, forall_const, cond_true, cond_false, decide_true, decide_false, true_imp_iff, implies_true, Int.cast_ofNat_Int, forall_eq']
  refine ⟨fun hg => ?_, fun hg _ => ?_⟩
  · have hi2 : i < p.ns.length := by simpa using hg
    refine ⟨⟨by omega, by omega⟩, callK_ro (h33 _) ?_ ?_⟩
    · simp only [↓EVP0, EVQ0, EVQ1, EVQ2, EVQ3, EVQ4, EVA, EVK, EVF, ↓reduceIte, Nat.reduceEqDiff, Nat.reduceAdd, Nat.reduceSub, Nat.reduceMul, Nat.reduceLT, Nat.reduceLeDiff, reduceCtorEq, Int.reduceToNat, Int.reduceLT, Int.reduceLE, Int.reduceAdd, Int.reduceSub, Int.reduceMul, Int.reduceNeg, Int.reduceEq, Nat.reduceMod, forall_eq_or_imp, forall_eq, forall_const, cond_true, cond_false, decide_true, decide_false, true_imp_iff, implies_true, Int.cast_ofNat_Int, forall_eq']
    simp only [↓EVP0, EVQ0, EVQ1, EVQ2, EVQ3, EVQ4, EVA, EVK, EVF, ↓reduceIte, Nat.reduceEqDiff, Nat.reduceAdd, Nat.reduceSub, Nat.reduceMul, Nat.reduceLT, Nat.reduceLeDiff, reduceCtorEq, Int.reduceToNat, Int.reduceLT, Int.reduceLE, Int.reduceAdd, Int.reduceSub, Int.reduceMul, Int.reduceNeg, Int.reduceEq, Nat.reduceMod, forall_eq_or_imp, forall_eq, forall_const, cond_true, cond_false, decide_true, decide_false, true_imp_iff, implies_true, Int.cast_ofNat_Int, forall_eq']
    refine ⟨fun hg => ?_, fun hg => ⟨by unfold In64; omega, hi2, (), all_step default hi2 hx (by simpa using hg)⟩⟩
    have := all_fail (q := nodeOk) default hi2 (by simpa using hg)
    simp [validE, hsb, this]
  have hii : i = p.ns.length := by simp at hg; omega
  subst hii
  have hN := all_len hx
  refine lwp_for (α := Unit) p.cs.length (fun i m => (p.cs.take i).all (portsOk p) = true) (fun i m => [(1, .ptr 0 0 0 0 0), (33, .rsl 6 p.cs.length (cbsF p.cs)), (34, .sc (.int .i64 p.cs.length)), (35, .sc (.int .i64 i))])
    (fun i m => [(0, .box [.rsl 3 p.ns.length (ndsF p.ns), .rsl 6 p.cs.length (cbsF p.cs)])]) () rfl ?_ (fun _ _ => Nat.zero_le _) ?_
  · simp only [↓EVP0, EVQ0, EVQ1, EVQ2, EVQ3, EVQ4, EVA, EVK, EVF, ↓reduceIte, Nat.reduceEqDiff, Nat.reduceAdd, Nat.reduceSub, Nat.reduceMul, Nat.reduceLT, Nat.reduceLeDiff, reduceCtorEq, Int.reduceToNat, Int.reduceLT, Int.reduceLE, Int.reduceAdd, Int.reduceSub, Int.reduceMul, Int.reduceNeg, Int.reduceEq, Nat.reduceMod, forall_eq_or_imp, forall_eq, forall_const, cond_true, cond_false, decide_true, decide_false, true_imp_iff, implies_true, Int.cast_ofNat_Int, forall_eq']
  intro i _ hi hx
  unfold lb46_2
  simp only [↓EVP0, EVQ0, EVQ1, EVQ2, EVQ3, EVQ4, EVA, EVK, EVF, ↓reduceIte, Nat.reduceEqDiff, Nat.reduceAdd, Nat.reduceSub, Nat.reduceMul, Nat.reduceLT, Nat.reduceLeDiff, reduceCtorEq, Int.reduceToNat, Int.reduceLT, Int.reduceLE, Int.reduceAdd, Int.reduceSub, Int.reduceMul, Int.reduceNeg, Int.reduceEq, Nat.reduceMod, forall_eq_or_imp, forall_eq, forall_const, cond_true, cond_false, decide_true, decide_false, true_imp_iff, implies_true, Int.cast_ofNat_Int, forall_eq']
  refine ⟨fun hg => ?_, fun hg => ?_⟩
  · have hi2 : i < p.cs.length := by simpa using hg
    refine ⟨⟨by omega, by omega⟩, callK_ro (h34 p _ _) ?_ ?_⟩
    · simp only [↓EVP0, EVQ0, EVQ1, EVQ2, EVQ3, EVQ4, EVA, EVK, EVF, ↓reduceIte, Nat.reduceEqDiff, Nat.reduceAdd, Nat.reduceSub, Nat.reduceMul, Nat.reduceLT, Nat.reduceLeDiff, reduceCtorEq, Int.reduceToNat, Int.reduceLT, Int.reduceLE, Int.reduceAdd, Int.reduceSub, Int.reduceMul, Int.reduceNeg, Int.reduceEq, Nat.reduceMod, forall_eq_or_imp, forall_eq, forall_const, cond_true, cond_false, decide_true, decide_false, true_imp_iff, implies_true, Int.cast_ofNat_Int, forall_eq']
    simp only [↓EVP0, EVQ0, EVQ1, EVQ2, EVQ3, EVQ4, EVA, EVK, EVF, ↓reduceIte, Nat.reduceEqDiff, Nat.reduceAdd, Nat.reduceSub, Nat.reduceMul, Nat.reduceLT, Nat.reduceLeDiff, reduceCtorEq, Int.reduceToNat, Int.reduceLT, Int.reduceLE, Int.reduceAdd, Int.reduceSub, Int.reduceMul, Int.reduceNeg, Int.reduceEq, Nat.reduceMod, forall_eq_or_imp, forall_eq, forall_const, cond_true, cond_false, decide_true, decide_false, true_imp_iff, implies_true, Int.cast_ofNat_Int, forall_eq']
    refine lops_ge_imp ?_
    simp only [↓EVP0, EVQ0, EVQ1, EVQ2, EVQ3, EVQ4, EVA, EVK, EVF, ↓reduceIte, Nat.reduceEqDiff, Nat.reduceAdd, Nat.reduceSub, Nat.reduceMul, Nat.reduceLT, Nat.reduceLeDiff, reduceCtorEq, Int.reduceToNat, Int.reduceLT, Int.reduceLE, Int.reduceAdd, Int.reduceSub, Int.reduceMul, Int.reduceNeg, Int.reduceEq, Nat.reduceMod, forall_eq_or_imp, forall_eq, forall_const, cond_true, cond_false, decide_true, decide_false, true_imp_iff, implies_true, Int.cast_ofNat_Int, forall_eq']
    refine gCallK_ro _ (fun _ => h34 p _ _) (fun _ => ?_) ?_
    · simp only [↓EVP0, EVQ0, EVQ1, EVQ2, EVQ3, EVQ4, EVA, EVK, EVF, ↓reduceIte, Nat.reduceEqDiff, Nat.reduceAdd, Nat.reduceSub, Nat.reduceMul, Nat.reduceLT, Nat.reduceLeDiff, reduceCtorEq, Int.reduceToNat, Int.reduceLT, Int.reduceLE, Int.reduceAdd, Int.reduceSub, Int.reduceMul, Int.reduceNeg, Int.reduceEq, Nat.reduceMod, forall_eq_or_imp, forall_eq, forall_const, cond_true, cond_false, decide_true, decide_false, true_imp_iff, implies_true, Int.cast_ofNat_Int, forall_eq']
    simp only [↓EVP0, EVQ0, EVQ1, EVQ2, EVQ3, EVQ4, EVA, EVK, EVF, ↓reduceIte, Nat.reduceEqDiff, Nat.reduceAdd, Nat.reduceSub, Nat.reduceMul, Nat.reduceLT, Nat.reduceLeDiff, reduceCtorEq, Int.reduceToNat, Int.reduceLT, Int.reduceLE, Int.reduceAdd, Int.reduceSub, Int.reduceMul, Int.reduceNeg, Int.reduceEq, Nat.reduceMod, forall_eq_or_imp, forall_eq, forall_const, cond_true, cond_false, decide_true, decide_false, true_imp_iff, implies_true, Int.cast_ofNat_Int, forall_eq']
    have hv : portsOk p (p.cs.getD i default) = (portOk p (p.cs.getD i default).a (p.cs.getD i default).ap && portOk p (p.cs.getD i default).b (p.cs.getD i default).bp) := rfl
    refine ⟨fun hg => ?_, fun hg => ⟨by unfold In64; omega, hi2, (), all_step default hi2 hx (by rw [hv]; revert hg; cases portOk p (p.cs.getD i default).a (p.cs.getD i default).ap <;> cases portOk p (p.cs.getD i default).b (p.cs.getD i default).bp <;> simp)⟩⟩
    have := all_fail (q := portsOk p) default hi2 (by rw [hv]; revert hg; cases portOk p (p.cs.getD i default).a (p.cs.getD i default).ap <;> cases portOk p (p.cs.getD i default).b (p.cs.getD i default).bp <;> simp)
    simp [validE, hsb, hN, this]
  have hii : i = p.cs.length := by simp at hg; omega
  subst hii
  have hP := all_len hx
  refine callK_ro h35 ?_ ?_
  · simp only [↓EVP0, EVQ0, EVQ1, EVQ2, EVQ3, EVQ4, EVA, EVK, EVF, ↓reduceIte, Nat.reduceEqDiff, Nat.reduceAdd, Nat.reduceSub, Nat.reduceMul, Nat.reduceLT, Nat.reduceLeDiff, reduceCtorEq, Int.reduceToNat, Int.reduceLT, Int.reduceLE, Int.reduceAdd, Int.reduceSub, Int.reduceMul, Int.reduceNeg, Int.reduceEq, Nat.reduceMod, forall_eq_or_imp, forall_eq, forall_const, cond_true, cond_false, decide_true, decide_false, true_imp_iff, implies_true, Int.cast_ofNat_Int, forall_eq']
  simp only [↓EVP0, EVQ0, EVQ1, EVQ2, EVQ3, EVQ4, EVA, EVK, EVF, ↓reduceIte, Nat.reduceEqDiff, Nat.reduceAdd, Nat.reduceSub, Nat.reduceMul, Nat.reduceLT, Nat.reduceLeDiff, reduceCtorEq, Int.reduceToNat, Int.reduceLT, Int.reduceLE, Int.reduceAdd, Int.reduceSub, Int.reduceMul, Int.reduceNeg, Int.reduceEq, Nat.reduceMod, forall_eq_or_imp, forall_eq, forall_const, cond_true, cond_false, decide_true, decide_false, true_imp_iff, implies_true, Int.cast_ofNat_Int, forall_eq']
  refine ⟨fun hg => by simp [validE, hsb, hN, hP, hg], fun hR _ => ?_⟩
  refine lwp_for (α := Unit) p.cs.length (fun i m => (p.cs.take i).all selfOk = true) (fun i m => [(1, .ptr 0 0 0 0 0), (59, .rsl 6 p.cs.length (cbsF p.cs)), (60, .sc (.int .i64 p.cs.length)), (61, .sc (.int .i64 i))])
    (fun i m => [(0, .box [.rsl 3 p.ns.length (ndsF p.ns), .rsl 6 p.cs.length (cbsF p.cs)])]) () rfl ?_ (fun _ _ => Nat.zero_le _) ?_
  · simp only [↓EVP0, EVQ0, EVQ1, EVQ2, EVQ3, EVQ4, EVA, EVK, EVF, ↓reduceIte, Nat.reduceEqDiff, Nat.reduceAdd, Nat.reduceSub, Nat.reduceMul, Nat.reduceLT, Nat.reduceLeDiff, reduceCtorEq, Int.reduceToNat, Int.reduceLT, Int.reduceLE, Int.reduceAdd, Int.reduceSub, Int.reduceMul, Int.reduceNeg, Int.reduceEq, Nat.reduceMod, forall_eq_or_imp, forall_eq, forall_const, cond_true, cond_false, decide_true, decide_false, true_imp_iff, implies_true, Int.cast_ofNat_Int, forall_eq']
  intro i _ hi hx
  unfold lb46_1
  simp only [↓EVP0, EVQ0, EVQ1, EVQ2, EVQ3, EVQ4, EVA, EVK, EVF, ↓reduceIte, Nat.reduceEqDiff, Nat.reduceAdd, Nat.reduceSub, Nat.reduceMul, Nat.reduceLT, Nat.reduceLeDiff, reduceCtorEq, Int.reduceToNat, Int.reduceLT, Int.reduceLE, Int.reduceAdd, Int.reduceSub, Int.reduceMul, Int.reduceNeg, Int.reduceEq, Nat.reduceMod, forall_eq_or_imp, forall_eq, forall_const, cond_true, cond_false, decide_true, decide_false, true_imp_iff, implies_true, Int.cast_ofNat_Int, forall_eq']
  refine ⟨fun hg => ?_, fun hg _ => ?_⟩
  · have hi2 : i < p.cs.length := by simpa using hg
    refine ⟨⟨by omega, by omega⟩, fun hg => ?_, fun hg => ⟨by unfold In64; omega, hi2, (), all_step default hi2 hx (by unfold selfOk; rw [hg]; rfl)⟩⟩
    have := all_fail (q := selfOk) default hi2 (by unfold selfOk; rw [hg]; rfl)
    simp [validE, hsb, hN, hP, hR, this]
  have hii : i = p.cs.length := by simp at hg; omega
  subst hii
  have hS := all_len hx
  refine lwp_for (α := Unit) p.cs.length (fun i m => (p.cs.take i).all numOk = true) (fun i m => [(1, .ptr 0 0 0 0 0), (72, .rsl 6 p.cs.length (cbsF p.cs)), (73, .sc (.int .i64 p.cs.length)), (74, .sc (.int .i64 i))])
    (fun i m => [(0, .box [.rsl 3 p.ns.length (ndsF p.ns), .rsl 6 p.cs.length (cbsF p.cs)])]) () rfl ?_ (fun _ _ => Nat.zero_le _) ?_
  · simp only [↓EVP0, EVQ0, EVQ1, EVQ2, EVQ3, EVQ4, EVA, EVK, EVF, ↓reduceIte, Nat.reduceEqDiff, Nat.reduceAdd, Nat.reduceSub, Nat.reduceMul, Nat.reduceLT, Nat.reduceLeDiff, reduceCtorEq, Int.reduceToNat, Int.reduceLT, Int.reduceLE, Int.reduceAdd, Int.reduceSub, Int.reduceMul, Int.reduceNeg, Int.reduceEq, Nat.reduceMod, forall_eq_or_imp, forall_eq, forall_const, cond_true, cond_false, decide_true, decide_false, true_imp_iff, implies_true, Int.cast_ofNat_Int, forall_eq']
  intro i _ hi hx
  unfold lb46_0
  simp only [↓EVP0, EVQ0, EVQ1, EVQ2, EVQ3, EVQ4, EVA, EVK, EVF, ↓reduceIte, Nat.reduceEqDiff, Nat.reduceAdd, Nat.reduceSub, Nat.reduceMul, Nat.reduceLT, Nat.reduceLeDiff, reduceCtorEq, Int.reduceToNat, Int.reduceLT, Int.reduceLE, Int.reduceAdd, Int.reduceSub, Int.reduceMul, Int.reduceNeg, Int.reduceEq, Nat.reduceMod, forall_eq_or_imp, forall_eq, forall_const, cond_true, cond_false, decide_true, decide_false, true_imp_iff, implies_true, Int.cast_ofNat_Int, forall_eq']
  refine ⟨fun hg => ?_, fun hg => ?_⟩
  · have hi2 : i < p.cs.length := by simpa using hg
    refine ⟨⟨by omega, by omega⟩, fun hg => ?_, fun hg => ⟨by unfold In64; omega, hi2, (), all_step default hi2 hx (by unfold numOk; simp at hg ⊢; omega)⟩⟩
    have := all_fail (q := numOk) default hi2 (by unfold numOk; simp at hg ⊢; omega)
    simp [validE, hsb, hN, hP, hR, hS, this]
  have hii : i = p.cs.length := by simp at hg; omega
  subst hii
  have hX := all_len hx
  simp [validE, hsb, hN, hP, hR, hS, hX]
end Go.Proofs.YtcdepkflghcjpaaDoor
namespace Go.Proofs.YtcdepkflghcjpaaDoor
set_option linter.unusedSimpArgs false
set_option linter.unusedVariables false
open Go.RowKit

def W (U : List Cb) (r : Int) : Nat → Int → Bool
  | 0, x => decide (x = r)
  | k + 1, x => W U r k x || U.any fun c => (decide (c.b = x) && W U r k c.a) || (decide (c.a = x) && W U r k c.b)
def inN (n : Nat) (x : Int) : Prop := 0 ≤ x ∧ x < n
end Go.Proofs.YtcdepkflghcjpaaDoor
namespace Go.Proofs.YtcdepkflghcjpaaDoor
set_option linter.unusedSimpArgs false
set_option linter.unusedVariables false
open Go.RowKit

structure HB where
  l : List Int
  xs : List Int
  off : Nat
  ver : Nat
def HB.q (b : HB) : List Int := b.xs.drop b.off
def lv (b : HB) (x : Int) : Int := b.l.getD x.toNat 0
section
variable {n : Nat} {U U' : List Cb} {r u : Int} {b : HB}

end
end Go.Proofs.YtcdepkflghcjpaaDoor
namespace Go.Proofs.YtcdepkflghcjpaaDoor
set_option linter.unusedSimpArgs false
set_option linter.unusedVariables false
open Go.RowKit

section
variable {n : Nat} {U U' : List Cb} {r u : Int} {b : HB} {cs : List Cb} {up : List Bool}

end
end Go.Proofs.YtcdepkflghcjpaaDoor
namespace Go.Proofs.YtcdepkflghcjpaaDoor
set_option linter.unusedSimpArgs false
set_option linter.unusedVariables false
open Go.RowKit
set_option maxRecDepth 20000

end Go.Proofs.YtcdepkflghcjpaaDoor
namespace Go.Proofs.YtcdepkflghcjpaaDoor
set_option linter.unusedSimpArgs false
set_option linter.unusedVariables false
open Go.RowKit

structure PlVal (p : Pl) : Prop where
  n16 : p.ns.length ≤ 16
  c32 : p.cs.length ≤ 32
  cab : ∀ c, c ∈ p.cs → inN p.ns.length c.a ∧ inN p.ns.length c.b
  self : ∀ c, c ∈ p.cs → c.a ≠ c.b
theorem valid_of {p : Pl} (h : validE p = 0) : PlVal p := by
  unfold validE at h
  cases h1 : decide (16 < p.ns.length) || decide (32 < p.cs.length)
  · rw [h1, cond_false] at h
    cases h2 : p.ns.all nodeOk
    · rw [h2] at h; simp at h
    · rw [h2] at h
      cases h3 : p.cs.all (portsOk p)
      · rw [h3] at h; simp at h
      · rw [h3] at h
        cases h4 : repOk p
        · rw [h4] at h
          cases h5 : p.cs.all selfOk
          · rw [h5] at h; simp at h
          · simp at h1
            refine ⟨by omega, by omega, fun c hc => ?_, fun c hc => ?_⟩
            · have := List.all_eq_true.1 h3 c hc
              simp [portsOk, portOk] at this
              unfold inN; omega
            · have := List.all_eq_true.1 h5 c hc
              simpa [selfOk] using this
        · rw [h4] at h; simp at h
  · rw [h1] at h; simp at h
end Go.Proofs.YtcdepkflghcjpaaDoor
