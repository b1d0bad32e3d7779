/- The arguments of the statements, opened: what does not depend on a chapter's data. Conditions: none. -/
import Derived.Test.YtfhifkcbdpgomaaL21
namespace Go.Proofs.Ytfhifkcbdpgomaa
set_option linter.unusedSimpArgs false
set_option linter.unusedVariables false
open Go.RowKit

theorem in64_of {n : Int} (h : (Lit.int .i64 n).wf = true) : In64 n := by
  have h1 : IntKind.i64.min = -9223372036854775808 := by decide
  have h2 : IntKind.i64.max = 9223372036854775807 := by decide
  simp [Lit.wf, h1, h2] at h
  exact h
theorem fit_i64 {d : Nat} {t : TypeId} (ht : Try.prog.underlying t = some (.int .i64)) {ls : List LV} (h : fitT Try.prog d t ls) : ∃ n, ls = [.sc (.int .i64 n)] ∧ In64 n := by
  cases d with
  | zero => exact h.elim
  | succ d =>
    unfold fitT at h; rw [ht] at h
    obtain ⟨n, rfl, hw⟩ := h
    exact ⟨n, rfl, in64_of hw⟩
theorem fit_bool {d : Nat} {t : TypeId} (ht : Try.prog.underlying t = some .bool) {ls : List LV} (h : fitT Try.prog d t ls) : ∃ b, ls = [.sc (.bool b)] := by
  cases d with
  | zero => exact h.elim
  | succ d => unfold fitT at h; rw [ht] at h; exact h
theorem fit_str {d : Nat} {t : TypeId} (ht : Try.prog.underlying t = some .string) {ls : List LV} (h : fitT Try.prog d t ls) : ∃ s : ByteArray, ls = [.sc (.string s)] ∧ s.size ≤ maxLen := by
  cases d with
  | zero => exact h.elim
  | succ d => unfold fitT at h; rw [ht] at h; exact h
theorem fit_sl {d : Nat} {t e : TypeId} (ht : Try.prog.underlying t = some (.slice e)) {ls : List LV} (h : fitT Try.prog d t ls) : ∃ d' n f, ls = [.rsl (Try.prog.cellsOf e) n f] ∧ n ≤ maxLen ∧ ∀ i, i < n → fitT Try.prog d' e (f i) := by
  cases d with
  | zero => exact h.elim
  | succ d => unfold fitT at h; rw [ht] at h; obtain ⟨n, f, h⟩ := h; exact ⟨d, n, f, h⟩
theorem fit_struct {d : Nat} {t : TypeId} {fs : Array Field} (ht : Try.prog.underlying t = some (.struct fs)) {ls : List LV} (h : fitT Try.prog d t ls) : ls.length = Try.prog.cellsOf t ∧ ∃ d', ∀ (i : Nat) (f : Field), fs[i]? = some f → fitT Try.prog d' f.type ((ls.drop f.offset).take (Try.prog.cellsOf f.type)) := by
  cases d with
  | zero => exact h.elim
  | succ d => unfold fitT at h; rw [ht] at h; exact ⟨h.1, d, h.2⟩
theorem rsl_congr {z n : Nat} {f g : Nat → List LV} (h : ∀ i, i < n → f i = g i) {R : RO} {v : Value} (hr : Ro R (.rsl z n f) v) : Ro R (.rsl z n g) v := by
  cases hr with
  | rsl _ _ _ a cap b o w hc hm ha hf hcell hv hp =>
    exact .rsl _ _ _ a cap b o w hc hm ha (fun i hi => by rw [← h i hi]; exact hf i hi) hcell (fun i j c hi hj => hv i j c hi (by rw [h i hi]; exact hj)) hp
/-- A list out of a function on numbers. -/
def listOf {α : Type} (n : Nat) (g : Nat → α) : List α := (List.range n).map g
theorem listOf_get {α : Type} (n : Nat) (g : Nat → α) (d : α) {i : Nat} (hi : i < n) : (listOf n g).getD i d = g i := by
  rw [List.getD_eq_getElem?_getD, listOf, List.getElem?_map, List.getElem?_range hi]; rfl
theorem listOf_len {α : Type} (n : Nat) (g : Nat → α) : (listOf n g).length = n := by simp [listOf]
theorem listOf_mem {α : Type} {n : Nat} {g : Nat → α} {x : α} (h : x ∈ listOf n g) : ∃ i, i < n ∧ g i = x := by
  simp only [listOf, List.mem_map, List.mem_range] at h; exact h
def flat1 (P : Program) (fs : List Field) : Nat → Bool
  | n => decide (fs.length = n) && (List.range n).all fun i => match fs[i]? with
    | some f => decide (f.offset = i) && decide (P.cellsOf f.type = 1)
    | none => false
theorem fit_flat {d n : Nat} {t : TypeId} {fs : Array Field} (ht : Try.prog.underlying t = some (.struct fs)) (hn : Try.prog.cellsOf t = n) (hf : flat1 Try.prog fs.toList n = true) {ls : List LV} (h : fitT Try.prog d t ls) :
    ls.length = n ∧ ∃ d', ∀ (i : Nat) (f : Field), fs[i]? = some f → ∃ x, ls[i]? = some x ∧ fitT Try.prog d' f.type [x] := by
  obtain ⟨h1, d', h2⟩ := fit_struct ht h
  rw [hn] at h1
  refine ⟨h1, d', fun i f hi => ?_⟩
  unfold flat1 at hf
  simp only [Bool.and_eq_true, decide_eq_true_eq, List.all_eq_true, List.mem_range] at hf
  obtain ⟨g1, g2⟩ := hf
  have hlt : i < n := by have := (Array.getElem?_eq_some_iff.1 hi).1; simp at g1; omega
  have g3 := g2 i hlt
  have hi' : fs.toList[i]? = some f := by rw [Array.getElem?_toList]; exact hi
  rw [hi'] at g3
  simp only [Bool.and_eq_true, decide_eq_true_eq] at g3
  have h3 := h2 i f hi
  rw [g3.1, g3.2] at h3
  have hx : ls[i]? = some (ls[i]'(by omega)) := List.getElem?_eq_getElem (by omega)
  refine ⟨_, hx, ?_⟩
  have : (ls.drop i).take 1 = [ls[i]'(by omega)] := by
    rw [List.drop_eq_getElem_cons (by omega)]; rfl
  rw [this] at h3
  exact h3
/-- One lifted value says no less than another. -/
def Im (a b : LV) : Prop := ∀ R v, Ro R a v → Ro R b v
theorem Im.refl (a : LV) : Im a a := fun _ _ h => h
theorem Im.rsl {z n : Nat} {f g : Nat → List LV} (h : ∀ i, i < n → f i = g i) : Im (.rsl z n f) (.rsl z n g) := fun _ _ hr => rsl_congr h hr
theorem Im.agg {xs bs : List LV} (hl : xs.length = bs.length) (h : ∀ (i : Nat) (b : LV), bs[i]? = some b → ∃ a, xs[i]? = some a ∧ Im a b) : Im (.agg xs) (.agg bs) := by
  intro R v hr
  cases hr with
  | agg _ vs hs hc hp =>
    refine .agg _ _ (by omega) (fun i b hb => ?_) hp
    obtain ⟨a, ha, him⟩ := h i b hb
    exact him _ _ (hc i a ha)
def ImL : List LV → List LV → Prop
  | [], [] => True
  | a :: xs, b :: bs => Im a b ∧ ImL xs bs
  | _, _ => False
theorem ImL_get : ∀ {xs bs : List LV}, ImL xs bs → xs.length = bs.length ∧ ∀ (i : Nat) (b : LV), bs[i]? = some b → ∃ a, xs[i]? = some a ∧ Im a b
  | [], [], _ => ⟨rfl, fun i b h => by simp at h⟩
  | a :: xs, b :: bs, h => by
    obtain ⟨h1, h2⟩ := ImL_get h.2
    refine ⟨by simp [h1], fun i c hc => ?_⟩
    cases i with
    | zero => simp at hc; subst hc; exact ⟨a, rfl, h.1⟩
    | succ i => obtain ⟨x, hx, hx2⟩ := h2 i c (by simpa using hc); exact ⟨x, by simpa using hx, hx2⟩
  | [], _ :: _, h => h.elim
  | _ :: _, [], h => h.elim
theorem Im.aggL {xs bs : List LV} (h : ImL xs bs) : Im (.agg xs) (.agg bs) := Im.agg (ImL_get h).1 (ImL_get h).2
theorem ev_im {P : Program} {f : FuncId} {xs bs : List LV} {r : LV} (h : ImL xs bs) (he : Ev P f bs r) : Ev P f xs r := by
  intro R w vs hR hs ha
  obtain ⟨h1, h2⟩ := ImL_get h
  refine he R w vs hR (by omega) (fun i b hb => ?_)
  obtain ⟨a, ha', him⟩ := h2 i b hb
  exact him _ _ (ha i a ha')

theorem arg_cell {t : TypeId} (hs : structT Try.prog t = false) {lv : LV} (h : fitA Try.prog t lv) : fitT Try.prog 20 t [lv] := by
  obtain ⟨ls, h1, ⟨h2, _⟩ | ⟨_, rfl⟩⟩ := h
  · rw [hs] at h2; simp at h2
  · exact h1
theorem arg_agg {t : TypeId} (hs : structT Try.prog t = true) {lv : LV} (h : fitA Try.prog t lv) : ∃ ls, lv = .agg ls ∧ fitT Try.prog 20 t ls := by
  obtain ⟨ls, h1, ⟨_, rfl⟩ | ⟨h2, _⟩⟩ := h
  · exact ⟨ls, rfl, h1⟩
  · rw [hs] at h2; simp at h2
theorem arg_int {lv : LV} (h : fitA Try.prog 3 lv) : ∃ n, lv = .sc (.int .i64 n) ∧ In64 n := by
  obtain ⟨n, h1, h2⟩ := fit_i64 Try.underlying3 (arg_cell (by kernel_rfl) h)
  simp only [List.cons.injEq, and_true] at h1
  exact ⟨n, h1, h2⟩
theorem arg_u8 {lv : LV} (h : fitA Try.prog 5 lv) : ∃ n, lv = .sc (.int .u8 n) ∧ 0 ≤ n ∧ n ≤ 255 := by
  have h := arg_cell (by kernel_rfl) h
  unfold fitT at h
  rw [Try.underlying5] at h
  obtain ⟨n, h1, h2⟩ := h
  simp only [List.cons.injEq, and_true] at h1
  have e1 : IntKind.u8.min = 0 := by decide
  have e2 : IntKind.u8.max = 255 := by decide
  simp [Lit.wf, e1, e2] at h2
  exact ⟨n, h1, h2⟩
theorem all1 {t : TypeId} {ts : List TypeId} {l : List LV} (h : fitAll Try.prog (t :: ts) l) : ∃ a r, l = a :: r ∧ fitA Try.prog t a ∧ fitAll Try.prog ts r := by
  cases l with
  | nil => exact h.elim
  | cons a r => exact ⟨a, r, rfl, h.1, h.2⟩
theorem all0 {l : List LV} (h : fitAll Try.prog [] l) : l = [] := by
  cases l with
  | nil => rfl
  | cons a r => exact h.elim
theorem Try.own' : ownKnob Try.prog.godebug = none := by kernel_rfl
theorem Try.laidOut' : laidOutB Try.prog = true := by kernel_rfl
end Go.Proofs.Ytfhifkcbdpgomaa
