/- The arguments of the statements about plans, opened; Chapter 21: certificate.Make, whole; certificate.Check; the arguments, opened; Chapter 21: certificate.Check; the statements' own dependencies; Chapter 21: the examples; Chapter 21: what the statements call. Conditions: none. -/
import Derived.Test.YteblljpbnpaplaaMG
namespace Go.Proofs.Yteblljpbnpaplaa
set_option linter.unusedSectionVars false
variable [DrawFlag]
set_option linter.unusedSimpArgs false
set_option linter.unusedVariables false
open Go.RowKit
set_option maxRecDepth 100000

theorem in64_of {n : Int} (h : (Lit.int .i64 n).wf = true) : In64 n := by
  have h1 : IntKind.i64.min = -9223372036854775808 := by decide
  have h2 : IntKind.i64.max = 9223372036854775807 := by decide
  simp [Lit.wf, h1, h2] at h
  exact h
theorem fit_i64 {d : Nat} {t : TypeId} (ht : Try.prog.underlying t = some (.int .i64)) {ls : List LV} (h : fitT Try.prog d t ls) : ∃ n, ls = [.sc (.int .i64 n)] ∧ In64 n := by
  cases d with
  | zero => exact h.elim
  | succ d =>
    unfold fitT at h; rw [ht] at h
    obtain ⟨n, rfl, hw⟩ := h
    exact ⟨n, rfl, in64_of hw⟩
theorem fit_bool {d : Nat} {t : TypeId} (ht : Try.prog.underlying t = some .bool) {ls : List LV} (h : fitT Try.prog d t ls) : ∃ b, ls = [.sc (.bool b)] := by
  cases d with
  | zero => exact h.elim
  | succ d => unfold fitT at h; rw [ht] at h; exact h
theorem fit_str {d : Nat} {t : TypeId} (ht : Try.prog.underlying t = some .string) {ls : List LV} (h : fitT Try.prog d t ls) : ∃ s : ByteArray, ls = [.sc (.string s)] ∧ s.size ≤ maxLen := by
  cases d with
  | zero => exact h.elim
  | succ d => unfold fitT at h; rw [ht] at h; exact h
theorem fit_sl {d : Nat} {t e : TypeId} (ht : Try.prog.underlying t = some (.slice e)) {ls : List LV} (h : fitT Try.prog d t ls) : ∃ d' n f, ls = [.rsl (Try.prog.cellsOf e) n f] ∧ n ≤ maxLen ∧ ∀ i, i < n → fitT Try.prog d' e (f i) := by
  cases d with
  | zero => exact h.elim
  | succ d => unfold fitT at h; rw [ht] at h; obtain ⟨n, f, h⟩ := h; exact ⟨d, n, f, h⟩
theorem fit_struct {d : Nat} {t : TypeId} {fs : Array Field} (ht : Try.prog.underlying t = some (.struct fs)) {ls : List LV} (h : fitT Try.prog d t ls) : ls.length = Try.prog.cellsOf t ∧ ∃ d', ∀ (i : Nat) (f : Field), fs[i]? = some f → fitT Try.prog d' f.type ((ls.drop f.offset).take (Try.prog.cellsOf f.type)) := by
  cases d with
  | zero => exact h.elim
  | succ d => unfold fitT at h; rw [ht] at h; exact ⟨h.1, d, h.2⟩
theorem rsl_congr {z n : Nat} {f g : Nat → List LV} (h : ∀ i, i < n → f i = g i) {R : RO} {v : Value} (hr : Ro R (.rsl z n f) v) : Ro R (.rsl z n g) v := by
  cases hr with
  | rsl _ _ _ a cap b o w hc hm ha hf hcell hv hp =>
    exact .rsl _ _ _ a cap b o w hc hm ha (fun i hi => by rw [← h i hi]; exact hf i hi) hcell (fun i j c hi hj => hv i j c hi (by rw [h i hi]; exact hj)) hp
def listOf {α : Type} (n : Nat) (g : Nat → α) : List α := (List.range n).map g
theorem listOf_get {α : Type} (n : Nat) (g : Nat → α) (d : α) {i : Nat} (hi : i < n) : (listOf n g).getD i d = g i := by
  rw [List.getD_eq_getElem?_getD, listOf, List.getElem?_map, List.getElem?_range hi]; rfl
theorem listOf_len {α : Type} (n : Nat) (g : Nat → α) : (listOf n g).length = n := by simp [listOf]
theorem listOf_mem {α : Type} {n : Nat} {g : Nat → α} {x : α} (h : x ∈ listOf n g) : ∃ i, i < n ∧ g i = x := by
  simp only [listOf, List.mem_map, List.mem_range] at h; exact h
def flat1 (P : Program) (fs : List Field) : Nat → Bool
  | n => decide (fs.length = n) && (List.range n).all fun i => match fs[i]? with
    | some f => decide (f.offset = i) && decide (P.cellsOf f.type = 1)
    | none => false
theorem fit_flat {d n : Nat} {t : TypeId} {fs : Array Field} (ht : Try.prog.underlying t = some (.struct fs)) (hn : Try.prog.cellsOf t = n) (hf : flat1 Try.prog fs.toList n = true) {ls : List LV} (h : fitT Try.prog d t ls) :
    ls.length = n ∧ ∃ d', ∀ (i : Nat) (f : Field), fs[i]? = some f → ∃ x, ls[i]? = some x ∧ fitT Try.prog d' f.type [x] := by
  obtain ⟨h1, d', h2⟩ := fit_struct ht h
  rw [hn] at h1
  refine ⟨h1, d', fun i f hi => ?_⟩
  unfold flat1 at hf
  simp only [Bool.and_eq_true, decide_eq_true_eq, List.all_eq_true, List.mem_range] at hf
  obtain ⟨g1, g2⟩ := hf
  have hlt : i < n := by have := (Array.getElem?_eq_some_iff.1 hi).1; simp at g1; omega
  have g3 := g2 i hlt
  have hi' : fs.toList[i]? = some f := by rw [Array.getElem?_toList]; exact hi
  rw [hi'] at g3
  simp only [Bool.and_eq_true, decide_eq_true_eq] at g3
  have h3 := h2 i f hi
  rw [g3.1, g3.2] at h3
  have hx : ls[i]? = some (ls[i]'(by omega)) := List.getElem?_eq_getElem (by omega)
  refine ⟨_, hx, ?_⟩
  have : (ls.drop i).take 1 = [ls[i]'(by omega)] := by
    rw [List.drop_eq_getElem_cons (by omega)]; rfl
  rw [this] at h3
  exact h3
def Im (a b : LV) : Prop := ∀ R v, Ro R a v → Ro R b v
theorem Im.refl (a : LV) : Im a a := fun _ _ h => h
theorem Im.rsl {z n : Nat} {f g : Nat → List LV} (h : ∀ i, i < n → f i = g i) : Im (.rsl z n f) (.rsl z n g) := fun _ _ hr => rsl_congr h hr
theorem Im.agg {xs bs : List LV} (hl : xs.length = bs.length) (h : ∀ (i : Nat) (b : LV), bs[i]? = some b → ∃ a, xs[i]? = some a ∧ Im a b) : Im (.agg xs) (.agg bs) := by
  intro R v hr
  cases hr with
  | agg _ vs hs hc hp =>
    refine .agg _ _ (by omega) (fun i b hb => ?_) hp
    obtain ⟨a, ha, him⟩ := h i b hb
    exact him _ _ (hc i a ha)
def ImL : List LV → List LV → Prop
  | [], [] => True
  | a :: xs, b :: bs => Im a b ∧ ImL xs bs
  | _, _ => False
theorem ImL_get : ∀ {xs bs : List LV}, ImL xs bs → xs.length = bs.length ∧ ∀ (i : Nat) (b : LV), bs[i]? = some b → ∃ a, xs[i]? = some a ∧ Im a b
  | [], [], _ => ⟨rfl, fun i b h => by simp at h⟩
  | a :: xs, b :: bs, h => by
    obtain ⟨h1, h2⟩ := ImL_get h.2
    refine ⟨by simp [h1], fun i c hc => ?_⟩
    cases i with
    | zero => simp at hc; subst hc; exact ⟨a, rfl, h.1⟩
    | succ i => obtain ⟨x, hx, hx2⟩ := h2 i c (by simpa using hc); exact ⟨x, by simpa using hx, hx2⟩
  | [], _ :: _, h => h.elim
  | _ :: _, [], h => h.elim
theorem Im.aggL {xs bs : List LV} (h : ImL xs bs) : Im (.agg xs) (.agg bs) := Im.agg (ImL_get h).1 (ImL_get h).2
theorem ev_im {P : Program} {f : FuncId} {xs bs : List LV} {r : LV} (h : ImL xs bs) (he : Ev P f bs r) : Ev P f xs r := by
  intro R w vs hR hgl hs ha
  obtain ⟨h1, h2⟩ := ImL_get h
  refine he R w vs hR hgl (by omega) (fun i b hb => ?_)
  obtain ⟨a, ha', him⟩ := h2 i b hb
  exact him _ _ (ha i a ha')

theorem arg_cell {t : TypeId} (hs : structT Try.prog t = false) {lv : LV} (h : fitA Try.prog t lv) : fitT Try.prog 20 t [lv] := by
  obtain ⟨ls, h1, ⟨h2, _⟩ | ⟨_, rfl⟩⟩ := h
  · rw [hs] at h2; simp at h2
  · exact h1
theorem arg_agg {t : TypeId} (hs : structT Try.prog t = true) {lv : LV} (h : fitA Try.prog t lv) : ∃ ls, lv = .agg ls ∧ fitT Try.prog 20 t ls := by
  obtain ⟨ls, h1, ⟨_, rfl⟩ | ⟨h2, _⟩⟩ := h
  · exact ⟨ls, rfl, h1⟩
  · rw [hs] at h2; simp at h2
theorem sl_bool {d : Nat} {t e : TypeId} (ht : Try.prog.underlying t = some (.slice e)) (he : Try.prog.underlying e = some .bool) (hc : Try.prog.cellsOf e = 1) {lv : LV} (h : fitT Try.prog d t [lv]) : ∃ l : List Bool, Im lv (boolsV l) ∧ l.length ≤ maxLen := by
  obtain ⟨d', n, f, h1, h2, h3⟩ := fit_sl ht h
  have hall : ∀ i, ∃ x : Bool, i < n → f i = [.sc (.bool x)] := by
    intro i
    by_cases hi : i < n
    · obtain ⟨x, h4⟩ := fit_bool he (h3 i hi)
      exact ⟨x, fun _ => h4⟩
    · exact ⟨false, fun h => absurd h hi⟩
  obtain ⟨g, hg⟩ := Classical.axiomOfChoice hall
  simp only [List.cons.injEq, and_true] at h1
  subst h1
  refine ⟨listOf n g, ?_, by rw [listOf_len]; exact h2⟩
  unfold boolsV
  rw [hc, listOf_len]
  refine Im.rsl fun i hi => ?_
  rw [hg i hi, boolsF_eq, listOf_get n g false hi]
theorem el_node {d : Nat} {ls : List LV} (h : fitT Try.prog d 82 ls) : ∃ n : Nd, ls = ndL n ∧ n.name.size ≤ maxLen ∧ In64 n.ports := by
  obtain ⟨h1, d', h2⟩ := fit_flat Try.underlying82 (n := 3) (by kernel_rfl) (by kernel_rfl) h
  obtain ⟨a, b, c, rfl⟩ : ∃ a b c, ls = [a, b, c] := by
    match ls, h1 with
    | [a, b, c], _ => exact ⟨a, b, c, rfl⟩
  obtain ⟨x, hx, h3⟩ := h2 0 _ rfl
  obtain ⟨y, hy, h4⟩ := h2 1 _ rfl
  obtain ⟨z, hz, h5⟩ := h2 2 _ rfl
  simp at hx hy hz
  subst hx; subst hy; subst hz
  obtain ⟨s, h6, h7⟩ := fit_str Try.underlying9 h3
  obtain ⟨q, h8⟩ := fit_bool Try.underlying4 h4
  obtain ⟨m, h9, h10⟩ := fit_i64 Try.underlying3 h5
  simp only [List.cons.injEq, and_true] at h6 h8 h9
  subst h6; subst h8; subst h9
  exact ⟨⟨s, q, m⟩, rfl, h7, h10⟩
theorem el_cable {d : Nat} {ls : List LV} (h : fitT Try.prog d 61 ls) : ∃ c : Cb, ls = cbL c ∧ In64 c.a ∧ In64 c.ap ∧ In64 c.b ∧ In64 c.bp ∧ In64 c.dl ∧ In64 c.cp := by
  obtain ⟨h1, d', h2⟩ := fit_flat Try.underlying61 (n := 6) (by kernel_rfl) (by kernel_rfl) h
  obtain ⟨a, b, c, a', b', c', rfl⟩ : ∃ a b c a' b' c', ls = [a, b, c, a', b', c'] := by
    match ls, h1 with
    | [a, b, c, a', b', c'], _ => exact ⟨a, b, c, a', b', c', rfl⟩
  obtain ⟨x, hx, h3⟩ := h2 0 _ rfl
  obtain ⟨y, hy, h4⟩ := h2 1 _ rfl
  obtain ⟨z, hz, h5⟩ := h2 2 _ rfl
  obtain ⟨x', hx', h3'⟩ := h2 3 _ rfl
  obtain ⟨y', hy', h4'⟩ := h2 4 _ rfl
  obtain ⟨z', hz', h5'⟩ := h2 5 _ rfl
  simp at hx hy hz hx' hy' hz'
  subst hx; subst hy; subst hz; subst hx'; subst hy'; subst hz'
  obtain ⟨i1, k1, j1⟩ := fit_i64 Try.underlying3 h3
  obtain ⟨i2, k2, j2⟩ := fit_i64 Try.underlying3 h4
  obtain ⟨i3, k3, j3⟩ := fit_i64 Try.underlying3 h5
  obtain ⟨i4, k4, j4⟩ := fit_i64 Try.underlying3 h3'
  obtain ⟨i5, k5, j5⟩ := fit_i64 Try.underlying3 h4'
  obtain ⟨i6, k6, j6⟩ := fit_i64 Try.underlying3 h5'
  simp only [List.cons.injEq, and_true] at k1 k2 k3 k4 k5 k6
  subst k1; subst k2; subst k3; subst k4; subst k5; subst k6
  exact ⟨⟨i1, i2, i3, i4, i5, i6⟩, rfl, j1, j2, j3, j4, j5, j6⟩
theorem arg_plan {lv : LV} (h : fitA Try.prog 49 lv) : ∃ p, Im lv (plV p) ∧ PlOk p := by
  obtain ⟨ls, rfl, h0⟩ := arg_agg (by kernel_rfl) h
  obtain ⟨h1, d', h2⟩ := fit_flat Try.underlying49 (n := 2) (by kernel_rfl) (by kernel_rfl) h0
  obtain ⟨a, b, rfl⟩ : ∃ a b, ls = [a, b] := by
    match ls, h1 with
    | [a, b], _ => exact ⟨a, b, rfl⟩
  obtain ⟨x, hx, h3⟩ := h2 0 _ rfl
  obtain ⟨y, hy, h4⟩ := h2 1 _ rfl
  simp at hx hy
  subst hx; subst hy
  obtain ⟨d1, n1, f1, e1, l1, g1⟩ := fit_sl Try.underlying46 h3
  obtain ⟨d2, n2, f2, e2, l2, g2⟩ := fit_sl Try.underlying47 h4
  have hn : ∀ i, ∃ x : Nd, i < n1 → f1 i = ndL x ∧ x.name.size ≤ maxLen ∧ In64 x.ports := by
    intro i
    by_cases hi : i < n1
    · obtain ⟨x, h⟩ := el_node (g1 i hi); exact ⟨x, fun _ => h⟩
    · exact ⟨default, fun h => absurd h hi⟩
  obtain ⟨ns, hns⟩ := Classical.axiomOfChoice hn
  have hc : ∀ i, ∃ x : Cb, i < n2 → f2 i = cbL x ∧ In64 x.a ∧ In64 x.ap ∧ In64 x.b ∧ In64 x.bp ∧ In64 x.dl ∧ In64 x.cp := by
    intro i
    by_cases hi : i < n2
    · obtain ⟨x, h⟩ := el_cable (g2 i hi); exact ⟨x, fun _ => h⟩
    · exact ⟨default, fun h => absurd h hi⟩
  obtain ⟨cs, hcs⟩ := Classical.axiomOfChoice hc
  simp only [List.cons.injEq, and_true] at e1 e2
  subst e1; subst e2
  rw [show Try.prog.cellsOf 82 = 3 by kernel_rfl, show Try.prog.cellsOf 61 = 6 by kernel_rfl]
  refine ⟨⟨listOf n1 ns, listOf n2 cs⟩, ?_, ⟨fun x hx => ?_, fun x hx => ?_⟩⟩
  · unfold plV
    refine Im.aggL ⟨?_, ?_, trivial⟩
    · show Im (.rsl 3 n1 f1) (.rsl 3 (listOf n1 ns).length (ndsF (listOf n1 ns)))
      rw [listOf_len]
      refine Im.rsl fun i hi => ?_
      rw [(hns i hi).1, ndsF, listOf_get n1 ns default hi]
    · show Im (.rsl 6 n2 f2) (.rsl 6 (listOf n2 cs).length (cbsF (listOf n2 cs)))
      rw [listOf_len]
      refine Im.rsl fun i hi => ?_
      rw [(hcs i hi).1, cbsF, listOf_get n2 cs default hi]
  · obtain ⟨i, hi, rfl⟩ := listOf_mem hx
    exact (hns i hi).2
  · obtain ⟨i, hi, rfl⟩ := listOf_mem hx
    exact (hcs i hi).2
theorem arg_bools {lv : LV} (h : fitA Try.prog 33 lv) : ∃ l, Im lv (boolsV l) ∧ l.length ≤ maxLen := sl_bool Try.underlying33 Try.underlying4 (by kernel_rfl) (arg_cell (by kernel_rfl) h)
theorem arg_int {lv : LV} (h : fitA Try.prog 3 lv) : ∃ n, lv = .sc (.int .i64 n) ∧ In64 n := by
  obtain ⟨n, h1, h2⟩ := fit_i64 Try.underlying3 (arg_cell (by kernel_rfl) h)
  simp only [List.cons.injEq, and_true] at h1
  exact ⟨n, h1, h2⟩
theorem all1 {t : TypeId} {ts : List TypeId} {l : List LV} (h : fitAll Try.prog (t :: ts) l) : ∃ a r, l = a :: r ∧ fitA Try.prog t a ∧ fitAll Try.prog ts r := by
  cases l with
  | nil => exact h.elim
  | cons a r => exact ⟨a, r, rfl, h.1, h.2⟩
theorem all0 {l : List LV} (h : fitAll Try.prog [] l) : l = [] := by
  cases l with
  | nil => rfl
  | cons a r => exact h.elim
theorem Try.own' : ownKnob Try.prog.godebug = none := by kernel_rfl
theorem Try.laidOut' : laidOutB Try.prog = true := by kernel_rfl
end Go.Proofs.Yteblljpbnpaplaa
namespace Go.Proofs.Yteblljpbnpaplaa
set_option linter.unusedSimpArgs false
set_option linter.unusedVariables false
open Go.RowKit
set_option maxRecDepth 100000

theorem im_nsl (z : Nat) (f : Nat → List LV) : Im .nsl (.rsl z 0 f) := fun R v hr => by
  cases hr
  exact .rsl _ _ _ none 0 0 0 (fun _ _ => undef) (Nat.le_refl _) (by unfold maxLen; omega) (fun h => absurd h (Nat.lt_irrefl _)) (fun i hi => absurd hi (Nat.not_lt_zero _)) (fun i j hi => absurd hi (Nat.not_lt_zero _)) (fun i j c hi => absurd hi (Nat.not_lt_zero _)) (fun i j hi => absurd hi (Nat.not_lt_zero _))
theorem uni_mem {a b : List Dp} {x : Dp} : x ∈ uniE a b ↔ x ∈ a ∨ x ∈ b := by
  unfold uniE
  rw [(List.mergeSort_perm _ leD).mem_iff, unq_mem, unq_mem]
  simp
theorem uni_len (a : List Dp) : (uniE a []).length ≤ a.length := by
  unfold uniE
  rw [List.length_mergeSort]
  show (unq [] a).length ≤ _
  have := unq_len (acc := []) (l := a)
  simpa using this
theorem ev_makeF (l : List Dp) (hin : ∀ d, d ∈ l → DpIn d) (hll : l.length ≤ 1000) (n : Int) (hn : In64 n) :
    ∃ R C e, MkOk l n R C e ∧ Ev Try.prog 14 [dpsV l, .sc (.int .i64 n)] (.tup [intsV R, intsV C, .sc (.int .i64 e)]) := by
  have hu := ev_union l [] hin (fun d hd => by simp at hd) hll (by simp)
  have hu2 : Ev Try.prog 32 [dpsV l, .nsl] (dpsV (uniE l [])) := ev_im (bs := [dpsV l, dpsV []]) ⟨Im.refl _, im_nsl _ _, trivial⟩ hu
  exact ev_make hll hu2 (fun d => by rw [uni_mem]; simp) (Nat.le_trans (uni_len l) hll) hn
def apF (z : Nat) (g : Nat → List LV) : Nat → Nat → List LV
  | 0 => elO .dead
  | m + 1 => fun i => if i < m then apF z g m i else List.take z (List.drop ((i - m) * z) (g m))
theorem apF_get {z : Nat} {g : Nat → List LV} (hg : ∀ m, (g m).length = z) : ∀ {m i : Nat}, i < m → apF z g m i = g i
  | m + 1, i, h => by
    unfold apF
    by_cases e : i < m
    · rw [if_pos e]; exact apF_get hg e
    · have : i = m := by omega
      subst this
      rw [if_neg e, Nat.sub_self, Nat.zero_mul, List.drop_zero, List.take_of_length_le (by rw [hg]; exact Nat.le_refl _)]
theorem apF_ext {z : Nat} {g g' : Nat → List LV} : ∀ {m : Nat}, (∀ i, i < m → g i = g' i) → apF z g m = apF z g' m
  | 0, _ => rfl
  | m + 1, h => by
    unfold apF
    rw [apF_ext (fun i hi => h i (by omega)), h m (by omega)]
def apD (l : List Dp) : Nat → List LV := apF 3 (dpsF l) l.length
theorem apD_get {l : List Dp} {i : Nat} (h : i < l.length) : apD l i = dpsF l i := apF_get (z := 3) (g := dpsF l) (fun _ => rfl) h
theorem apD_snoc (l : List Dp) (d : Dp) : apD (l ++ [d]) = fun i => if i < l.length then apD l i else List.take 3 (List.drop ((i - l.length) * 3) (dpL d)) := by
  unfold apD
  rw [List.length_append, List.length_singleton]
  show (fun i => if i < l.length then apF 3 (dpsF (l ++ [d])) l.length i else List.take 3 (List.drop ((i - l.length) * 3) (dpsF (l ++ [d]) l.length))) = _
  have e1 : apF 3 (dpsF (l ++ [d])) l.length = apF 3 (dpsF l) l.length := apF_ext fun i hi => by
    unfold dpsF
    rw [List.getD_eq_getElem?_getD, List.getElem?_append_left hi, ← List.getD_eq_getElem?_getD]
  have e2 : dpsF (l ++ [d]) l.length = dpL d := by
    unfold dpsF
    rw [List.getD_eq_getElem?_getD, List.getElem?_append_right (Nat.le_refl _), Nat.sub_self]; rfl
  rw [e1, e2]
theorem ap_allD {n : Nat} {l : List Dp} : ∀ i, i < l.length → allC n (List.take 3 (apD l i)) := by
  intro i hi
  rw [apD_get hi]
  exact ⟨trivial, trivial, trivial, trivial⟩
theorem bs_len3 {d : Dp} : ∀ i, i < 1 → (List.take 3 (List.drop (i * 3) (dpL d))).length = 3 := by
  intro i hi
  rw [show i = 0 by omega]; rfl
theorem bs_all3 {n : Nat} {d : Dp} : ∀ i, i < 1 → allC n (List.take 3 (List.take 3 (List.drop (i * 3) (dpL d)))) := by
  intro i hi
  rw [show i = 0 by omega]
  exact ⟨trivial, trivial, trivial, trivial⟩
end Go.Proofs.Yteblljpbnpaplaa
namespace Go.Proofs.Yteblljpbnpaplaa
set_option linter.unusedSimpArgs false
set_option linter.unusedVariables false
open Go.RowKit
set_option maxRecDepth 20000

theorem lopsQ_calvI {P : Program} {s : LS} {h : LH} {K : LS → Prop} {d : Option Nat} {x : Operand} {al : List Operand} (hx : opC true s x ∧ (∀ y, y ∈ al → opC true s y) ∧ isFn (op1 s x) ∧ okF P (fnOf (op1 s x)) = true ∧ @qCallK _ P (fnOf (op1 s x)) (al.map (op1 s) ++ capsOf (op1 s x)) h ⟨fun v => K (updO s d v)⟩) :
    lopsQ P ⟨d, none, .e (.calv x al)⟩ K s h := by
  obtain ⟨h1, h2, h3, h4, r, h5, h6⟩ := hx
  exact ⟨r, ⟨h1, h2, h3, h4, h5⟩, h6⟩
theorem lopsQ_gcalvI {P : Program} {s : LS} {h : LH} {K : LS → Prop} {d : Option Nat} {t : Nat} {b : Bool} {x : Operand} {al : List Operand}
    (hx : evk (s t) (fun gv => gOk gv ∧ evb (gOf b gv) (fun g => (g = true → opC true s x ∧ (∀ y, y ∈ al → opC true s y) ∧ isFn (op1 s x) ∧ okF P (fnOf (op1 s x)) = true) ∧ @gCallK _ P g (fnOf (op1 s x)) (al.map (op1 s) ++ capsOf (op1 s x)) h ⟨fun v _ => K (updO s d v)⟩))) :
    @lopsQG _ P d t b (.calv x al) ⟨K⟩ s h := by
  show lopsQ P ⟨d, some (t, b), .e (.calv x al)⟩ K s h
  simp only [evk, evb, gCallK] at hx
  obtain ⟨h1, h2, r, h3, h4⟩ := hx
  exact ⟨.cnd (gOf b (s t)) r, ⟨h1, .inr (.inr ⟨r, rfl, rfl, fun hg => ⟨(h2 hg).1, (h2 hg).2.1, (h2 hg).2.2.1, (h2 hg).2.2.2, h3 hg⟩⟩)⟩, h4⟩
theorem ev_hasC (r : List Int) (c : Int) : Ev Try.prog 30 [.sc (.int .i64 c), .rptr [.rsl 1 r.length (intsF r)]] (.sc (.bool (hasM r.length c))) := by
  refine ev_fn Try.func30 comp30 (show 2 ≤ Try.f30.ntmps by decide) ?_; unfold cf30 rf30; simp only [↓EVP0, EVQ0, EVQ1, EVQ2, EVQ3, EVQ4, EVA, EVK, EVF,EVFE, ↓reduceIte, Nat.reduceEqDiff, Nat.reduceAdd, Nat.reduceSub, Nat.reduceMul, Nat.reduceLT, Nat.reduceLeDiff, reduceCtorEq, Int.reduceToNat, Int.reduceLT, Int.reduceLE, Int.reduceAdd, Int.reduceSub, Int.reduceMul, Int.reduceNeg, Int.reduceEq, Nat.reduceMod, forall_eq_or_imp, forall_eq, forall_const, cond_true, cond_false, decide_true, decide_false, true_imp_iff, implies_true, Int.cast_ofNat_Int, forall_eq']
  rfl
def vioB (r : List Int) (d : Dp) : Bool := bif bif !hasM r.length d.f then true else !hasM r.length d.t then true else decide (r.getD d.t.toNat 0 ≤ r.getD d.f.toNat 0)
def chkL (l : List Dp) (r : List Int) : List Dp := l.filter (vioB r)
theorem chk_snoc (l : List Dp) (r : List Int) (d : Dp) : chkL (l ++ [d]) r = if vioB r d = true then chkL l r ++ [d] else chkL l r := by
  unfold chkL
  rw [List.filter_append]
  by_cases e : vioB r d = true
  · rw [if_pos e, List.filter_cons_of_pos e]; rfl
  · rw [if_neg e, List.filter_cons_of_neg e, List.filter_nil, List.append_nil]
theorem chk_len (l : List Dp) (r : List Int) : (chkL l r).length ≤ l.length := List.length_filter_le _ _
def dS (k : Nat) (L : List Dp) : LV := if L = [] then .nsl else .sl k (L.length - 1) 3 0 L.length
def dT (L : List Dp) : List (Nat × LO) := if L = [] then [] else [(0, .row 3 1 (fun i => List.take 3 (List.drop (i * 3) (dpL (L.getD 0 default))))), (L.length - 1, .row 3 L.length (apD L))]
theorem dS_nil (k : Nat) : dS k [] = .nsl := rfl
theorem dT_nil : dT [] = [] := rfl
theorem dS_ne {k : Nat} {L : List Dp} (h : L ≠ []) : dS k L = .sl k (L.length - 1) 3 0 L.length := if_neg h
theorem dT_ne {L : List Dp} (h : L ≠ []) : dT L = [(0, .row 3 1 (fun i => List.take 3 (List.drop (i * 3) (dpL (L.getD 0 default))))), (L.length - 1, .row 3 L.length (apD L))] := if_neg h
def dU (L : List Dp) : List (Nat × LO) := if L = [] then [] else (0, .box (dpL (L.getD 0 default))) :: dT L
theorem dU_nil : dU [] = [] := rfl
theorem dU_ne {L : List Dp} (h : L ≠ []) : dU L = [(0, .box (dpL (L.getD 0 default))), (0, .row 3 1 (fun i => List.take 3 (List.drop (i * 3) (dpL (L.getD 0 default))))), (L.length - 1, .row 3 L.length (apD L))] := by
  unfold dU
  rw [if_neg h, dT_ne h]
theorem dU_one (d : Dp) : dU [d] = [(0, .box (dpL d)), (0, .row 3 1 (fun i => List.take 3 (List.drop (i * 3) (dpL d)))), (0, .row 3 1 (apD [d]))] := rfl
theorem dS_one (k : Nat) (d : Dp) : dS k [d] = .sl k 0 3 0 1 := rfl
theorem dp_allC {n : Nat} (d : Dp) : allC n (dpL d) := ⟨trivial, trivial, trivial, trivial⟩
theorem apD_row {L : List Dp} {d : Dp} : (LO.row 3 (L.length + 1) fun i => if i < L.length then apD L i else List.take 3 (List.drop ((i - L.length) * 3) (dpL d))) = LO.row 3 (L ++ [d]).length (apD (L ++ [d])) := by
  rw [apD_snoc, List.length_append]; rfl
theorem hasMb {r : List Int} {a b : Int} (h : (!bif !hasM r.length a then true else !hasM r.length b) = true) : (0 ≤ a ∧ a < r.length) ∧ (0 ≤ b ∧ b < r.length) := by
  have h1 : hasM r.length a = true := by cases e : hasM r.length a <;> rw [e] at h <;> simp at h ⊢
  have h2 : hasM r.length b = true := by cases e : hasM r.length b <;> rw [e, h1] at h <;> simp at h ⊢
  exact ⟨hasM_iff.1 h1, hasM_iff.1 h2⟩
theorem getD_appH {L : List Dp} (h : L ≠ []) (d : Dp) : (L ++ [d]).getD 0 default = L.getD 0 default := by
  rw [List.getD_eq_getElem?_getD, List.getElem?_append_left (List.length_pos_iff.2 h), ← List.getD_eq_getElem?_getD]
theorem ev_check (l : List Dp) (r : List Int) (hl : l.length ≤ 100000) : Ev Try.prog 12 [dpsV l, intsV r] (dpsV (chkL l r)) := by
  have h1 := fun c => ev_hasC r c
  unfold dpsV intsV
  refine ev_fn Try.func12 comp12 (show 2 ≤ Try.f12.ntmps by decide) ?_; unfold cf12 rf12; simp only [↓EVP0, EVQ0, EVQ1, EVQ2, EVQ3, EVQ4, EVA, EVK, EVF,EVFE, ↓reduceIte, Nat.reduceEqDiff, Nat.reduceAdd, Nat.reduceSub, Nat.reduceMul, Nat.reduceLT, Nat.reduceLeDiff, reduceCtorEq, Int.reduceToNat, Int.reduceLT, Int.reduceLE, Int.reduceAdd, Int.reduceSub, Int.reduceMul, Int.reduceNeg, Int.reduceEq, Nat.reduceMod, forall_eq_or_imp, forall_eq, forall_const, cond_true, cond_false, decide_true, decide_false, true_imp_iff, implies_true, Int.cast_ofNat_Int, forall_eq']
  intro _
  refine lwp_for (α := Unit) l.length (fun _ _ => True) (fun k _ => [(0, .rsl 3 l.length (dpsF l)), (3, .ptr 0 0 0 0 0), (5, .fn 30 [.ptr 0 0 0 0 0]), (6, dS 3 (chkL (l.take k) r)), (10, .rsl 3 l.length (dpsF l)), (11, .sc (.int .i64 l.length)), (12, .sc (.int .i64 k))])
    (fun k _ => (0, .box [.rsl 1 r.length (intsF r)]) :: dU (chkL (l.take k) r)) () trivial ?_ (fun _ _ => Nat.zero_le _) ?_
  · rw [show chkL (l.take 0) r = [] from rfl, dU_nil, dS_nil]
    simp only [↓EVP0, EVQ0, EVQ1, EVQ2, EVQ3, EVQ4, EVA, EVK, EVF,EVFE, ↓reduceIte, Nat.reduceEqDiff, Nat.reduceAdd, Nat.reduceSub, Nat.reduceMul, Nat.reduceLT, Nat.reduceLeDiff, reduceCtorEq, Int.reduceToNat, Int.reduceLT, Int.reduceLE, Int.reduceAdd, Int.reduceSub, Int.reduceMul, Int.reduceNeg, Int.reduceEq, Nat.reduceMod, forall_eq_or_imp, forall_eq, forall_const, cond_true, cond_false, decide_true, decide_false, true_imp_iff, implies_true, Int.cast_ofNat_Int, forall_eq']
  intro k _ hk _
  by_cases hk2 : k < l.length
  · have hsn : l.take (k + 1) = l.take k ++ [l.getD k default] := take_succ_getD default _ _ hk2
    have hkd : decide ((k : Int) < l.length) = true := decide_eq_true (by omega)
    have kI : In64 ((k : Int) + 1) := by unfold In64; omega
    have hL2 := chk_len (l.take k) r
    rw [List.length_take] at hL2
    rw [hsn, chk_snoc]
    generalize hd : l.getD k default = d at *
    generalize hL : chkL (l.take k) r = L at *
    by_cases hL0 : L = []
    · rw [hL0, dU_nil, dS_nil]
      unfold lb12_0
      simp only [hkd, hd, ↓EVP0, EVQ0, EVQ1, EVQ2, EVQ3, EVQ4, EVA, EVK, EVF,EVFE, ↓reduceIte, Nat.reduceEqDiff, Nat.reduceAdd, Nat.reduceSub, Nat.reduceMul, Nat.reduceLT, Nat.reduceLeDiff, reduceCtorEq, Int.reduceToNat, Int.reduceLT, Int.reduceLE, Int.reduceAdd, Int.reduceSub, Int.reduceMul, Int.reduceNeg, Int.reduceEq, Nat.reduceMod, forall_eq_or_imp, forall_eq, forall_const, cond_true, cond_false, decide_true, decide_false, true_imp_iff, implies_true, Int.cast_ofNat_Int, forall_eq']
      refine ⟨⟨by omega, by omega⟩, ?_⟩
      refine lopsQ_calvI ?_
      simp only [↓EVP0, EVQ0, EVQ1, EVQ2, EVQ3, EVQ4, EVA, EVK, EVF,EVFE, ↓reduceIte, Nat.reduceEqDiff, Nat.reduceAdd, Nat.reduceSub, Nat.reduceMul, Nat.reduceLT, Nat.reduceLeDiff, reduceCtorEq, Int.reduceToNat, Int.reduceLT, Int.reduceLE, Int.reduceAdd, Int.reduceSub, Int.reduceMul, Int.reduceNeg, Int.reduceEq, Nat.reduceMod, forall_eq_or_imp, forall_eq, forall_const, cond_true, cond_false, decide_true, decide_false, true_imp_iff, implies_true, Int.cast_ofNat_Int, forall_eq']
      refine ⟨by kernel_rfl, ?_⟩
      refine qCallK_frzF (h1 d.f) ⟨roToF_self trivial, roTo2_box (by simp [mkH]) rfl ⟨⟨rfl, trivial⟩, trivial⟩, trivial⟩ trivial ?_
      simp only [↓EVP0, EVQ0, EVQ1, EVQ2, EVQ3, EVQ4, EVA, EVK, EVF,EVFE, ↓reduceIte, Nat.reduceEqDiff, Nat.reduceAdd, Nat.reduceSub, Nat.reduceMul, Nat.reduceLT, Nat.reduceLeDiff, reduceCtorEq, Int.reduceToNat, Int.reduceLT, Int.reduceLE, Int.reduceAdd, Int.reduceSub, Int.reduceMul, Int.reduceNeg, Int.reduceEq, Nat.reduceMod, forall_eq_or_imp, forall_eq, forall_const, cond_true, cond_false, decide_true, decide_false, true_imp_iff, implies_true, Int.cast_ofNat_Int, forall_eq']
      refine lopsQ_gcalvI ?_
      simp only [↓EVP0, EVQ0, EVQ1, EVQ2, EVQ3, EVQ4, EVA, EVK, EVF,EVFE, ↓reduceIte, Nat.reduceEqDiff, Nat.reduceAdd, Nat.reduceSub, Nat.reduceMul, Nat.reduceLT, Nat.reduceLeDiff, reduceCtorEq, Int.reduceToNat, Int.reduceLT, Int.reduceLE, Int.reduceAdd, Int.reduceSub, Int.reduceMul, Int.reduceNeg, Int.reduceEq, Nat.reduceMod, forall_eq_or_imp, forall_eq, forall_const, cond_true, cond_false, decide_true, decide_false, true_imp_iff, implies_true, Int.cast_ofNat_Int, forall_eq']
      refine ⟨fun h => ⟨h, h, by kernel_rfl⟩, ?_⟩
      refine gCallK_frzF _ (fun _ => h1 d.t) (fun _ => ⟨roToF_self trivial, roTo2_box (by simp [mkH]) rfl ⟨⟨rfl, trivial⟩, trivial⟩, trivial⟩) trivial ?_
      simp only [↓EVP0, EVQ0, EVQ1, EVQ2, EVQ3, EVQ4, EVA, EVK, EVF,EVFE, ↓reduceIte, Nat.reduceEqDiff, Nat.reduceAdd, Nat.reduceSub, Nat.reduceMul, Nat.reduceLT, Nat.reduceLeDiff, reduceCtorEq, Int.reduceToNat, Int.reduceLT, Int.reduceLE, Int.reduceAdd, Int.reduceSub, Int.reduceMul, Int.reduceNeg, Int.reduceEq, Nat.reduceMod, forall_eq_or_imp, forall_eq, forall_const, cond_true, cond_false, decide_true, decide_false, true_imp_iff, implies_true, Int.cast_ofNat_Int, forall_eq']
      show (_ → _) ∧ (_ → _) ∧ Br (vioB r d) _ _
      refine ⟨fun h => (hasMb h).1, fun h => (hasMb h).2, ?_⟩
      cases hv : vioB r d
      · rw [if_neg (by simp), dU_nil, dS_nil]
        simp only [↓EVP0, EVQ0, EVQ1, EVQ2, EVQ3, EVQ4, EVA, EVK, EVF,EVFE, ↓reduceIte, Nat.reduceEqDiff, Nat.reduceAdd, Nat.reduceSub, Nat.reduceMul, Nat.reduceLT, Nat.reduceLeDiff, reduceCtorEq, Int.reduceToNat, Int.reduceLT, Int.reduceLE, Int.reduceAdd, Int.reduceSub, Int.reduceMul, Int.reduceNeg, Int.reduceEq, Nat.reduceMod, forall_eq_or_imp, forall_eq, forall_const, cond_true, cond_false, decide_true, decide_false, true_imp_iff, implies_true, Int.cast_ofNat_Int, forall_eq']
        exact ⟨kI, hk2, (), trivial⟩
      · rw [if_pos rfl, dU_one, dS_one]
        simp only [↓EVP0, EVQ0, EVQ1, EVQ2, EVQ3, EVQ4, EVA, EVK, EVF,EVFE, ↓reduceIte, Nat.reduceEqDiff, Nat.reduceAdd, Nat.reduceSub, Nat.reduceMul, Nat.reduceLT, Nat.reduceLeDiff, reduceCtorEq, Int.reduceToNat, Int.reduceLT, Int.reduceLE, Int.reduceAdd, Int.reduceSub, Int.reduceMul, Int.reduceNeg, Int.reduceEq, Nat.reduceMod, forall_eq_or_imp, forall_eq, forall_const, cond_true, cond_false, decide_true, decide_false, true_imp_iff, implies_true, Int.cast_ofNat_Int, forall_eq']
        exact ⟨bs_len3 (d := d), by unfold appRoom; omega, kI, hk2, (), rfl, dp_allC d, rfl, bs_all3 (d := d), rfl, ap_allD (l := [d])⟩
    · rw [dU_ne hL0, dS_ne hL0]
      unfold lb12_0
      simp only [hkd, hd, ↓EVP0, EVQ0, EVQ1, EVQ2, EVQ3, EVQ4, EVA, EVK, EVF,EVFE, ↓reduceIte, Nat.reduceEqDiff, Nat.reduceAdd, Nat.reduceSub, Nat.reduceMul, Nat.reduceLT, Nat.reduceLeDiff, reduceCtorEq, Int.reduceToNat, Int.reduceLT, Int.reduceLE, Int.reduceAdd, Int.reduceSub, Int.reduceMul, Int.reduceNeg, Int.reduceEq, Nat.reduceMod, forall_eq_or_imp, forall_eq, forall_const, cond_true, cond_false, decide_true, decide_false, true_imp_iff, implies_true, Int.cast_ofNat_Int, forall_eq']
      refine ⟨⟨by omega, by omega⟩, ?_⟩
      refine lopsQ_calvI ?_
      simp only [↓EVP0, EVQ0, EVQ1, EVQ2, EVQ3, EVQ4, EVA, EVK, EVF,EVFE, ↓reduceIte, Nat.reduceEqDiff, Nat.reduceAdd, Nat.reduceSub, Nat.reduceMul, Nat.reduceLT, Nat.reduceLeDiff, reduceCtorEq, Int.reduceToNat, Int.reduceLT, Int.reduceLE, Int.reduceAdd, Int.reduceSub, Int.reduceMul, Int.reduceNeg, Int.reduceEq, Nat.reduceMod, forall_eq_or_imp, forall_eq, forall_const, cond_true, cond_false, decide_true, decide_false, true_imp_iff, implies_true, Int.cast_ofNat_Int, forall_eq']
      refine ⟨by kernel_rfl, ?_⟩
      refine qCallK_frzF (h1 d.f) ⟨roToF_self trivial, roTo2_box (by simp [mkH]) rfl ⟨⟨rfl, trivial⟩, trivial⟩, trivial⟩ trivial ?_
      simp only [↓EVP0, EVQ0, EVQ1, EVQ2, EVQ3, EVQ4, EVA, EVK, EVF,EVFE, ↓reduceIte, Nat.reduceEqDiff, Nat.reduceAdd, Nat.reduceSub, Nat.reduceMul, Nat.reduceLT, Nat.reduceLeDiff, reduceCtorEq, Int.reduceToNat, Int.reduceLT, Int.reduceLE, Int.reduceAdd, Int.reduceSub, Int.reduceMul, Int.reduceNeg, Int.reduceEq, Nat.reduceMod, forall_eq_or_imp, forall_eq, forall_const, cond_true, cond_false, decide_true, decide_false, true_imp_iff, implies_true, Int.cast_ofNat_Int, forall_eq']
      refine lopsQ_gcalvI ?_
      simp only [↓EVP0, EVQ0, EVQ1, EVQ2, EVQ3, EVQ4, EVA, EVK, EVF,EVFE, ↓reduceIte, Nat.reduceEqDiff, Nat.reduceAdd, Nat.reduceSub, Nat.reduceMul, Nat.reduceLT, Nat.reduceLeDiff, reduceCtorEq, Int.reduceToNat, Int.reduceLT, Int.reduceLE, Int.reduceAdd, Int.reduceSub, Int.reduceMul, Int.reduceNeg, Int.reduceEq, Nat.reduceMod, forall_eq_or_imp, forall_eq, forall_const, cond_true, cond_false, decide_true, decide_false, true_imp_iff, implies_true, Int.cast_ofNat_Int, forall_eq']
      refine ⟨fun h => ⟨h, h, by kernel_rfl⟩, ?_⟩
      refine gCallK_frzF _ (fun _ => h1 d.t) (fun _ => ⟨roToF_self trivial, roTo2_box (by simp [mkH]) rfl ⟨⟨rfl, trivial⟩, trivial⟩, trivial⟩) trivial ?_
      simp only [↓EVP0, EVQ0, EVQ1, EVQ2, EVQ3, EVQ4, EVA, EVK, EVF,EVFE, ↓reduceIte, Nat.reduceEqDiff, Nat.reduceAdd, Nat.reduceSub, Nat.reduceMul, Nat.reduceLT, Nat.reduceLeDiff, reduceCtorEq, Int.reduceToNat, Int.reduceLT, Int.reduceLE, Int.reduceAdd, Int.reduceSub, Int.reduceMul, Int.reduceNeg, Int.reduceEq, Nat.reduceMod, forall_eq_or_imp, forall_eq, forall_const, cond_true, cond_false, decide_true, decide_false, true_imp_iff, implies_true, Int.cast_ofNat_Int, forall_eq']
      show (_ → _) ∧ (_ → _) ∧ Br (vioB r d) _ _
      refine ⟨fun h => (hasMb h).1, fun h => (hasMb h).2, ?_⟩
      cases hv : vioB r d
      · rw [if_neg (by simp), dU_ne hL0, dS_ne hL0]
        simp only [↓EVP0, EVQ0, EVQ1, EVQ2, EVQ3, EVQ4, EVA, EVK, EVF,EVFE, ↓reduceIte, Nat.reduceEqDiff, Nat.reduceAdd, Nat.reduceSub, Nat.reduceMul, Nat.reduceLT, Nat.reduceLeDiff, reduceCtorEq, Int.reduceToNat, Int.reduceLT, Int.reduceLE, Int.reduceAdd, Int.reduceSub, Int.reduceMul, Int.reduceNeg, Int.reduceEq, Nat.reduceMod, forall_eq_or_imp, forall_eq, forall_const, cond_true, cond_false, decide_true, decide_false, true_imp_iff, implies_true, Int.cast_ofNat_Int, forall_eq']
        exact ⟨kI, hk2, (), dp_allC _, bs_all3, ap_allD⟩
      · rw [if_pos rfl, dU_ne (by simp), dS_ne (by simp), getD_appH hL0]
        simp only [↓EVP0, EVQ0, EVQ1, EVQ2, EVQ3, EVQ4, EVA, EVK, EVF,EVFE, ↓reduceIte, Nat.reduceEqDiff, Nat.reduceAdd, Nat.reduceSub, Nat.reduceMul, Nat.reduceLT, Nat.reduceLeDiff, reduceCtorEq, Int.reduceToNat, Int.reduceLT, Int.reduceLE, Int.reduceAdd, Int.reduceSub, Int.reduceMul, Int.reduceNeg, Int.reduceEq, Nat.reduceMod, forall_eq_or_imp, forall_eq, forall_const, cond_true, cond_false, decide_true, decide_false, true_imp_iff, implies_true, Int.cast_ofNat_Int, forall_eq']
        have hp : 0 < L.length := List.length_pos_iff.2 hL0
        have e1 : L.length - 1 + 1 = (L ++ [d]).length - 1 := by rw [List.length_append, List.length_singleton]; omega
        exact ⟨bs_len3 (d := d), ⟨Nat.le_refl _, fun i hi => by rw [apD_get hi]; rfl⟩, by unfold appRoom; omega, kI, hk2, (), by rw [e1, List.length_append]; rfl, dp_allC _, bs_all3, ⟨e1, apD_row⟩, ap_allD⟩
  · obtain rfl : k = l.length := by omega
    have hkd : decide ((l.length : Int) < l.length) = false := decide_eq_false (by omega)
    rw [List.take_length]
    generalize chkL l r = L at *
    by_cases hL0 : L = []
    · rw [hL0, dU_nil, dS_nil]
      unfold lb12_0
      simp only [hkd, ↓EVP0, EVQ0, EVQ1, EVQ2, EVQ3, EVQ4, EVA, EVK, EVF,EVFE, ↓reduceIte, Nat.reduceEqDiff, Nat.reduceAdd, Nat.reduceSub, Nat.reduceMul, Nat.reduceLT, Nat.reduceLeDiff, reduceCtorEq, Int.reduceToNat, Int.reduceLT, Int.reduceLE, Int.reduceAdd, Int.reduceSub, Int.reduceMul, Int.reduceNeg, Int.reduceEq, Nat.reduceMod, forall_eq_or_imp, forall_eq, forall_const, cond_true, cond_false, decide_true, decide_false, true_imp_iff, implies_true, Int.cast_ofNat_Int, forall_eq']
    · rw [dU_ne hL0, dS_ne hL0]
      unfold lb12_0
      simp only [hkd, ↓EVP0, EVQ0, EVQ1, EVQ2, EVQ3, EVQ4, EVA, EVK, EVF,EVFE, ↓reduceIte, Nat.reduceEqDiff, Nat.reduceAdd, Nat.reduceSub, Nat.reduceMul, Nat.reduceLT, Nat.reduceLeDiff, reduceCtorEq, Int.reduceToNat, Int.reduceLT, Int.reduceLE, Int.reduceAdd, Int.reduceSub, Int.reduceMul, Int.reduceNeg, Int.reduceEq, Nat.reduceMod, forall_eq_or_imp, forall_eq, forall_const, cond_true, cond_false, decide_true, decide_false, true_imp_iff, implies_true, Int.cast_ofNat_Int, forall_eq']
      exact ⟨⟨Nat.le_refl _, fun i hi => by rw [apD_get hi]; rfl⟩, fun i hi => apD_get hi⟩
end Go.Proofs.Yteblljpbnpaplaa
namespace Go.Proofs.Yteblljpbnpaplaa
set_option linter.unusedSimpArgs false
set_option linter.unusedVariables false
open Go.RowKit
set_option maxRecDepth 20000

theorem ev_equalR (l m : List Int) : Ev Try.prog 29 [intsV l, intsV m] (.sc (.bool (decide (l = m)))) := by
  unfold intsV
  refine ev_fn Try.func29 comp29 (show 2 ≤ Try.f29.ntmps by decide) ?_; unfold cf29 rf29; simp only [↓EVP0, EVQ0, EVQ1, EVQ2, EVQ3, EVQ4, EVA, EVK, EVF,EVFE, ↓reduceIte, Nat.reduceEqDiff, Nat.reduceAdd, Nat.reduceSub, Nat.reduceMul, Nat.reduceLT, Nat.reduceLeDiff, reduceCtorEq, Int.reduceToNat, Int.reduceLT, Int.reduceLE, Int.reduceAdd, Int.reduceSub, Int.reduceMul, Int.reduceNeg, Int.reduceEq, Nat.reduceMod, forall_eq_or_imp, forall_eq, forall_const, cond_true, cond_false, decide_true, decide_false, true_imp_iff, implies_true, Int.cast_ofNat_Int, forall_eq']
  intro hl hm
  refine ⟨fun hg => ?_, fun hg _ => ?_⟩
  · have : l ≠ m := fun e => by subst e; simp at hg
    simp [this]
  have hlm : l.length = m.length := by simp at hg; omega
  refine lwp_for (α := Unit) l.length (fun i _ => ∀ j, j < i → l.getD j 0 = m.getD j 0) (fun i _ => [(0, .rsl 1 l.length (intsF l)), (1, .rsl 1 m.length (intsF m)), (12, .sc (.int .i64 l.length)), (13, .sc (.int .i64 i))]) (fun _ _ => []) () (fun j hj => absurd hj (Nat.not_lt_zero _)) ?_ (fun _ _ => Nat.zero_le _) ?_
  · simp only [↓EVP0, EVQ0, EVQ1, EVQ2, EVQ3, EVQ4, EVA, EVK, EVF,EVFE, ↓reduceIte, Nat.reduceEqDiff, Nat.reduceAdd, Nat.reduceSub, Nat.reduceMul, Nat.reduceLT, Nat.reduceLeDiff, reduceCtorEq, Int.reduceToNat, Int.reduceLT, Int.reduceLE, Int.reduceAdd, Int.reduceSub, Int.reduceMul, Int.reduceNeg, Int.reduceEq, Nat.reduceMod, forall_eq_or_imp, forall_eq, forall_const, cond_true, cond_false, decide_true, decide_false, true_imp_iff, implies_true, Int.cast_ofNat_Int, forall_eq']
  intro i _ hi hx
  unfold lb29_0
  simp only [↓EVP0, EVQ0, EVQ1, EVQ2, EVQ3, EVQ4, EVA, EVK, EVF,EVFE, ↓reduceIte, Nat.reduceEqDiff, Nat.reduceAdd, Nat.reduceSub, Nat.reduceMul, Nat.reduceLT, Nat.reduceLeDiff, reduceCtorEq, Int.reduceToNat, Int.reduceLT, Int.reduceLE, Int.reduceAdd, Int.reduceSub, Int.reduceMul, Int.reduceNeg, Int.reduceEq, Nat.reduceMod, forall_eq_or_imp, forall_eq, forall_const, cond_true, cond_false, decide_true, decide_false, true_imp_iff, implies_true, Int.cast_ofNat_Int, forall_eq']
  refine ⟨fun hg => ?_, fun hg => ?_⟩
  · have hi2 : i < l.length := by simpa using hg
    refine ⟨⟨by omega, by omega⟩, ⟨by omega, by omega⟩, fun h => ?_, fun h => ⟨by unfold In64; omega, hi2, (), fun j hj => ?_⟩⟩
    · have : l ≠ m := fun e => by subst e; simp at h
      simp [this]
    · by_cases e : j = i
      · subst e; simpa using h
      · exact hx j (by omega)
  · have hii : i = l.length := by simp at hg; omega
    have : l = m := getD_len hlm (by subst hii; exact hx)
    simp [this]

def prF (q : List (Int × Int)) (i : Nat) : List LV := [.sc (.int .i64 (q.getD i (0, 0)).1), .sc (.int .i64 (q.getD i (0, 0)).2)]
def prD (q : List (Int × Int)) : List Dp := q.map fun x => ⟨x.1, x.2, 0⟩
theorem prD_len (q : List (Int × Int)) : (prD q).length = q.length := List.length_map _
theorem prD_take {q : List (Int × Int)} {k : Nat} (h : k < q.length) : prD (q.take (k + 1)) = prD (q.take k) ++ [⟨(q.getD k (0, 0)).1, (q.getD k (0, 0)).2, 0⟩] := by
  rw [take_succ_getD (0, 0) _ _ h]
  unfold prD
  rw [List.map_append]; rfl
def prU (q : List (Int × Int)) (L : List Dp) : List (Nat × LO) := if L = [] then [] else (0, .box (prF q 0)) :: dT L
theorem prU_nil (q : List (Int × Int)) : prU q [] = [] := rfl
theorem prU_ne {q : List (Int × Int)} {L : List Dp} (h : L ≠ []) : prU q L = [(0, .box (prF q 0)), (0, .row 3 1 (fun i => List.take 3 (List.drop (i * 3) (dpL (L.getD 0 default))))), (L.length - 1, .row 3 L.length (apD L))] := by
  unfold prU
  rw [if_neg h, dT_ne h]
theorem prF_e (q : List (Int × Int)) (i : Nat) : prF q i = [.sc (.int .i64 (q.getD i (0, 0)).1), .sc (.int .i64 (q.getD i (0, 0)).2)] := rfl
theorem ev_deps (q : List (Int × Int)) (hl : q.length ≤ 1000) : Ev Try.prog 28 [.rsl 2 q.length (prF q)] (dpsV (prD q)) := by
  have hpl := prD_len q
  unfold dpsV
  refine ev_fn Try.func28 comp28 (show 1 ≤ Try.f28.ntmps by decide) ?_; unfold cf28 rf28; simp only [↓EVP0, EVQ0, EVQ1, EVQ2, EVQ3, EVQ4, EVA, EVK, EVF,EVFE, ↓reduceIte, Nat.reduceEqDiff, Nat.reduceAdd, Nat.reduceSub, Nat.reduceMul, Nat.reduceLT, Nat.reduceLeDiff, reduceCtorEq, Int.reduceToNat, Int.reduceLT, Int.reduceLE, Int.reduceAdd, Int.reduceSub, Int.reduceMul, Int.reduceNeg, Int.reduceEq, Nat.reduceMod, forall_eq_or_imp, forall_eq, forall_const, cond_true, cond_false, decide_true, decide_false, true_imp_iff, implies_true, Int.cast_ofNat_Int, forall_eq']
  intro _
  refine lwp_for (α := Unit) q.length (fun _ _ => True) (fun k _ => [(3, dS 2 (prD (q.take k))), (6, .rsl 2 q.length (prF q)), (7, .sc (.int .i64 q.length)), (8, .sc (.int .i64 k))])
    (fun k _ => prU q (prD (q.take k))) () trivial ?_ (fun _ _ => Nat.zero_le _) ?_
  · rw [show prD (q.take 0) = [] from rfl, prU_nil, dS_nil]
    simp only [↓EVP0, EVQ0, EVQ1, EVQ2, EVQ3, EVQ4, EVA, EVK, EVF,EVFE, ↓reduceIte, Nat.reduceEqDiff, Nat.reduceAdd, Nat.reduceSub, Nat.reduceMul, Nat.reduceLT, Nat.reduceLeDiff, reduceCtorEq, Int.reduceToNat, Int.reduceLT, Int.reduceLE, Int.reduceAdd, Int.reduceSub, Int.reduceMul, Int.reduceNeg, Int.reduceEq, Nat.reduceMod, forall_eq_or_imp, forall_eq, forall_const, cond_true, cond_false, decide_true, decide_false, true_imp_iff, implies_true, Int.cast_ofNat_Int, forall_eq']
  intro k _ hk _
  by_cases hk2 : k < q.length
  · have hkd : decide ((k : Int) < q.length) = true := decide_eq_true (by omega)
    have kI : In64 ((k : Int) + 1) := by unfold In64; omega
    have kk : 0 ≤ (k : Int) ∧ (k : Int) < q.length := by omega
    rw [prD_take hk2]
    have hLl : (prD (q.take k)).length = k := by rw [prD_len, List.length_take]; omega
    generalize hL : prD (q.take k) = L at *
    by_cases hL0 : L = []
    · subst hL0
      obtain rfl : k = 0 := hLl.symm
      rw [prU_nil, dS_nil, List.nil_append]
      generalize hd : (⟨(q.getD 0 (0, 0)).1, (q.getD 0 (0, 0)).2, 0⟩ : Dp) = d
      have hU : prU q [d] = [(0, .box (prF q 0)), (0, .row 3 1 (fun i => List.take 3 (List.drop (i * 3) (dpL d)))), (0, .row 3 1 (apD [d]))] := rfl
      rw [hU, dS_one]
      subst hd
      have hk0 : decide (0 < (q.length : Int)) = true := decide_eq_true (by omega)
      unfold lb28_0
      simp only [hk0, prF_e, ↓EVP0, EVQ0, EVQ1, EVQ2, EVQ3, EVQ4, EVA, EVK, EVF,EVFE, ↓reduceIte, Nat.reduceEqDiff, Nat.reduceAdd, Nat.reduceSub, Nat.reduceMul, Nat.reduceLT, Nat.reduceLeDiff, reduceCtorEq, Int.reduceToNat, Int.reduceLT, Int.reduceLE, Int.reduceAdd, Int.reduceSub, Int.reduceMul, Int.reduceNeg, Int.reduceEq, Nat.reduceMod, forall_eq_or_imp, forall_eq, forall_const, cond_true, cond_false, decide_true, decide_false, true_imp_iff, implies_true, Int.cast_ofNat_Int, forall_eq']
      exact ⟨by omega, bs_len3 (d := ⟨(q.getD 0 (0, 0)).1, (q.getD 0 (0, 0)).2, 0⟩), by unfold appRoom; omega, by unfold In64; omega, hk2, (), rfl, bs_all3, rfl, ap_allD (l := [_])⟩
    · rw [prU_ne hL0, dS_ne hL0, prU_ne (by simp), dS_ne (by simp), getD_appH hL0]
      unfold lb28_0
      simp only [hkd, prF_e, ↓EVP0, EVQ0, EVQ1, EVQ2, EVQ3, EVQ4, EVA, EVK, EVF,EVFE, ↓reduceIte, Nat.reduceEqDiff, Nat.reduceAdd, Nat.reduceSub, Nat.reduceMul, Nat.reduceLT, Nat.reduceLeDiff, reduceCtorEq, Int.reduceToNat, Int.reduceLT, Int.reduceLE, Int.reduceAdd, Int.reduceSub, Int.reduceMul, Int.reduceNeg, Int.reduceEq, Nat.reduceMod, forall_eq_or_imp, forall_eq, forall_const, cond_true, cond_false, decide_true, decide_false, true_imp_iff, implies_true, Int.cast_ofNat_Int, forall_eq']
      have hp : 0 < L.length := List.length_pos_iff.2 hL0
      have e1 : ∀ d : Dp, L.length - 1 + 1 = (L ++ [d]).length - 1 := fun d => by rw [List.length_append, List.length_singleton]; omega
      exact ⟨kk, bs_len3 (d := ⟨(q.getD k (0, 0)).1, (q.getD k (0, 0)).2, 0⟩), ⟨Nat.le_refl _, fun i hi => by rw [apD_get hi]; rfl⟩, by unfold appRoom; omega, kI, hk2, (), by rw [e1, List.length_append]; rfl, bs_all3, ⟨e1 _, apD_row (d := ⟨(q.getD k (0, 0)).1, (q.getD k (0, 0)).2, 0⟩)⟩, ap_allD⟩
  · obtain rfl : k = q.length := by omega
    have hkd : decide ((q.length : Int) < q.length) = false := decide_eq_false (by omega)
    rw [List.take_length]
    generalize prD q = L at *
    by_cases hL0 : L = []
    · rw [hL0, prU_nil, dS_nil]
      unfold lb28_0
      simp only [hkd, ↓EVP0, EVQ0, EVQ1, EVQ2, EVQ3, EVQ4, EVA, EVK, EVF,EVFE, ↓reduceIte, Nat.reduceEqDiff, Nat.reduceAdd, Nat.reduceSub, Nat.reduceMul, Nat.reduceLT, Nat.reduceLeDiff, reduceCtorEq, Int.reduceToNat, Int.reduceLT, Int.reduceLE, Int.reduceAdd, Int.reduceSub, Int.reduceMul, Int.reduceNeg, Int.reduceEq, Nat.reduceMod, forall_eq_or_imp, forall_eq, forall_const, cond_true, cond_false, decide_true, decide_false, true_imp_iff, implies_true, Int.cast_ofNat_Int, forall_eq']
    · rw [prU_ne hL0, dS_ne hL0]
      unfold lb28_0
      simp only [hkd, prF_e, ↓EVP0, EVQ0, EVQ1, EVQ2, EVQ3, EVQ4, EVA, EVK, EVF,EVFE, ↓reduceIte, Nat.reduceEqDiff, Nat.reduceAdd, Nat.reduceSub, Nat.reduceMul, Nat.reduceLT, Nat.reduceLeDiff, reduceCtorEq, Int.reduceToNat, Int.reduceLT, Int.reduceLE, Int.reduceAdd, Int.reduceSub, Int.reduceMul, Int.reduceNeg, Int.reduceEq, Nat.reduceMod, forall_eq_or_imp, forall_eq, forall_const, cond_true, cond_false, decide_true, decide_false, true_imp_iff, implies_true, Int.cast_ofNat_Int, forall_eq']
      exact ⟨⟨Nat.le_refl _, fun i hi => by rw [apD_get hi]; rfl⟩, fun i hi => apD_get hi⟩
theorem mk_ex1 {R C : List Int} {e : Int} (h : MkOk (prD [(0, 1), (1, 2), (0, 2)]) 3 R C e) : e = 0 ∧ R = [0, 1, 2] ∧ C = [] := by
  have hm : ∀ d, d ∈ prD [(0, 1), (1, 2), (0, 2)] ↔ d = ⟨0, 1, 0⟩ ∨ d = ⟨1, 2, 0⟩ ∨ d = ⟨0, 2, 0⟩ := fun d => by unfold prD; simp
  have hall : ∀ d, d ∈ prD [(0, 1), (1, 2), (0, 2)] → inD (3 : Int).toNat d := fun d hd => by
    rcases (hm d).1 hd with rfl | rfl | rfl <;> exact ⟨⟨by decide, by decide⟩, ⟨by decide, by decide⟩⟩
  rcases h with ⟨_, _, _, h | h | ⟨d, h1, h2⟩⟩ | ⟨_, _, _, ⟨rfl, rfl, hr⟩ | ⟨_, _, hc⟩⟩
  · omega
  · omega
  · exact absurd (hall d h1) h2
  · refine ⟨rfl, ?_, rfl⟩
    have hl : R.length = 3 := hr.len
    obtain ⟨a, b, c, rfl⟩ : ∃ a b c, R = [a, b, c] := by
      match R, hl with
      | [a, b, c], _ => exact ⟨a, b, c, rfl⟩
    have i0 : inN (3 : Int).toNat 0 := ⟨by decide, by decide⟩
    have i1 : inN (3 : Int).toNat 1 := ⟨by decide, by decide⟩
    have i2 : inN (3 : Int).toNat 2 := ⟨by decide, by decide⟩
    have g0 := (hr.ge 0 i0).1
    have l01 := (hr.lt ⟨0, 1, 0⟩ ((hm _).2 (.inl rfl))).2
    have l12 := (hr.lt ⟨1, 2, 0⟩ ((hm _).2 (.inr (.inl rfl)))).2
    have f0 := hr.fr 0 i0
    have f1 := hr.fr 1 i1
    have f2 := hr.fr 2 i2
    have e0 : lvl [a, b, c] 0 = a := rfl
    have e1 : lvl [a, b, c] 1 = b := rfl
    have e2 : lvl [a, b, c] 2 = c := rfl
    simp only [e0, e1, e2] at g0 l01 l12 f0 f1 f2
    have ha : a = 0 := by
      refine Classical.byContradiction fun hne => ?_
      obtain ⟨d, h1, h2, _⟩ := f0 (by omega)
      rcases (hm d).1 h1 with rfl | rfl | rfl <;> simp at h2
    have hb : b = 1 := by
      obtain ⟨d, h1, h2, h3⟩ := f1 (by omega)
      rcases (hm d).1 h1 with rfl | rfl | rfl
      · rw [e0] at h3; omega
      · simp at h2
      · simp at h2
    have hc : c = 2 := by
      obtain ⟨d, h1, h2, h3⟩ := f2 (by omega)
      rcases (hm d).1 h1 with rfl | rfl | rfl
      · simp at h2
      · rw [e1] at h3; omega
      · rw [e0] at h3; omega
    rw [ha, hb, hc]
  · refine (cyc_no hc id fun d hd => ?_).elim
    rcases (hm d).1 hd with rfl | rfl | rfl <;> decide
theorem mk_ex2 {R C : List Int} {e : Int} (h : MkOk (prD [(0, 1), (1, 2), (2, 0)]) 3 R C e) : e = 11 ∧ R = [] ∧ C.length = 3 := by
  have hm : ∀ d, d ∈ prD [(0, 1), (1, 2), (2, 0)] ↔ d = ⟨0, 1, 0⟩ ∨ d = ⟨1, 2, 0⟩ ∨ d = ⟨2, 0, 0⟩ := fun d => by unfold prD; simp
  have hall : ∀ d, d ∈ prD [(0, 1), (1, 2), (2, 0)] → inD (3 : Int).toNat d := fun d hd => by
    rcases (hm d).1 hd with rfl | rfl | rfl <;> exact ⟨⟨by decide, by decide⟩, ⟨by decide, by decide⟩⟩
  rcases h with ⟨_, _, _, h | h | ⟨d, h1, h2⟩⟩ | ⟨_, _, _, ⟨_, _, hr⟩ | ⟨rfl, rfl, hc⟩⟩
  · omega
  · omega
  · exact absurd (hall d h1) h2
  · have l01 := (hr.lt ⟨0, 1, 0⟩ ((hm _).2 (.inl rfl))).2
    have l12 := (hr.lt ⟨1, 2, 0⟩ ((hm _).2 (.inr (.inl rfl)))).2
    have l20 := (hr.lt ⟨2, 0, 0⟩ ((hm _).2 (.inr (.inr rfl)))).2
    simp only at l01 l12 l20
    omega
  · refine ⟨rfl, rfl, ?_⟩
    have hle := cyc_len hc hall
    have h3 : (3 : Int).toNat = 3 := rfl
    have h0 : 0 < C.length := List.length_pos_iff.2 hc.1
    refine Classical.byContradiction fun hne => ?_
    have h12 : C.length = 1 ∨ C.length = 2 := by omega
    rcases h12 with h1 | h1
    · obtain ⟨d, g1, g2, g3⟩ := hc.2.2 0 h0
      rw [h1] at g3
      rw [show (0 + 1) % 1 = 0 from rfl, ← g2] at g3
      rcases (hm d).1 g1 with rfl | rfl | rfl <;> simp at g3
    · obtain ⟨d, g1, g2, g3⟩ := hc.2.2 0 h0
      obtain ⟨d', g1', g2', g3'⟩ := hc.2.2 1 (by omega)
      rw [h1] at g3 g3'
      rw [show (0 + 1) % 2 = 1 from rfl, ← g2'] at g3
      rw [show (1 + 1) % 2 = 0 from rfl, ← g2] at g3'
      rcases (hm d).1 g1 with rfl | rfl | rfl <;> rcases (hm d').1 g1' with rfl | rfl | rfl <;> simp at g3 g3'
theorem ro_pairs {h : LH} {k : Nat} {q : List (Int × Int)} {f : Nat → List LV} {n : Nat} (hn : n = q.length) (hk : k < h.n) (hv : h.f k = (0, .row 2 n f)) (hf : ∀ i, i < n → f i = prF q i) : roTo1 h (.sl k 0 2 0 n) (.rsl 2 q.length (prF q)) := by
  subst hn
  refine ⟨rfl, rfl, hk, by rw [hv], ?_, fun i hi => ?_⟩
  · rw [hv]
    exact ⟨rfl, by omega, fun i hi => by rw [Nat.zero_add, hf i hi]; rfl⟩
  · rw [hv, Nat.zero_add]
    exact ⟨hf i hi, ⟨trivial, trivial, trivial⟩⟩
theorem ev_awake : Ev Try.prog 9 [] (.sc (.bool true)) := by
  have d1 := ev_deps [(0, 1), (1, 2), (0, 2)] (by decide)
  have d2 := ev_deps [(0, 1), (1, 2), (2, 0)] (by decide)
  obtain ⟨R1, C1, e1, m1, h1⟩ := ev_makeF (prD [(0, 1), (1, 2), (0, 2)]) (fun d hd => by unfold prD at hd; simp at hd; rcases hd with rfl | rfl | rfl <;> exact ⟨by unfold In64; simp, by unfold In64; simp, by unfold In64; simp⟩) (by decide) 3 (by unfold In64; omega)
  obtain ⟨R2, C2, e2, m2, h2⟩ := ev_makeF (prD [(0, 1), (1, 2), (2, 0)]) (fun d hd => by unfold prD at hd; simp at hd; rcases hd with rfl | rfl | rfl <;> exact ⟨by unfold In64; simp, by unfold In64; simp, by unfold In64; simp⟩) (by decide) 3 (by unfold In64; omega)
  obtain ⟨rfl, rfl, rfl⟩ := mk_ex1 m1
  obtain ⟨rfl, rfl, hC2⟩ := mk_ex2 m2
  have hq := ev_equalR [0, 1, 2] [0, 1, 2]
  unfold dpsV intsV at *
  refine ev_fn Try.func9 comp9 (show 0 ≤ Try.f9.ntmps by decide) ?_; unfold cf9 rf9; simp only [↓EVP0, EVQ0, EVQ1, EVQ2, EVQ3, EVQ4, EVA, EVK, EVF,EVFE, ↓reduceIte, Nat.reduceEqDiff, Nat.reduceAdd, Nat.reduceSub, Nat.reduceMul, Nat.reduceLT, Nat.reduceLeDiff, reduceCtorEq, Int.reduceToNat, Int.reduceLT, Int.reduceLE, Int.reduceAdd, Int.reduceSub, Int.reduceMul, Int.reduceNeg, Int.reduceEq, Nat.reduceMod, forall_eq_or_imp, forall_eq, forall_const, cond_true, cond_false, decide_true, decide_false, true_imp_iff, implies_true, Int.cast_ofNat_Int, forall_eq']
  refine callK_kill [0] d1 ⟨ro_pairs rfl (by simp [mkH]) rfl (fun i hi => ?_), trivial⟩ ⟨by simp [hd2, hd1], trivial⟩ ?_
  · match i, hi with
    | 0, _ => rfl
    | 1, _ => rfl
    | 2, _ => rfl
    | i + 3, hi => omega
  simp only [↓EVP0, EVQ0, EVQ1, EVQ2, EVQ3, EVQ4, EVA, EVK, EVF,EVFE, ↓reduceIte, Nat.reduceEqDiff, Nat.reduceAdd, Nat.reduceSub, Nat.reduceMul, Nat.reduceLT, Nat.reduceLeDiff, reduceCtorEq, Int.reduceToNat, Int.reduceLT, Int.reduceLE, Int.reduceAdd, Int.reduceSub, Int.reduceMul, Int.reduceNeg, Int.reduceEq, Nat.reduceMod, forall_eq_or_imp, forall_eq, forall_const, cond_true, cond_false, decide_true, decide_false, true_imp_iff, implies_true, Int.cast_ofNat_Int, forall_eq']
  refine callK_ro (h1) ?_ ?_
  · simp only [↓EVP0, EVQ0, EVQ1, EVQ2, EVQ3, EVQ4, EVA, EVK, EVF,EVFE, ↓reduceIte, Nat.reduceEqDiff, Nat.reduceAdd, Nat.reduceSub, Nat.reduceMul, Nat.reduceLT, Nat.reduceLeDiff, reduceCtorEq, Int.reduceToNat, Int.reduceLT, Int.reduceLE, Int.reduceAdd, Int.reduceSub, Int.reduceMul, Int.reduceNeg, Int.reduceEq, Nat.reduceMod, forall_eq_or_imp, forall_eq, forall_const, cond_true, cond_false, decide_true, decide_false, true_imp_iff, implies_true, Int.cast_ofNat_Int, forall_eq']
  simp only [↓EVP0, EVQ0, EVQ1, EVQ2, EVQ3, EVQ4, EVA, EVK, EVF,EVFE, ↓reduceIte, Nat.reduceEqDiff, Nat.reduceAdd, Nat.reduceSub, Nat.reduceMul, Nat.reduceLT, Nat.reduceLeDiff, reduceCtorEq, Int.reduceToNat, Int.reduceLT, Int.reduceLE, Int.reduceAdd, Int.reduceSub, Int.reduceMul, Int.reduceNeg, Int.reduceEq, Nat.reduceMod, forall_eq_or_imp, forall_eq, forall_const, cond_true, cond_false, decide_true, decide_false, true_imp_iff, implies_true, Int.cast_ofNat_Int, forall_eq']
  refine callK_kill [1] d2 ⟨ro_pairs rfl (by simp [mkH]) rfl (fun i hi => ?_), trivial⟩ ⟨by simp [hd2, hd1], trivial⟩ ?_
  · match i, hi with
    | 0, _ => rfl
    | 1, _ => rfl
    | 2, _ => rfl
    | i + 3, hi => omega
  simp only [↓EVP0, EVQ0, EVQ1, EVQ2, EVQ3, EVQ4, EVA, EVK, EVF,EVFE, ↓reduceIte, Nat.reduceEqDiff, Nat.reduceAdd, Nat.reduceSub, Nat.reduceMul, Nat.reduceLT, Nat.reduceLeDiff, reduceCtorEq, Int.reduceToNat, Int.reduceLT, Int.reduceLE, Int.reduceAdd, Int.reduceSub, Int.reduceMul, Int.reduceNeg, Int.reduceEq, Nat.reduceMod, forall_eq_or_imp, forall_eq, forall_const, cond_true, cond_false, decide_true, decide_false, true_imp_iff, implies_true, Int.cast_ofNat_Int, forall_eq']
  refine callK_ro (h2) ?_ ?_
  · simp only [↓EVP0, EVQ0, EVQ1, EVQ2, EVQ3, EVQ4, EVA, EVK, EVF,EVFE, ↓reduceIte, Nat.reduceEqDiff, Nat.reduceAdd, Nat.reduceSub, Nat.reduceMul, Nat.reduceLT, Nat.reduceLeDiff, reduceCtorEq, Int.reduceToNat, Int.reduceLT, Int.reduceLE, Int.reduceAdd, Int.reduceSub, Int.reduceMul, Int.reduceNeg, Int.reduceEq, Nat.reduceMod, forall_eq_or_imp, forall_eq, forall_const, cond_true, cond_false, decide_true, decide_false, true_imp_iff, implies_true, Int.cast_ofNat_Int, forall_eq']
  simp only [↓EVP0, EVQ0, EVQ1, EVQ2, EVQ3, EVQ4, EVA, EVK, EVF,EVFE, ↓reduceIte, Nat.reduceEqDiff, Nat.reduceAdd, Nat.reduceSub, Nat.reduceMul, Nat.reduceLT, Nat.reduceLeDiff, reduceCtorEq, Int.reduceToNat, Int.reduceLT, Int.reduceLE, Int.reduceAdd, Int.reduceSub, Int.reduceMul, Int.reduceNeg, Int.reduceEq, Nat.reduceMod, forall_eq_or_imp, forall_eq, forall_const, cond_true, cond_false, decide_true, decide_false, true_imp_iff, implies_true, Int.cast_ofNat_Int, forall_eq']
  (refine lops_ge_imp ?_; simp only [↓EVP0, EVQ0, EVQ1, EVQ2, EVQ3, EVQ4, EVA, EVK, EVF,EVFE, ↓reduceIte, Nat.reduceEqDiff, Nat.reduceAdd, Nat.reduceSub, Nat.reduceMul, Nat.reduceLT, Nat.reduceLeDiff, reduceCtorEq, Int.reduceToNat, Int.reduceLT, Int.reduceLE, Int.reduceAdd, Int.reduceSub, Int.reduceMul, Int.reduceNeg, Int.reduceEq, Nat.reduceMod, forall_eq_or_imp, forall_eq, forall_const, cond_true, cond_false, decide_true, decide_false, true_imp_iff, implies_true, Int.cast_ofNat_Int, forall_eq'])
  (refine lops_ge_imp ?_; simp only [↓EVP0, EVQ0, EVQ1, EVQ2, EVQ3, EVQ4, EVA, EVK, EVF,EVFE, ↓reduceIte, Nat.reduceEqDiff, Nat.reduceAdd, Nat.reduceSub, Nat.reduceMul, Nat.reduceLT, Nat.reduceLeDiff, reduceCtorEq, Int.reduceToNat, Int.reduceLT, Int.reduceLE, Int.reduceAdd, Int.reduceSub, Int.reduceMul, Int.reduceNeg, Int.reduceEq, Nat.reduceMod, forall_eq_or_imp, forall_eq, forall_const, cond_true, cond_false, decide_true, decide_false, true_imp_iff, implies_true, Int.cast_ofNat_Int, forall_eq'])
  refine gCallK_frz _ (fun _ => hq) (fun _ => ⟨⟨rfl, trivial⟩, roTo1_int (by simp [mkH]) rfl rfl, trivial⟩) trivial ?_
  simp only [↓EVP0, EVQ0, EVQ1, EVQ2, EVQ3, EVQ4, EVA, EVK, EVF,EVFE, ↓reduceIte, Nat.reduceEqDiff, Nat.reduceAdd, Nat.reduceSub, Nat.reduceMul, Nat.reduceLT, Nat.reduceLeDiff, reduceCtorEq, Int.reduceToNat, Int.reduceLT, Int.reduceLE, Int.reduceAdd, Int.reduceSub, Int.reduceMul, Int.reduceNeg, Int.reduceEq, Nat.reduceMod, forall_eq_or_imp, forall_eq, forall_const, cond_true, cond_false, decide_true, decide_false, true_imp_iff, implies_true, Int.cast_ofNat_Int, forall_eq']
  exact decide_eq_true (by omega)
end Go.Proofs.Yteblljpbnpaplaa
namespace Go.Proofs.Yteblljpbnpaplaa
set_option linter.unusedSimpArgs false
set_option linter.unusedVariables false
open Go.RowKit
set_option maxRecDepth 20000

end Go.Proofs.Yteblljpbnpaplaa
