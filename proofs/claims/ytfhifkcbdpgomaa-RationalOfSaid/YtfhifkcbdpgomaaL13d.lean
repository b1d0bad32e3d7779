/- The lifted layer, part 13d: statements whose order is open. Conditions: none. -/
import Derived.Test.YtfhifkcbdpgomaaL13
namespace Go.Proofs.Ytfhifkcbdpgomaa
set_option linter.unusedSimpArgs false
set_option linter.unusedVariables false
open Go.RowKit

def opT : Operand → List Nat
  | .tmp t => [t]
  | _ => []
def opTo : Option Operand → List Nat
  | some x => opT x
  | none => []
def partT : List (Nat × Nat × Operand) → List Nat
  | [] => []
  | (_, _, x) :: r => opT x ++ partT r
def listT : List Operand → List Nat
  | [] => []
  | x :: r => opT x ++ listT r
def rdP : LOp → List Nat
  | .mov x => opT x
  | .pick c a b => opT c ++ (opT a ++ opT b)
  | .bin _ x y => opT x ++ opT y
  | .binb _ x y => opT x ++ opT y
  | .un _ x => opT x
  | .part _ _ x => opT x
  | .idxs x i => opT x ++ opT i
  | .idxa _ _ _ x i => opT x ++ opT i
  | .ext x _ => opT x
  | .bld _ ps => partT ps
  | .cvt _ x => opT x
  | .len _ x => opT x
  | .slc _ x lo hi => opT x ++ (opTo lo ++ opTo hi)
  | .slcs x lo hi => opT x ++ (opTo lo ++ opTo hi)
  | .fad _ x => opT x
  | .iad _ x i => opT x ++ opT i
  | .iada _ _ x i => opT x ++ opT i
  | .ld _ x => opT x
  | .mkf _ cs => listT cs
  | .nilc x => opT x
  | .eqa _ _ x y => opT x ++ opT y
  | .lkp _ _ _ m k => opT m ++ opT k
  | .ng0 y => opT y
def rdE : LEf → List Nat
  | .st _ x v => opT x ++ opT v
  | .alc _ => []
  | .box v => opT v
  | .mks _ _ _ _ l c => opT l ++ opT c
  | .bsl _ _ _ _ ps => partT ps
  | .bsr _ _ _ ps => partT ps
  | .app _ _ _ x y => opT x ++ opT y
  | .call _ al => listT al
  | .calv x al => opT x ++ listT al
  | .mkm => []
  | .mup _ m k v => opT m ++ (opT k ++ opT v)
  | .ext _ al => listT al
  | .ecl _ al => listT al
  | .bad => []
def rdX (o : LX) : List Nat :=
  (match o.g with | some (t, _) => [t] | none => []) ++ (match o.op with | .p q => rdP q | .e q => rdE q)

section
variable {P : Program} {s s' : LS} {h h' : LH}

theorem op1_congr {x : Operand} (hx : ∀ t, t ∈ opT x → s t = s' t) : oev s x = oev s' x := by
  cases x with
  | tmp t => exact hx t (by simp [opT])
  | _ => rfl
theorem opA {l m : List Nat} (hx : ∀ t, t ∈ l ++ m → s t = s' t) : (∀ t, t ∈ l → s t = s' t) ∧ ∀ t, t ∈ m → s t = s' t :=
  ⟨fun t ht => hx t (List.mem_append_left _ ht), fun t ht => hx t (List.mem_append_right _ ht)⟩
theorem opL_congr : ∀ {l : List (Nat × Nat × Operand)}, (∀ t, t ∈ partT l → s t = s' t) → opL s l = opL s' l ∧ ∀ g, opLC g s l = opLC g s' l
  | [], _ => ⟨rfl, fun _ => rfl⟩
  | (o, z, x) :: r, hx => by
    obtain ⟨h1, h2⟩ := opA hx
    obtain ⟨h3, h4⟩ := opL_congr h2
    have e := op1_congr h1
    exact ⟨by simp only [opL, op1, e, h3], fun g => by simp only [opLC, opC, e, h4]⟩
theorem listT_congr : ∀ {l : List Operand}, (∀ t, t ∈ listT l → s t = s' t) → ∀ x, x ∈ l → oev s x = oev s' x
  | [], _, x, hm => by simp at hm
  | y :: r, hx, x, hm => by
    obtain ⟨h1, h2⟩ := opA hx
    rcases List.mem_cons.1 hm with rfl | hm
    · exact op1_congr h1
    · exact listT_congr h2 x hm
theorem map_congr {l : List Operand} (hx : ∀ x, x ∈ l → oev s x = oev s' x) : l.map (op1 s) = l.map (op1 s') := by
  apply List.map_congr_left
  intro x hm
  simp only [op1, hx x hm]
theorem opTo_congr {o : Option Operand} (hx : ∀ t, t ∈ opTo o → s t = s' t) : o.map (op1 s) = o.map (op1 s') ∧ ∀ g y, o = some y → (opC g s y ↔ opC g s' y) := by
  cases o with
  | none => exact ⟨rfl, fun g y e => by simp at e⟩
  | some x =>
    have e := op1_congr (x := x) hx
    exact ⟨by simp only [Option.map_some, op1, e], fun g y h => by injection h with h; subst h; simp only [opC, e]⟩

theorem pop_congr {q : LOp} (hx : ∀ t, t ∈ rdP q → s t = s' t) : pval s h q = pval s' h q ∧ ∀ g, pvc P g s h q → pvc P g s' h q := by
  cases q with
  | mov x => have e := op1_congr hx; exact ⟨by simp only [pval, op1, e], fun g => by simp only [pvc, opC, e]; exact id⟩
  | pick c a b =>
    obtain ⟨h1, h2⟩ := opA hx
    obtain ⟨h2, h3⟩ := opA h2
    have e1 := op1_congr h1; have e2 := op1_congr h2; have e3 := op1_congr h3
    exact ⟨by simp only [pval, op1, e1, e2, e3], fun g => by simp only [pvc, opC, op1, e1, e2, e3]; exact id⟩
  | bin o x y => obtain ⟨h1, h2⟩ := opA hx; have e1 := op1_congr h1; have e2 := op1_congr h2; exact ⟨by simp only [pval, op1, e1, e2], fun g => by simp only [pvc, opC, op1, e1, e2]; exact id⟩
  | binb o x y => obtain ⟨h1, h2⟩ := opA hx; have e1 := op1_congr h1; have e2 := op1_congr h2; exact ⟨by simp only [pval, op1, e1, e2], fun g => by simp only [pvc, opC, op1, e1, e2]; exact id⟩
  | un o x => have e := op1_congr hx; exact ⟨by simp only [pval, op1, e], fun g => by simp only [pvc, opC, op1, e]; exact id⟩
  | part o n x => have e := op1_congr hx; exact ⟨by simp only [pval, op1, e], fun g => by simp only [pvc, opC, op1, e]; exact id⟩
  | idxs x y => obtain ⟨h1, h2⟩ := opA hx; have e1 := op1_congr h1; have e2 := op1_congr h2; exact ⟨by simp only [pval, op1, e1, e2], fun g => by simp only [pvc, opC, op1, e1, e2]; exact id⟩
  | idxa l z n x y => obtain ⟨h1, h2⟩ := opA hx; have e1 := op1_congr h1; have e2 := op1_congr h2; exact ⟨by simp only [pval, op1, e1, e2], fun g => by simp only [pvc, opC, op1, e1, e2]; exact id⟩
  | ext x i => have e := op1_congr hx; exact ⟨by simp only [pval, op1, e], fun g => by simp only [pvc, opC, op1, e]; exact id⟩
  | bld z ps => obtain ⟨h1, h2⟩ := opL_congr hx; exact ⟨by simp only [pval, h1], fun g => by simp only [pvc, h1, h2]; exact id⟩
  | cvt k x => have e := op1_congr hx; exact ⟨by simp only [pval, op1, e], fun g => by simp only [pvc, opC, op1, e]; exact id⟩
  | len k x => have e := op1_congr hx; exact ⟨by simp only [pval, op1, e], fun g => by simp only [pvc, opC, op1, e]; exact id⟩
  | slc z x lo hi =>
    obtain ⟨h1, h2⟩ := opA hx
    obtain ⟨h2, h3⟩ := opA h2
    have e1 := op1_congr h1
    obtain ⟨a1, a2⟩ := opTo_congr h2
    obtain ⟨b1, b2⟩ := opTo_congr h3
    refine ⟨by simp only [pval, a1, b1]; simp only [op1, e1], fun g => ?_⟩
    rintro ⟨g1, g2, g3, g4⟩
    refine ⟨by simpa only [opC, e1] using g1, fun y hy => (a2 g y hy).1 (g2 y hy), fun y hy => (b2 g y hy).1 (g3 y hy), ?_⟩
    rw [← a1, ← b1]
    simpa only [op1, e1] using g4
  | slcs x lo hi =>
    obtain ⟨h1, h2⟩ := opA hx
    obtain ⟨h2, h3⟩ := opA h2
    have e1 := op1_congr h1
    obtain ⟨a1, a2⟩ := opTo_congr h2
    obtain ⟨b1, b2⟩ := opTo_congr h3
    refine ⟨by simp only [pval, a1, b1]; simp only [op1, e1], fun g => ?_⟩
    rintro ⟨g1, g2, g3, g4⟩
    refine ⟨by simpa only [opC, e1] using g1, fun y hy => (a2 g y hy).1 (g2 y hy), fun y hy => (b2 g y hy).1 (g3 y hy), ?_⟩
    rw [← a1, ← b1]
    simpa only [op1, e1] using g4
  | fad o x => have e := op1_congr hx; exact ⟨by simp only [pval, op1, e], fun g => by simp only [pvc, opC, op1, e]; exact id⟩
  | iad z x y => obtain ⟨h1, h2⟩ := opA hx; have e1 := op1_congr h1; have e2 := op1_congr h2; exact ⟨by simp only [pval, op1, e1, e2], fun g => by simp only [pvc, opC, op1, e1, e2]; exact id⟩
  | iada l z x y => obtain ⟨h1, h2⟩ := opA hx; have e1 := op1_congr h1; have e2 := op1_congr h2; exact ⟨by simp only [pval, op1, e1, e2], fun g => by simp only [pvc, opC, op1, e1, e2]; exact id⟩
  | ld n x => have e := op1_congr hx; exact ⟨by simp only [pval, op1, e], fun g => by simp only [pvc, opC, op1, e]; exact id⟩
  | mkf f cs =>
    have e := listT_congr hx
    exact ⟨by simp only [pval, map_congr e], fun g hg x hm => by have := hg x hm; unfold opC at this ⊢; rw [← e x hm]; exact this⟩
  | nilc x => have e := op1_congr hx; exact ⟨by simp only [pval, op1, e], fun g => by simp only [pvc, opC, op1, e]; exact id⟩
  | eqa k n x y => obtain ⟨h1, h2⟩ := opA hx; have e1 := op1_congr h1; have e2 := op1_congr h2; exact ⟨by simp only [pval, op1, e1, e2], fun g => by simp only [pvc, opC, op1, e1, e2]; exact id⟩
  | ng0 x => have e := op1_congr hx; exact ⟨by simp only [pval, op1, e], fun g => by simp only [pvc, opC, op1, e]; exact id⟩
  | lkp kt z o m k => obtain ⟨h1, h2⟩ := opA hx; have e1 := op1_congr h1; have e2 := op1_congr h2; exact ⟨by simp only [pval, op1, e1, e2], fun g => by simp only [pvc, opC, op1, e1, e2]; exact id⟩


theorem eff_congr {q : LEf} {r : LV} (hx : ∀ t, t ∈ rdE q → s t = s' t) (he : eff P s h q r h') : eff P s' h q r h' := by
  cases q with
  | st n x v => obtain ⟨h1, h2⟩ := opA hx; have e1 := op1_congr h1; have e2 := op1_congr h2; simpa only [eff, opC, op1, e1, e2] using he
  | alc z => exact he
  | box v => have e := op1_congr hx; simpa only [eff, opC, op1, e] using he
  | mks kd z zr b l c => obtain ⟨h1, h2⟩ := opA hx; have e1 := op1_congr h1; have e2 := op1_congr h2; simpa only [eff, opC, op1, e1, e2] using he
  | bsl kd l z zr ps => obtain ⟨h1, h2⟩ := opL_congr hx; simpa only [eff, h1, h2] using he
  | bsr l z zr ps => obtain ⟨h1, h2⟩ := opL_congr hx; simpa only [eff, h1, h2] using he
  | app kd z b x y => obtain ⟨h1, h2⟩ := opA hx; have e1 := op1_congr h1; have e2 := op1_congr h2; simpa only [eff, opC, op1, e1, e2] using he
  | call f al =>
    have e := listT_congr hx
    obtain ⟨g1, g2⟩ := he
    exact ⟨fun x hm => by have := g1 x hm; unfold opC at this ⊢; rw [← e x hm]; exact this, by rw [← map_congr e]; exact g2⟩
  | calv x al =>
    obtain ⟨h1, h2⟩ := opA hx
    have e1 := op1_congr h1
    have e := listT_congr h2
    obtain ⟨g0, g1, g2, g3, g4⟩ := he
    have eo : op1 s' x = op1 s x := by simp only [op1, e1]
    refine ⟨by unfold opC at g0 ⊢; rw [← e1]; exact g0, fun x hm => by have := g1 x hm; unfold opC at this ⊢; rw [← e x hm]; exact this, by rw [eo]; exact g2, by rw [eo]; exact g3, by rw [eo, ← map_congr e]; exact g4⟩
  | mkm => exact he
  | bad => exact he
  | ecl f al =>
    have e := listT_congr hx
    obtain ⟨g1, g2, g3⟩ := he
    exact ⟨fun x hm => by have := g1 x hm; unfold opC at this ⊢; rw [← e x hm]; exact this, by rw [← map_congr e]; exact g2, g3⟩
  | ext f al =>
    have e := listT_congr hx
    obtain ⟨g1, g2, g3⟩ := he
    exact ⟨fun x hm => by have := g1 x hm; unfold opC at this ⊢; rw [← e x hm]; exact this, by rw [← map_congr e]; exact g2, g3⟩
  | mup kt m k v =>
    obtain ⟨h1, h2⟩ := opA hx
    obtain ⟨h2, h3⟩ := opA h2
    have e1 := op1_congr h1; have e2 := op1_congr h2; have e3 := op1_congr h3
    simpa only [eff, opC, op1, e1, e2, e3] using he

theorem LStep_congr {o : LX} {r : LV} (hx : ∀ t, t ∈ rdX o → s t = s' t) (hs : LStep P o s h r h') : LStep P o s' h r h' := by
  obtain ⟨d, g, op⟩ := o
  obtain ⟨h1, h2⟩ := opA hx
  unfold LStep at hs ⊢
  cases g with
  | none =>
    cases op with
    | p q => obtain ⟨e1, e2⟩ := pop_congr (h := h) h2; obtain ⟨a, b, c⟩ := hs; exact ⟨e2 true a, by rw [← e1]; exact b, c⟩
    | e q => exact eff_congr h2 hs
  | some gw =>
    obtain ⟨t, w⟩ := gw
    have et : s t = s' t := h1 t (by simp)
    cases op with
    | p q =>
      obtain ⟨e1, e2⟩ := pop_congr (h := h) h2
      obtain ⟨a, b, c, d⟩ := hs
      rw [et] at a b c
      exact ⟨a, e2 _ b, by rw [← e1]; exact c, d⟩
    | e q =>
      obtain ⟨a, b⟩ := hs
      rw [et] at a b
      refine ⟨a, ?_⟩
      rcases b with ⟨b1, b2⟩ | b | ⟨r', b1, b2, b3⟩
      · exact .inl ⟨b1, eff_congr h2 b2⟩
      · exact .inr (.inl b)
      · exact .inr (.inr ⟨r', b1, b2, fun hg => eff_congr h2 (b3 hg)⟩)
end

/-- The operations that must come before: through the edges. -/
def anc (ops : Array Oper) : Nat → Nat → Nat → Bool
  | 0, _, _ => false
  | f + 1, i, j => match ops[i]? with
    | some o => o.after.any fun e => Region.binds .any e && (e.on == j || anc ops f e.on j)
    | none => false
def clash (a b : LX) : Bool :=
  (match a.dst with | some d => (rdX b).contains d || b.dst == some d | none => false) || (match b.dst with | some d => (rdX a).contains d | none => false)
/-- Operations that do not look at the heap. -/
def freeP : LOp → Bool
  | .len .. | .iad .. | .ld .. | .lkp .. => false
  | _ => true
def isFree (o : LX) : Bool := match o.op with
  | .p q => freeP q
  | .e _ => false
/-- Operations that find the same in any longer heap. -/
def isExt (o : LX) : Bool := match o.op with
  | .p _ => true
  | .e (.call ..) | .e (.ext ..) => true
  | _ => false
/-- Operations that add an object to the heap. -/
def isAl (o : LX) : Bool := match o.g, o.op with
  | none, .e (.alc ..) | none, .e (.box ..) | none, .e (.mks ..) | none, .e (.bsl ..) | none, .e .mkm => true
  | _, _ => false
def isWr (o : LX) : Bool := match o.op with
  | .e (.st ..) | .e (.alc ..) | .e (.box ..) | .e (.mks ..) | .e (.bsl ..) | .e (.app ..) | .e .mkm | .e (.mup ..) => true
  | _ => false
/-- A call that may run in any heap. -/
def eE : LEf → LEf
  | .call f al => .ecl f al
  | q => q
def kE : LK → LK
  | .p q => .p q
  | .e q => .e (eE q)
def toE (o : LX) : LX := ⟨o.dst, o.g, kE o.op⟩
/-- Does the operation float against one of the tail? -/
def floats (ops : Array Oper) (m n i : Nat) : Bool := (List.range m).any fun j => decide (n ≤ j) && !anc ops ops.size j i
def preX (ops : Array Oper) (l : List LX) (n : Nat) : List LX := (List.range n).filterMap fun i => (l[i]?).map fun o => if floats ops l.length n i then toE o else o
/-- All the orders that the edges allow. -/
def linE (ops : Array Oper) : Nat → List Nat → List (List Nat)
  | 0, rem => if rem.isEmpty then [[]] else []
  | f + 1, rem => if rem.isEmpty then [[]] else rem.flatMap fun j => if rem.all (fun i => i == j || !anc ops ops.size j i) then (linE ops f (rem.erase j)).map (j :: ·) else []
def sufsX (ops : Array Oper) (l : List LX) (n : Nat) : List (List LX) := (linE ops l.length ((List.range l.length).filter (fun i => decide (n ≤ i)))).map fun r => r.filterMap (l[·]?)
/-- Whatever order the edges allow, each operation finds what it would find in one of the orders that are looked at. -/
def drawOk (P : Program) (ops : Array Oper) (l : List LX) (n : Nat) : Bool :=
  (P.follows .mixedOrders || !Region.departs ops) &&
  (List.range ops.size).all (fun i => match ops[i]? with
    | some o => o.after.all fun e => !Region.binds .any e || decide (e.on < i)
    | none => true) &&
  (List.range l.length).all (fun j => (List.range j).all fun i => match l[i]?, l[j]? with
    | some a, some b => !clash a b || anc ops ops.size j i
    | _, _ => true) &&
  (List.range l.length).all (fun j => decide (j < n) || (List.range n).all fun i => anc ops ops.size j i || match l[i]?, l[j]? with
    | some a, some b => isFree a || (isAl b && isExt a)
    | _, _ => true) && decide (n ≤ l.length)
/-- Where the tail begins. -/
def drawAt (P : Program) (ops : Array Oper) (l : List LX) : Option Nat :=
  let w := l.findIdx isWr
  ((if w + 1 < l.length then [w, l.length - 1] else [l.length - 1]) ++ (if w < l.length then [w - 1, w - 2, w - 3, w - 4] else []) ++ [l.length]).find? fun n => drawOk P ops l n && (n == l.length || decide (l.length ≤ n + 8) && (l.take n).all (fun o => !isWr o) && decide ((sufsX ops l n).length ≤ 6))

/-- Each element's edges lead to elements ahead of it. -/
def Valid (ops : Array Oper) (l : List Nat) : Prop := ∀ p i q, l = p ++ i :: q → ∀ o, ops[i]? = some o → ∀ e, e ∈ o.after → Region.binds .any e = true → e.on ∈ p

theorem Valid.anc {ops : Array Oper} {l : List Nat} (hv : Valid ops l) : ∀ (f i j : Nat), anc ops f i j = true → ∀ p q, l = p ++ i :: q → j ∈ p := by
  intro f
  induction f with
  | zero => intro i j h; simp [Proofs.Ytfhifkcbdpgomaa.anc] at h
  | succ f ih =>
    intro i j h p q hl
    simp only [Proofs.Ytfhifkcbdpgomaa.anc] at h
    split at h
    · rename_i o ho
      simp only [Array.any_eq_true, Bool.and_eq_true, Bool.or_eq_true, beq_iff_eq] at h
      obtain ⟨x, hx, hb, hj⟩ := h
      have hm := hv p i q hl o ho _ (Array.getElem_mem hx) hb
      rcases hj with rfl | hj
      · exact hm
      · obtain ⟨p1, p2, rfl⟩ := List.append_of_mem hm
        have := ih _ _ hj p1 (p2 ++ i :: q) (by rw [hl]; simp)
        exact List.mem_append_left _ this
    · simp at h

section
variable {ops : Array Oper}

theorem sub_len : ∀ (l m : List Nat), l.Nodup → l ⊆ m → l.length ≤ m.length
  | [], _, _, _ => Nat.zero_le _
  | x :: r, m, hn, hs => by
    have hx : x ∈ m := hs (by simp)
    obtain ⟨h1, h2⟩ := List.nodup_cons.1 hn
    have := sub_len r (m.erase x) h2 (fun y hy => by
      have hne : y ≠ x := fun e => h1 (e ▸ hy)
      exact (List.mem_erase_of_ne hne).2 (hs (by simp [hy])))
    rw [List.length_erase_of_mem hx] at this
    have hpos := List.length_pos_of_mem hx
    simp only [List.length_cons]
    omega

theorem exists_new {n : Nat} {acc : List Nat} (hn : acc.Nodup) (hl : acc.length < n) : ∃ i, i < n ∧ i ∉ acc ∧ ∀ j, j < i → j ∈ acc := by
  have : ∃ i, i < n ∧ i ∉ acc := by
    rcases Classical.em (∃ i, i < n ∧ i ∉ acc) with h | h
    · exact h
    · exfalso
      have hsub : List.range n ⊆ acc := by
        intro i hi
        rcases Classical.em (i ∈ acc) with h1 | h1
        · exact h1
        · exact absurd ⟨i, List.mem_range.1 hi, h1⟩ h
      have := sub_len (List.range n) acc List.nodup_range hsub
      simp at this; omega
  obtain ⟨i, h1, h2⟩ := this
  induction i using Nat.strongRecOn with
  | _ i ih =>
    rcases Classical.em (∃ j, j < i ∧ j ∉ acc) with h | h
    · obtain ⟨j, hj, hja⟩ := h
      exact ih j hj (by omega) hja
    · refine ⟨i, h1, h2, fun j hj => ?_⟩
      rcases Classical.em (j ∈ acc) with h3 | h3
      · exact h3
      · exact absurd ⟨j, hj, h3⟩ h

theorem lin_go (hb : ∀ i o, ops[i]? = some o → ∀ e, e ∈ o.after → Region.binds .any e = true → e.on < i) : ∀ (fuel t : Nat) (listed : Array Bool) (acc : List Nat),
    listed.size = ops.size → (∀ i, i < ops.size → (listed.getD i true = true ↔ i ∈ acc)) → acc.Nodup → (∀ i, i ∈ acc → i < ops.size) → acc.length + fuel = ops.size → Valid ops acc.reverse →
    ∃ r, Region.linearise.go .any ops fuel t listed acc = r ∧ r.Nodup ∧ (∀ i, i ∈ r → i < ops.size) ∧ r.length = ops.size ∧ Valid ops r := by
  intro fuel
  induction fuel with
  | zero =>
    intro t listed acc _ _ h3 h4 h5 h6
    exact ⟨acc.reverse, rfl, (by simpa [List.Nodup, List.pairwise_reverse, ne_comm] using h3), fun i hi => h4 i (by simpa using hi), by simp; omega, h6⟩
  | succ fuel ih =>
    intro t listed acc h1 h2 h3 h4 h5 h6
    obtain ⟨i0, g1, g2, g3⟩ := exists_new h3 (show acc.length < ops.size by omega)
    have hfalse : ∀ i, i < ops.size → (listed.getD i false = true ↔ i ∈ acc) := by
      intro i hi
      rw [← h2 i hi]
      simp only [Array.getD_eq_getD_getElem?]
      rw [Array.getElem?_eq_getElem (by omega)]
      simp
    simp only [Region.linearise.go]
    generalize hrs : (List.range ops.size).filter (fun i => !listed.getD i true && ((ops[i]?).map (·.after.all fun e => !Region.binds .any e || listed.getD e.on false)).getD false) = rs
    have hmem : ∀ i, i ∈ rs ↔ i < ops.size ∧ i ∉ acc ∧ ∃ o, ops[i]? = some o ∧ ∀ e, e ∈ o.after → Region.binds .any e = true → listed.getD e.on false = true := by
      intro i
      rw [← hrs]
      simp only [List.mem_filter, List.mem_range, Bool.and_eq_true, Bool.not_eq_true']
      constructor
      · rintro ⟨a, b, c⟩
        refine ⟨a, fun hm => ?_, ?_⟩
        · have := (h2 i a).2 hm
          rw [this] at b; simp at b
        · cases ho : ops[i]? with
          | none => rw [ho] at c; simp at c
          | some o =>
            rw [ho] at c
            simp only [Option.map_some, Option.getD_some, Array.all_eq_true, Bool.or_eq_true, Bool.not_eq_true'] at c
            refine ⟨o, rfl, fun e he hbe => ?_⟩
            obtain ⟨x, hx, rfl⟩ := Array.getElem_of_mem he
            rcases c x hx with c | c
            · rw [hbe] at c; simp at c
            · exact c
      · rintro ⟨a, b, o, ho, c⟩
        refine ⟨a, ?_, ?_⟩
        · cases hq : listed.getD i true with
          | false => rfl
          | true => exact absurd ((h2 i a).1 hq) b
        · rw [ho]
          simp only [Option.map_some, Option.getD_some, Array.all_eq_true, Bool.or_eq_true, Bool.not_eq_true']
          intro x hx
          cases hbx : Region.binds .any o.after[x] with
          | false => exact .inl rfl
          | true => exact .inr (c _ (Array.getElem_mem hx) hbx)
    have hi0 : i0 ∈ rs := by
      rw [hmem]
      refine ⟨g1, g2, ops[i0], Array.getElem?_eq_getElem g1, fun e he hbe => ?_⟩
      have := hb i0 _ (Array.getElem?_eq_getElem g1) e he hbe
      exact (hfalse _ (by omega)).2 (g3 _ this)
    have hpos : 0 < rs.length := List.length_pos_of_mem hi0
    have hlt : t % rs.length < rs.length := Nat.mod_lt _ hpos
    rw [List.getElem?_eq_getElem hlt]
    simp only
    have hpick := (hmem _).1 (List.getElem_mem hlt)
    generalize rs[t % rs.length] = i at hpick
    obtain ⟨p1, p2, o, ho, p3⟩ := hpick
    refine ih _ _ (i :: acc) (by simpa using h1) (fun j hj => ?_) (List.nodup_cons.2 ⟨p2, h3⟩) (fun j hj => ?_) (by simp; omega) ?_
    · simp only [Array.getD_eq_getD_getElem?, Array.getElem?_setIfInBounds]
      by_cases e : i = j
      · subst e; simp [h1, hj]
      · simp only [e, if_false]
        have := h2 j hj
        simp only [Array.getD_eq_getD_getElem?] at this
        rw [this]
        simp [show ¬ j = i from fun h => e h.symm]
    · rcases List.mem_cons.1 hj with rfl | hj
      · exact p1
      · exact h4 j hj
    · intro p k q hpq o' ho' e he hbe
      rw [List.reverse_cons] at hpq
      rcases List.eq_nil_or_concat q with rfl | ⟨q', x, rfl⟩
      · have := List.append_inj' hpq rfl
        obtain ⟨e1, e2⟩ := this
        injection e2 with e2
        subst e2
        rw [ho] at ho'
        injection ho' with ho'
        subst ho'
        have := p3 e he hbe
        have hlt2 := hb _ _ ho e he hbe
        rw [← e1]
        simp only [List.mem_reverse]
        exact (hfalse _ (by omega)).1 this
      · have e3 : acc.reverse = p ++ k :: q' := by
          have : acc.reverse ++ [i] = (p ++ k :: q') ++ [x] := by rw [hpq]; simp
          exact (List.append_inj' this rfl).1
        exact h6 p k q' e3 o' ho' e he hbe

theorem sched_ok {P : Program} (hd : P.follows .mixedOrders || !Region.departs ops) (hb : ∀ i o, ops[i]? = some o → ∀ e, e ∈ o.after → Region.binds .any e = true → e.on < i) (t : Nat) :
    (Region.schedule (P.follows .mixedOrders) ops t).Nodup ∧ (∀ i, i ∈ Region.schedule (P.follows .mixedOrders) ops t → i < ops.size) ∧ (Region.schedule (P.follows .mixedOrders) ops t).length = ops.size ∧ Valid ops (Region.schedule (P.follows .mixedOrders) ops t) := by
  unfold Region.schedule
  rw [if_pos hd]
  unfold Region.linearise
  obtain ⟨r, h1, h2⟩ := lin_go hb ops.size t (Array.replicate ops.size false) [] (by simp) (fun i hi => by
    simp only [Array.getD_eq_getD_getElem?]; simp [hi]) List.nodup_nil (fun i hi => by simp at hi) (by simp) (fun p i q hl => by simp at hl)
  rw [h1]
  exact h2
end
end Go.Proofs.Ytfhifkcbdpgomaa
