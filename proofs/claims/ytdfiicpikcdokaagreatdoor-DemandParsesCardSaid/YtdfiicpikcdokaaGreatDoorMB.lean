/- The lifted layer, part 10: append, whole; The lifted layer, part 10b: bytes appended to a row of bytes; The lifted layer, part 11: one operation, whole, with its guard; The lifted layer, part 12: operations that make or change memory are what the model runs; The lifted layer, part 13: code, and its one theorem; The lifted layer, part 13d: statements whose order is open; The lifted layer, part 13e: statements whose order is open, whole; The lifted layer, part 14: loops and functions; The lifted layer, part 15: what a function's call comes to; The lifted layer, part 16: functions by their numbers; calls by what the callee computes. Conditions: none. -/
import Derived.Test.YtdfiicpikcdokaaGreatDoorMA
import Derived.Laws.IdiomStrings
namespace Go.Proofs.YtdfiicpikcdokaaGreatDoor
set_option linter.unusedSimpArgs false
set_option linter.unusedVariables false
open Go.RowKit

section
variable {P : Program} {R : RO} {ι : IM} {h : LH} {B : Nat} {w : World} {s : LS} {ρ : Operand → Value}

theorem storeCells_raw (b p : Nat) (e : TypeId) : ∀ (us : List Value) (j : Nat) (w : World) (c : Array Value), w.heap[b]? = some (.cells c e (0, 0)) → p + j + us.length ≤ c.size → (∀ u, u ∈ us → plainV u = true) →
    ∃ w' c', (storeCells ⟨b, p, none⟩ us j).run P w = .ok () w' ∧ w'.heap[b]? = some (.cells c' e (0, 0)) ∧ c'.size = c.size ∧ (∀ q, q < us.length → c'[p + j + q]? = us[q]?) ∧
      (∀ q, q < p + j ∨ p + j + us.length ≤ q → c'[q]? = c[q]?) ∧ (∀ k, k ≠ b → w'.heap[k]? = w.heap[k]?) ∧ w'.heap.size = w.heap.size ∧ w'.os = w.os ∧ w'.tape = w.tape ∧ w'.output = w.output := by
  intro us
  induction us with
  | nil => intro j w c hw _ _; exact ⟨w, c, rfl, hw, rfl, fun q hq => absurd hq (Nat.not_lt_zero _), fun _ _ => rfl, fun _ _ => rfl, rfl, rfl, rfl, rfl⟩
  | cons u r ih =>
    intro j w c hw hl hp
    simp only [List.length_cons] at hl
    have hset := setCell_cells (w := w) (a := ⟨b, p + j, none⟩) (v := u) rfl hw
    obtain ⟨w', c', h1, h2, h3, h4, h5, h6, h7, h8, h9, h10⟩ := ih (j + 1) (w.setCell ⟨b, p + j, none⟩ u) (c.setIfInBounds (p + j) u) hset (by simp; omega) (fun x hx => hp x (by simp [hx]))
    refine ⟨w', c', ?_, h2, by simpa using h3, ?_, ?_, ?_, ?_, h8, h9, h10⟩
    · simp only [storeCells, Sem.run_bind, add_mk]
      rw [run_store _ _ _ _ _ (plain_oneCell (hp u (by simp)))]
      have g1 : w.cell? ⟨b, p + j, none⟩ = some c[p + j] := by
        simp only [World.cell?, hw]; simp
      have g2 : w.frozen? ⟨b, p + j, none⟩ = false := by simp [World.frozen?, hw]
      simp only [g1, g2, Bool.false_eq_true, if_false, Result.andThen_ok]
      exact h1
    · intro q hq
      cases q with
      | zero =>
        rw [Nat.add_zero, h5 (p + j) (.inl (by omega)), Array.getElem?_setIfInBounds]
        simp; omega
      | succ q =>
        have := h4 q (by simpa using hq)
        have e1 : p + j + (q + 1) = p + (j + 1) + q := by omega
        rw [e1, this]; simp
    · intro q hq
      simp only [List.length_cons] at hq
      rw [h5 q (by omega), Array.getElem?_setIfInBounds, if_neg (by omega)]
    · intro k hk
      rw [h6 k hk]
      simp only [World.setCell, Array.getElem?_modify]
      rw [if_neg (fun e => hk e.symm)]
    · rw [h7]; simp [World.setCell]

theorem growBy_le (need : Nat) (h256 : 256 ≤ need) : ∀ (n c : Nat), c ≤ 2 * need → Builtin.growBy need n c ≤ 2 * need := by
  intro n
  induction n with
  | zero => intro c hc; exact hc
  | succ n ih =>
    intro c hc
    unfold Builtin.growBy
    split
    · exact hc
    · exact ih _ (by omega)

theorem nextcap_le {need cap : Nat} (hlt : cap < need) : Builtin.nextslicecap need cap ≤ 2 * need := by
  unfold Builtin.nextslicecap
  split
  · omega
  · split
    · omega
    · exact growBy_le need (by omega) _ _ (by omega)

def bytesO (P : Program) (t : TypeId) : Option Nat := (P.info? t).map (·.bytes)

def appRoom (bytes n : Nat) : Prop := 2 * n * bytes ≤ 281474976710656

theorem yPlain {y : LV} {sz : Nat} {us : Array Value} (h0 : 0 < sz) (hsz : us.size = yN y * sz) (hu : ∀ i j, i < yN y → j < sz → ∃ lv, (yF h y i)[j]? = some lv ∧ Rv R ι h lv (us.getD (i * sz + j) undef) ∧ plainV (us.getD (i * sz + j) undef) = true) :
    ∀ q, q < us.size → plainV (us.getD q undef) = true := by
  intro q hq
  rw [hsz] at hq
  obtain ⟨d1, d2, d3⟩ := divmod h0 hq
  obtain ⟨_, _, _, e⟩ := hu _ _ d1 d2
  rw [d3] at e; exact e

theorem zeroC_plain {z : Array Value} (hz : ∀ v, v ∈ z → plainV v = true) (n : Nat) : ∀ q, q < (Builtin.zeroCells z n).size → plainV ((Builtin.zeroCells z n).getD q undef) = true := by
  intro q hq
  unfold Builtin.zeroCells at hq ⊢
  have hlt : q < n * z.size := by simpa using hq
  have h0 : 0 < z.size := by
    rcases Nat.eq_zero_or_pos z.size with e | e
    · rw [e] at hlt; omega
    · exact e
  have hm : q % z.size < z.size := Nat.mod_lt _ h0
  rw [Array.getD_eq_getD_getElem?]
  simp only [Array.getElem?_map]
  rw [Array.getElem?_range]
  simp only [hlt, if_true, Option.map_some, Option.getD_some]
  rw [getElem!_pos z _ hm]
  exact hz _ (Array.getElem_mem hm)

theorem ykC_type {kd : Nat} {zero : List Value} {sz : Nat} (hk : kindZ zero = kd) (hz : zero.length = sz) : kd = 1 ∨ kd = 2 → sz = 1 := by
  rintro (rfl | rfl)
  · have := kindZ_one hk; subst this; simpa using hz.symm
  · have := kindZ_two hk; subst this; simpa using hz.symm

theorem appO_ty {kd sz off len : Nat} {ob : LO} {y : LV} {w : World} {x : IA} : tyC w (appO kd sz off len ob h y) x := by
  unfold appO; split <;> trivial
theorem Rep.drew (hr : Rep R ι h B w) : Rep R ι h B w.drew :=
  ⟨hr.ro, fun k a b c d => ⟨(hr.cells k a b c d).ex⟩, hr.empty, hr.base, hr.apart, hr.maps, fun k hk => (hr.ty k hk).heap fun _ _ => rfl, hr.gl⟩

theorem append_room {t ty el : TypeId} {inf : TypeInfo} (ht : P.underlying t = some (.slice el)) (hinf : P.info? el = some inf) {a : Option Addr} {len cap n : Nat} {ya : Option Addr} {ycap : Nat} {us : Array Value} {w' : World}
    (hroom : len + n ≤ cap) (hf : (Builtin.firstCells inf.size n (.slice ya n ycap)).run P w = .ok us w) (hst : ∀ ad, a = some ad → (storeCells (ad.add (len * inf.size)) us.toList).run P w = .ok () w') (hnone : a = none → w' = w) :
    (Builtin.append_ #[t, t] ty #[.slice a len cap, .slice ya n ycap]).run P w = .ok (.slice a (len + n) cap) w' := by
  cases a with
  | none =>
    have := hnone rfl
    subst this
    simp [Builtin.append_, run_underlying ht, sizeOf, typeInfo, hinf, Builtin.lenOf, hroom, hf]
  | some ad =>
    have := hst ad rfl
    simp [Builtin.append_, run_underlying ht, sizeOf, typeInfo, hinf, Builtin.lenOf, hroom, hf, this]

theorem append_grow {t ty el : TypeId} {inf : TypeInfo} {z : Value} (ht : P.underlying t = some (.slice el)) (hinf : P.info? el = some inf) (hz : inf.zero = some z) {a : Option Addr} {len cap n : Nat} {ya : Option Addr} {ycap : Nat} {olds us : Array Value}
    (hroom : cap < len + n) (ho : (Builtin.firstCells inf.size len (.slice a len cap)).run P w.drew = .ok olds w.drew) (hf : (Builtin.firstCells inf.size n (.slice ya n ycap)).run P w.drew = .ok us w.drew)
    (h63 : ((len + n : Nat) : Int) ≤ 9223372036854775807) (hfit : Builtin.nextslicecap (len + n) cap * inf.bytes ≤ 281474976710656) :
    (Builtin.append_ #[t, t] ty #[.slice a len cap, .slice ya n ycap]).run P w =
      .ok (.slice (some ⟨w.heap.size, 0, none⟩) (len + n) (grownCap w (len + n) cap el)) (w.drew.alloc (.cells (olds ++ us ++ Builtin.zeroCells z.cells (grownCap w (len + n) cap el - (len + n))) el)) := by
  have hn : ¬ (len + n ≤ cap) := by omega
  have h63' : ¬ (9223372036854775807 < ((len : Int) + (n : Int))) := by omega
  have h48' : ¬ (281474976710656 < Builtin.nextslicecap (len + n) cap * inf.bytes) := by omega
  simp [Builtin.append_, run_underlying ht, sizeOf, typeInfo, zeroValue, hinf, hz, Builtin.lenOf, hn, h63', h48', Question.forced, hf, ho, newRow, grownCap]

theorem app_index {sz len m i c : Nat} (hc : c < sz) : (i < len → i * sz + c < len * sz) ∧ (len ≤ i → i - len < m → len * sz ≤ i * sz + c ∧ i * sz + c - len * sz = (i - len) * sz + c ∧ i * sz + c < (len + m) * sz) := by
  refine ⟨fun hi => ?_, fun h1 h2 => ?_⟩
  · have := Nat.mul_le_mul_right sz (Nat.succ_le_of_lt hi)
    rw [Nat.succ_mul] at this; omega
  · have e : i = len + (i - len) := by omega
    have e2 : i * sz = len * sz + (i - len) * sz := by rw [← Nat.add_mul, ← e]
    have := Nat.mul_le_mul_right sz (Nat.succ_le_of_lt h2)
    rw [Nat.succ_mul] at this
    rw [Nat.add_mul]
    omega

theorem app_ok (hr : Rep R ι h B w) (hB : B ≤ w.heap.size) {t ty el : TypeId} {kd sz bytes k ver off len : Nat} {zero : List Value} {y : LV} {vx vy : Value}
    (ht : P.underlying t = some (.slice el)) (hs : sizeO P el = some sz) (hb : bytesO P el = some bytes) (hb1 : 1 ≤ bytes) (hz : zeroCells P el = some zero) (hzl : zero.length = sz) (hk : kindZ zero = kd) (h0 : 0 < sz)
    (hx : Rv R ι h (.sl k ver sz off len) vx) (hy : Rv R ι h y vy) (hver : (h.f k).1 = ver) (hkd : kdC kd (h.f k).2) (hrng : rngC (h.f k).2 sz off len) (hyc : yC h sz y) (hyk : ykC kd h y) (hroom : appRoom bytes (len + yN y)) :
    ∃ v w' ι', (Builtin.append_ #[t, t] ty #[vx, vy]).run P w = .ok v w' ∧ Trans B R ι h w R ι' (h.set k (ver + 1, appO kd sz off len (h.f k).2 h y)) w' ∧
      Rv R ι' (h.set k (ver + 1, appO kd sz off len (h.f k).2 h y)) (.sl k (ver + 1) sz 0 (len + yN y)) v := by
  obtain ⟨f1, f2, f3, f4, f5⟩ := appO_facts (off := off) (len := len) (ob := (h.f k).2) hyc hyk (.inl hkd) (ykC_type hk hzl) (.inr hrng)
  have hxc : yC h sz (.sl k ver sz off len) := ⟨rfl, (hx.sl_inv).choose_spec.choose_spec.2.1, hver, hrng⟩
  obtain ⟨a, cap, hvx, hkn, _, hlc, hm, hcase⟩ := hx.sl_inv
  have hlive : (h.f k).2.live = true ∧ (h.f k).2.isMap = false := by
    unfold rngC at hrng
    generalize (h.f k).2 = ob at *
    cases ob <;> first | exact ⟨rfl, rfl⟩ | exact hrng.elim
  obtain ⟨inf, hinf, hbytes, hsize⟩ : ∃ i, P.info? el = some i ∧ i.bytes = bytes ∧ i.size = sz := by
    unfold bytesO at hb
    unfold sizeO at hs
    cases hi : P.info? el with
    | none => rw [hi] at hb; simp at hb
    | some i => rw [hi] at hb hs; simp at hb hs; exact ⟨i, rfl, hb, hs⟩
  obtain ⟨zv, hzv1, hzv2, hzv3⟩ := zeroCells_ok (P := P) (w := w) hz
  have hzi : inf.zero = some zv := by
    unfold zeroCells at hz
    simp only [zeroValue, typeInfo, Sem.run_bind, run_program, Result.andThen_ok, hinf, Sem.run_pure] at hzv1
    cases hq : inf.zero with
    | none => rw [hq] at hzv1; simp at hzv1
    | some v => rw [hq] at hzv1; simp at hzv1; rw [hzv1]
  unfold appRoom at hroom
  have hneed : 2 * (len + yN y) ≤ 2 * (len + yN y) * bytes := by
    have := Nat.mul_le_mul_left (2 * (len + yN y)) hb1
    omega
  have hfk : (h.set k (ver + 1, appO kd sz off len (h.f k).2 h y)).f k = (ver + 1, appO kd sz off len (h.f k).2 h y) := by simp [LH.set]
  by_cases hfit : len + yN y ≤ cap
  · obtain ⟨ya, ycap, us, rfl, hfc, husz, hus⟩ := firstCells_ok (P := P) hr h0 hy hyc
    have hyp := yPlain h0 husz hus
    by_cases hcap : cap = 0
    · have hl0 : len = 0 := by omega
      have hy0 : yN y = 0 := by omega
      have hus0 : us = #[] := by
        apply Array.eq_empty_of_size_eq_zero; rw [husz, hy0]; simp
      have hrun := append_room (P := P) (w := w) (w' := w) (ty := ty) (a := a) (len := len) (cap := cap) ht hinf hfit (by rw [hsize]; exact hfc) (fun ad _ => by rw [hus0]; rfl) (fun _ => rfl)
      have hch := hr.change hB hkn (hty := appO_ty) (ver' := ver + 1) (ob' := appO kd sz off len (h.f k).2 h y) (x' := ⟨w.heap.size, 0, 0⟩) (w' := { w with heap := w.heap.push (.cells #[] el) }) hlive.1 (by omega) (by omega) f1 f2 hlive.2 rfl rfl rfl (by simp)
        (fun b hb hne => by simp only [Array.getElem?_push]; rw [if_neg (by omega)]) (.inr ⟨Nat.le_refl _, by simp⟩) (fun _ hne => absurd rfl hne) (fun _ => by rw [f3, hl0, hy0]; simp)
      -- the same with the world as it is: nothing lies in the new block
      refine ⟨_, w, updI ι k ⟨w.heap.size, 0, 0⟩, by rw [hvx]; exact hrun, ⟨⟨?_, ?_, ?_, ?_, ?_, ?_, ?_, hr.gl⟩, hch.mono, Below.refl _ _, fun _ _ => rfl, hB⟩, ?_⟩
      · exact hr.ro
      · intro j hj h1 h2 h3
        have hjk : j ≠ k := by
          intro e; subst e; simp [updI] at h3
        have h4 : (h.set k (ver + 1, appO kd sz off len (h.f k).2 h y)).f j = h.f j := by simp [LH.set, hjk]
        have h5 : updI ι k ⟨w.heap.size, 0, 0⟩ j = ι j := by simp [updI, hjk]
        rw [h4] at h1 h2 ⊢
        rw [h5] at h3 ⊢
        obtain ⟨cl, e', q1, q2, q3, q4, q5⟩ := (hr.cells j hj h1 h2 h3).ex
        exact ⟨cl, e', q1, q2, q3, q4, fun i c lv hx => let ⟨v, a1, a2⟩ := q5 i c lv hx; ⟨v, a1, a2.mono hch.mono⟩⟩
      · exact hch.rep.empty
      · intro j hj h1 h3
        by_cases hjk : j = k
        · subst hjk
          rw [hfk] at h3
          rcases h3 with h3 | h3
          · simp [updI] at h3
          · rw [f2] at h3; simp at h3
        · have h4 : (h.set k (ver + 1, appO kd sz off len (h.f k).2 h y)).f j = h.f j := by simp [LH.set, hjk]
          have h5 : updI ι k ⟨w.heap.size, 0, 0⟩ j = ι j := by simp [updI, hjk]
          rw [h4] at h1 h3
          rw [h5] at h3 ⊢
          exact hr.base j hj h1 h3
      · exact hch.rep.apart
      · intro j es hj hes
        have hjk : j ≠ k := by
          intro e; subst e
          rw [hfk] at hes
          simp only at hes
          rw [hes] at f2; simp [LO.isMap] at f2
        have h4 : (h.set k (ver + 1, appO kd sz off len (h.f k).2 h y)).f j = h.f j := by simp [LH.set, hjk]
        have h5 : updI ι k ⟨w.heap.size, 0, 0⟩ j = ι j := by simp [updI, hjk]
        rw [h4] at hes
        rw [h5]
        obtain ⟨ents, clock, q1, q2, q3, q4⟩ := hr.maps j es hj hes
        exact ⟨ents, clock, q1, q2, q3, fun i kv hkv => let ⟨e, a1, a2, a3⟩ := q4 i kv hkv; ⟨e, a1, a2, a3.mono hch.mono⟩⟩
      · intro j hj
        by_cases hjk : j = k
        · subst hjk; rw [hfk]; exact appO_ty
        · have h4 : (h.set k (ver + 1, appO kd sz off len (h.f k).2 h y)).f j = h.f j := by simp [LH.set, hjk]
          have h5 : updI ι k ⟨w.heap.size, 0, 0⟩ j = ι j := by simp [updI, hjk]
          rw [h4, h5]; exact hr.ty j hj
      · refine .sl _ _ _ _ _ _ _ hkn (by rw [hfk]; exact Nat.le_refl _) (by omega) hm (.inl hcap)
    · obtain ⟨rfl, hcapm⟩ := (hcase.resolve_left hcap) hver.symm
      have hm0 : (ι k).m ≠ 0 := by
        intro e; rw [e] at hcapm
        have := Nat.mul_le_mul_right sz (show 1 ≤ off + cap by omega)
        omega
      obtain ⟨cl, e, hw, hcs, hle, hpl, hcl⟩ := (hr.cells k hkn hlive.1 hlive.2 hm0).ex
      have hbig : (off + (len + yN y)) * sz ≤ (ι k).m := Nat.le_trans (Nat.mul_le_mul_right _ (by omega)) hcapm
      rw [Nat.add_mul, Nat.add_mul] at hbig
      obtain ⟨w', c', s1, s2, s3, s4, s5, s6, s7, s8, s9, s10⟩ := storeCells_raw (P := P) (ι k).b ((ι k).o + off * sz + len * sz) e us.toList 0 w cl hw (by simp; omega) (fun u hu => by
        obtain ⟨q, hq, rfl⟩ := List.getElem_of_mem hu
        have := hyp q (by simpa using hq)
        rw [Array.getD_eq_getD_getElem?, Array.getElem?_eq_getElem (by simpa using hq)] at this
        simpa using this)
      have hrun := append_room (P := P) (w := w) (w' := w') (ty := ty) (a := some ⟨(ι k).b, (ι k).o + off * sz, none⟩) (len := len) (cap := cap) ht hinf hfit (by rw [hsize]; exact hfc) (fun ad had => by
        injection had with had; subst had; rw [hsize, add_mk]; exact s1) (fun hn => by simp at hn)
      have hch := hr.change hB hkn (hty := appO_ty) (ver' := ver + 1) (ob' := appO kd sz off len (h.f k).2 h y) (x' := ⟨(ι k).b, (ι k).o + off * sz, (ι k).m - off * sz⟩) (w' := w') hlive.1 (by omega) (by omega) f1 f2 hlive.2 s8 s9 s10 (by omega)
        (fun b hb hne => s6 b hne) (.inl ⟨rfl, hm0⟩) (fun mono _ => ⟨c', e, s2, by simp only; omega, by rw [f3, Nat.add_mul]; simp only; omega, fun j hj => ?_, fun i c lv hx => ?_⟩) (fun hz0 => by simp only at hz0; rw [f3, Nat.add_mul]; omega)
      · refine ⟨_, w', _, by rw [hvx]; exact hrun, hch, ?_⟩
        refine .sl _ _ _ _ _ _ _ hkn (by rw [hfk]; exact Nat.le_refl _) (by omega) hm (.inr fun _ => ?_)
        have e1 : updI ι k ⟨(ι k).b, (ι k).o + off * sz, (ι k).m - off * sz⟩ k = ⟨(ι k).b, (ι k).o + off * sz, (ι k).m - off * sz⟩ := by simp [updI]
        rw [e1]
        refine ⟨by simp, ?_⟩
        rw [Nat.add_mul] at hcapm
        simp only [Nat.zero_add]
        omega
      · rw [s3] at hj
        by_cases hin : (ι k).o + off * sz + len * sz ≤ j ∧ j < (ι k).o + off * sz + len * sz + us.size
        · have := s4 (j - ((ι k).o + off * sz + len * sz)) (by simp; omega)
          have e9 : (ι k).o + off * sz + len * sz + 0 + (j - ((ι k).o + off * sz + len * sz)) = j := by omega
          rw [e9] at this
          rw [Array.getD_eq_getD_getElem?, this]
          have := hyp (j - ((ι k).o + off * sz + len * sz)) (by omega)
          rw [Array.getD_eq_getD_getElem?] at this
          simpa using this
        · rw [Array.getD_eq_getD_getElem?, s5 j (by simp; omega)]
          have := hpl j hj
          rw [Array.getD_eq_getD_getElem?] at this
          exact this
      · obtain ⟨hcs', hcase2⟩ := f5 i c lv hx
        rw [f4]
        simp only
        obtain ⟨ix1, ix2⟩ := app_index (len := len) (m := yN y) (i := i) hcs'
        rcases hcase2 with ⟨hi, hold, hobsz⟩ | ⟨hi, hi2, hnew⟩
        · obtain ⟨v, hv1, hv2⟩ := hcl (off + i) c lv hold
          refine ⟨v, ?_, hv2.mono mono⟩
          have := ix1 hi
          rw [s5 _ (by left; omega), ← hv1, hobsz]
          congr 1; rw [Nat.add_mul]; omega
        · obtain ⟨lv', e1, e2, e3⟩ := hus (i - len) c hi2 hcs'
          rw [e1] at hnew
          injection hnew with hnew
          subst hnew
          obtain ⟨j1, j2, j3⟩ := ix2 hi hi2
          refine ⟨_, ?_, e2.mono mono⟩
          have hq : (i - len) * sz + c < us.toList.length := by
            simp only [Array.length_toList, husz]
            rw [Nat.add_mul] at j3; omega
          have := s4 ((i - len) * sz + c) hq
          have e9 : (ι k).o + off * sz + len * sz + 0 + ((i - len) * sz + c) = (ι k).o + off * sz + (i * sz + c) := by omega
          rw [e9] at this
          rw [this, Array.getD_eq_getD_getElem?]
          simp only [Array.length_toList] at hq
          simp [hq]
  · have hgrow : cap < len + yN y := by omega
    obtain ⟨ya, ycap, us, rfl, hfc, husz, hus⟩ := firstCells_ok (P := P) hr.drew h0 hy hyc
    obtain ⟨xa, xcap, olds, hxv, hfo, hosz, hos⟩ := firstCells_ok (P := P) hr.drew h0 hx hxc
    have hyp := yPlain h0 husz hus
    have hop := yPlain h0 hosz hos
    rw [hvx] at hxv
    simp only [yN, Value.slice.injEq, true_and] at hxv
    obtain ⟨rfl, rfl⟩ := hxv
    rw [hvx] at hfo
    simp only [yN] at hfo hosz hos
    have hrun := append_grow (P := P) (w := w) (ty := ty) (a := a) (len := len) (cap := cap) ht hinf hzi hgrow (by rw [hsize]; exact hfo) (by rw [hsize]; exact hfc) (by omega)
      (by rw [hbytes]; have := Nat.mul_le_mul_right bytes (nextcap_le hgrow); omega)
    have hge := grownCap_ge w (len + yN y) cap el
    have hle := grownCap_le_maxLen w (len + yN y) cap el (by unfold maxLen; omega)
    have hzs : zv.cells.size = sz := by rw [← hzl, ← hzv2]; simp
    have hzc : (Builtin.zeroCells zv.cells (grownCap w (len + yN y) cap el - (len + yN y))).size = (grownCap w (len + yN y) cap el - (len + yN y)) * sz := by
      unfold Builtin.zeroCells; simp [hzs]
    have hall : (olds ++ us ++ Builtin.zeroCells zv.cells (grownCap w (len + yN y) cap el - (len + yN y))).size = grownCap w (len + yN y) cap el * sz := by
      simp only [Array.size_append, hosz, husz, hzc]
      rw [← Nat.add_mul, ← Nat.add_mul]; congr 1; omega
    have hnewsz : (len + yN y) * sz ≤ grownCap w (len + yN y) cap el * sz := Nat.mul_le_mul_right _ hge
    have hch := hr.change hB hkn (hty := appO_ty) (ver' := ver + 1) (ob' := appO kd sz off len (h.f k).2 h y) (x' := ⟨w.heap.size, 0, grownCap w (len + yN y) cap el * sz⟩)
      (w' := w.drew.alloc (.cells (olds ++ us ++ Builtin.zeroCells zv.cells (grownCap w (len + yN y) cap el - (len + yN y))) el)) hlive.1 (by omega) (by omega) f1 f2 hlive.2 rfl rfl rfl (by show w.heap.size ≤ (w.heap.push _).size; simp)
      (fun b hb hne => by show (w.heap.push _)[b]? = _; rw [Array.getElem?_push, if_neg (by omega)]) (.inr ⟨Nat.le_refl _, by show w.heap.size < (w.heap.push _).size; simp⟩)
      (fun mono _ => ⟨olds ++ us ++ Builtin.zeroCells zv.cells (grownCap w (len + yN y) cap el - (len + yN y)), el, by show (w.heap.push _)[w.heap.size]? = _; simp, by rw [hall]; simp, by rw [f3]; exact hnewsz, fun j hj => ?_, fun i c lv hx => ?_⟩) (fun hz0 => by simp only at hz0; rw [f3]; omega)
    · refine ⟨_, _, _, by rw [hvx]; exact hrun, hch, ?_⟩
      refine .sl _ _ _ _ _ _ _ hkn (by rw [hfk]; exact Nat.le_refl _) hge hle (.inr fun _ => ?_)
      simp [updI]
    · rw [Array.getD_eq_getD_getElem?]
      by_cases hj1 : j < olds.size
      · rw [Array.getElem?_append_left (by simp; omega), Array.getElem?_append_left hj1]
        have := hop j hj1
        rw [Array.getD_eq_getD_getElem?] at this; exact this
      · by_cases hj2 : j < olds.size + us.size
        · rw [Array.getElem?_append_left (by simp; omega), Array.getElem?_append_right (by omega)]
          have := hyp (j - olds.size) (by omega)
          rw [Array.getD_eq_getD_getElem?] at this; exact this
        · rw [Array.getElem?_append_right (by simp; omega)]
          simp only [Array.size_append] at hj ⊢
          have := zeroC_plain (z := zv.cells) (fun v hv => by
            rw [List.all_eq_true] at hzv3
            exact hzv3 v (by rw [← hzv2]; simpa using hv)) (grownCap w (len + yN y) cap el - (len + yN y)) (j - (olds.size + us.size)) (by omega)
          rw [Array.getD_eq_getD_getElem?] at this; exact this
    · obtain ⟨hcs', hcase2⟩ := f5 i c lv hx
      rw [f4]
      simp only [Nat.zero_add]
      obtain ⟨ix1, ix2⟩ := app_index (len := len) (m := yN y) (i := i) hcs'
      rcases hcase2 with ⟨hi, hold, hobsz⟩ | ⟨hi, hi2, hnew⟩
      · obtain ⟨lv', e1, e2, e3⟩ := hos i c hi hcs'
        have e4 : lv' = lv := by
          obtain ⟨lv2, g1, g2, _⟩ := rngC_cell hrng hi hcs'
          simp only [yF] at e1
          rw [g1] at e1; rw [g2] at hold
          injection e1 with e1; injection hold with hold
          rw [← e1, hold]
        subst e4
        refine ⟨_, ?_, e2.mono mono⟩
        have := ix1 hi
        rw [Array.getElem?_append_left (by simp; omega), Array.getElem?_append_left (by omega), Array.getD_eq_getD_getElem?, Array.getElem?_eq_getElem (by omega)]
        rfl
      · obtain ⟨lv', e1, e2, e3⟩ := hus (i - len) c hi2 hcs'
        rw [e1] at hnew
        injection hnew with hnew
        subst hnew
        obtain ⟨j1, j2, j3⟩ := ix2 hi hi2
        rw [Nat.add_mul] at j3
        refine ⟨_, ?_, e2.mono mono⟩
        rw [Array.getElem?_append_left (by simp; omega), Array.getElem?_append_right (by omega), Array.getD_eq_getD_getElem?, hosz, j2, Array.getElem?_eq_getElem (by omega)]
        rfl

end
end Go.Proofs.YtdfiicpikcdokaaGreatDoor
namespace Go.Proofs.YtdfiicpikcdokaaGreatDoor
set_option linter.unusedSimpArgs false
set_option linter.unusedVariables false
open Go.RowKit

def isU8 : LV → Prop
  | .sc (.int .u8 _) => True
  | _ => False
def strI (s : ByteArray) : List Int := s.data.toList.map fun b => ((b.toNat : Nat) : Int)
def yB : LV → List Int
  | .sc (.string s) => strI s
  | .rsl _ m f => (List.range m).map fun i => intOfV ((f i).getD 0 .any)
  | _ => []
def yBC : LV → Prop
  | .sc (.string _) => True
  | .rsl sz m f => sz = 1 ∧ ∀ i, i < m → isU8 ((f i).getD 0 .any)
  | _ => False
theorem isU8_inv {lv : LV} (hi : isU8 lv) : ∃ a, lv = .sc (.int .u8 a) := by
  unfold isU8 at hi
  split at hi
  · exact ⟨_, rfl⟩
  · exact hi.elim
def u8s (xs : List Int) : List Value := xs.map fun x => .int .u8 x
theorem u8s_len (xs : List Int) : (u8s xs).length = xs.length := by simp [u8s]
theorem u8s_plain {xs : List Int} {u : Value} (h : u ∈ u8s xs) : plainV u = true := by
  unfold u8s at h
  obtain ⟨x, _, rfl⟩ := List.mem_map.1 h
  rfl
theorem ro_scI {R : RO} {a v : Value} (h : Ro R (.sc a) v) : v = a := by cases h; rfl
section
variable {P : Program} {R : RO} {ι : IM} {h : LH} {B : Nat} {w : World} {s : LS} {ρ : Operand → Value}

theorem firstBytes_ok (hr : Rep R ι h B w) {y : LV} {vy : Value} (hy : Rv R ι h y vy) (hc : yBC y) :
    (∀ w' : World, (Builtin.lenOf vy).run P w' = .ok (yB y).length w') ∧ (∀ w' : World, w'.heap = w.heap → (Builtin.firstCells 1 (yB y).length vy).run P w' = .ok (u8s (yB y)).toArray w') := by
  unfold yBC at hc
  split at hc
  · rename_i st
    have := hy.sc_inv.1
    subst this
    have hsz : (yB (.sc (.string st))).length = st.size := by simp [yB, strI]
    refine ⟨fun w' => by rw [hsz]; rfl, fun w' _ => ?_⟩
    rw [hsz]
    simp only [Builtin.firstCells, Sem.run_pure, Result.ok.injEq, and_true]
    have e : st.extract 0 st.size = st := by
      apply ByteArray.ext
      simp
    rw [e]
    apply Array.ext'
    simp [u8s, yB, strI]
  · rename_i sz m f
    obtain ⟨rfl, hu⟩ := hc
    cases hy.rsl_inv with
    | rsl _ _ _ a cap b o g hcp hm ha hf hcell hv hp =>
      have hlen : (yB (.rsl 1 m f)).length = m := by simp [yB]
      rw [hlen]
      refine ⟨fun w' => rfl, fun w' hw => ?_⟩
      by_cases hm0 : m = 0
      · subst hm0
        cases a <;> simp [Builtin.firstCells, loadCells, loadCellsFrom, u8s, yB]
      · have := ha (by omega)
        subst this
        obtain ⟨us, u1, u2, u3⟩ := loadCellsFrom_ok (P := P) (w := w') b o (fun q => g q 0) (m * 1) 0 #[] (fun q hq => by
          have := ro_cell hr (hcell q 0 (by omega) (by omega))
          rw [Nat.zero_add]
          have h2 : w'.cell? ⟨b, o + q, none⟩ = w.cell? ⟨b, o + q, none⟩ := by simp [World.cell?, hw]
          rw [h2, ← this]; congr 2; omega) rfl (fun q hq => absurd hq (Nat.not_lt_zero _))
        simp only [Builtin.firstCells, loadCells]
        rw [u1]
        congr 1
        apply Array.ext'
        apply List.ext_getElem
        · simp [u8s, yB]; omega
        · intro i h1 h2
          have hi : i < m := by simp at h1; omega
          have := u3 i (by omega)
          obtain ⟨x, hx⟩ := isU8_inv (hu i hi)
          have hfi : (f i)[0]? = some (.sc (.int .u8 x)) := by
            rw [List.getD_eq_getElem?_getD] at hx
            cases hg : (f i)[0]? with
            | none => rw [hg] at hx; simp at hx
            | some z => rw [hg] at hx; simp at hx; rw [hx]
          have hro := hv i 0 _ hi hfi
          have hgv : g i 0 = .int .u8 x := ro_scI hro
          simp only [Array.getElem_toList, u8s, yB, List.getElem_map, List.getElem_range, hx, intOfV]
          rw [Array.getD_eq_getD_getElem?, Array.getElem?_eq_getElem (by simp at h1; exact h1)] at this
          simp only [Option.getD_some] at this
          rw [this, hgv]
  · exact hc.elim

def appT (P : Program) (t : TypeId) : Bool := match P.underlying t with
  | some .string => true
  | some (.slice _) => true
  | _ => false

theorem appendB_room {t t2 ty el : TypeId} {inf : TypeInfo} (ht : P.underlying t = some (.slice el)) (ht2 : appT P t2 = true) (hinf : P.info? el = some inf) {a : Addr} {len cap n : Nat} {vy : Value} {us : Array Value} {w' : World}
    (hl : ∀ w' : World, (Builtin.lenOf vy).run P w' = .ok n w') (hroom : len + n ≤ cap) (hf : (Builtin.firstCells inf.size n vy).run P w = .ok us w) (hst : (storeCells (a.add (len * inf.size)) us.toList).run P w = .ok () w') :
    (Builtin.append_ #[t, t2] ty #[.slice (some a) len cap, vy]).run P w = .ok (.slice (some a) (len + n) cap) w' := by
  unfold appT at ht2
  split at ht2
  · rename_i hu
    simp [Builtin.append_, run_underlying ht, run_underlying hu, sizeOf, typeInfo, hinf, hl, hroom, hf, hst]
  · rename_i e hu
    simp [Builtin.append_, run_underlying ht, run_underlying hu, sizeOf, typeInfo, hinf, hl, hroom, hf, hst]
  · simp at ht2

theorem appendB_grow {t t2 ty el : TypeId} {inf : TypeInfo} {z : Value} (ht : P.underlying t = some (.slice el)) (ht2 : appT P t2 = true) (hinf : P.info? el = some inf) (hz : inf.zero = some z) {a : Option Addr} {len cap n : Nat} {vy : Value} {olds us : Array Value}
    (hl : ∀ w' : World, (Builtin.lenOf vy).run P w' = .ok n w') (hroom : cap < len + n) (ho : (Builtin.firstCells inf.size len (.slice a len cap)).run P w.drew = .ok olds w.drew) (hf : (Builtin.firstCells inf.size n vy).run P w.drew = .ok us w.drew)
    (h63 : ((len + n : Nat) : Int) ≤ 9223372036854775807) (hfit : Builtin.nextslicecap (len + n) cap * inf.bytes ≤ 281474976710656) :
    (Builtin.append_ #[t, t2] ty #[.slice a len cap, vy]).run P w =
      .ok (.slice (some ⟨w.heap.size, 0, none⟩) (len + n) (grownCap w (len + n) cap el)) (w.drew.alloc (.cells (olds ++ us ++ Builtin.zeroCells z.cells (grownCap w (len + n) cap el - (len + n))) el)) := by
  have hn : ¬ (len + n ≤ cap) := by omega
  have h63' : ¬ (9223372036854775807 < ((len : Int) + (n : Int))) := by omega
  have h48' : ¬ (281474976710656 < Builtin.nextslicecap (len + n) cap * inf.bytes) := by omega
  unfold appT at ht2
  split at ht2
  · rename_i hu
    simp [Builtin.append_, run_underlying ht, run_underlying hu, sizeOf, typeInfo, zeroValue, hinf, hz, hl, hn, h63', h48', Question.forced, hf, ho, newRow, grownCap]
  · rename_i e hu
    simp [Builtin.append_, run_underlying ht, run_underlying hu, sizeOf, typeInfo, zeroValue, hinf, hz, hl, hn, h63', h48', Question.forced, hf, ho, newRow, grownCap]
  · simp at ht2

theorem bytFacts {el : TypeId} {bytes : Nat} (hs : sizeO P el = some 1) (hb : bytesO P el = some bytes) (hz : zeroCells P el = some [.int .u8 0]) :
    ∃ inf zv, P.info? el = some inf ∧ inf.bytes = bytes ∧ inf.size = 1 ∧ inf.zero = some zv ∧ zv.cells = #[.int .u8 0] := by
  obtain ⟨inf, hinf, hbytes, hsize⟩ : ∃ i, P.info? el = some i ∧ i.bytes = bytes ∧ i.size = 1 := by
    unfold bytesO at hb
    unfold sizeO at hs
    cases hi : P.info? el with
    | none => rw [hi] at hb; simp at hb
    | some i => rw [hi] at hb hs; simp at hb hs; exact ⟨i, rfl, hb, hs⟩
  obtain ⟨zv, hzv1, hzv2, hzv3⟩ := zeroCells_ok (P := P) (w := default) hz
  refine ⟨inf, zv, hinf, hbytes, hsize, ?_, Array.ext' (by rw [hzv2])⟩
  simp only [zeroValue, typeInfo, Sem.run_bind, run_program, Result.andThen_ok, hinf, Sem.run_pure] at hzv1
  cases hq : inf.zero with
  | none => rw [hq] at hzv1; simp at hzv1
  | some v => rw [hq] at hzv1; simp at hzv1; rw [hzv1]

theorem zeroB_get (n : Nat) {i : Nat} (hi : i < n) : (Builtin.zeroCells #[Value.int .u8 0] n)[i]? = some (.int .u8 0) := by
  unfold Builtin.zeroCells
  simp [hi, Nat.mod_one]
theorem zeroB_size (n : Nat) : (Builtin.zeroCells #[Value.int .u8 0] n).size = n := by
  unfold Builtin.zeroCells; simp

theorem pushB (hr : Rep R ι h B w) (hB : B ≤ w.heap.size) {el : TypeId} (xs : List Int) (z : Nat) :
    Trans B R ι h w R (updI ι h.n ⟨w.heap.size, 0, xs.length + z⟩) (h.push (.byt el xs)) { w with heap := w.heap.push (.cells ((u8s xs).toArray ++ Builtin.zeroCells #[.int .u8 0] z) el) } := by
  have hsz : ((u8s xs).toArray ++ Builtin.zeroCells #[Value.int .u8 0] z).size = xs.length + z := by simp [u8s_len, zeroB_size]
  have hT := hr.push hB (c := (u8s xs).toArray ++ Builtin.zeroCells #[.int .u8 0] z) (e := el) (ob := .byt el xs) rfl rfl (by rw [hsz]; simp [LO.size]) (fun j hj => by
    rw [hsz] at hj
    rw [Array.getD_eq_getD_getElem?]
    by_cases h1 : j < xs.length
    · rw [Array.getElem?_append_left (by simp [u8s_len]; exact h1)]
      have : (u8s xs).toArray[j]? = some ((u8s xs)[j]'(by rw [u8s_len]; exact h1)) := by simp [u8s_len, h1]
      rw [this]
      exact u8s_plain (List.getElem_mem _)
    · rw [Array.getElem?_append_right (by simp [u8s_len]; omega), zeroB_get z (by simp [u8s_len]; omega)]; rfl) (fun i c lv hx => by
    simp only [cellAt] at hx
    split at hx
    · rename_i e; subst e
      simp only [Option.map_eq_some_iff] at hx
      obtain ⟨x, hx, rfl⟩ := hx
      have h1 := (List.getElem?_eq_some_iff.1 hx).1
      refine ⟨.int .u8 x, ?_, rv_sc rfl⟩
      simp only [LO.sz, Nat.mul_one, Nat.add_zero]
      rw [Array.getElem?_append_left (by simp [u8s_len]; exact h1)]
      simp [u8s, hx]
    · simp at hx) (fun w' hw' => ⟨rfl, fun _ => ⟨_, hw'⟩⟩)
  rw [hsz] at hT
  exact hT

theorem aps_nil_ok (hr : Rep R ι h B w) (hB : B ≤ w.heap.size) {t t2 ty el : TypeId} {bytes : Nat} {y : LV} {vy : Value}
    (ht : P.underlying t = some (.slice el)) (ht2 : appT P t2 = true) (hs : sizeO P el = some 1) (hb : bytesO P el = some bytes) (hb1 : 1 ≤ bytes) (hz : zeroCells P el = some [.int .u8 0])
    (hy : Rv R ι h y vy) (hyc : yBC y) (hroom : appRoom bytes (yB y).length) (hpos : 0 < (yB y).length) :
    ∃ v w' ι', (Builtin.append_ #[t, t2] ty #[.slice none 0 0, vy]).run P w = .ok v w' ∧ Trans B R ι h w R ι' (h.push (.byt el (yB y))) w' ∧
      Rv R ι' (h.push (.byt el (yB y))) (.sl h.n 0 1 0 (yB y).length) v := by
  obtain ⟨inf, zv, hinf, hbytes, hsize, hzi, hzc⟩ := bytFacts hs hb hz
  obtain ⟨hl, hf⟩ := firstBytes_ok (P := P) hr hy hyc
  unfold appRoom at hroom
  have hneed : 2 * (yB y).length ≤ 2 * (yB y).length * bytes := by
    have := Nat.mul_le_mul_left (2 * (yB y).length) hb1
    omega
  have hrun := appendB_grow (P := P) (w := w) (ty := ty) (a := none) (len := 0) (cap := 0) (n := (yB y).length) (olds := #[]) ht ht2 hinf hzi hl (by omega) (by simp [Builtin.firstCells]) (by rw [hsize]; exact hf _ rfl) (by omega)
    (by rw [hbytes]; have := Nat.mul_le_mul_right bytes (nextcap_le (need := 0 + (yB y).length) (cap := 0) (by omega)); rw [Nat.zero_add] at this ⊢; omega)
  rw [Nat.zero_add, hzc] at hrun
  have hge := grownCap_ge w (yB y).length 0 el
  have hle := grownCap_le_maxLen w (yB y).length 0 el (by unfold maxLen; omega)
  have hT := pushB hr.drew hB (el := el) (yB y) (grownCap w (yB y).length 0 el - (yB y).length)
  have e1 : (#[] : Array Value) ++ (u8s (yB y)).toArray ++ Builtin.zeroCells #[Value.int .u8 0] (grownCap w (yB y).length 0 el - (yB y).length) = (u8s (yB y)).toArray ++ Builtin.zeroCells #[Value.int .u8 0] (grownCap w (yB y).length 0 el - (yB y).length) := by simp
  rw [e1] at hrun
  refine ⟨_, _, _, hrun, ⟨hT.rep, hT.mono, ⟨hT.below.os, hT.below.tape, hT.below.output, hT.below.size, hT.below.block⟩, hT.rob, hB⟩, ?_⟩
  refine .sl _ _ _ _ _ _ _ (by simp [LH.push]) (by simp [LH.push]) hge hle (.inr fun _ => ?_)
  have hw : w.drew.heap.size = w.heap.size := rfl
  simp [updI, hw]
  omega

theorem aps_ok (hr : Rep R ι h B w) (hB : B ≤ w.heap.size) {t t2 ty el : TypeId} {bytes k ver len : Nat} {xs : List Int} {y : LV} {vx vy : Value}
    (ht : P.underlying t = some (.slice el)) (ht2 : appT P t2 = true) (hs : sizeO P el = some 1) (hb : bytesO P el = some bytes) (hb1 : 1 ≤ bytes) (hz : zeroCells P el = some [.int .u8 0])
    (hx : Rv R ι h (.sl k ver 1 0 len) vx) (hy : Rv R ι h y vy) (hob : h.f k = (ver, .byt el xs)) (hlen : xs.length = len) (hyc : yBC y) (hn : 0 < (yB y).length) (hroom : appRoom bytes (len + (yB y).length)) :
    ∃ v w' ι', (Builtin.append_ #[t, t2] ty #[vx, vy]).run P w = .ok v w' ∧ Trans B R ι h w R ι' (h.set k (ver + 1, .byt el (xs ++ yB y))) w' ∧
      Rv R ι' (h.set k (ver + 1, .byt el (xs ++ yB y))) (.sl k (ver + 1) 1 0 (len + (yB y).length)) v := by
  obtain ⟨inf, zv, hinf, hbytes, hsize, hzi, hzc⟩ := bytFacts hs hb hz
  obtain ⟨hl, hf⟩ := firstBytes_ok (P := P) hr hy hyc
  obtain ⟨a, cap, hvx, hkn, _, hlc, hm, hcase⟩ := hx.sl_inv
  have hver : (h.f k).1 = ver := by rw [hob]
  have hlive : (h.f k).2.live = true ∧ (h.f k).2.isMap = false := by rw [hob]; exact ⟨rfl, rfl⟩
  have hty := hr.ty k hkn
  rw [hob] at hty
  obtain ⟨hty1, hty2⟩ := hty
  unfold appRoom at hroom
  have hneed : 2 * (len + (yB y).length) ≤ 2 * (len + (yB y).length) * bytes := by
    have := Nat.mul_le_mul_left (2 * (len + (yB y).length)) hb1
    omega
  have hfk : (h.set k (ver + 1, .byt el (xs ++ yB y))).f k = (ver + 1, .byt el (xs ++ yB y)) := by simp [LH.set]
  generalize hys : yB y = ys at *
  have hal : (xs ++ ys).length = len + ys.length := by rw [List.length_append, hlen]
  by_cases hfit : len + ys.length ≤ cap
  · obtain ⟨rfl, hcapm⟩ := (hcase.resolve_left (by omega)) hver.symm
    have hm0 : (ι k).m ≠ 0 := by omega
    obtain ⟨cl, e, hw, hcs, hle, hpl, hcl⟩ := (hr.cells k hkn hlive.1 hlive.2 hm0).ex
    obtain ⟨c0, hw0⟩ := hty2 hm0
    have hee : e = el := by
      rw [hw] at hw0
      injection hw0 with hw0
      injection hw0 with _ hw0 _
    subst hee
    rw [hob] at hcl
    simp only [Nat.zero_mul, Nat.add_zero, Nat.zero_add, Nat.mul_one] at hcapm hvx
    obtain ⟨w', c', s1, s2, s3, s4, s5, s6, s7, s8, s9, s10⟩ := storeCells_raw (P := P) (ι k).b ((ι k).o + len) e (u8s ys) 0 w cl hw (by rw [u8s_len]; omega) (fun u hu => u8s_plain hu)
    rw [u8s_len] at s4 s5
    have hrun := appendB_room (P := P) (w := w) (w' := w') (ty := ty) (a := ⟨(ι k).b, (ι k).o, none⟩) (len := len) (cap := cap) ht ht2 hinf hl hfit (by rw [hsize]; exact hf _ rfl) (by rw [hsize, add_mk, Nat.mul_one]; exact s1)
    have hch := hr.change hB hkn (ver' := ver + 1) (ob' := .byt e (xs ++ ys)) (x' := ι k) (w' := w') hlive.1 (by omega) (by omega) rfl rfl hlive.2 s8 s9 s10 (by omega)
      (fun b hb hne => s6 b hne) (.inl ⟨rfl, hm0⟩) (fun mono _ => ⟨c', e, s2, by omega, by simp only [LO.size, hal]; omega, fun j hj => ?_, fun i c lv hx => ?_⟩) (fun hz0 => absurd hz0 hm0) ⟨hty1, fun _ => ⟨_, s2⟩⟩
    · refine ⟨_, w', _, by rw [hvx]; exact hrun, hch, ?_⟩
      refine .sl _ _ _ _ _ _ _ hkn (by rw [hfk]; exact Nat.le_refl _) (by omega) hm (.inr fun _ => ?_)
      simp only [updI, if_true, Nat.zero_mul, Nat.add_zero, Nat.zero_add, Nat.mul_one]
      exact ⟨trivial, hcapm⟩
    · rw [s3] at hj
      rw [Array.getD_eq_getD_getElem?]
      by_cases hin : (ι k).o + len ≤ j ∧ j < (ι k).o + len + ys.length
      · have := s4 (j - ((ι k).o + len)) (by omega)
        have e9 : (ι k).o + len + 0 + (j - ((ι k).o + len)) = j := by omega
        rw [e9, List.getElem?_eq_getElem (by rw [u8s_len]; omega)] at this
        rw [this]
        exact u8s_plain (List.getElem_mem _)
      · rw [s5 j (by omega)]
        have := hpl j hj
        rw [Array.getD_eq_getD_getElem?] at this
        exact this
    · simp only [cellAt] at hx
      split at hx
      · rename_i e0; subst e0
        simp only [Option.map_eq_some_iff] at hx
        obtain ⟨x, hx, rfl⟩ := hx
        simp only [LO.sz, Nat.mul_one, Nat.add_zero]
        refine ⟨.int .u8 x, ?_, rv_sc rfl⟩
        by_cases hi : i < len
        · rw [List.getElem?_append_left (by omega)] at hx
          obtain ⟨v, hv1, hv2⟩ := hcl i 0 (.sc (.int .u8 x)) (by simp [cellAt, hx])
          have := hv2.sc_inv.1
          subst this
          rw [s5 _ (by omega), ← hv1]
          simp [LO.sz]
        · rw [List.getElem?_append_right (by omega), hlen] at hx
          have hlt := (List.getElem?_eq_some_iff.1 hx).1
          have := s4 (i - len) (by omega)
          have e9 : (ι k).o + len + 0 + (i - len) = (ι k).o + i := by omega
          rw [e9] at this
          rw [this]
          simp [u8s, hx]
      · simp at hx
  · have hgrow : cap < len + ys.length := by omega
    -- the old bytes
    have hold : (Builtin.firstCells 1 len (.slice a len cap)).run P w.drew = .ok (u8s xs).toArray w.drew := by
      by_cases hl0 : len = 0
      · have hx0 : xs = [] := List.length_eq_zero_iff.1 (by omega)
        subst hl0
        rw [hx0]
        cases a <;> simp [Builtin.firstCells, loadCells, loadCellsFrom, u8s]
      · obtain ⟨rfl, hcapm⟩ := (hcase.resolve_left (by omega)) hver.symm
        have hm0 : (ι k).m ≠ 0 := by omega
        obtain ⟨cl, e, hw, hcs, hle, hpl, hcl⟩ := (hr.cells k hkn hlive.1 hlive.2 hm0).ex
        rw [hob] at hcl
        simp only [Nat.zero_mul, Nat.add_zero]
        obtain ⟨us, u1, u2, u3⟩ := loadCellsFrom_ok (P := P) (w := w.drew) (ι k).b (ι k).o (fun q => .int .u8 (xs.getD q 0)) (len * 1) 0 #[] (fun q hq => by
          obtain ⟨v, hv1, hv2⟩ := hcl q 0 (.sc (.int .u8 (xs.getD q 0))) (by simp only [cellAt, if_true]; rw [List.getD_eq_getElem?_getD, List.getElem?_eq_getElem (by omega)]; rfl)
          have := hv2.sc_inv.1
          subst this
          simp only [LO.sz, Nat.mul_one, Nat.add_zero] at hv1
          rw [Nat.zero_add]
          have h2 : w.drew.heap = w.heap := rfl
          simp [World.cell?, h2, hw, hv1]) rfl (fun q hq => absurd hq (Nat.not_lt_zero _))
        simp only [Builtin.firstCells, loadCells]
        rw [u1]
        congr 1
        apply Array.ext'
        apply List.ext_getElem
        · simp [u8s]; omega
        · intro i h1 h2
          have hi : i < len := by simp at h1; omega
          have := u3 i (by omega)
          rw [Array.getD_eq_getD_getElem?, Array.getElem?_eq_getElem (by simp at h1; exact h1)] at this
          simp only [Option.getD_some] at this
          simp only [Array.getElem_toList, this, u8s, List.getElem_map]
          rw [List.getD_eq_getElem?_getD, List.getElem?_eq_getElem (by omega)]; rfl
    have hrun := appendB_grow (P := P) (w := w) (ty := ty) (a := a) (len := len) (cap := cap) ht ht2 hinf hzi hl hgrow (by rw [hsize]; exact hold) (by rw [hsize]; exact hf _ rfl) (by omega)
      (by rw [hbytes]; have := Nat.mul_le_mul_right bytes (nextcap_le hgrow); omega)
    have hge := grownCap_ge w (len + ys.length) cap el
    have hle := grownCap_le_maxLen w (len + ys.length) cap el (by unfold maxLen; omega)
    rw [hzc] at hrun
    have hcells : (u8s xs).toArray ++ (u8s ys).toArray = (u8s (xs ++ ys)).toArray := by simp [u8s]
    rw [hcells] at hrun
    generalize hgc : grownCap w (len + ys.length) cap el = gc at *
    have hasz : ((u8s (xs ++ ys)).toArray ++ Builtin.zeroCells #[Value.int .u8 0] (gc - (len + ys.length))).size = gc := by
      simp only [Array.size_append, List.size_toArray, u8s_len, zeroB_size, hal]; omega
    have hch := hr.change hB hkn (ver' := ver + 1) (ob' := .byt el (xs ++ ys)) (x' := ⟨w.heap.size, 0, gc⟩)
      (w' := w.drew.alloc (.cells ((u8s (xs ++ ys)).toArray ++ Builtin.zeroCells #[.int .u8 0] (gc - (len + ys.length))) el)) hlive.1 (by omega) (by omega) rfl rfl hlive.2 rfl rfl rfl (by show w.heap.size ≤ (w.heap.push _).size; simp)
      (fun b hb hne => by show (w.heap.push _)[b]? = _; rw [Array.getElem?_push, if_neg (by omega)]) (.inr ⟨Nat.le_refl _, by show w.heap.size < (w.heap.push _).size; simp⟩)
      (fun mono _ => ⟨_, el, by show (w.heap.push _)[w.heap.size]? = _; simp; rfl, by rw [hasz]; simp, by simp only [LO.size, hal]; exact hge, fun j hj => ?_, fun i c lv hx => ?_⟩) (fun hz0 => by simp only at hz0; omega)
      ⟨rfl, fun _ => ⟨_, by show (w.heap.push _)[w.heap.size]? = _; simp; rfl⟩⟩
    · refine ⟨_, _, _, by rw [hvx]; exact hrun, hch, ?_⟩
      refine .sl _ _ _ _ _ _ _ hkn (by rw [hfk]; exact Nat.le_refl _) hge hle (.inr fun _ => ?_)
      simp [updI]
    · rw [hasz] at hj
      rw [Array.getD_eq_getD_getElem?]
      by_cases h1 : j < (xs ++ ys).length
      · rw [Array.getElem?_append_left (by simp only [List.size_toArray, u8s_len]; exact h1)]
        have : (u8s (xs ++ ys)).toArray[j]? = some ((u8s (xs ++ ys))[j]'(by rw [u8s_len]; exact h1)) := by simp [u8s_len, h1]
        rw [this]
        exact u8s_plain (List.getElem_mem _)
      · rw [Array.getElem?_append_right (by simp only [List.size_toArray, u8s_len]; omega), zeroB_get _ (by simp only [List.size_toArray, u8s_len]; omega)]; rfl
    · simp only [cellAt] at hx
      split at hx
      · rename_i e0; subst e0
        simp only [Option.map_eq_some_iff] at hx
        obtain ⟨x, hx, rfl⟩ := hx
        have h1 := (List.getElem?_eq_some_iff.1 hx).1
        refine ⟨.int .u8 x, ?_, rv_sc rfl⟩
        simp only [LO.sz, Nat.mul_one, Nat.add_zero, Nat.zero_add]
        rw [Array.getElem?_append_left (by simp only [List.size_toArray, u8s_len]; exact h1)]
        rw [List.getElem?_toArray]
        unfold u8s
        rw [List.getElem?_map, hx]; rfl
      · simp at hx
def bysG (xs : List Int) (i : Nat) : List LV := [.sc (.int .u8 (xs.getD i 0))]
def bysR (xs : List Int) : LV := .rsl 1 xs.length (bysG xs)
def s2bC : LV → Prop
  | .sc (.string s) => s.size ≤ maxLen
  | _ => False
theorem newBytes_ok {P : Program} {R : RO} {ι : IM} {h : LH} {B : Nat} {w : World} (hr : Rep R ι h B w) (hB : B ≤ w.heap.size) {src dst e : TypeId} (hs : P.underlying src = some .string) (hd : P.underlying dst = some (.slice e)) (he : P.underlying e = some (.int .u8)) {lv : LV} {v : Value} (hv : Rv R ι h lv v) (hc : s2bC lv) :
    ∃ v' w' R', (convert src dst v).run P w = .ok v' w' ∧ Trans B R ι h w R' ι h w' ∧ Ro R' (bysR (yB lv)) v' := by
  cases lv with
  | sc x =>
    cases x with
    | string s =>
      have hc : s.size ≤ maxLen := hc
      obtain ⟨rfl, _⟩ := hv.sc_inv
      have hge := grownCap_ge w s.size 0 e
      have hle := grownCap_le_maxLen w s.size 0 e hc
      have hrun := run_bytes_of_string (P := P) w src dst e s hs hd he
      generalize grownCap w s.size 0 e = cap at *
      obtain ⟨o, ho⟩ : ∃ o, o = Obj.cells (bytesRow s cap) e ((bytesRow s cap).size, (bytesRow s cap).size + 1) := ⟨_, rfl⟩
      rw [← ho] at hrun
      have hnone : R w.heap.size = none := hr.none_of_size (Nat.le_refl _)
      have hRle : RoLe R (fun b => if b = w.heap.size then some o else R b) := by
        intro b x hb
        by_cases e1 : b = w.heap.size
        · subst e1; rw [hnone] at hb; simp at hb
        · simp only [e1, if_false]; exact hb
      refine ⟨_, _, fun b => if b = w.heap.size then some o else R b, hrun, ?_, ?_⟩
      · refine trans_call hB hr (w' := w.drew.alloc o) ?_ ⟨rfl, rfl, rfl, by show w.heap.size ≤ (w.heap.push o).size; simp, fun k hk => by show (w.heap.push o)[k]? = _; simp only [Array.getElem?_push, if_neg (show ¬ k = w.heap.size by omega)]⟩ hRle (fun b hb => by simp only [if_neg (show ¬ b = w.heap.size by omega)]) rfl
        intro b x hb
        show (w.heap.push o)[b]? = some x
        by_cases e1 : b = w.heap.size
        · subst e1; simp only [if_true] at hb; simp [← hb]
        · simp only [e1, if_false] at hb
          have := hr.ro b x hb
          simp only [Array.getElem?_push, e1, if_false]; exact this
      · have hlen : (yB (.sc (.string s))).length = s.size := by
          show (s.data.toList.map _).length = s.data.size
          rw [List.length_map, Array.length_toList]
        have hrow : ∀ j, j < s.size → (bytesRow s cap)[j]? = some (.int .u8 ((yB (.sc (.string s))).getD j 0)) := by
          intro j hj
          rw [bytesRow_at s cap j hj]
          have : (yB (.sc (.string s))).getD j 0 = ((s.data[j]'hj).toNat : Int) := by
            show (s.data.toList.map fun b => ((b.toNat : Nat) : Int)).getD j 0 = _
            rw [List.getD_eq_getElem?_getD, List.getElem?_map, Array.getElem?_toList, Array.getElem?_eq_getElem (show j < s.data.size from hj)]
            rfl
          rw [this]
        unfold bysR
        rw [hlen]
        refine .rsl 1 s.size _ _ cap w.heap.size 0 (fun i j => .int .u8 ((yB (.sc (.string s))).getD i 0)) hge hle (fun _ => rfl) (fun i hi => rfl) (fun i j hi hj => ?_) (fun i j c hi hc' => ?_) (fun i j hi hj => rfl)
        · have hj0 : j = 0 := by omega
          subst hj0
          unfold roCell
          simp only [if_true, ho]
          rw [show 0 + i * 1 + 0 = i by omega]
          exact hrow i hi
        · have hj0 : j = 0 := by
            cases j with
            | zero => rfl
            | succ j => simp [bysG] at hc'
          subst hj0
          simp only [bysG, List.getElem?_cons_zero, Option.some.injEq] at hc'
          subst hc'
          exact .sc _ rfl
    | _ => exact hc.elim
  | _ => exact hc.elim
end
end Go.Proofs.YtdfiicpikcdokaaGreatDoor
namespace Go.Proofs.YtdfiicpikcdokaaGreatDoor
set_option linter.unusedSimpArgs false
set_option linter.unusedVariables false
open Go.RowKit

section
variable {P : Program} {R : RO} {ι : IM} {h : LH} {B : Nat} {w : World} {s : LS} {ρ : Operand → Value}

theorem app_nil_ok (hr : Rep R ι h B w) (hB : B ≤ w.heap.size) {t ty el : TypeId} {kd sz bytes : Nat} {zero : List Value} {y : LV} {vy : Value}
    (ht : P.underlying t = some (.slice el)) (hs : sizeO P el = some sz) (hb : bytesO P el = some bytes) (hb1 : 1 ≤ bytes) (hz : zeroCells P el = some zero) (hzl : zero.length = sz) (hk : kindZ zero = kd) (h0 : 0 < sz)
    (hy : Rv R ι h y vy) (hyc : yC h sz y) (hyk : ykC kd h y) (hroom : appRoom bytes (yN y)) (hpos : 0 < yN y) :
    ∃ v w' ι', (Builtin.append_ #[t, t] ty #[.slice none 0 0, vy]).run P w = .ok v w' ∧ Trans B R ι h w R ι' (h.push (appO kd sz 0 0 .dead h y)) w' ∧
      Rv R ι' (h.push (appO kd sz 0 0 .dead h y)) (.sl h.n 0 sz 0 (yN y)) v := by
  obtain ⟨f1, f2, f3, f4, f5⟩ := appO_facts (off := 0) (len := 0) (ob := .dead) hyc hyk (.inr rfl) (ykC_type hk hzl) (.inl rfl)
  obtain ⟨inf, hinf, hbytes, hsize⟩ : ∃ i, P.info? el = some i ∧ i.bytes = bytes ∧ i.size = sz := by
    unfold bytesO at hb
    unfold sizeO at hs
    cases hi : P.info? el with
    | none => rw [hi] at hb; simp at hb
    | some i => rw [hi] at hb hs; simp at hb hs; exact ⟨i, rfl, hb, hs⟩
  obtain ⟨zv, hzv1, hzv2, hzv3⟩ := zeroCells_ok (P := P) (w := w) hz
  have hzi : inf.zero = some zv := by
    simp only [zeroValue, typeInfo, Sem.run_bind, run_program, Result.andThen_ok, hinf, Sem.run_pure] at hzv1
    cases hq : inf.zero with
    | none => rw [hq] at hzv1; simp at hzv1
    | some v => rw [hq] at hzv1; simp at hzv1; rw [hzv1]
  unfold appRoom at hroom
  have hneed : 2 * yN y ≤ 2 * yN y * bytes := by
    have := Nat.mul_le_mul_left (2 * yN y) hb1
    omega
  obtain ⟨ya, ycap, us, rfl, hfc, husz, hus⟩ := firstCells_ok (P := P) hr.drew h0 hy hyc
  have hyp := yPlain h0 husz hus
  have hrun := append_grow (P := P) (w := w) (ty := ty) (a := none) (len := 0) (cap := 0) (n := yN y) (olds := #[]) ht hinf hzi (by omega) (by simp [Builtin.firstCells]) (by rw [hsize]; exact hfc) (by omega)
    (by rw [hbytes]; have := Nat.mul_le_mul_right bytes (nextcap_le (need := 0 + yN y) (cap := 0) (by omega)); rw [Nat.zero_add] at this ⊢; omega)
  rw [Nat.zero_add] at hrun
  have hge := grownCap_ge w (yN y) 0 el
  have hle := grownCap_le_maxLen w (yN y) 0 el (by unfold maxLen; omega)
  have hzs : zv.cells.size = sz := by rw [← hzl, ← hzv2]; simp
  have hzc : (Builtin.zeroCells zv.cells (grownCap w (yN y) 0 el - yN y)).size = (grownCap w (yN y) 0 el - yN y) * sz := by
    unfold Builtin.zeroCells; simp [hzs]
  have hall : (#[] ++ us ++ Builtin.zeroCells zv.cells (grownCap w (yN y) 0 el - yN y)).size = grownCap w (yN y) 0 el * sz := by
    simp only [Array.size_append, husz, hzc, List.size_toArray, List.length_nil, Nat.zero_add]
    rw [← Nat.add_mul]; congr 1; omega
  have hnewsz : yN y * sz ≤ grownCap w (yN y) 0 el * sz := Nat.mul_le_mul_right _ hge
  have hT := hr.drew.push hB (hty := fun _ _ => appO_ty) (c := #[] ++ us ++ Builtin.zeroCells zv.cells (grownCap w (yN y) 0 el - yN y)) (e := el) (ob := appO kd sz 0 0 .dead h y) f1 f2 (by rw [f3, hall, Nat.zero_add]; exact hnewsz) (fun j hj => by
    rw [Array.getD_eq_getD_getElem?]
    by_cases hj2 : j < us.size
    · rw [Array.getElem?_append_left (by simp; omega)]
      have := hyp j hj2
      rw [Array.getD_eq_getD_getElem?] at this; simpa using this
    · rw [Array.getElem?_append_right (by simp; omega)]
      simp only [Array.size_append] at hj ⊢
      have := zeroC_plain (z := zv.cells) (fun v hv => by
        rw [List.all_eq_true] at hzv3
        exact hzv3 v (by rw [← hzv2]; simpa using hv)) (grownCap w (yN y) 0 el - yN y) (j - us.size) (by simp at hj; omega)
      rw [Array.getD_eq_getD_getElem?] at this; simpa using this) (fun i c lv hx => by
    obtain ⟨hcs', hcase2⟩ := f5 i c lv hx
    rw [f4]
    rcases hcase2 with ⟨hi, _, _⟩ | ⟨hi, hi2, hnew⟩
    · omega
    · rw [Nat.sub_zero] at hi2 hnew
      obtain ⟨lv', e1, e2, e3⟩ := hus i c hi2 hcs'
      rw [e1] at hnew
      injection hnew with hnew
      subst hnew
      obtain ⟨ix1, ix2⟩ := app_index (len := yN y) (m := 0) (i := i) hcs'
      have := ix1 hi2
      refine ⟨_, ?_, e2⟩
      rw [Array.getElem?_append_left (by simp; omega), Array.getD_eq_getD_getElem?]
      have hlt : i * sz + c < us.size := by omega
      simp [hlt])
  refine ⟨_, _, _, hrun, ⟨hT.rep, hT.mono, ⟨hT.below.os, hT.below.tape, hT.below.output, hT.below.size, hT.below.block⟩, hT.rob, hB⟩, ?_⟩
  refine .sl _ _ _ _ _ _ _ (by simp [LH.push]) (by simp [LH.push]) hge hle (.inr fun _ => ?_)
  have hw : w.drew.heap.size = w.heap.size := rfl
  rw [hall]
  simp [updI, hw]

def LCall (P : Program) (f : FuncId) (args : List LV) (h : LH) (r : LV) (h' : LH) : Prop :=
  ∀ (B : Nat) (R : RO) (ι : IM) (w : World) (vs : Array Value), B ≤ w.heap.size → Rep R ι h B w → vs.size = args.length → (∀ i a, args[i]? = some a → Rv R ι h a (vs.getD i undef)) →
    Calls P f vs w fun e w' => ∃ v R' ι', e = .returned v ∧ Trans B R ι h w R' ι' h' w' ∧ Rv R' ι' h' r v

def okF (P : Program) (f : FuncId) : Bool :=
  match P.funcs[f]? with
  | some fn => fn.name != "runtime.NumGoroutine" && fn.body.isSome
  | none => false

def XCall (P : Program) (f : FuncId) (args : List LV) (r : LV) : Prop :=
  ∀ (R : RO) (ι : IM) (h : LH) (w : World) (vs : Array Value), vs.size = args.length → (∀ i a, args[i]? = some a → Rv R ι h a (vs.getD i undef)) → ∃ v, (callFunc f vs).run P w = .ok (.value v) w ∧ Rv R ι h r v
def extF (P : Program) (f : FuncId) : Bool :=
  match P.funcs[f]? with
  | some fn => fn.body.isNone
  | none => false

def selfZ : List Value → Bool
  | [.pointer none, .slice none 0 0] => true
  | _ => false
def isB8 : Option (List Value) → Bool
  | some [.int .u8 n] => n == 0
  | _ => false
theorem isB8_eq {z : Option (List Value)} (h : isB8 z = true) : z = some [.int .u8 0] := by
  unfold isB8 at h
  split at h
  · simp at h; rw [h]
  · simp at h
def roZ : List Value → Bool
  | [.int .u8 n] => n == 0
  | [.string s] => s.size == 0
  | [.slice none 0 0] => true
  | _ => false
def cApB (P : Program) (x y : Operand) (t t' : TypeId) : Option LEf :=
  match P.underlying t with
  | some (.slice e) => match bytesO P e with
    | some b => if isB8 (zeroCells P e) = true ∧ sizeO P e = some 1 ∧ appT P t' = true ∧ 1 ≤ b then some (.aps e b x y) else none
    | none => none
  | _ => none
def bytL : LO → List Int
  | .byt _ xs => xs
  | _ => []
def bytC (el : TypeId) : LO → Prop
  | .byt t _ => t = el
  | _ => False
theorem bytC_eq {el : TypeId} {ob : LO} (h : bytC el ob) : ob = .byt el (bytL ob) := by
  cases ob with
  | byt t xs => have h : t = el := h; rw [h]; rfl
  | _ => exact h.elim
def cEf (dr : Bool) (P : Program) : Op → Option LEf
  | .store t x v => (sizeO P t).map fun n => .st n x v
  | .alloc t => (zeroCells P t).map fun z => bif selfZ z then .alct t z else .alc z
  | .box _ x => some (.box x)
  | .makeSlice t l c => match P.underlying t with
    | some (.slice e) => match sizeO P e, bytesO P e, zeroCells P e with
      | some sz, some by', some z => if z.length = sz ∧ 0 < sz ∧ 1 ≤ by' then some (.mks (kindZ z) sz z by' l c) else none
      | _, _, _ => none
    | _ => none
  | .buildSlice t len parts => match P.underlying t with
    | some (.slice e) => match sizeO P e, zeroCells P e with
      | some sz, some z => if z.length = sz ∧ 0 < sz ∧ len * sz ≤ 16777216 then (partsO (fun i => some (i * sz, sz)) parts.toList).map fun l => bif (dr || roZ z) then .bsr len sz z l else .bsl (kindZ z) len sz z l else none
      | _, _ => none
    | _ => none
  | .call c => match c.callee, c.args.toList, c.argTypes.toList with
    | .builtin .append, [x, y], [t, t'] => match cApB P x y t t' with
     | some l => some l
     | none => if t = t' then match P.underlying t with
      | some (.slice e) => match sizeO P e, bytesO P e, zeroCells P e with
        | some sz, some by', some z => if z.length = sz ∧ 0 < sz ∧ 1 ≤ by' then some (.app (kindZ z) sz by' x y) else none
        | _, _, _ => none
      | _ => none
      else none
    | .value (.func f), args, _ => if okF P f then some (.call f args) else if extF P f then some (.ext f args) else none
    | .value x, args, _ => some (.calv x args)
    | _, _, _ => none
  | .makeMap _ none => some .mkm
  | .mapUpdate t m k v => match P.underlying t with
    | some (.map kt _) => if keyedB P kt then some (.mup kt m k v) else none
    | _ => none
  | .convert a b x => match P.underlying a, P.underlying b with
    | some .string, some (.slice e) => match P.underlying e with
      | some (.int .u8) => some (.s2b x)
      | _ => none
    | _, _ => none
  | .panic _ => some .bad
  | .makeInterface .. => some .bad
  | _ => none

def fnOf : LV → FuncId
  | .fn f _ => f
  | _ => 0
def capsOf : LV → List LV
  | .fn _ cs => cs
  | _ => []
def isFn : LV → Prop
  | .fn _ _ => True
  | _ => False

def mksC (l c : Int) (bytes : Nat) : Prop := 0 ≤ l ∧ l ≤ c ∧ c ≤ 281474976710656 ∧ bytes * c.toNat ≤ 281474976710656

def eff (P : Program) (s : LS) (h : LH) : LEf → LV → LH → Prop
  | .st n x v, r, h' => match op1 s x with
    | .ptr k ver sz i c => opC true s x ∧ opC true s v ∧ flatOk (op1 s v) = true ∧ (flat (op1 s v)).length = n ∧ k < h.n ∧ (h.f k).1 = ver ∧ stC (h.f k).2 sz i c (flat (op1 s v)) ∧
        r = .any ∧ h' = h.set k (ver, stV (h.f k).2 i c (flat (op1 s v)))
    | _ => False
  | .alc z, r, h' => r = .ptr h.n 0 0 0 0 ∧ h' = h.push (.box (z.map liftC1))
  | .alct t z, r, h' => r = .ptr h.n 0 0 0 0 ∧ h' = h.push (.tbox t (z.map liftC1))
  | .aps el bytes x y, r, h' => opC true s x ∧ opC true s y ∧ yBC (op1 s y) ∧ 0 < (yB (op1 s y)).length ∧ match op1 s x with
    | .sl k ver sz off len => sz = 1 ∧ off = 0 ∧ k < h.n ∧ (h.f k).1 = ver ∧ bytC el (h.f k).2 ∧ (bytL (h.f k).2).length = len ∧ appRoom bytes (len + (yB (op1 s y)).length) ∧
        r = .sl k (ver + 1) 1 0 (len + (yB (op1 s y)).length) ∧ h' = h.set k (ver + 1, .byt el (bytL (h.f k).2 ++ yB (op1 s y)))
    | .nsl => appRoom bytes (yB (op1 s y)).length ∧ r = .sl h.n 0 1 0 (yB (op1 s y)).length ∧ h' = h.push (.byt el (yB (op1 s y)))
    | _ => False
  | .box v, r, h' => opC true s v ∧ flatOk (op1 s v) = true ∧ r = .ptr h.n 0 0 0 0 ∧ h' = h.push (.box (flat (op1 s v)))
  | .mks kd sz z bytes l c, r, h' => opC true s l ∧ opC true s c ∧ isI64 (op1 s l) ∧ isI64 (op1 s c) ∧ mksC (intOfV (op1 s l)) (intOfV (op1 s c)) bytes ∧
      r = .sl h.n 0 sz 0 (intOfV (op1 s l)).toNat ∧ h' = h.push (repO kd sz (intOfV (op1 s l)).toNat z)
  | .bsl kd len sz z parts, r, h' => opLC true s parts ∧ fillC (len * sz) (opL s parts) ∧ litC kd (fillV (repZ len sz z) (opL s parts)) ∧
      r = .sl h.n 0 sz 0 len ∧ h' = h.push (litO kd sz len (fillV (repZ len sz z) (opL s parts)))
  | .bsr len sz z parts, r, h' => opLC true s parts ∧ fillC (len * sz) (opL s parts) ∧ roishL (fillV (repZ len sz z) (opL s parts)) ∧
      (∃ f, (∀ i, i < len → f i = ((fillV (repZ len sz z) (opL s parts)).drop (i * sz)).take sz) ∧ r = .rsl sz len f) ∧ h' = h
  | .app kd sz bytes x y, r, h' => opC true s x ∧ opC true s y ∧ yC h sz (op1 s y) ∧ ykC kd h (op1 s y) ∧ match op1 s x with
    | .sl k ver sz' off len => sz' = sz ∧ k < h.n ∧ (h.f k).1 = ver ∧ kdC kd (h.f k).2 ∧ rngC (h.f k).2 sz off len ∧ appRoom bytes (len + yN (op1 s y)) ∧
        r = .sl k (ver + 1) sz 0 (len + yN (op1 s y)) ∧ h' = h.set k (ver + 1, appO kd sz off len (h.f k).2 h (op1 s y))
    | .nsl => 0 < yN (op1 s y) ∧ appRoom bytes (yN (op1 s y)) ∧ r = .sl h.n 0 sz 0 (yN (op1 s y)) ∧ h' = h.push (appO kd sz 0 0 .dead h (op1 s y))
    | _ => False
  | .call f args, r, h' => (∀ x, x ∈ args → opC true s x) ∧ LCall P f (args.map (op1 s)) h r h'
  | .mkm, r, h' => r = .mp h.n 0 ∧ h' = h.push (.map [])
  | .mup kt m k v, r, h' => opC true s m ∧ opC true s k ∧ opC true s v ∧ keyC (op1 s k) ∧ match op1 s m with
    | .mp a ver => a < h.n ∧ (h.f a).1 = ver ∧ (h.f a).2.isMap = true ∧ keysOk P kt (mapO (h.f a).2) (keyV (op1 s k)) ∧ r = .any ∧ h' = h.set a (ver, .map (mput (mapO (h.f a).2) (keyV (op1 s k)) (op1 s v)))
    | _ => False
  | .ext f args, r, h' => (∀ x, x ∈ args → opC true s x) ∧ XCall P f (args.map (op1 s)) r ∧ h' = h
  | .ecl f args, r, h' => (∀ x, x ∈ args → opC true s x) ∧ (∀ hh, LCall P f (args.map (op1 s)) hh r hh) ∧ h' = h
  | .s2b x, r, h' => opC true s x ∧ s2bC (op1 s x) ∧ r = bysR (yB (op1 s x)) ∧ h' = h
  | .bad, _, _ => False
  | .calv x args, r, h' => opC true s x ∧ (∀ x, x ∈ args → opC true s x) ∧ isFn (op1 s x) ∧ okF P (fnOf (op1 s x)) = true ∧ LCall P (fnOf (op1 s x)) (args.map (op1 s) ++ capsOf (op1 s x)) h r h'

theorem mput_none {es : List (Value × LV)} {x : Value} {v : LV} (hn : ∀ kv, kv ∈ es → kv.1 ≠ x) : mput es x v = es ++ [(x, v)] := by
  induction es with
  | nil => rfl
  | cons kv r ih =>
    obtain ⟨k, u⟩ := kv
    simp only [mput]
    rw [if_neg (hn (k, u) (by simp)), ih (fun kv h => hn kv (by simp [h]))]; rfl
theorem mput_some {x : Value} {v : LV} : ∀ {es : List (Value × LV)} {i : Nat} {kv : Value × LV}, (es.map (·.1)).Nodup → es[i]? = some kv → kv.1 = x → mput es x v = es.set i (x, v)
  | [], i, kv, _, hi, _ => by simp at hi
  | (k, u) :: r, 0, kv, _, hi, hx => by
    simp at hi; subst hi
    simp only at hx
    simp only [mput, List.set_cons_zero]
    rw [if_pos hx, hx]
  | (k, u) :: r, i + 1, kv, hn, hi, hx => by
    simp only [List.map_cons, List.nodup_cons] at hn
    have hi' : r[i]? = some kv := by simpa using hi
    simp only [mput, List.set_cons_succ]
    rw [if_neg, mput_some hn.2 hi' hx]
    intro e
    apply hn.1
    rw [e, ← hx]
    exact List.mem_map_of_mem (List.mem_of_getElem? hi')

def Ends (P : Program) (B : Nat) (R : RO) (ι : IM) (h : LH) (w : World) (res : Result Next) (r : LV) (h' : LH) : Prop :=
  (∃ v w' R' ι', (res = .ok (.value v) w' ∨ (res = .ok .skip w' ∧ v = undef)) ∧ Trans B R ι h w R' ι' h' w' ∧ Rv R' ι' h' r v) ∨
  ∃ f vs, res = .ok (.enter f vs) w ∧ Calls P f vs w fun e w' => ∃ v R' ι', e = .returned v ∧ Trans B R ι h w R' ι' h' w' ∧ Rv R' ι' h' r v

theorem args_ok (hs : ∀ x, Rv R ι h (oev s x) (ρ x)) {args : List Operand} (hc : ∀ x, x ∈ args → opC true s x) : ∀ i a, (args.map (op1 s))[i]? = some a → Rv R ι h a ((args.map ρ).toArray.getD i undef) := by
  intro i a hi
  simp only [List.getElem?_map, Option.map_eq_some_iff] at hi
  obtain ⟨x, hx, rfl⟩ := hi
  have : (args.map ρ).toArray.getD i undef = ρ x := by
    rw [Array.getD_eq_getD_getElem?]; simp [hx]
  rw [this]
  exact op1_ok hs rfl (hc x (List.mem_of_getElem? hx))

theorem callFunc_ok {f : FuncId} (hf : okF P f = true) (vs : Array Value) : (callFunc f vs).run P w = .ok (.enter f vs) w := by
  unfold okF at hf
  cases hfn : P.funcs[f]? with
  | none => rw [hfn] at hf; simp at hf
  | some fn =>
    rw [hfn] at hf
    simp only [Bool.and_eq_true, bne_iff_ne] at hf
    obtain ⟨h1, h2⟩ := hf
    have h3 : ¬ fn.body = none := by intro e; rw [e] at h2; simp at h2
    simp [callFunc, hfn, h1, h3]

end
end Go.Proofs.YtdfiicpikcdokaaGreatDoor
namespace Go.Proofs.YtdfiicpikcdokaaGreatDoor
set_option linter.unusedSimpArgs false
set_option linter.unusedVariables false
open Go.RowKit

section
variable {P : Program} {R : RO} {ι : IM} {h : LH} {B : Nat} {w : World} {s : LS} {ρ : Operand → Value}

theorem eff_ok {dr : Bool} (hr : Rep R ι h B w) (hB : B ≤ w.heap.size) (hs : ∀ x, Rv R ι h (oev s x) (ρ x)) {o : Oper} {lo : LEf} (hc : cEf dr P o.op = some lo) {r : LV} {h' : LH} (hv : eff P s h lo r h') :
    Ends P B R ι h w ((execOp ρ o).run P w) r h' := by
  obtain ⟨dst, op, ty, pos, after, guard⟩ := o
  simp only at hc
  have H1 : ∀ x, opC true s x → Rv R ι h (op1 s x) (ρ x) := fun x hx => op1_ok hs rfl hx
  cases op with
  | store t x v =>
    simp only [cEf, Option.map_eq_some_iff] at hc
    obtain ⟨n, hn, rfl⟩ := hc
    simp only [eff] at hv
    split at hv
    · rename_i k ver sz i c hx
      obtain ⟨h1, h2, h3, h4, h5, h6, h7, rfl, rfl⟩ := hv
      have hxr := H1 x h1
      rw [hx] at hxr
      obtain ⟨a, ha, _, _, hpl⟩ := hxr.ptr_inv
      obtain ⟨g1, g2, g3⟩ := (H1 v h2).flat h3
      obtain ⟨w', s1, s2⟩ := stN_ok (P := P) (flat (op1 s v)) (ρ v).cells.toList c 0 hr hB h5 h6 (hpl h6.symm) (by simpa using g1) (fun q y hq => by
        have := g2 q y hq
        rw [Array.getD_eq_getD_getElem?] at this
        rw [List.getD_eq_getElem?_getD]; simpa using this) (by simpa using h7)
      left
      refine ⟨undef, w', R, ι, .inr ⟨?_, rfl⟩, by simpa using s2, .any _⟩
      have hsz : ¬ (ρ v).cells.size ≠ n := by omega
      simp only [execOp, Sem.run_bind, Instr.storeAt, ha, Instr.sureAddr, Sem.run_pure, Result.andThen_ok, storeVar, sizeO_ok hn]
      rw [if_neg hsz]
      simp only [s1, Sem.run_bind, Sem.run_pure, Result.andThen_ok]
    · exact hv.elim
  | alloc t =>
    simp only [cEf, Option.map_eq_some_iff] at hc
    obtain ⟨z, hz, rfl⟩ := hc
    cases hsz : selfZ z
    · rw [hsz] at hv
      obtain ⟨rfl, rfl⟩ := hv
      obtain ⟨zv, z1, z2, z3⟩ := zero_arr (P := P) (R := R) (ι := ι) (h := h) (w := w) hz
      obtain ⟨v', w', ι', e1, e2, e3⟩ := newVar_ok (P := P) hr hB (t := t) (v := zv) z3.1 z3.2.1 z3.2.2
      left
      refine ⟨v', w', R, ι', .inl ?_, e2, e3⟩
      simp only [execOp, Sem.run_bind, Instr.alloc, z1, Result.andThen_ok]
      simp only [Sem.run_bind] at e1
      rw [e1]; rfl
    · rw [hsz] at hv
      obtain ⟨rfl, rfl⟩ := hv
      obtain ⟨zv, z1, z2, z3⟩ := zero_arr (P := P) (R := R) (ι := ι) (h := h) (w := w) hz
      obtain ⟨v', w', ι', e1, e2, e3⟩ := newTVar_ok (P := P) hr hB (t := t) (v := zv) z3.1 z3.2.1 z3.2.2
      left
      refine ⟨v', w', R, ι', .inl ?_, e2, e3⟩
      simp only [execOp, Sem.run_bind, Instr.alloc, z1, Result.andThen_ok]
      simp only [Sem.run_bind] at e1
      rw [e1]; rfl
  | box t x =>
    simp only [cEf, Option.some.injEq] at hc
    subst hc
    obtain ⟨h1, h2, rfl, rfl⟩ := hv
    obtain ⟨g1, g2, g3⟩ := (H1 x h1).flat h2
    obtain ⟨v', w', ι', e1, e2, e3⟩ := newVar_ok (P := P) hr hB (t := t) (v := ρ x) g1 g2 g3
    left
    refine ⟨v', w', R, ι', .inl ?_, e2, e3⟩
    simp only [execOp, Sem.run_bind, Instr.box]
    simp only [Sem.run_bind] at e1
    rw [e1]; rfl
  | makeSlice t l c =>
    simp only [cEf] at hc
    split at hc
    · rename_i e hu
      split at hc
      · rename_i sz by' z hsz hby hz
        split at hc
        · rename_i hcond
          obtain ⟨hl, h0, hb1⟩ := hcond
          injection hc with hc
          subst hc
          obtain ⟨h1, h2, h3, h4, ⟨m1, m2, m3, m4⟩, rfl, rfl⟩ := hv
          obtain ⟨li, hli⟩ := isI64_inv h3
          obtain ⟨ci, hci⟩ := isI64_inv h4
          have hlv := H1 l h1
          have hcv := H1 c h2
          rw [hli] at hlv ⊢
          rw [hci] at hcv
          rw [hli] at m1 m2
          rw [hci] at m2 m3 m4
          simp only [intOfV] at m1 m2 m3 m4 ⊢
          have hlv' := hlv.sc_inv.1
          have hcv' := hcv.sc_inv.1
          obtain ⟨zv, z1, z2, z3⟩ := zeroCells_ok (P := P) (w := w) hz
          obtain ⟨w', ι', e1, e2, e3⟩ := newRep_ok (P := P) hr hB (e := e) (l := li.toNat) (c := ci.toNat) z2 rfl hl z3 (by omega) (by unfold maxLen; omega) h0
          obtain ⟨inf, hinf, hbytes⟩ : ∃ i, P.info? e = some i ∧ i.bytes = by' := by
            unfold bytesO at hby
            cases hi : P.info? e with
            | none => rw [hi] at hby; simp at hby
            | some i => rw [hi] at hby; simp at hby; exact ⟨i, rfl, hby⟩
          left
          refine ⟨_, w', R, ι', .inl ?_, e2, e3⟩
          have hzi : inf.zero = some zv := by
            simp only [zeroValue, typeInfo, Sem.run_bind, run_program, Result.andThen_ok, hinf, Sem.run_pure] at z1
            cases hq : inf.zero with
            | none => rw [hq] at z1; simp at z1
            | some v => rw [hq] at z1; simp at z1; rw [z1]
          have hisz : inf.size = sz := by
            unfold sizeO at hsz
            rw [hinf] at hsz; simpa using hsz
          have hmk := run_make (P := P) w t e inf zv hu hinf hzi .i64 .i64 li ci m1 m2 (by
            have e9 : (inf.bytes : Int) * ci = ((by' * ci.toNat : Nat) : Int) := by
              rw [Int.natCast_mul, hbytes]; congr 1; omega
            rw [e9]; omega) (by omega)
          rw [hisz] at hmk
          simp only [newRow, Sem.run_bind, run_newObj, Result.andThen_ok, Sem.run_pure, Result.ok.injEq] at e1
          simp only [execOp, Sem.run_bind, hlv', hcv', hmk, Result.andThen_ok, Sem.run_pure, Result.ok.injEq, true_and]
          exact e1.2
        · simp at hc
      · simp at hc
    · simp at hc
  | buildSlice t len parts =>
    simp only [cEf] at hc
    split at hc
    · rename_i e hu
      split at hc
      · rename_i sz z hsz hz
        split at hc
        · rename_i hcond
          obtain ⟨hl, h0, hmax⟩ := hcond
          simp only [Option.map_eq_some_iff] at hc
          obtain ⟨l, hpl, rfl⟩ := hc
          generalize (dr || roZ z) = d at hv
          cases d with
          | false =>
            simp only [cond_false] at hv
            obtain ⟨h1, h2, h3, rfl, rfl⟩ := hv
            obtain ⟨zv, z1, z2, z3⟩ := zeroCells_ok (P := P) (w := w) hz
            have harr := repZ_ok (R := R) (ι := ι) (h := h) (n := len) z2 hl z3 h0
            have hrl : (repZ len sz z).length = len * sz := by simp [repZ]
            obtain ⟨us, u1, u2⟩ := fill_ok (R := R) (ι := ι) (h := h) (s := s) (ρ := ρ) (fun i => some (i * sz, sz)) hs parts.toList l _ _ hpl h1 (by rw [hrl]; exact h2) harr
            have hfl : ∀ (ps : List (Nat × Nat × LV)) (cs : List LV), (fillV cs ps).length = cs.length := by
              intro ps
              induction ps with
              | nil => intro cs; rfl
              | cons p r ih => intro cs; obtain ⟨o, z', v⟩ := p; simp only [fillV]; rw [ih, setL_len]
            obtain ⟨w', ι', e1, e2, e3⟩ := newLit_ok (P := P) hr hB (e := e) (kd := kindZ z) (n := len) u2 (by rw [hfl, hrl]) h3 (ykC_type rfl hl) (by
              unfold maxLen
              have := Nat.mul_le_mul_left len (show 1 ≤ sz from h0)
              omega)
            left
            refine ⟨_, w', R, ι', .inl ?_, e2, e3⟩
            have hnm : ¬ len * sz > 2 ^ 24 := by omega
            simp only [newRow, Sem.run_bind, run_newObj, Result.andThen_ok, Sem.run_pure, Result.ok.injEq] at e1
            by_cases hn : len * sz = 0
            · have hl0 : len = 0 := by
                rcases Nat.mul_eq_zero.1 hn with e | e
                · exact e
                · omega
              subst hl0
              have hu1 : Instr.fill (fun i => some (i * sz, sz)) #[] (parts.toList.map fun x => (x.1, ρ x.2)) = some us := by
                rw [← u1]; congr 1
                apply Array.ext'
                simp
              have hbs : (Instr.buildSlice t 0 (parts.map fun (i, x) => (i, ρ x))).run P w = .ok (.slice (some ⟨w.heap.size, 0, none⟩) 0 0) w' := by
                rw [← e1.2]
                simp [Instr.buildSlice, run_underlying hu, sizeO_ok hsz, hu1, newRow, Array.range_zero']
              simp only [execOp, Sem.run_bind, hbs, Result.andThen_ok, Sem.run_pure]
            · have hbs : (Instr.buildSlice t len (parts.map fun (i, x) => (i, ρ x))).run P w = .ok (.slice (some ⟨w.heap.size, 0, none⟩) len len) w' := by
                simp only [Instr.buildSlice, Sem.run_bind, run_underlying hu, Result.andThen_ok, sizeO_ok hsz, hnm, if_false, if_neg hn, z1, Sem.run_pure, Array.toList_map, u1, newRow, run_newObj, Result.ok.injEq, true_and]
                exact e1.2
              simp only [execOp, Sem.run_bind, hbs, Result.andThen_ok, Sem.run_pure]
          | true =>
            simp only [cond_true] at hv
            obtain ⟨h1, h2, h3, ⟨f, hff, rfl⟩, rfl⟩ := hv
            obtain ⟨zv, z1, z2, z3⟩ := zeroCells_ok (P := P) (w := w) hz
            have harr := repZ_ok (R := R) (ι := ι) (h := h') (n := len) z2 hl z3 h0
            have hrl : (repZ len sz z).length = len * sz := by simp [repZ]
            obtain ⟨us, u1, u2⟩ := fill_ok (R := R) (ι := ι) (h := h') (s := s) (ρ := ρ) (fun i => some (i * sz, sz)) hs parts.toList l _ _ hpl h1 (by rw [hrl]; exact h2) harr
            have hfl : ∀ (ps : List (Nat × Nat × LV)) (cs : List LV), (fillV cs ps).length = cs.length := by
              intro ps
              induction ps with
              | nil => intro cs; rfl
              | cons p r ih => intro cs; obtain ⟨o, z', v⟩ := p; simp only [fillV]; rw [ih, setL_len]
            obtain ⟨w', R', e1, e2, e3⟩ := newRo_ok (P := P) hr hB (e := e) (n := len) (sz := sz) u2 (by rw [hfl, hrl]) h3 (by
              unfold maxLen
              have := Nat.mul_le_mul_left len (show 1 ≤ sz from h0)
              omega) hff
            left
            refine ⟨_, w', R', ι, .inl ?_, e2, .ro e3⟩
            have hnm : ¬ len * sz > 2 ^ 24 := by omega
            simp only [newRow, Sem.run_bind, run_newObj, Result.andThen_ok, Sem.run_pure, Result.ok.injEq] at e1
            by_cases hn : len * sz = 0
            · have hl0 : len = 0 := by
                rcases Nat.mul_eq_zero.1 hn with e | e
                · exact e
                · omega
              subst hl0
              have hu1 : Instr.fill (fun i => some (i * sz, sz)) #[] (parts.toList.map fun x => (x.1, ρ x.2)) = some us := by
                rw [← u1]; congr 1
                apply Array.ext'
                simp
              have hbs : (Instr.buildSlice t 0 (parts.map fun (i, x) => (i, ρ x))).run P w = .ok (.slice (some ⟨w.heap.size, 0, none⟩) 0 0) w' := by
                rw [← e1.2]
                simp [Instr.buildSlice, run_underlying hu, sizeO_ok hsz, hu1, newRow, Array.range_zero']
              simp only [execOp, Sem.run_bind, hbs, Result.andThen_ok, Sem.run_pure]
            · have hbs : (Instr.buildSlice t len (parts.map fun (i, x) => (i, ρ x))).run P w = .ok (.slice (some ⟨w.heap.size, 0, none⟩) len len) w' := by
                simp only [Instr.buildSlice, Sem.run_bind, run_underlying hu, Result.andThen_ok, sizeO_ok hsz, hnm, if_false, if_neg hn, z1, Sem.run_pure, Array.toList_map, u1, newRow, run_newObj, Result.ok.injEq, true_and]
                exact e1.2
              simp only [execOp, Sem.run_bind, hbs, Result.andThen_ok, Sem.run_pure]
        · simp at hc
      · simp at hc
    · simp at hc
  | call c =>
    obtain ⟨callee, args, tys⟩ := c
    simp only [cEf] at hc
    split at hc
    · rename_i x y t t' ha ht
      split at hc
      · rename_i l hl
        injection hc with hc
        subst hc
        have ha' : args = #[x, y] := by rw [← Array.toList_inj, ha]
        have ht' : tys = #[t, t'] := by rw [← Array.toList_inj, ht]
        subst ha' ht'
        unfold cApB at hl
        split at hl
        · rename_i e hu
          split at hl
          · rename_i by' hby
            split at hl
            · rename_i hcond
              obtain ⟨hz, hs1, ht2, hb1⟩ := hcond
              have hz := isB8_eq hz
              injection hl with hl
              subst hl
              obtain ⟨h1, h2, h3, h4, h5⟩ := hv
              split at h5
              · rename_i k ver sz' off len hx
                obtain ⟨rfl, rfl, k2, k3, k4, k5, k6, rfl, rfl⟩ := h5
                have hxr := H1 x h1
                rw [hx] at hxr
                obtain ⟨v, w', ι', e1, e2, e3⟩ := aps_ok (P := P) hr hB (ty := ty) hu ht2 hs1 hby hb1 hz hxr (H1 y h2) (show h.f k = (ver, .byt e (bytL (h.f k).2)) from by
                  rw [← bytC_eq k4, ← k3]) k5 h3 h4 k6
                left
                refine ⟨v, w', R, ι', .inl ?_, e2, e3⟩
                simp [execOp, resolve, invoke, builtin, e1]
              · rename_i hx
                obtain ⟨k1, rfl, rfl⟩ := h5
                have hxr := H1 x h1
                rw [hx] at hxr
                have hxn := hxr.nsl_inv
                obtain ⟨v, w', ι', e1, e2, e3⟩ := aps_nil_ok (P := P) hr hB (ty := ty) hu ht2 hs1 hby hb1 hz (H1 y h2) h3 k1 h4
                left
                refine ⟨v, w', R, ι', .inl ?_, e2, e3⟩
                simp [execOp, resolve, invoke, builtin, hxn, e1]
              · exact h5.elim
            · simp at hl
          · simp at hl
        · simp at hl
      · split at hc
        · rename_i heq
          subst heq
          have ha' : args = #[x, y] := by rw [← Array.toList_inj, ha]
          have ht' : tys = #[t, t] := by rw [← Array.toList_inj, ht]
          subst ha' ht'
          split at hc
          · rename_i e hu
            split at hc
            · rename_i sz by' z hsz hby hz
              split at hc
              · rename_i hcond
                obtain ⟨hl, h0, hb1⟩ := hcond
                injection hc with hc
                subst hc
                obtain ⟨h1, h2, h3, h4, h5⟩ := hv
                split at h5
                · rename_i k ver sz' off len hx
                  obtain ⟨rfl, k1, k2, k3, k4, k5, rfl, rfl⟩ := h5
                  have hxr := H1 x h1
                  rw [hx] at hxr
                  obtain ⟨v, w', ι', e1, e2, e3⟩ := app_ok (P := P) hr hB (ty := ty) hu hsz hby hb1 hz hl rfl h0 hxr (H1 y h2) k2 k3 k4 h3 h4 k5
                  left
                  refine ⟨v, w', R, ι', .inl ?_, e2, e3⟩
                  simp [execOp, resolve, invoke, builtin, e1]
                · rename_i hx
                  obtain ⟨k1, k2, rfl, rfl⟩ := h5
                  have hxr := H1 x h1
                  rw [hx] at hxr
                  have hxn := hxr.nsl_inv
                  obtain ⟨v, w', ι', e1, e2, e3⟩ := app_nil_ok (P := P) hr hB (ty := ty) hu hsz hby hb1 hz hl rfl h0 (H1 y h2) h3 h4 k2 k1
                  left
                  refine ⟨v, w', R, ι', .inl ?_, e2, e3⟩
                  simp [execOp, resolve, invoke, builtin, hxn, e1]
                · exact h5.elim
              · simp at hc
            · simp at hc
          · simp at hc
        · simp at hc
    · rename_i f
      split at hc
      · rename_i hok
        injection hc with hc
        subst hc
        obtain ⟨h1, h2⟩ := hv
        right
        refine ⟨f, args.map ρ, ?_, ?_⟩
        · obtain ⟨vs, hvf, hvs, _⟩ := (hs (.func f)).fn_inv
          have hvs0 : vs = #[] := Array.eq_empty_of_size_eq_zero hvs
          subst hvs0
          simp [execOp, resolve, invoke, Deferred.ofValue, hvf, callFunc_ok hok]
        · have e : args.map ρ = (args.toList.map ρ).toArray := by rw [← Array.toList_inj]; simp
          rw [e]
          exact h2 B R ι w _ hB hr (by simp) (args_ok hs h1)
      · split at hc
        · injection hc with hc
          subst hc
          obtain ⟨h1, h2, rfl⟩ := hv
          have e : args.map ρ = (args.toList.map ρ).toArray := by rw [← Array.toList_inj]; simp
          obtain ⟨v, h3, h4⟩ := h2 R ι h' w (args.toList.map ρ).toArray (by simp) (args_ok hs h1)
          left
          refine ⟨v, w, R, ι, .inl ?_, Trans.refl hr hB, h4⟩
          obtain ⟨vs, hvf, hvs, _⟩ := (hs (.func f)).fn_inv
          have hvs0 : vs = #[] := Array.eq_empty_of_size_eq_zero hvs
          subst hvs0
          rw [← e] at h3
          simp [execOp, resolve, invoke, Deferred.ofValue, hvf, h3]
        · simp at hc
    · rename_i x _
      injection hc with hc
      subst hc
      obtain ⟨h1, h2, h3, h4, h5⟩ := hv
      have hxr := H1 x h1
      generalize hlx : op1 s x = lx at *
      cases lx with
      | fn f caps =>
        obtain ⟨vs, hvx, hvl, hvc⟩ := hxr.fn_inv
        simp only [fnOf, capsOf] at h4 h5
        right
        refine ⟨f, args.map ρ ++ vs, ?_, ?_⟩
        · simp [execOp, resolve, invoke, Deferred.ofValue, hvx, callFunc_ok h4]
        · have e : args.map ρ ++ vs = (args.toList.map ρ ++ vs.toList).toArray := by rw [← Array.toList_inj]; simp
          refine h5 B R ι w _ hB hr (by simp; omega) (fun i a hi => ?_)
          have hal := args_ok hs h2
          by_cases hlt : i < args.size
          · rw [List.getElem?_append_left (by simp; omega)] at hi
            have := hal i a hi
            rw [Array.getD_eq_getD_getElem?] at this ⊢
            rw [Array.getElem?_append_left (by simpa using hlt)]
            simpa using this
          · rw [List.getElem?_append_right (by simp; omega)] at hi
            have := hvc _ a hi
            rw [Array.getD_eq_getD_getElem?] at this ⊢
            rw [Array.getElem?_append_right (by simp; omega)]
            simpa using this
      | _ => exact h3.elim
    · simp at hc
  | convert a b x =>
    simp only [cEf] at hc
    split at hc
    · rename_i e ha hb
      split at hc
      · rename_i he
        injection hc with hc; subst hc
        obtain ⟨h1, h2, rfl, rfl⟩ := hv
        obtain ⟨v', w', R', e1, e2, e3⟩ := newBytes_ok (P := P) hr hB ha hb he (H1 x h1) h2
        left
        exact ⟨v', w', R', ι, .inl (by simp [execOp, e1]), e2, .ro e3⟩
      · simp at hc
    · simp at hc
  | panic x => simp only [cEf, Option.some.injEq] at hc; subst hc; exact hv.elim
  | makeInterface t x => simp only [cEf, Option.some.injEq] at hc; subst hc; exact hv.elim
  | makeMap t r0 =>
    cases r0 with
    | some x => simp [cEf] at hc
    | none =>
      simp only [cEf, Option.some.injEq] at hc
      subst hc
      obtain ⟨rfl, rfl⟩ := hv
      left
      refine ⟨.map (some w.heap.size), _, R, _, .inl ?_, hr.pushMap hB, .mp _ _ _ (by simp [LH.push]) (by simp [LH.push]) fun _ => by simp [updI]⟩
      simp [execOp, Instr.makeMap]
  | mapUpdate t m k v =>
    simp only [cEf] at hc
    split at hc
    · rename_i kt e hu
      split at hc
      · rename_i hkt
        injection hc with hc
        subst hc
        obtain ⟨h1, h2, h3, h4, h5⟩ := hv
        split at h5
        · rename_i a ver hm
          obtain ⟨k1, k2, k3, k4, rfl, rfl⟩ := h5
          have hmr := H1 m h1
          rw [hm] at hmr
          obtain ⟨b, ents, clock, hvm, hw, hsz, hn, hent⟩ := mapLive_ok hr hmr ⟨k1, k2, k3⟩
          simp only [mapE] at hsz hn hent
          have hkx := keyV_ok (H1 k h2) h4
          rw [hkx] at k4 ⊢
          have K := keyedB_ok hkt
          obtain ⟨lx, hlx⟩ := Option.isSome_iff_exists.1 k4.1
          have hchk := K.check w false hlx
          have hstay := K.stays w hlx
          have hvr := H1 v h3
          have hba : b = (ι a).b := by
            obtain ⟨b', e1, _, _, e2⟩ := hmr.mp_inv
            rw [hvm] at e1
            injection e1 with e1
            injection e1 with e1
            rw [e1]; exact e2 k2.symm
          obtain ⟨es, hes⟩ : ∃ es, (h.f a).2 = .map es := by
            cases hob : (h.f a).2 with
            | map es => exact ⟨es, rfl⟩
            | _ => rw [hob] at k3; simp [LO.isMap] at k3
          have hborn : ∀ (i : Nat) (en : MapEntry), ents[i]? = some en → en.born < clock := by
            obtain ⟨ents', clock', g1, _, g3, _⟩ := hr.maps a es k1 hes
            rw [hba] at hw
            rw [hw] at g1
            injection g1 with g1
            injection g1 with g1 g2
            subst g1 g2
            exact g3.1
          have hbs : b < w.heap.size := (Array.getElem?_eq_some_iff.1 hw).1
          have hset : ∀ (o : Obj), (setObj b o).run P w = .ok () { w with heap := w.heap.setIfInBounds b o } := by
            intro o; simp [setObj, Sem.run, hw]
          generalize hmo : mapO (h.f a).2 = eo at *
          rcases find_ok (P := P) (w := w) K hsz hn hent k4 with ⟨f1, _, f3⟩ | ⟨j, en, kv, f1, f2, f3, f4, f5, f6, _⟩
          · left
            have hT := hr.changeMap hB k1 (es' := mput eo (ρ k) (op1 s v)) (ents' := ents.push { key := ρ k, val := ρ v, born := clock }) (clock' := clock + 1) k3 (by rw [mput_none f3]; simp [hsz]) (fun i e he => by
              rw [Array.getElem?_push] at he
              split at he
              · injection he with he; rw [← he]; simp
              · have := hborn i e he; omega) (by
              rw [mput_none f3, List.map_append, List.nodup_append]
              refine ⟨hn, by simp, ?_⟩
              intro x hx y hy
              simp at hy
              obtain ⟨kv, hkv, rfl⟩ := List.mem_map.1 hx
              rw [hy]; exact f3 kv hkv) (fun i kv hi => by
              rw [mput_none f3] at hi
              by_cases hlt : i < eo.length
              · rw [List.getElem?_append_left hlt] at hi
                obtain ⟨e', q1, q2, q3⟩ := hent i kv hi
                refine ⟨e', ?_, q2, q3⟩
                rw [Array.getElem?_push, if_neg (by omega)]; exact q1
              · have hil : i = eo.length := by
                  have := (List.getElem?_eq_some_iff.1 hi).1
                  simp at this; omega
                subst hil
                simp at hi
                subst hi
                exact ⟨_, by rw [Array.getElem?_push, if_pos hsz.symm], rfl, hvr⟩)
            rw [k2] at hT
            refine ⟨undef, _, R, ι, .inr ⟨?_, rfl⟩, hT, .any _⟩
            rw [← hba]
            simp [execOp, Instr.mapUpdate, run_underlying hu, hvm, getObj_map hw, hchk, f1, hset]
          · left
            have hjl : j < eo.length := (List.getElem?_eq_some_iff.1 f4).1
            have hjs : j < ents.size := by omega
            have hT := hr.changeMap hB k1 (es' := mput eo (ρ k) (op1 s v)) (ents' := ents.modify j fun e => { e with key := ρ k, val := ρ v }) (clock' := clock) k3 (by rw [mput_some hn f4 f5]; simp [hsz]) (fun i e he => by
              rw [Array.getElem?_modify] at he
              split at he
              · simp only [Option.map_eq_some_iff] at he
                obtain ⟨e', he', rfl⟩ := he
                exact hborn i e' he'
              · exact hborn i e he) (by
              rw [mput_some hn f4 f5, List.map_set]
              have : (eo.map (·.1)).set j (ρ k) = eo.map (·.1) := by
                apply List.ext_getElem?
                intro q
                by_cases e : j = q
                · subst e
                  rw [List.getElem?_set_self (by simpa using hjl)]
                  simp [f4, f5]
                · rw [List.getElem?_set_ne e]
              rw [this]; exact hn) (fun i kv' hi => by
              rw [mput_some hn f4 f5] at hi
              by_cases e : j = i
              · subst e
                rw [List.getElem?_set_self hjl] at hi
                injection hi with hi
                subst hi
                refine ⟨{ en with key := ρ k, val := ρ v }, ?_, rfl, hvr⟩
                rw [Array.getElem?_modify, if_pos rfl, f2]; rfl
              · rw [List.getElem?_set_ne e] at hi
                obtain ⟨e', q1, q2, q3⟩ := hent i kv' hi
                refine ⟨e', ?_, q2, q3⟩
                rw [Array.getElem?_modify, if_neg e]; exact q1)
            rw [k2] at hT
            refine ⟨undef, _, R, ι, .inr ⟨?_, rfl⟩, hT, .any _⟩
            rw [← hba]
            have hkk : ((ents[j]?).map (·.key)).getD (ρ k) = ρ k := by rw [f2]; simpa using f3
            simp [execOp, Instr.mapUpdate, run_underlying hu, hvm, getObj_map hw, hchk, f1, hkk, hstay, hset]
        · exact h5.elim
      · simp at hc
    · simp at hc
  | _ => simp [cEf] at hc

end
end Go.Proofs.YtdfiicpikcdokaaGreatDoor
namespace Go.Proofs.YtdfiicpikcdokaaGreatDoor
set_option linter.unusedSimpArgs false
set_option linter.unusedVariables false
open Go.RowKit

inductive LK where
  | p (o : LOp)
  | e (o : LEf)
structure LX where
  dst : Option Nat
  g : Option (Nat × Bool)
  op : LK

def gOf (want : Bool) : LV → Bool
  | .sc (.bool b) => b == want
  | .cnd g (.sc (.bool b)) => g && (b == want)
  | _ => false
def gOk : LV → Prop
  | .sc (.bool _) => True
  | .cnd _ (.sc (.bool _)) => True
  | _ => False

def LStep (P : Program) (o : LX) (s : LS) (h : LH) (r : LV) (h' : LH) : Prop :=
  match o.g, o.op with
  | none, .p q => pvc P true s h q ∧ r = pval s h q ∧ h' = h
  | none, .e q => eff P s h q r h'
  | some (t, want), .p q => gOk (s t) ∧ pvc P (gOf want (s t)) s h q ∧ r = .cnd (gOf want (s t)) (pval s h q) ∧ h' = h
  | some (t, want), .e q => gOk (s t) ∧ ((gOf want (s t) = true ∧ eff P s h q r h') ∨ (gOf want (s t) = false ∧ r = .any ∧ h' = h) ∨ (∃ r', r = .cnd (gOf want (s t)) r' ∧ h' = h ∧ (gOf want (s t) = true → eff P s h q r' h)))

def LFact (o : LX) (s : LS) : Prop :=
  match o.g, o.op with
  | none, .p q => pfact s q
  | _, _ => True

def updO (s : LS) (d : Option Nat) (v : LV) : LS :=
  match d with
  | some d => upd s d v
  | none => s

def lops (P : Program) : List LX → (LS → LH → Prop) → LS → LH → Prop
  | [], K, s, h => K s h
  | o :: r, K, s, h => ∃ v h', LStep P o s h v h' ∧ (LFact o s → lops P r K (updO s o.dst v) h')

inductive LC where
  | skip
  | reg (ops : List LX)
  | dreg (pre : List LX) (sufs : List (List LX))
  | seq (a b : LC)
  | seqj (a b : LC)
  | cond (c : Operand) (a b : LC)
  | block (id : Nat) (a : LC)
  | loop (a : LC)
  | exit (id : Nat)
  | ret

def erase : LC → LC
  | .seq a b => .seq (erase a) (erase b)
  | .seqj a b => .seq (erase a) (erase b)
  | .cond c a b => .cond c (erase a) (erase b)
  | .block i a => .block i (erase a)
  | .loop a => .loop (erase a)
  | c => c
def cOps (dr : Bool) (P : Program) (N : Nat) (all : Array Oper) : List Oper → Option (List LX)
  | [] => some []
  | o :: r =>
    match (match o.dst with | some d => decide (d < N) | none => true),
      (match o.guard with
        | none => some none
        | some (j, want) => match (all[j]?).bind (·.dst) with
          | some t => if t < N then some (some (t, want)) else none
          | none => none),
      (match cOp P o.op with
        | some q => some (LK.p q)
        | none => (cEf dr P o.op).map LK.e),
      cOps dr P N all r with
    | true, some g, some k, some l => some (⟨o.dst, g, k⟩ :: l)
    | _, _, _, _ => none

structure ActOk (N : Nat) (a : Act) (s : LS) (R : RO) (ι : IM) (h : LH) : Prop where
  defers : a.defers = []
  size : a.tmps.size = N
  slots : ∀ t, Rv R ι h (s t) (a.eval (.tmp t))

def Good (N B : Nat) (R0 : RO) (ι0 : IM) (h0 : LH) (w0 : World) (s : LS) (h : LH) (a : Act) (w : World) : Prop :=
  ∃ R ι, Trans B R0 ι0 h0 w0 R ι h w ∧ ActOk N a s R ι h

section
variable {P : Program} {N B : Nat} {R R0 : RO} {ι ι0 : IM} {h h0 : LH} {w w0 : World} {s : LS} {a : Act}

theorem ActOk.mono {R' ι' h'} (hk : ActOk N a s R ι h) (m : Mono R ι h R' ι' h') : ActOk N a s R' ι' h' := ⟨hk.defers, hk.size, fun t => (hk.slots t).mono m⟩

theorem ActOk.put (hk : ActOk N a s R ι h) {d : Option Nat} {v : LV} {x : Value} (hd : (match d with | some d => decide (d < N) | none => true) = true) (hv : Rv R ι h v x) : ActOk N (a.put d x) (updO s d v) R ι h := by
  cases d with
  | none => exact hk
  | some d =>
    have hlt : d < N := by simpa using hd
    refine ⟨hk.defers, by simp [Act.put, hk.size], fun t => ?_⟩
    show Rv R ι h (upd s d v t) (((a.tmps.setIfInBounds d x)).getD t undef)
    rw [getD_set]
    unfold upd
    by_cases e : t = d
    · subst e
      rw [hk.size]
      simp [hlt, hv]
    · rw [if_neg e, if_neg (fun h => e h.1.symm)]
      exact hk.slots t

theorem eval_ok (hk : ActOk N a s R ι h) (x : Operand) : Rv R ι h (oev s x) (a.eval x) := rv_oev a hk.slots x

theorem tmps_get (hk : ActOk N a s R ι h) {t : Nat} (ht : t < N) : a.tmps[t]? = some (a.eval (.tmp t)) := by
  show a.tmps[t]? = some (a.tmps.getD t undef)
  rw [Array.getD_eq_getD_getElem?, Array.getElem?_eq_getElem (by rw [hk.size]; exact ht)]
  rfl

theorem yielded_ok (hk : ActOk N a s R ι h) {ops : Array Oper} {j t : Nat} {want : Bool} (hj : (ops[j]?).bind (·.dst) = some t) (ht : t < N) (hg : gOk (s t)) :
    (yielded ops a.tmps j == some want) = gOf want (s t) := by
  have hr := hk.slots t
  unfold yielded
  rw [hj]
  simp only [Option.bind_some, tmps_get hk ht]
  generalize s t = lv at *
  unfold gOk at hg
  split at hg
  · rw [hr.sc_inv.1]
    simp only [gOf]
    rename_i b
    cases b <;> cases want <;> rfl
  · rename_i g b
    cases g with
    | true =>
      have := (hr.cnd_inv rfl).sc_inv.1
      rw [this]
      simp only [gOf]
      cases b <;> cases want <;> rfl
    | false =>
      rw [hr.cnd_undef rfl]
      simp only [gOf, undef]
      rfl
  · exact hg.elim

theorem lops_ok {dr : Bool} {ops : Array Oper} {Q : Exit → Act → World → Prop} {K : LS → LH → Prop} (hQ : ∀ s h a w, Good N B R0 ι0 h0 w0 s h a w → K s h → Q .normal a w) :
    ∀ (idx : List Nat) (os : List Oper) (l : List LX), idx.filterMap (ops[·]?) = os → cOps dr P N ops os = some l → ∀ (s : LS) (h : LH) (a : Act) (w : World), Good N B R0 ι0 h0 w0 s h a w → lops P l K s h → wpOps P ops Q idx a w := by
  intro idx
  induction idx with
  | nil =>
    intro os l ho hc s h a w hg hl
    simp at ho; subst ho
    simp only [cOps, Option.some.injEq] at hc; subst hc
    exact hQ s h a w hg hl
  | cons i rest ih =>
    intro os l ho hc s h a w hg hl
    simp only [wpOps]
    cases hi : ops[i]? with
    | none =>
      simp only
      rw [List.filterMap_cons_none (by simpa using hi)] at ho
      exact ih os l ho hc s h a w hg hl
    | some o =>
      rw [List.filterMap_cons_some (by simpa using hi)] at ho
      subst ho
      simp only [cOps] at hc
      split at hc
      · rename_i g k l' hd hgd hk hr
        injection hc with hc
        subst hc
        simp only [lops] at hl
        obtain ⟨v, h', hstep, hnext⟩ := hl
        obtain ⟨R, ι, hT, hA⟩ := hg
        have hB : B ≤ w.heap.size := Nat.le_trans hT.size hT.below.size
        -- what follows a step that was taken
        have cont : ∀ (x : Value) (w' : World) (R' : RO) (ι' : IM), Trans B R ι h w R' ι' h' w' → Rv R' ι' h' v x → (LFact ⟨o.dst, g, k⟩ s) → wpOps P ops Q rest (a.put o.dst x) w' := by
          intro x w' R' ι' hT' hv hf
          exact ih _ l' rfl hr _ h' _ w' ⟨R', ι', hT.trans hT', (hA.mono hT'.mono).put hd hv⟩ (hnext hf)
        have fin : ∀ (q : LEf), cEf dr P o.op = some q → ∀ (v' : LV), eff P s h q v' h' → (∀ R' ι' x, Rv R' ι' h' v' x → Rv R' ι' h' v x) → LFact ⟨o.dst, g, k⟩ s → o.wp P a w (wpOps P ops Q rest) Q := by
          intro q hq v' he hvv hf
          unfold Oper.wp
          rcases eff_ok hT.rep hB (eval_ok hA) hq he with ⟨x, w', R', ι', hres, hT', hv⟩ | ⟨f, vs, hres, hcalls⟩
          · rcases hres with hres | ⟨hres, rfl⟩
            · rw [hres, Oper.upon_value]; exact cont x w' R' ι' hT' (hvv _ _ _ hv) hf
            · rw [hres, Oper.upon_skip]; exact cont undef w' R' ι' hT' (hvv _ _ _ hv) hf
          · rw [hres, Oper.upon_enter]
            refine hcalls.mono fun e w' hx => ?_
            obtain ⟨x, R', ι', rfl, hT', hv⟩ := hx
            exact cont x w' R' ι' hT' (hvv _ _ _ hv) hf
        have finP : ∀ (q : LOp), cOp P o.op = some q → pvc P true s h q → h' = h → (∀ x, Rv R ι h (pval s h q) x → Rv R ι h v x) → (pfact s q → LFact ⟨o.dst, g, k⟩ s) → o.wp P a w (wpOps P ops Q rest) Q := by
          intro q hq hvc hh hvv hf
          unfold Oper.wp
          obtain ⟨hfact, x, hres, hv⟩ := pop_ok hT.rep (eval_ok hA) hq hvc
          rw [hres, Oper.upon_value]
          subst hh
          exact cont x w R ι (Trans.refl hT.rep hB) (hvv _ hv) (hf hfact)
        cases hgo : o.guard with
        | none =>
          have hw : Region.wanted o (yielded ops a.tmps) = true := by simp [Region.wanted, hgo]
          simp only [hw, if_true]
          rw [hgo] at hgd
          injection hgd with hgd
          subst hgd
          left
          cases hq : cOp P o.op with
          | some q =>
            rw [hq] at hk
            injection hk with hk
            subst hk
            obtain ⟨h1, h2, h3⟩ := hstep
            exact finP q hq h1 h3 (fun x hx => by rw [h2]; exact hx) (fun hf => hf)
          | none =>
            rw [hq] at hk
            simp only [Option.map_eq_some_iff] at hk
            obtain ⟨q, hq', rfl⟩ := hk
            exact fin q hq' v hstep (fun _ _ _ hx => hx) trivial
        | some gw =>
          obtain ⟨j, want⟩ := gw
          rw [hgo] at hgd
          simp only at hgd
          split at hgd
          · rename_i t hjt
            split at hgd
            · rename_i htN
              injection hgd with hgd
              subst hgd
              have hgok : gOk (s t) := by
                unfold LStep at hstep
                split at hstep <;> simp_all
              have hyi := yielded_ok hA (want := want) hjt htN hgok
              have hw : Region.wanted o (yielded ops a.tmps) = gOf want (s t) := by
                simp only [Region.wanted, hgo]; exact hyi
              have hskip : gOf want (s t) = false → h' = h → (∀ R' ι', Rv R' ι' h v undef) → LFact ⟨o.dst, some (t, want), k⟩ s → wpOps P ops Q rest (a.put o.dst undef) w := by
                intro _ hh hv hf
                subst hh
                exact cont undef w R ι (Trans.refl hT.rep hB) (hv _ _) hf
              cases hq : cOp P o.op with
              | some q =>
                rw [hq] at hk
                injection hk with hk
                subst hk
                obtain ⟨h1, h2, h3, h4⟩ := hstep
                by_cases hgv : gOf want (s t) = true
                · simp only [hw, hgv, if_true]
                  left
                  rw [hgv] at h2
                  exact finP q hq h2 h4 (fun x hx => by rw [h3]; exact .cnd _ _ _ (fun _ => hx) (fun e => by rw [hgv] at e; simp at e)) (fun _ => trivial)
                · have hgf : gOf want (s t) = false := by simpa using hgv
                  simp only [hw, hgf, Bool.false_eq_true, if_false]
                  exact hskip hgf h4 (fun _ _ => by rw [h3]; exact .cnd _ _ _ (fun e => absurd e hgv) (fun _ => rfl)) trivial
              | none =>
                rw [hq] at hk
                simp only [Option.map_eq_some_iff] at hk
                obtain ⟨q, hq', rfl⟩ := hk
                obtain ⟨_, hstep⟩ := hstep
                rcases hstep with ⟨hgv, he⟩ | ⟨hgf, hv, hh⟩ | ⟨r', hv, hh, he⟩
                · simp only [hw, hgv, if_true]
                  left
                  exact fin q hq' v he (fun _ _ _ hx => hx) trivial
                · simp only [hw, hgf, Bool.false_eq_true, if_false]
                  exact hskip hgf hh (fun _ _ => by rw [hv]; exact .any _) trivial
                · by_cases hgv : gOf want (s t) = true
                  · simp only [hw, hgv, if_true]
                    left
                    exact fin q hq' r' (by rw [hh]; exact he hgv) (fun _ _ x hx => by rw [hv]; exact .cnd _ _ _ (fun _ => hx) (fun e => by rw [hgv] at e; simp at e)) trivial
                  · have hgf : gOf want (s t) = false := by simpa using hgv
                    simp only [hw, hgf, Bool.false_eq_true, if_false]
                    exact hskip hgf hh (fun _ _ => by rw [hv]; exact .cnd _ _ _ (fun e => absurd e hgv) (fun _ => rfl)) trivial
            · simp at hgd
          · simp at hgd
      · simp at hc

theorem filterMap_range (ops : Array Oper) : (List.range ops.size).filterMap (ops[·]?) = ops.toList := by
  have : ∀ n, n ≤ ops.size → ((List.range n).filterMap (ops[·]?)) = ops.toList.take n := by
    intro n
    induction n with
    | zero => intro _; simp
    | succ n ih =>
      intro hn
      rw [List.range_succ, List.filterMap_append, ih (by omega)]
      have hlt : n < ops.size := by omega
      rw [List.take_add_one]
      congr 1
      simp [hlt]
  rw [this ops.size (Nat.le_refl _), List.take_of_length_le (by simp)]

end
end Go.Proofs.YtdfiicpikcdokaaGreatDoor
namespace Go.Proofs.YtdfiicpikcdokaaGreatDoor
set_option linter.unusedSimpArgs false
set_option linter.unusedVariables false
open Go.RowKit

def opT : Operand → List Nat
  | .tmp t => [t]
  | _ => []
def opTo : Option Operand → List Nat
  | some x => opT x
  | none => []
def partT : List (Nat × Nat × Operand) → List Nat
  | [] => []
  | (_, _, x) :: r => opT x ++ partT r
def listT : List Operand → List Nat
  | [] => []
  | x :: r => opT x ++ listT r
def rdP : LOp → List Nat
  | .mov x => opT x
  | .pick c a b => opT c ++ (opT a ++ opT b)
  | .bin _ x y => opT x ++ opT y
  | .binb _ x y => opT x ++ opT y
  | .un _ x => opT x
  | .part _ _ x => opT x
  | .idxs x i => opT x ++ opT i
  | .idxa _ _ _ x i => opT x ++ opT i
  | .ext x _ => opT x
  | .bld _ ps => partT ps
  | .cvt _ x => opT x
  | .len _ x => opT x
  | .slc _ x lo hi => opT x ++ (opTo lo ++ opTo hi)
  | .slcs x lo hi => opT x ++ (opTo lo ++ opTo hi)
  | .fad _ x => opT x
  | .iad _ x i => opT x ++ opT i
  | .iada _ _ x i => opT x ++ opT i
  | .ld _ x => opT x
  | .mkf _ cs => listT cs
  | .nilc x => opT x
  | .eqa _ _ x y => opT x ++ opT y
  | .lkp _ _ _ m k => opT m ++ opT k
  | .ng0 y => opT y
  | .nile x => opT x
  | .nili _ x => opT x
  | .b2s x => opT x
  | .mx _ x y => opT x ++ opT y
def rdE : LEf → List Nat
  | .st _ x v => opT x ++ opT v
  | .alc _ => []
  | .box v => opT v
  | .mks _ _ _ _ l c => opT l ++ opT c
  | .bsl _ _ _ _ ps => partT ps
  | .bsr _ _ _ ps => partT ps
  | .app _ _ _ x y => opT x ++ opT y
  | .call _ al => listT al
  | .calv x al => opT x ++ listT al
  | .mkm => []
  | .mup _ m k v => opT m ++ (opT k ++ opT v)
  | .ext _ al => listT al
  | .ecl _ al => listT al
  | .bad => []
  | .alct _ _ => []
  | .aps _ _ x y => opT x ++ opT y
  | .s2b x => opT x
def rdX (o : LX) : List Nat :=
  (match o.g with | some (t, _) => [t] | none => []) ++ (match o.op with | .p q => rdP q | .e q => rdE q)

section
variable {P : Program} {s s' : LS} {h h' : LH}

theorem op1_congr {x : Operand} (hx : ∀ t, t ∈ opT x → s t = s' t) : oev s x = oev s' x := by
  cases x with
  | tmp t => exact hx t (by simp [opT])
  | _ => rfl
theorem opA {l m : List Nat} (hx : ∀ t, t ∈ l ++ m → s t = s' t) : (∀ t, t ∈ l → s t = s' t) ∧ ∀ t, t ∈ m → s t = s' t :=
  ⟨fun t ht => hx t (List.mem_append_left _ ht), fun t ht => hx t (List.mem_append_right _ ht)⟩
theorem opL_congr : ∀ {l : List (Nat × Nat × Operand)}, (∀ t, t ∈ partT l → s t = s' t) → opL s l = opL s' l ∧ ∀ g, opLC g s l = opLC g s' l
  | [], _ => ⟨rfl, fun _ => rfl⟩
  | (o, z, x) :: r, hx => by
    obtain ⟨h1, h2⟩ := opA hx
    obtain ⟨h3, h4⟩ := opL_congr h2
    have e := op1_congr h1
    exact ⟨by simp only [opL, op1, e, h3], fun g => by simp only [opLC, opC, e, h4]⟩
theorem listT_congr : ∀ {l : List Operand}, (∀ t, t ∈ listT l → s t = s' t) → ∀ x, x ∈ l → oev s x = oev s' x
  | [], _, x, hm => by simp at hm
  | y :: r, hx, x, hm => by
    obtain ⟨h1, h2⟩ := opA hx
    rcases List.mem_cons.1 hm with rfl | hm
    · exact op1_congr h1
    · exact listT_congr h2 x hm
theorem map_congr {l : List Operand} (hx : ∀ x, x ∈ l → oev s x = oev s' x) : l.map (op1 s) = l.map (op1 s') := by
  apply List.map_congr_left
  intro x hm
  simp only [op1, hx x hm]
theorem opTo_congr {o : Option Operand} (hx : ∀ t, t ∈ opTo o → s t = s' t) : o.map (op1 s) = o.map (op1 s') ∧ ∀ g y, o = some y → (opC g s y ↔ opC g s' y) := by
  cases o with
  | none => exact ⟨rfl, fun g y e => by simp at e⟩
  | some x =>
    have e := op1_congr (x := x) hx
    exact ⟨by simp only [Option.map_some, op1, e], fun g y h => by injection h with h; subst h; simp only [opC, e]⟩

theorem pop_congr {q : LOp} (hx : ∀ t, t ∈ rdP q → s t = s' t) : pval s h q = pval s' h q ∧ ∀ g, pvc P g s h q → pvc P g s' h q := by
  cases q with
  | mov x => have e := op1_congr hx; exact ⟨by simp only [pval, op1, e], fun g => by simp only [pvc, opC, e]; exact id⟩
  | pick c a b =>
    obtain ⟨h1, h2⟩ := opA hx
    obtain ⟨h2, h3⟩ := opA h2
    have e1 := op1_congr h1; have e2 := op1_congr h2; have e3 := op1_congr h3
    exact ⟨by simp only [pval, op1, e1, e2, e3], fun g => by simp only [pvc, opC, op1, e1, e2, e3]; exact id⟩
  | bin o x y => obtain ⟨h1, h2⟩ := opA hx; have e1 := op1_congr h1; have e2 := op1_congr h2; exact ⟨by simp only [pval, op1, e1, e2], fun g => by simp only [pvc, opC, op1, e1, e2]; exact id⟩
  | binb o x y => obtain ⟨h1, h2⟩ := opA hx; have e1 := op1_congr h1; have e2 := op1_congr h2; exact ⟨by simp only [pval, op1, e1, e2], fun g => by simp only [pvc, opC, op1, e1, e2]; exact id⟩
  | un o x => have e := op1_congr hx; exact ⟨by simp only [pval, op1, e], fun g => by simp only [pvc, opC, op1, e]; exact id⟩
  | part o n x => have e := op1_congr hx; exact ⟨by simp only [pval, op1, e], fun g => by simp only [pvc, opC, op1, e]; exact id⟩
  | idxs x y => obtain ⟨h1, h2⟩ := opA hx; have e1 := op1_congr h1; have e2 := op1_congr h2; exact ⟨by simp only [pval, op1, e1, e2], fun g => by simp only [pvc, opC, op1, e1, e2]; exact id⟩
  | idxa l z n x y => obtain ⟨h1, h2⟩ := opA hx; have e1 := op1_congr h1; have e2 := op1_congr h2; exact ⟨by simp only [pval, op1, e1, e2], fun g => by simp only [pvc, opC, op1, e1, e2]; exact id⟩
  | ext x i => have e := op1_congr hx; exact ⟨by simp only [pval, op1, e], fun g => by simp only [pvc, opC, op1, e]; exact id⟩
  | bld z ps => obtain ⟨h1, h2⟩ := opL_congr hx; exact ⟨by simp only [pval, h1], fun g => by simp only [pvc, h1, h2]; exact id⟩
  | cvt k x => have e := op1_congr hx; exact ⟨by simp only [pval, op1, e], fun g => by simp only [pvc, opC, op1, e]; exact id⟩
  | len k x => have e := op1_congr hx; exact ⟨by simp only [pval, op1, e], fun g => by simp only [pvc, opC, op1, e]; exact id⟩
  | slc z x lo hi =>
    obtain ⟨h1, h2⟩ := opA hx
    obtain ⟨h2, h3⟩ := opA h2
    have e1 := op1_congr h1
    obtain ⟨a1, a2⟩ := opTo_congr h2
    obtain ⟨b1, b2⟩ := opTo_congr h3
    refine ⟨by simp only [pval, a1, b1]; simp only [op1, e1], fun g => ?_⟩
    rintro ⟨g1, g2, g3, g4⟩
    refine ⟨by simpa only [opC, e1] using g1, fun y hy => (a2 g y hy).1 (g2 y hy), fun y hy => (b2 g y hy).1 (g3 y hy), ?_⟩
    rw [← a1, ← b1]
    simpa only [op1, e1] using g4
  | slcs x lo hi =>
    obtain ⟨h1, h2⟩ := opA hx
    obtain ⟨h2, h3⟩ := opA h2
    have e1 := op1_congr h1
    obtain ⟨a1, a2⟩ := opTo_congr h2
    obtain ⟨b1, b2⟩ := opTo_congr h3
    refine ⟨by simp only [pval, a1, b1]; simp only [op1, e1], fun g => ?_⟩
    rintro ⟨g1, g2, g3, g4⟩
    refine ⟨by simpa only [opC, e1] using g1, fun y hy => (a2 g y hy).1 (g2 y hy), fun y hy => (b2 g y hy).1 (g3 y hy), ?_⟩
    rw [← a1, ← b1]
    simpa only [op1, e1] using g4
  | fad o x => have e := op1_congr hx; exact ⟨by simp only [pval, op1, e], fun g => by simp only [pvc, opC, op1, e]; exact id⟩
  | iad z x y => obtain ⟨h1, h2⟩ := opA hx; have e1 := op1_congr h1; have e2 := op1_congr h2; exact ⟨by simp only [pval, op1, e1, e2], fun g => by simp only [pvc, opC, op1, e1, e2]; exact id⟩
  | iada l z x y => obtain ⟨h1, h2⟩ := opA hx; have e1 := op1_congr h1; have e2 := op1_congr h2; exact ⟨by simp only [pval, op1, e1, e2], fun g => by simp only [pvc, opC, op1, e1, e2]; exact id⟩
  | ld n x => have e := op1_congr hx; exact ⟨by simp only [pval, op1, e], fun g => by simp only [pvc, opC, op1, e]; exact id⟩
  | mkf f cs =>
    have e := listT_congr hx
    exact ⟨by simp only [pval, map_congr e], fun g hg x hm => by have := hg x hm; unfold opC at this ⊢; rw [← e x hm]; exact this⟩
  | nilc x => have e := op1_congr hx; exact ⟨by simp only [pval, op1, e], fun g => by simp only [pvc, opC, op1, e]; exact id⟩
  | eqa k n x y => obtain ⟨h1, h2⟩ := opA hx; have e1 := op1_congr h1; have e2 := op1_congr h2; exact ⟨by simp only [pval, op1, e1, e2], fun g => by simp only [pvc, opC, op1, e1, e2]; exact id⟩
  | nile x => have e := op1_congr hx; exact ⟨by simp only [pval, op1, e], fun g => by simp only [pvc, opC, op1, e]; exact id⟩
  | nili n x => have e := op1_congr hx; exact ⟨by simp only [pval, op1, e], fun g => by simp only [pvc, opC, op1, e]; exact id⟩
  | mx m x y => obtain ⟨h1, h2⟩ := opA hx; have e1 := op1_congr h1; have e2 := op1_congr h2; exact ⟨by simp only [pval, op1, e1, e2], fun g => by simp only [pvc, opC, op1, e1, e2]; exact id⟩
  | b2s x => have e := op1_congr hx; exact ⟨by simp only [pval, op1, e], fun g => by simp only [pvc, opC, op1, e]; exact id⟩
  | ng0 x => have e := op1_congr hx; exact ⟨by simp only [pval, op1, e], fun g => by simp only [pvc, opC, op1, e]; exact id⟩
  | lkp kt z o m k => obtain ⟨h1, h2⟩ := opA hx; have e1 := op1_congr h1; have e2 := op1_congr h2; exact ⟨by simp only [pval, op1, e1, e2], fun g => by simp only [pvc, opC, op1, e1, e2]; exact id⟩


theorem eff_congr {q : LEf} {r : LV} (hx : ∀ t, t ∈ rdE q → s t = s' t) (he : eff P s h q r h') : eff P s' h q r h' := by
  cases q with
  | st n x v => obtain ⟨h1, h2⟩ := opA hx; have e1 := op1_congr h1; have e2 := op1_congr h2; simpa only [eff, opC, op1, e1, e2] using he
  | alc z => exact he
  | box v => have e := op1_congr hx; simpa only [eff, opC, op1, e] using he
  | mks kd z zr b l c => obtain ⟨h1, h2⟩ := opA hx; have e1 := op1_congr h1; have e2 := op1_congr h2; simpa only [eff, opC, op1, e1, e2] using he
  | bsl kd l z zr ps => obtain ⟨h1, h2⟩ := opL_congr hx; simpa only [eff, h1, h2] using he
  | bsr l z zr ps => obtain ⟨h1, h2⟩ := opL_congr hx; simpa only [eff, h1, h2] using he
  | app kd z b x y => obtain ⟨h1, h2⟩ := opA hx; have e1 := op1_congr h1; have e2 := op1_congr h2; simpa only [eff, opC, op1, e1, e2] using he
  | call f al =>
    have e := listT_congr hx
    obtain ⟨g1, g2⟩ := he
    exact ⟨fun x hm => by have := g1 x hm; unfold opC at this ⊢; rw [← e x hm]; exact this, by rw [← map_congr e]; exact g2⟩
  | calv x al =>
    obtain ⟨h1, h2⟩ := opA hx
    have e1 := op1_congr h1
    have e := listT_congr h2
    obtain ⟨g0, g1, g2, g3, g4⟩ := he
    have eo : op1 s' x = op1 s x := by simp only [op1, e1]
    refine ⟨by unfold opC at g0 ⊢; rw [← e1]; exact g0, fun x hm => by have := g1 x hm; unfold opC at this ⊢; rw [← e x hm]; exact this, by rw [eo]; exact g2, by rw [eo]; exact g3, by rw [eo, ← map_congr e]; exact g4⟩
  | mkm => exact he
  | bad => exact he
  | s2b x => have e := op1_congr hx; simpa only [eff, opC, op1, e] using he
  | alct t z => exact he
  | aps el b x y => obtain ⟨h1, h2⟩ := opA hx; have e1 := op1_congr h1; have e2 := op1_congr h2; simpa only [eff, opC, op1, e1, e2] using he
  | ecl f al =>
    have e := listT_congr hx
    obtain ⟨g1, g2, g3⟩ := he
    exact ⟨fun x hm => by have := g1 x hm; unfold opC at this ⊢; rw [← e x hm]; exact this, by rw [← map_congr e]; exact g2, g3⟩
  | ext f al =>
    have e := listT_congr hx
    obtain ⟨g1, g2, g3⟩ := he
    exact ⟨fun x hm => by have := g1 x hm; unfold opC at this ⊢; rw [← e x hm]; exact this, by rw [← map_congr e]; exact g2, g3⟩
  | mup kt m k v =>
    obtain ⟨h1, h2⟩ := opA hx
    obtain ⟨h2, h3⟩ := opA h2
    have e1 := op1_congr h1; have e2 := op1_congr h2; have e3 := op1_congr h3
    simpa only [eff, opC, op1, e1, e2, e3] using he

theorem LStep_congr {o : LX} {r : LV} (hx : ∀ t, t ∈ rdX o → s t = s' t) (hs : LStep P o s h r h') : LStep P o s' h r h' := by
  obtain ⟨d, g, op⟩ := o
  obtain ⟨h1, h2⟩ := opA hx
  unfold LStep at hs ⊢
  cases g with
  | none =>
    cases op with
    | p q => obtain ⟨e1, e2⟩ := pop_congr (h := h) h2; obtain ⟨a, b, c⟩ := hs; exact ⟨e2 true a, by rw [← e1]; exact b, c⟩
    | e q => exact eff_congr h2 hs
  | some gw =>
    obtain ⟨t, w⟩ := gw
    have et : s t = s' t := h1 t (by simp)
    cases op with
    | p q =>
      obtain ⟨e1, e2⟩ := pop_congr (h := h) h2
      obtain ⟨a, b, c, d⟩ := hs
      rw [et] at a b c
      exact ⟨a, e2 _ b, by rw [← e1]; exact c, d⟩
    | e q =>
      obtain ⟨a, b⟩ := hs
      rw [et] at a b
      refine ⟨a, ?_⟩
      rcases b with ⟨b1, b2⟩ | b | ⟨r', b1, b2, b3⟩
      · exact .inl ⟨b1, eff_congr h2 b2⟩
      · exact .inr (.inl b)
      · exact .inr (.inr ⟨r', b1, b2, fun hg => eff_congr h2 (b3 hg)⟩)
end

def ancStep (acc : List Nat) (o : Oper) : Nat := o.after.toList.foldl (fun m e => bif Region.binds .any e then m ||| (2 ^ e.on ||| acc.getD e.on 0) else m) 0
def ancGo : List Oper → List Nat → List Nat
  | [], acc => acc
  | o :: r, acc => ancGo r (acc ++ [ancStep acc o])
def anc (ops : Array Oper) (_ : Nat) (i j : Nat) : Bool := ((ancGo ops.toList []).getD i 0).testBit j
def clash (a b : LX) : Bool :=
  (match a.dst with | some d => (rdX b).contains d || b.dst == some d | none => false) || (match b.dst with | some d => (rdX a).contains d | none => false)
def freeP : LOp → Bool
  | .len .. | .iad .. | .ld .. | .lkp .. | .nile .. => false
  | _ => true
def isFree (o : LX) : Bool := match o.op with
  | .p q => freeP q
  | .e _ => false
def isExt (o : LX) : Bool := match o.op with
  | .p _ => true
  | .e (.call ..) | .e (.ext ..) => true
  | _ => false
def isAl (o : LX) : Bool := match o.g, o.op with
  | none, .e (.alc ..) | none, .e (.box ..) | none, .e (.mks ..) | none, .e (.bsl ..) | none, .e .mkm => true
  | _, _ => false
def isWr (o : LX) : Bool := match o.op with
  | .e (.st ..) | .e (.alct ..) | .e (.aps ..) | .e (.alc ..) | .e (.box ..) | .e (.mks ..) | .e (.bsl ..) | .e (.app ..) | .e .mkm | .e (.mup ..) => true
  | _ => false
def eE : LEf → LEf
  | .call f al => .ecl f al
  | q => q
def kE : LK → LK
  | .p q => .p q
  | .e q => .e (eE q)
def toE (o : LX) : LX := ⟨o.dst, o.g, kE o.op⟩
def floats (ops : Array Oper) (m : Nat) (tl : Nat → Bool) (i : Nat) : Bool := (List.range m).any fun j => tl j && !anc ops ops.size j i
def preX (ops : Array Oper) (l : List LX) (tl : Nat → Bool) : List LX := ((List.range l.length).filter (fun i => !tl i)).filterMap fun i => (l[i]?).map fun o => if floats ops l.length tl i then toE o else o
def linE (ops : Array Oper) : Nat → List Nat → List (List Nat)
  | 0, rem => if rem.isEmpty then [[]] else []
  | f + 1, rem => if rem.isEmpty then [[]] else rem.flatMap fun j => if rem.all (fun i => i == j || !anc ops ops.size j i) then (linE ops f (rem.erase j)).map (j :: ·) else []
def sufsX (ops : Array Oper) (l : List LX) (tl : Nat → Bool) : List (List LX) := (linE ops l.length ((List.range l.length).filter tl)).map fun r => r.filterMap (l[·]?)
def drawOk (P : Program) (ops : Array Oper) (l : List LX) (tl : Nat → Bool) : Bool :=
  (P.follows .mixedOrders || !Region.departs ops) &&
  (List.range ops.size).all (fun i => match ops[i]? with
    | some o => o.after.all fun e => !Region.binds .any e || decide (e.on < i)
    | none => true) &&
  (List.range l.length).all (fun j => (List.range j).all fun i => match l[i]?, l[j]? with
    | some a, some b => !clash a b || anc ops ops.size j i
    | _, _ => true) &&
  (List.range l.length).all (fun j => !tl j || (List.range l.length).all fun i => tl i || (anc ops ops.size j i || match l[i]?, l[j]? with
    | some a, some b => isFree a || (isAl b && isExt a)
    | _, _ => true)) &&
  (List.range l.length).all (fun j => tl j || (List.range j).all fun i => !tl i || !anc ops ops.size j i)
def isP (o : LX) : Bool := match o.op with
  | .p _ => true
  | _ => false
def drawOkR (P : Program) (ops : Array Oper) (l : List LX) (tl : Nat → Bool) : Bool :=
  (P.follows .mixedOrders || !Region.departs ops) &&
  (List.range ops.size).all (fun i => match ops[i]? with
    | some o => o.after.all fun e => !Region.binds .any e || decide (e.on < i)
    | none => true) &&
  (List.range l.length).all (fun j => (List.range j).all fun i => match l[i]?, l[j]? with
    | some a, some b => !clash a b || anc ops ops.size j i
    | _, _ => true) &&
  (List.range l.length).all (fun j => !tl j || (List.range l.length).all fun i => tl i || (anc ops ops.size j i || match l[i]?, l[j]? with
    | some a, some b => isFree a || (isP b || (isAl b && isExt a))
    | _, _ => true)) &&
  (List.range l.length).all (fun j => tl j || (List.range j).all fun i => !tl i || !anc ops ops.size j i)
def tlF (ops : Array Oper) (l : List LX) (n : Nat) : List Nat :=
  (List.range l.length).foldl (fun T j => if decide (n ≤ j) && !((match l[j]? with | some o => isFree o | none => false) && T.all fun i => !anc ops ops.size j i) then T ++ [j] else T) []
def openP (ops : Array Oper) (T : List Nat) : Nat := (T.map fun j => (T.filter fun i => decide (i < j) && !anc ops ops.size j i).length).sum
def drawAt (P : Program) (ops : Array Oper) (l : List LX) : Option (List Nat) :=
  let w := l.findIdx isWr
  let suf := fun n => (List.range l.length).filter (fun i => decide (n ≤ i))
  let ok := fun (m : Nat) (T : List Nat) => drawOk P ops l T.contains && decide (T.length ≤ 8) && (List.range l.length).all (fun i => T.contains i || match l[i]? with | some o => !isWr o | none => true) && decide ((sufsX ops l T.contains).length ≤ m)
  match (((match decide (w < l.length), l[l.length - 2]? with | false, some ⟨_, none, .e (.call f _)⟩ => (if tailCalls.contains f then [l.length - 2] else []) | _, _ => []) ++ (if w + 1 < l.length then [w, l.length - 1] else [l.length - 1]) ++ (if w < l.length then [w - 1, w - 2, w - 3, w - 4] else [])).map suf).find? (ok 6) with
  | some T => some T
  | none => match (if w < l.length then (List.range (w + 1)).reverse.map (tlF ops l) else []).find? (ok 12) with
    | some T => some T
    | none =>
      let T3 := (List.range l.length).foldl (fun T j => if j == w || (!anc ops ops.size w j && !((match l[j]? with | some o => isFree o | none => false) && T.all fun i => !anc ops ops.size j i)) then T ++ [j] else T) []
      if decide (w < l.length) && (drawOkR P ops l T3.contains && decide (T3.length ≤ 8) && (List.range l.length).all (fun i => T3.contains i || match l[i]? with | some o => !isWr o | none => true) && decide ((sufsX ops l T3.contains).length ≤ 12)) then some T3
      else if decide (w < l.length) && (drawOkR P ops l (suf w).contains && decide ((suf w).length ≤ 12) && decide (openP ops (suf w) ≤ 6) && decide ((sufsX ops l (suf w).contains).length ≤ 6)) then some (suf w)
      else if decide (w < l.length) && (drawOkR P ops l T3.contains && decide (T3.length ≤ 8) && (List.range l.length).all (fun i => T3.contains i || match l[i]? with | some o => !isWr o | none => true) && decide ((sufsX ops l T3.contains).length ≤ 40)) then some T3
      else
        let w2 := l.findIdx fun o => isWr o && !isAl o
        let T4 := (List.range l.length).foldl (fun T j => if (match l[j]? with | some o => isWr o | none => false) || (!anc ops ops.size w2 j && !((match l[j]? with | some o => isFree o | none => false) && T.all fun i => !anc ops ops.size j i)) then T ++ [j] else T) []
        if decide (w2 < l.length) && (drawOkR P ops l T4.contains && decide (T4.length ≤ 8) && decide ((sufsX ops l T4.contains).length ≤ 40)) then some T4
        else if drawOk P ops l (fun _ => false) then some [] else none

def Valid (ops : Array Oper) (l : List Nat) : Prop := ∀ p i q, l = p ++ i :: q → ∀ o, ops[i]? = some o → ∀ e, e ∈ o.after → Region.binds .any e = true → e.on ∈ p

theorem ancStep_mem {acc : List Nat} {j : Nat} : ∀ (es : List Edge) (m : Nat), (es.foldl (fun m e => bif Region.binds .any e then m ||| (2 ^ e.on ||| acc.getD e.on 0) else m) m).testBit j = true →
    m.testBit j = true ∨ ∃ e, e ∈ es ∧ Region.binds .any e = true ∧ (e.on = j ∨ (acc.getD e.on 0).testBit j = true)
  | [], m, h => .inl h
  | e :: r, m, h => by
    simp only [List.foldl_cons] at h
    rcases ancStep_mem r _ h with h1 | ⟨e', h1, h2, h3⟩
    · cases hb : Region.binds .any e
      · rw [hb] at h1; exact .inl h1
      · rw [hb] at h1
        simp only [cond_true, Nat.testBit_or, Bool.or_eq_true, Nat.testBit_two_pow, decide_eq_true_eq] at h1
        rcases h1 with h1 | h1 | h1
        · exact .inl h1
        · exact .inr ⟨e, by simp, hb, .inl h1⟩
        · exact .inr ⟨e, by simp, hb, .inr h1⟩
    · exact .inr ⟨e', by simp [h1], h2, h3⟩
theorem ancGo_ok {ops : Array Oper} {l : List Nat} (hv : Valid ops l) : ∀ (r : List Oper) (acc d : List Oper) (ac : List Nat), ops.toList = d ++ r → ac.length = d.length →
    (∀ i j, (ac.getD i 0).testBit j = true → ∀ p q, l = p ++ i :: q → j ∈ p) → ∀ i j, ((ancGo r ac).getD i 0).testBit j = true → ∀ p q, l = p ++ i :: q → j ∈ p
  | [], _, d, ac, _, _, h => h
  | o :: r, acc, d, ac, hd, hl, h => by
    refine ancGo_ok hv r acc (d ++ [o]) (ac ++ [ancStep ac o]) (by rw [hd]; simp) (by simp [hl]) ?_
    intro i j hb p q hlq
    by_cases hi : i < ac.length
    · refine h i j ?_ p q hlq
      rw [List.getD_eq_getElem?_getD, List.getElem?_append_left hi, ← List.getD_eq_getElem?_getD] at hb
      exact hb
    · by_cases hi2 : i = ac.length
      · subst hi2
        rw [List.getD_eq_getElem?_getD, List.getElem?_append_right (Nat.le_refl _), Nat.sub_self] at hb
        simp only [List.getElem?_cons_zero, Option.getD_some] at hb
        have ho : ops[ac.length]? = some o := by
          rw [← Array.getElem?_toList, hd, List.getElem?_append_right (by omega), hl, Nat.sub_self]; rfl
        rcases ancStep_mem _ _ hb with h1 | ⟨e, h1, h2, h3⟩
        · simp at h1
        · have he := hv p _ q hlq o ho e (by simpa using h1) h2
          rcases h3 with rfl | h3
          · exact he
          · obtain ⟨p1, p2, rfl⟩ := List.append_of_mem he
            have := h _ _ h3 p1 (p2 ++ ac.length :: q) (by rw [hlq]; simp)
            simp [this]
      · rw [List.getD_eq_getElem?_getD, List.getElem?_eq_none (by simp; omega)] at hb
        simp at hb
theorem Valid.anc {ops : Array Oper} {l : List Nat} (hv : Valid ops l) (f i j : Nat) (h : anc ops f i j = true) : ∀ p q, l = p ++ i :: q → j ∈ p :=
  ancGo_ok hv ops.toList [] [] [] rfl rfl (fun i j hb => by simp at hb) i j h

section
variable {ops : Array Oper}

theorem sub_len : ∀ (l m : List Nat), l.Nodup → l ⊆ m → l.length ≤ m.length
  | [], _, _, _ => Nat.zero_le _
  | x :: r, m, hn, hs => by
    have hx : x ∈ m := hs (by simp)
    obtain ⟨h1, h2⟩ := List.nodup_cons.1 hn
    have := sub_len r (m.erase x) h2 (fun y hy => by
      have hne : y ≠ x := fun e => h1 (e ▸ hy)
      exact (List.mem_erase_of_ne hne).2 (hs (by simp [hy])))
    rw [List.length_erase_of_mem hx] at this
    have hpos := List.length_pos_of_mem hx
    simp only [List.length_cons]
    omega

theorem exists_new {n : Nat} {acc : List Nat} (hn : acc.Nodup) (hl : acc.length < n) : ∃ i, i < n ∧ i ∉ acc ∧ ∀ j, j < i → j ∈ acc := by
  have : ∃ i, i < n ∧ i ∉ acc := by
    rcases Classical.em (∃ i, i < n ∧ i ∉ acc) with h | h
    · exact h
    · exfalso
      have hsub : List.range n ⊆ acc := by
        intro i hi
        rcases Classical.em (i ∈ acc) with h1 | h1
        · exact h1
        · exact absurd ⟨i, List.mem_range.1 hi, h1⟩ h
      have := sub_len (List.range n) acc List.nodup_range hsub
      simp at this; omega
  obtain ⟨i, h1, h2⟩ := this
  induction i using Nat.strongRecOn with
  | _ i ih =>
    rcases Classical.em (∃ j, j < i ∧ j ∉ acc) with h | h
    · obtain ⟨j, hj, hja⟩ := h
      exact ih j hj (by omega) hja
    · refine ⟨i, h1, h2, fun j hj => ?_⟩
      rcases Classical.em (j ∈ acc) with h3 | h3
      · exact h3
      · exact absurd ⟨j, hj, h3⟩ h

theorem lin_go (hb : ∀ i o, ops[i]? = some o → ∀ e, e ∈ o.after → Region.binds .any e = true → e.on < i) : ∀ (fuel t : Nat) (listed : Array Bool) (acc : List Nat),
    listed.size = ops.size → (∀ i, i < ops.size → (listed.getD i true = true ↔ i ∈ acc)) → acc.Nodup → (∀ i, i ∈ acc → i < ops.size) → acc.length + fuel = ops.size → Valid ops acc.reverse →
    ∃ r, Region.linearise.go .any ops fuel t listed acc = r ∧ r.Nodup ∧ (∀ i, i ∈ r → i < ops.size) ∧ r.length = ops.size ∧ Valid ops r := by
  intro fuel
  induction fuel with
  | zero =>
    intro t listed acc _ _ h3 h4 h5 h6
    exact ⟨acc.reverse, rfl, (by simpa [List.Nodup, List.pairwise_reverse, ne_comm] using h3), fun i hi => h4 i (by simpa using hi), by simp; omega, h6⟩
  | succ fuel ih =>
    intro t listed acc h1 h2 h3 h4 h5 h6
    obtain ⟨i0, g1, g2, g3⟩ := exists_new h3 (show acc.length < ops.size by omega)
    have hfalse : ∀ i, i < ops.size → (listed.getD i false = true ↔ i ∈ acc) := by
      intro i hi
      rw [← h2 i hi]
      simp only [Array.getD_eq_getD_getElem?]
      rw [Array.getElem?_eq_getElem (by omega)]
      simp
    simp only [Region.linearise.go]
    generalize hrs : (List.range ops.size).filter (fun i => !listed.getD i true && ((ops[i]?).map (·.after.all fun e => !Region.binds .any e || listed.getD e.on false)).getD false) = rs
    have hmem : ∀ i, i ∈ rs ↔ i < ops.size ∧ i ∉ acc ∧ ∃ o, ops[i]? = some o ∧ ∀ e, e ∈ o.after → Region.binds .any e = true → listed.getD e.on false = true := by
      intro i
      rw [← hrs]
      simp only [List.mem_filter, List.mem_range, Bool.and_eq_true, Bool.not_eq_true']
      constructor
      · rintro ⟨a, b, c⟩
        refine ⟨a, fun hm => ?_, ?_⟩
        · have := (h2 i a).2 hm
          rw [this] at b; simp at b
        · cases ho : ops[i]? with
          | none => rw [ho] at c; simp at c
          | some o =>
            rw [ho] at c
            simp only [Option.map_some, Option.getD_some, Array.all_eq_true, Bool.or_eq_true, Bool.not_eq_true'] at c
            refine ⟨o, rfl, fun e he hbe => ?_⟩
            obtain ⟨x, hx, rfl⟩ := Array.getElem_of_mem he
            rcases c x hx with c | c
            · rw [hbe] at c; simp at c
            · exact c
      · rintro ⟨a, b, o, ho, c⟩
        refine ⟨a, ?_, ?_⟩
        · cases hq : listed.getD i true with
          | false => rfl
          | true => exact absurd ((h2 i a).1 hq) b
        · rw [ho]
          simp only [Option.map_some, Option.getD_some, Array.all_eq_true, Bool.or_eq_true, Bool.not_eq_true']
          intro x hx
          cases hbx : Region.binds .any o.after[x] with
          | false => exact .inl rfl
          | true => exact .inr (c _ (Array.getElem_mem hx) hbx)
    have hi0 : i0 ∈ rs := by
      rw [hmem]
      refine ⟨g1, g2, ops[i0], Array.getElem?_eq_getElem g1, fun e he hbe => ?_⟩
      have := hb i0 _ (Array.getElem?_eq_getElem g1) e he hbe
      exact (hfalse _ (by omega)).2 (g3 _ this)
    have hpos : 0 < rs.length := List.length_pos_of_mem hi0
    have hlt : t % rs.length < rs.length := Nat.mod_lt _ hpos
    rw [List.getElem?_eq_getElem hlt]
    simp only
    have hpick := (hmem _).1 (List.getElem_mem hlt)
    generalize rs[t % rs.length] = i at hpick
    obtain ⟨p1, p2, o, ho, p3⟩ := hpick
    refine ih _ _ (i :: acc) (by simpa using h1) (fun j hj => ?_) (List.nodup_cons.2 ⟨p2, h3⟩) (fun j hj => ?_) (by simp; omega) ?_
    · simp only [Array.getD_eq_getD_getElem?, Array.getElem?_setIfInBounds]
      by_cases e : i = j
      · subst e; simp [h1, hj]
      · simp only [e, if_false]
        have := h2 j hj
        simp only [Array.getD_eq_getD_getElem?] at this
        rw [this]
        simp [show ¬ j = i from fun h => e h.symm]
    · rcases List.mem_cons.1 hj with rfl | hj
      · exact p1
      · exact h4 j hj
    · intro p k q hpq o' ho' e he hbe
      rw [List.reverse_cons] at hpq
      rcases List.eq_nil_or_concat q with rfl | ⟨q', x, rfl⟩
      · have := List.append_inj' hpq rfl
        obtain ⟨e1, e2⟩ := this
        injection e2 with e2
        subst e2
        rw [ho] at ho'
        injection ho' with ho'
        subst ho'
        have := p3 e he hbe
        have hlt2 := hb _ _ ho e he hbe
        rw [← e1]
        simp only [List.mem_reverse]
        exact (hfalse _ (by omega)).1 this
      · have e3 : acc.reverse = p ++ k :: q' := by
          have : acc.reverse ++ [i] = (p ++ k :: q') ++ [x] := by rw [hpq]; simp
          exact (List.append_inj' this rfl).1
        exact h6 p k q' e3 o' ho' e he hbe

theorem sched_ok {P : Program} (hd : P.follows .mixedOrders || !Region.departs ops) (hb : ∀ i o, ops[i]? = some o → ∀ e, e ∈ o.after → Region.binds .any e = true → e.on < i) (t : Nat) :
    (Region.schedule (P.follows .mixedOrders) ops t).Nodup ∧ (∀ i, i ∈ Region.schedule (P.follows .mixedOrders) ops t → i < ops.size) ∧ (Region.schedule (P.follows .mixedOrders) ops t).length = ops.size ∧ Valid ops (Region.schedule (P.follows .mixedOrders) ops t) := by
  unfold Region.schedule
  rw [if_pos hd]
  unfold Region.linearise
  obtain ⟨r, h1, h2⟩ := lin_go hb ops.size t (Array.replicate ops.size false) [] (by simp) (fun i hi => by
    simp only [Array.getD_eq_getD_getElem?]; simp [hi]) List.nodup_nil (fun i hi => by simp at hi) (by simp) (fun p i q hl => by simp at hl)
  rw [h1]
  exact h2
end
end Go.Proofs.YtdfiicpikcdokaaGreatDoor
namespace Go.Proofs.YtdfiicpikcdokaaGreatDoor
set_option linter.unusedSimpArgs false
set_option linter.unusedVariables false
open Go.RowKit

def lopsE (P : Program) : List LX → (LS → LH → Prop) → LS → LH → Prop
  | [], K, s, h => K s h
  | o :: r, K, s, h => ∃ v h', LStep P o s h v h' ∧ lopsE P r K (updO s o.dst v) h'
def lopsA (P : Program) : List (List LX) → (LS → LH → Prop) → LS → LH → Prop
  | [], _, _, _ => True
  | x :: r, K, s, h => lopsE P x K s h ∧ lopsA P r K s h
def lopsD (P : Program) : List LX → List (List LX) → (LS → LH → Prop) → LS → LH → Prop
  | [], sufs, K, s, h => lopsA P sufs K s h
  | o :: r, sufs, K, s, h => ∃ v, LStep P o s h v h ∧ lopsD P r sufs K (updO s o.dst v) h
theorem lopsA_mem {P : Program} {K : LS → LH → Prop} {s : LS} {h : LH} {x : List LX} : ∀ {l : List (List LX)}, lopsA P l K s h → x ∈ l → lopsE P x K s h
  | [], _, hx => by simp at hx
  | y :: r, hl, hx => by
    rcases List.mem_cons.1 hx with rfl | hx
    · exact hl.1
    · exact lopsA_mem hl.2 hx

def stp (l : List LX) (vs : Nat → LV) (s : LS) (i : Nat) : LS :=
  match l[i]? with
  | some o => updO s o.dst (vs i)
  | none => s
def sOf (l : List LX) (vs : Nat → LV) (s : LS) : List Nat → LS
  | D => D.foldl (stp l vs) s

section
variable {P : Program} {l : List LX} {vs : Nat → LV} {s : LS} {h : LH} {K : LS → LH → Prop}

theorem sOf_snoc (D : List Nat) (i : Nat) : sOf l vs s (D ++ [i]) = stp l vs (sOf l vs s D) i := by simp [sOf]
theorem sOf_congr {vs' : Nat → LV} : ∀ (D : List Nat) (s : LS), (∀ i, i ∈ D → vs i = vs' i) → sOf l vs s D = sOf l vs' s D
  | [], _, _ => rfl
  | i :: D, s, hv => by
    have e : stp l vs s i = stp l vs' s i := by unfold stp; rw [hv i (by simp)]
    show sOf l vs (stp l vs s i) D = sOf l vs' (stp l vs' s i) D
    rw [e]
    exact sOf_congr D _ (fun j hj => hv j (by simp [hj]))

theorem rec_of : ∀ (b D : List Nat) (vs : Nat → LV) (h1 : LH), (D ++ b).Nodup → (∀ i, i ∈ b → i < l.length) → lopsE P (b.filterMap (l[·]?)) K (sOf l vs s D) h1 →
    ∃ (vs' : Nat → LV) (H : Nat → LH), (∀ i, i ∈ D → vs' i = vs i) ∧ H 0 = h1 ∧ (∀ m j, b[m]? = some j → ∃ o, l[j]? = some o ∧ LStep P o (sOf l vs' s (D ++ b.take m)) (H m) (vs' j) (H (m + 1))) ∧
      K (sOf l vs' s (D ++ b)) (H b.length) := by
  intro b
  induction b with
  | nil =>
    intro D vs h1 hn hb hD
    exact ⟨vs, fun _ => h1, fun _ _ => rfl, rfl, fun m j h => by simp at h, by rw [List.append_nil]; exact hD⟩
  | cons j b ih =>
    intro D vs h1 hn hb hD
    have hj : j < l.length := hb j (by simp)
    rw [List.filterMap_cons_some (List.getElem?_eq_getElem hj)] at hD
    obtain ⟨v, h2, hs1, hD⟩ := hD
    have hjD : j ∉ D := by
      intro hm
      exact (List.nodup_append.1 hn).2.2 j hm j (by simp) rfl
    have e0 : sOf l (fun i => if i = j then v else vs i) s D = sOf l vs s D := by
      apply sOf_congr
      intro i hi
      rw [if_neg (show ¬ i = j from fun e => hjD (e ▸ hi))]
    obtain ⟨vs', H, g1, g2, g3, g4⟩ := ih (D ++ [j]) (fun i => if i = j then v else vs i) h2 (by simpa using hn) (fun i hi => hb i (by simp [hi])) (by
      rw [sOf_snoc, e0]
      unfold stp
      rw [List.getElem?_eq_getElem hj]
      simpa using hD)
    have g1' : ∀ i, i ∈ D → vs' i = vs i := by
      intro i hi
      rw [g1 i (by simp [hi]), if_neg (show ¬ i = j from fun e => hjD (e ▸ hi))]
    refine ⟨vs', fun m => match m with | 0 => h1 | m + 1 => H m, g1', rfl, ?_, ?_⟩
    · intro m k hm
      cases m with
      | zero =>
        simp only [List.getElem?_cons_zero, Option.some.injEq] at hm
        subst hm
        refine ⟨_, List.getElem?_eq_getElem hj, ?_⟩
        have e1 : vs' j = v := by rw [g1 j (by simp)]; simp
        have e2 : sOf l vs' s D = sOf l vs s D := sOf_congr D s g1'
        simp only [List.take_zero, List.append_nil]
        rw [e1, e2, g2]; exact hs1
      | succ m =>
        simp only [List.getElem?_cons_succ] at hm
        obtain ⟨o, a1, a2⟩ := g3 m k hm
        exact ⟨o, a1, by simpa using a2⟩
    · simpa using g4
theorem vs_of {mk : Nat → LX → LX} (hmk : ∀ i o, (mk i o).dst = o.dst) {sufs : List (List LX)} : ∀ (b D : List Nat) (vs : Nat → LV), (D ++ b).Nodup → (∀ i, i ∈ b → i < l.length) → lopsD P (b.filterMap fun i => (l[i]?).map (mk i)) sufs K (sOf l vs s D) h →
    ∃ vs' : Nat → LV, (∀ i, i ∈ D → vs' i = vs i) ∧ (∀ m j, b[m]? = some j → ∃ o, l[j]? = some o ∧ LStep P (mk j o) (sOf l vs' s (D ++ b.take m)) h (vs' j) h) ∧
      lopsA P sufs K (sOf l vs' s (D ++ b)) h := by
  intro b
  induction b with
  | nil =>
    intro D vs hn hb hD
    exact ⟨vs, fun _ _ => rfl, fun m j h => by simp at h, by rw [List.append_nil]; exact hD⟩
  | cons j b ih =>
    intro D vs hn hb hD
    have hj : j < l.length := hb j (by simp)
    rw [List.filterMap_cons_some (b := mk j l[j]) (by rw [List.getElem?_eq_getElem hj]; rfl)] at hD
    obtain ⟨v, hs1, hD⟩ := hD
    have hjD : j ∉ D := by
      intro hm
      exact (List.nodup_append.1 hn).2.2 j hm j (by simp) rfl
    have e0 : sOf l (fun i => if i = j then v else vs i) s D = sOf l vs s D := by
      apply sOf_congr
      intro i hi
      rw [if_neg (show ¬ i = j from fun e => hjD (e ▸ hi))]
    obtain ⟨vs', g1, g3, g4⟩ := ih (D ++ [j]) (fun i => if i = j then v else vs i) (by simpa using hn) (fun i hi => hb i (by simp [hi])) (by
      rw [sOf_snoc, e0]
      unfold stp
      rw [List.getElem?_eq_getElem hj]
      rw [hmk] at hD
      simpa using hD)
    have g1' : ∀ i, i ∈ D → vs' i = vs i := by
      intro i hi
      rw [g1 i (by simp [hi]), if_neg (show ¬ i = j from fun e => hjD (e ▸ hi))]
    refine ⟨vs', g1', ?_, ?_⟩
    · intro m k hm
      cases m with
      | zero =>
        simp only [List.getElem?_cons_zero, Option.some.injEq] at hm
        subst hm
        refine ⟨_, List.getElem?_eq_getElem hj, ?_⟩
        have e1 : vs' j = v := by rw [g1 j (by simp)]; simp
        have e2 : sOf l vs' s D = sOf l vs s D := sOf_congr D s g1'
        simp only [List.take_zero, List.append_nil]
        rw [e1, e2]; exact hs1
      | succ m =>
        simp only [List.getElem?_cons_succ] at hm
        obtain ⟨o, a1, a2⟩ := g3 m k hm
        exact ⟨o, a1, by simpa using a2⟩
    · simpa using g4
theorem free_any {o : LX} {s : LS} {h h2 : LH} {v : LV} {h' : LH} (hf : isFree o = true) (hs : LStep P o s h v h') : LStep P o s h2 v h2 := by
  obtain ⟨d, g, op⟩ := o
  cases op with
  | e q => simp [isFree] at hf
  | p q =>
    have e : pval s h q = pval s h2 q ∧ ∀ g, pvc P g s h q → pvc P g s h2 q := by
      cases q <;> simp [isFree, freeP] at hf <;> exact ⟨rfl, fun _ hx => hx⟩
    unfold LStep at hs ⊢
    cases g with
    | none => exact ⟨e.2 _ hs.1, by rw [← e.1]; exact hs.2.1, rfl⟩
    | some gw => exact ⟨hs.1, e.2 _ hs.2.1, by rw [← e.1]; exact hs.2.2.1, rfl⟩
def Ext (h hh : LH) : Prop := h.n ≤ hh.n ∧ ∀ k, k < h.n → hh.f k = h.f k
theorem Ext.refl (h : LH) : Ext h h := ⟨Nat.le_refl _, fun _ _ => rfl⟩
theorem Ext.trans {a b c : LH} (h1 : Ext a b) (h2 : Ext b c) : Ext a c := ⟨Nat.le_trans h1.1 h2.1, fun k hk => by rw [h2.2 k (Nat.lt_of_lt_of_le hk h1.1), h1.2 k hk]⟩
theorem Ext.push (h : LH) (ob : LO) : Ext h (h.push ob) := ⟨Nat.le_succ _, fun k hk => by show (if k = h.n then _ else _) = _; rw [if_neg (by omega)]⟩
theorem al_ext {o : LX} {s : LS} {h : LH} {v : LV} {h' : LH} (hf : isAl o = true) (hs : LStep P o s h v h') : Ext h h' := by
  obtain ⟨d, g, op⟩ := o
  cases g with
  | some gw => cases op <;> simp [isAl] at hf
  | none =>
    cases op with
    | p q => simp [isAl] at hf
    | e q =>
      have hs' : eff P s h q v h' := hs
      cases q <;> simp [isAl] at hf
      · obtain ⟨_, rfl⟩ := hs'; exact Ext.push _ _
      · obtain ⟨_, _, _, rfl⟩ := hs'; exact Ext.push _ _
      · obtain ⟨_, _, _, _, _, _, rfl⟩ := hs'; exact Ext.push _ _
      · obtain ⟨_, _, _, _, rfl⟩ := hs'; exact Ext.push _ _
      · obtain ⟨_, rfl⟩ := hs'; exact Ext.push _ _
theorem len_ext {kd : Nat} {h hh : LH} (hE : Ext h hh) {v : LV} (hc : lenC h kd v) : lenC hh kd v ∧ lenV hh v = lenV h v := by
  cases v with
  | sc x => cases x <;> exact ⟨hc, rfl⟩
  | mp k ver =>
    obtain ⟨h1, h2, h3, h4⟩ := hc
    have e := hE.2 k h2
    refine ⟨⟨h1, Nat.lt_of_lt_of_le h2 hE.1, by rw [e]; exact h3, by rw [e]; exact h4⟩, ?_⟩
    simp only [lenV]; rw [e]
  | _ => exact ⟨hc, rfl⟩
theorem ld_ext {g : Bool} {n : Option Nat} {h hh : LH} (hE : Ext h hh) {v : LV} (hc : ldC g n h v) : ldC g n hh v ∧ ldV n hh v = ldV n h v := by
  cases v with
  | ptr k ver sz i c =>
    obtain ⟨h2, h3, h4⟩ := hc
    have e := hE.2 k h2
    refine ⟨⟨Nat.lt_of_lt_of_le h2 hE.1, by rw [e]; exact h3, by rw [e]; exact h4⟩, ?_⟩
    simp only [ldV]; rw [e]
  | _ => exact ⟨hc, rfl⟩
theorem iad_ext {g : Bool} {sz : Nat} {h hh : LH} (hE : Ext h hh) {v i : LV} (hc : iadC h g sz v i) : iadC hh g sz v i := by
  cases v with
  | sl k ver z o n =>
    cases i with
    | sc x =>
      cases x with
      | int kk j =>
        obtain ⟨h1, h2, h3, h4⟩ := hc
        exact ⟨h1, Nat.lt_of_lt_of_le h2 hE.1, by rw [hE.2 k h2]; exact h3, h4⟩
      | _ => exact hc
    | _ => exact hc
  | rsl z n f =>
    cases i with
    | sc x => cases x <;> exact hc
    | _ => exact hc
  | _ => cases i <;> exact hc
theorem nile_ext {h hh : LH} (hE : Ext h hh) {v : LV} (hc : nileC h v) : nileC hh v := by
  cases v with
  | sl k ver z o n =>
    obtain ⟨h1, h2, h3⟩ := hc
    exact ⟨h1, Nat.lt_of_lt_of_le h2 hE.1, by rw [hE.2 k h2]; exact h3⟩
  | _ => exact hc
theorem map_ext {h hh : LH} (hE : Ext h hh) {v : LV} (hc : mapLive h v) : mapLive hh v ∧ mapE hh v = mapE h v := by
  cases v with
  | mp k ver =>
    obtain ⟨h1, h2, h3⟩ := hc
    have e := hE.2 k h1
    refine ⟨⟨Nat.lt_of_lt_of_le h1 hE.1, by rw [e]; exact h2, by rw [e]; exact h3⟩, ?_⟩
    simp only [mapE]; rw [e]
  | _ => exact ⟨hc, rfl⟩
theorem ext_p {q : LOp} {s : LS} {h hh : LH} (hq : isExt ⟨none, none, .p q⟩ = true) (hE : Ext h hh) {g : Bool} (hc : pvc P g s h q) : pvc P g s hh q ∧ pval s hh q = pval s h q := by
  have hfr : freeP q = true → pvc P g s hh q ∧ pval s hh q = pval s h q := by
    intro hf
    cases q <;> simp [freeP] at hf <;> exact ⟨hc, rfl⟩
  cases q with
  | ld n x => exact ⟨⟨hc.1, (ld_ext hE hc.2).1⟩, (ld_ext hE hc.2).2⟩
  | len kd x => exact ⟨⟨hc.1, (len_ext hE hc.2).1⟩, (len_ext hE hc.2).2⟩
  | iad z x i => exact ⟨⟨hc.1, hc.2.1, iad_ext hE hc.2.2⟩, rfl⟩
  | nile x => exact ⟨⟨hc.1, nile_ext hE hc.2⟩, rfl⟩
  | lkp kt z o m k =>
    obtain ⟨h1, h2⟩ := map_ext hE hc.2.2.1
    exact ⟨⟨hc.1, hc.2.1, h1, hc.2.2.2.1, by rw [h2]; exact hc.2.2.2.2⟩, by simp only [pval]; rw [h2]⟩
  | _ => exact hfr rfl
theorem ext_step {o : LX} {s : LS} {h hh : LH} {v : LV} (hq : isExt o = true) (hE : Ext h hh) (hs : LStep P (toE o) s h v h) : LStep P o s hh v hh := by
  obtain ⟨d, g, op⟩ := o
  cases op with
  | p q =>
    have hs : LStep P ⟨d, g, .p q⟩ s h v h := hs
    unfold LStep at hs ⊢
    cases g with
    | none => obtain ⟨a, b⟩ := ext_p (P := P) hq hE hs.1; exact ⟨a, by rw [b]; exact hs.2.1, rfl⟩
    | some gw => obtain ⟨a, b⟩ := ext_p (P := P) hq hE hs.2.1; exact ⟨hs.1, a, by rw [b]; exact hs.2.2.1, rfl⟩
  | e q =>
    have key : ∀ r h', eff P s h (eE q) r h' → eff P s hh q r hh ∧ h' = h := by
      intro r h' he
      cases q <;> simp [isExt] at hq
      · exact ⟨⟨he.1, he.2.1 hh⟩, he.2.2⟩
      · exact ⟨⟨he.1, he.2.1, rfl⟩, he.2.2⟩
    have hs : LStep P ⟨d, g, .e (eE q)⟩ s h v h := hs
    unfold LStep at hs ⊢
    cases g with
    | none => exact (key _ _ hs).1
    | some gw =>
      obtain ⟨h1, h2⟩ := hs
      refine ⟨h1, ?_⟩
      rcases h2 with ⟨a, b⟩ | ⟨a, b, c⟩ | ⟨r', a, b, c⟩
      · exact .inl ⟨a, (key _ _ b).1⟩
      · exact .inr (.inl ⟨a, b, rfl⟩)
      · exact .inr (.inr ⟨r', a, rfl, fun hg => (key _ _ (c hg)).1⟩)
theorem toE_self {o : LX} {s : LS} {h : LH} {v : LV} (hs : LStep P (toE o) s h v h) : LStep P o s h v h := by
  obtain ⟨d, g, op⟩ := o
  cases op with
  | p q => exact hs
  | e q =>
    cases q with
    | call f al => exact ext_step (o := ⟨d, g, .e (.call f al)⟩) rfl (Ext.refl h) hs
    | _ => exact hs
def wrt (l : List LX) (t i : Nat) : Prop := ∃ o, l[i]? = some o ∧ o.dst = some t

theorem stp_other {i t : Nat} (hw : ¬ wrt l t i) (s : LS) : stp l vs s i t = s t := by
  unfold stp
  cases ho : l[i]? with
  | none => rfl
  | some o =>
    simp only
    cases hd : o.dst with
    | none => rfl
    | some d =>
      show upd s d (vs i) t = s t
      unfold upd
      rw [if_neg (fun e => hw ⟨o, ho, by rw [hd, e]⟩)]
theorem stp_self {i t : Nat} (hw : wrt l t i) (s : LS) : stp l vs s i t = vs i := by
  obtain ⟨o, ho, hd⟩ := hw
  unfold stp
  rw [ho]
  simp only [hd]
  show upd s t (vs i) t = vs i
  simp [upd]

def incW (l : List LX) (t : Nat) (D : List Nat) : Prop := D.Pairwise (fun a b => wrt l t a → wrt l t b → a < b)
theorem sOf_last {t : Nat} : ∀ (n : Nat) (D : List Nat), D.length = n → incW l t D → ((∀ j, j ∈ D → ¬ wrt l t j) ∧ sOf l vs s D t = s t) ∨ (∃ j, j ∈ D ∧ wrt l t j ∧ (∀ j', j' ∈ D → wrt l t j' → j' ≤ j) ∧ sOf l vs s D t = vs j) := by
  intro n
  induction n with
  | zero =>
    intro D hl _
    have : D = [] := List.length_eq_zero_iff.1 hl
    subst this
    exact .inl ⟨fun j h => by simp at h, rfl⟩
  | succ n ih =>
    intro D hl ho
    rcases List.eq_nil_or_concat D with rfl | ⟨D', j, rfl⟩
    · simp at hl
    · rw [List.concat_eq_append] at *
      have hl' : D'.length = n := by simpa using hl
      obtain ⟨ho', _, hlast⟩ := List.pairwise_append.1 ho
      rw [sOf_snoc]
      by_cases hw : wrt l t j
      · rw [stp_self hw]
        refine .inr ⟨j, by simp, hw, fun j' hj' hwj => ?_, rfl⟩
        rcases List.mem_append.1 hj' with hm | hm
        · exact Nat.le_of_lt (hlast j' hm j (by simp) hwj hw)
        · simp at hm; omega
      · rw [stp_other hw]
        rcases ih D' hl' ho' with ⟨a, b⟩ | ⟨i, a, b, c, d⟩
        · refine .inl ⟨fun i hi => ?_, b⟩
          rcases List.mem_append.1 hi with hm | hm
          · exact a i hm
          · simp at hm; subst hm; exact hw
        · refine .inr ⟨i, by simp [a], b, fun j' hj' hwj => ?_, d⟩
          rcases List.mem_append.1 hj' with hm | hm
          · exact c j' hm hwj
          · simp at hm; subst hm; exact absurd hwj hw
theorem sOf_eq {t : Nat} {D1 D2 : List Nat} (hm : ∀ j, wrt l t j → (j ∈ D1 ↔ j ∈ D2)) (h1 : incW l t D1) (h2 : incW l t D2) : sOf l vs s D1 t = sOf l vs s D2 t := by
  rcases sOf_last (vs := vs) (s := s) _ D1 rfl h1 with ⟨a, b⟩ | ⟨i, a, b, c, d⟩ <;> rcases sOf_last (vs := vs) (s := s) _ D2 rfl h2 with ⟨a', b'⟩ | ⟨i', a', b', c', d'⟩
  · rw [b, b']
  · exact absurd b' (a i' ((hm i' b').2 a'))
  · exact absurd b (a' i ((hm i b).1 a))
  · have e1 := c' i ((hm i b).1 a) b
    have e2 := c i' ((hm i' b').2 a') b'
    have : i = i' := by omega
    rw [d, d', this]

theorem clash_wr {a b : LX} {t : Nat} (ha : a.dst = some t) (hb : t ∈ rdX b ∨ b.dst = some t) : clash a b = true := by
  unfold clash
  rw [ha]
  rcases hb with hb | hb
  · simp [hb]
  · simp [hb]
theorem clash_rw {a b : LX} {t : Nat} (hb : b.dst = some t) (ha : t ∈ rdX a) : clash a b = true := by
  unfold clash
  rw [hb]
  simp [ha]

theorem linE_mem {ops : Array Oper} : ∀ (f : Nat) (r rem : List Nat), r.length ≤ f → r.Nodup → (∀ i, i ∈ r ↔ i ∈ rem) → rem.Nodup → (∀ p j q, r = p ++ j :: q → ∀ i, i ∈ rem → anc ops ops.size j i = true → i ∈ p ∨ i = j) → r ∈ linE ops f rem := by
  intro f
  induction f with
  | zero =>
    intro r rem hl hn hm _ _
    have : r = [] := List.length_eq_zero_iff.1 (by omega)
    subst this
    have : rem = [] := List.eq_nil_iff_forall_not_mem.2 (fun i hi => by simpa using (hm i).2 hi)
    subst this
    simp [linE]
  | succ f ih =>
    intro r rem hl hn hm hnr hv
    cases r with
    | nil =>
      have : rem = [] := List.eq_nil_iff_forall_not_mem.2 (fun i hi => by simpa using (hm i).2 hi)
      subst this
      simp [linE]
    | cons j r =>
      have hj : j ∈ rem := (hm j).1 (by simp)
      have hne : rem.isEmpty = false := by cases rem <;> simp at hj ⊢
      obtain ⟨n1, n2⟩ := List.nodup_cons.1 hn
      simp only [linE, hne]
      refine List.mem_flatMap.2 ⟨j, hj, ?_⟩
      have hall : rem.all (fun i => i == j || !anc ops ops.size j i) = true := by
        rw [List.all_eq_true]
        intro i hi
        cases ha : anc ops ops.size j i with
        | false => simp
        | true =>
          rcases hv [] j r rfl i hi ha with h | h
          · simp at h
          · simp [h]
      rw [if_pos hall]
      refine List.mem_map.2 ⟨r, ih r (rem.erase j) (by simp at hl; omega) n2 (fun i => ?_) (hnr.erase _) (fun p i q hp k hk ha => ?_), rfl⟩
      · rw [List.Nodup.mem_erase_iff hnr, ← hm i, List.mem_cons]
        constructor
        · intro hi
          have : i ≠ j := fun e => n1 (e ▸ hi)
          exact ⟨this, .inr hi⟩
        · rintro ⟨a, b | b⟩
          · exact absurd b a
          · exact b
      · have hk' := (List.Nodup.mem_erase_iff hnr).1 hk
        rcases hv (j :: p) i q (by rw [hp]; rfl) k hk'.2 ha with h | h
        · rcases List.mem_cons.1 h with h | h
          · exact absurd h hk'.1
          · exact .inl h
        · exact .inr h

theorem range_split {m j : Nat} (h : j < m) : ∃ r, List.range m = List.range j ++ j :: r := by
  refine ⟨(List.range m).drop (j + 1), ?_⟩
  have h1 := List.take_append_drop j (List.range m)
  rw [List.take_range, Nat.min_eq_left (Nat.le_of_lt h), List.drop_eq_getElem_cons (by simpa using h), List.getElem_range] at h1
  exact h1.symm
theorem drawOk_R {ops : Array Oper} {tl : Nat → Bool} (h : drawOk P ops l tl = true) : drawOkR P ops l tl = true := by
  simp only [drawOk, Bool.and_eq_true] at h
  simp only [drawOkR, Bool.and_eq_true]
  obtain ⟨⟨⟨⟨h1, h2⟩, h3⟩, h4⟩, h5⟩ := h
  refine ⟨⟨⟨⟨h1, h2⟩, h3⟩, ?_⟩, h5⟩
  rw [List.all_eq_true] at h4 ⊢
  intro j hj
  have h6 := h4 j hj
  rw [Bool.or_eq_true] at h6 ⊢
  rcases h6 with h6 | h6
  · exact .inl h6
  right
  rw [List.all_eq_true] at h6 ⊢
  intro i hi
  have h7 := h6 i hi
  simp only [Bool.or_eq_true] at h7 ⊢
  rcases h7 with h7 | h7 | h7
  · exact .inl h7
  · exact .inr (.inl h7)
  · refine .inr (.inr ?_)
    split at h7
    · simp only [Bool.or_eq_true] at h7 ⊢
      rcases h7 with h7 | h7
      · exact .inl h7
      · exact .inr (.inr h7)
    · rfl
theorem drawAt_ok {ops : Array Oper} {T : List Nat} (h : drawAt P ops l = some T) : drawOkR P ops l T.contains = true := by
  unfold drawAt at h
  simp only at h
  split at h
  · rename_i T' h1
    injection h with h; subst h
    have := List.find?_some h1
    simp only [Bool.and_eq_true] at this
    exact drawOk_R this.1.1.1
  · split at h
    · rename_i T' h1
      injection h with h; subst h
      have := List.find?_some h1
      simp only [Bool.and_eq_true] at this
      exact drawOk_R this.1.1.1
    · split at h
      · rename_i h1
        injection h with h; subst h
        simp only [Bool.and_eq_true] at h1
        exact h1.2.1.1.1
      · split at h
        · rename_i h1
          injection h with h; subst h
          simp only [Bool.and_eq_true] at h1
          exact h1.2.1.1.1
        · split at h
          · rename_i h1
            injection h with h; subst h
            simp only [Bool.and_eq_true] at h1
            exact h1.2.1.1.1
          · split at h
            · rename_i h1
              injection h with h; subst h
              simp only [Bool.and_eq_true] at h1
              exact h1.2.1.1
            · split at h
              · rename_i h1
                injection h with h; subst h
                exact drawOk_R h1
              · simp at h
theorem p_same {o : LX} {s : LS} {h : LH} {v : LV} {h' : LH} (hf : isP o = true) (hs : LStep P o s h v h') : h' = h := by
  obtain ⟨d, g, op⟩ := o
  cases op with
  | e q => simp [isP] at hf
  | p q =>
    unfold LStep at hs
    cases g with
    | none => exact hs.2.2
    | some gw => exact hs.2.2.2
theorem lops_draw {dr : Bool} {ops : Array Oper} {tl : Nat → Bool} {N : Nat} (hc : cOps dr P N ops ops.toList = some l) (hlen : l.length = ops.size) (hok : drawOkR P ops l tl = true) (hD : lopsD P (preX ops l tl) (sufsX ops l tl) K s h) (t : Nat) :
    lops P ((Region.schedule (P.follows .mixedOrders) ops t).filterMap (l[·]?)) K s h := by
  simp only [drawOkR, Bool.and_eq_true] at hok
  obtain ⟨⟨⟨⟨hmix, hback⟩, hcl⟩, hlast⟩, hnl⟩ := hok
  have hpt : ∀ i j, i < j → j < l.length → tl i = true → tl j = false → anc ops ops.size j i = false := by
    intro i j hij hj hi hjn
    have h1 := List.all_eq_true.1 hnl j (List.mem_range.2 hj)
    rw [hjn, Bool.false_or] at h1
    have h2 := List.all_eq_true.1 h1 i (List.mem_range.2 hij)
    rw [hi] at h2
    simpa using h2
  have hback' : ∀ i o, ops[i]? = some o → ∀ e, e ∈ o.after → Region.binds .any e = true → e.on < i := by
    intro i o ho e he hb
    have hi : i < ops.size := (Array.getElem?_eq_some_iff.1 ho).1
    have := List.all_eq_true.1 hback i (List.mem_range.2 hi)
    rw [ho] at this
    simp only [Array.all_eq_true, Bool.or_eq_true, Bool.not_eq_true', decide_eq_true_eq] at this
    obtain ⟨x, hx, rfl⟩ := Array.getElem_of_mem he
    rcases this x hx with h1 | h1
    · rw [hb] at h1; simp at h1
    · exact h1
  obtain ⟨hnd, hltn, hln, hval⟩ := sched_ok (P := P) (by simpa using hmix) hback' t
  generalize Region.schedule (P.follows .mixedOrders) ops t = idx at *
  have hall : ∀ i, i < l.length → i ∈ idx := by
    intro i hi
    rcases Classical.em (i ∈ idx) with h1 | h1
    · exact h1
    · exfalso
      have h2 := sub_len (i :: idx) (List.range ops.size) (List.nodup_cons.2 ⟨h1, hnd⟩) (fun j hj => by
        rcases List.mem_cons.1 hj with rfl | hj
        · exact List.mem_range.2 (by omega)
        · exact List.mem_range.2 (hltn j hj))
      simp at h2; omega
  have hcl' : ∀ i j a b, i < j → l[i]? = some a → l[j]? = some b → clash a b = true → anc ops ops.size j i = true := by
    intro i j a b hij ha hb hab
    have hj := (List.getElem?_eq_some_iff.1 hb).1
    have := List.all_eq_true.1 (List.all_eq_true.1 hcl j (List.mem_range.2 hj)) i (List.mem_range.2 hij)
    rw [ha, hb] at this
    simpa [hab] using this
  have hord : ∀ p j q, idx = p ++ j :: q → ∀ i a b, l[i]? = some a → l[j]? = some b → (i < j → clash a b = true → i ∈ p) ∧ (j < i → clash b a = true → i ∉ p) := by
    intro p j q hp i a b ha hb
    refine ⟨fun hij hab => hval.anc _ _ _ (hcl' i j a b hij ha hb hab) p q hp, fun hji hab hm => ?_⟩
    have hanc := hcl' j i b a hji hb ha hab
    obtain ⟨p1, p2, rfl⟩ := List.append_of_mem hm
    have := hval.anc _ _ _ hanc p1 (p2 ++ j :: q) (by rw [hp]; simp)
    rw [hp] at hnd
    have h3 := List.nodup_append.1 hnd
    exact h3.2.2 j (List.mem_append_left _ this) j (by simp) rfl
  have hancp : ∀ p j q, idx = p ++ j :: q → ∀ i, anc ops ops.size j i = true → i ∈ p := fun p j q hp i ha => hval.anc _ _ _ ha p q hp
  have hlt : ∀ i, i ∈ idx → i < l.length := fun i hi => by rw [hlen]; exact hltn i hi
  have hpw : idx.Pairwise (fun a b => anc ops ops.size a b = false) := by
    rw [List.pairwise_iff_getElem]
    intro i j hi hj hij
    cases ha : anc ops ops.size idx[i] idx[j] with
    | false => rfl
    | true =>
      exfalso
      have hsp : idx = idx.take i ++ idx[i] :: idx.drop (i + 1) := by
        rw [← List.drop_eq_getElem_cons hi, List.take_append_drop]
      have hm := hancp _ _ _ hsp _ ha
      obtain ⟨k, hk, he⟩ := List.getElem_of_mem hm
      rw [List.length_take] at hk
      rw [List.getElem_take] at he
      have := (List.nodup_iff_pairwise_ne.1 hnd)
      rw [List.pairwise_iff_getElem] at this
      exact this k j (by omega) hj (by omega) he
  have hinc : ∀ t, incW l t idx := by
    intro t
    have h2 := hpw.and (List.nodup_iff_pairwise_ne.1 hnd)
    refine h2.imp (fun {a b} hab hwa hwb => ?_)
    obtain ⟨oa, ha, da⟩ := hwa
    obtain ⟨ob, hb, db⟩ := hwb
    rcases Nat.lt_trichotomy a b with h1 | h1 | h1
    · exact h1
    · exact absurd h1 hab.2
    · have := hcl' b a ob oa h1 hb ha (clash_wr db (.inr da))
      rw [hab.1] at this
      simp at this
  -- the tail, as the schedule has it
  generalize hτ : idx.filter tl = τ at *
  have hτm : ∀ i, i ∈ τ ↔ i ∈ idx ∧ tl i = true := fun i => by rw [← hτ, List.mem_filter]
  have hτn : τ.Nodup := hτ ▸ hnd.filter _
  have hτl : τ ∈ linE ops l.length ((List.range l.length).filter tl) := by
    refine linE_mem _ _ _ ?_ hτn (fun i => ?_) (List.nodup_range.filter _) (fun p j q hp i hi ha => ?_)
    · rw [← hτ, hlen, ← hln]; exact List.length_filter_le _ _
    · rw [hτm, List.mem_filter, List.mem_range]
      exact ⟨fun h => ⟨hlt i h.1, h.2⟩, fun h => ⟨hall i h.1, h.2⟩⟩
    · rw [← hτ, List.filter_eq_append_iff] at hp
      obtain ⟨a, b, hab, hfa, hfb⟩ := hp
      rw [List.filter_eq_cons_iff] at hfb
      obtain ⟨b1, b2, hbb, hb1, _, _⟩ := hfb
      have hm := hancp (a ++ b1) j b2 (by rw [hab, hbb]; simp) i ha
      have hin : tl i = true := (List.mem_filter.1 hi).2
      rcases List.mem_append.1 hm with hm | hm
      · left; rw [← hfa, List.mem_filter]; exact ⟨hm, hin⟩
      · exact absurd hin (hb1 i hm)
  have hprm : ∀ i, i ∈ (List.range l.length).filter (fun i => !tl i) ↔ i < l.length ∧ tl i = false := fun i => by rw [List.mem_filter, List.mem_range]; simp
  have hprn : ((List.range l.length).filter (fun i => !tl i)).Nodup := List.nodup_range.filter _
  have hrn : ((List.range l.length).filter (fun i => !tl i) ++ τ).Nodup := by
    rw [List.nodup_append]
    refine ⟨hprn, hτn, fun a ha b hb e => ?_⟩
    have h1 := ((hprm a).1 ha).2
    have h2 := ((hτm b).1 hb).2
    rw [e, h2] at h1
    simp at h1
  obtain ⟨vs0, _, hq, hA⟩ := vs_of (l := l) (s := s) (h := h) (mk := fun i o => if floats ops l.length tl i then toE o else o) (fun i o => by split <;> rfl) ((List.range l.length).filter (fun i => !tl i)) [] (fun _ => .any) (by simpa using hprn) (fun i hi => ((hprm i).1 hi).1) hD
  rw [List.nil_append] at hA
  have hE := lopsA_mem hA (List.mem_map.2 ⟨τ, hτl, rfl⟩)
  obtain ⟨vs, H, hvs, hH0, hsteps, hend⟩ := rec_of τ ((List.range l.length).filter (fun i => !tl i)) vs0 h hrn (fun i hi => hlt i ((hτm i).1 hi).1) hE
  have hquiet : ∀ j, j < l.length → tl j = false → ∃ o, l[j]? = some o ∧ LStep P (if floats ops l.length tl j then toE o else o) (sOf l vs s ((List.range j).filter (fun i => !tl i))) h (vs j) h := by
    intro j hj hjn
    obtain ⟨r, hr⟩ := range_split hj
    have hsp : (List.range l.length).filter (fun i => !tl i) = (List.range j).filter (fun i => !tl i) ++ j :: r.filter (fun i => !tl i) := by
      rw [hr, List.filter_append, List.filter_cons_of_pos (by simp [hjn])]
    obtain ⟨o, h1, h2⟩ := hq ((List.range j).filter (fun i => !tl i)).length j (by rw [hsp]; simp)
    refine ⟨o, h1, ?_⟩
    rw [List.nil_append, hsp, List.take_left] at h2
    rw [hvs j ((hprm j).2 ⟨hj, hjn⟩)]
    rw [sOf_congr ((List.range j).filter (fun i => !tl i)) s (fun i hi => hvs i ((hprm i).2 ⟨by have := List.mem_range.1 (List.mem_filter.1 hi).1; omega, by have := (List.mem_filter.1 hi).2; simpa using this⟩))]
    exact h2
  have hrange : ∀ k t, incW l t ((List.range k).filter (fun i => !tl i)) := fun k t => List.Pairwise.filter _ (List.pairwise_lt_range.imp (fun h _ _ => h))
  have hcat : ∀ t (p : List Nat), incW l t p → incW l t ((List.range l.length).filter (fun i => !tl i) ++ p.filter tl) := by
    intro t p hp
    refine List.pairwise_append.2 ⟨hrange _ t, List.Pairwise.filter _ hp, fun a ha b hb hwa hwb => ?_⟩
    obtain ⟨h1, h1'⟩ := (hprm a).1 ha
    have h2 := (List.mem_filter.1 hb).2
    obtain ⟨oa, ga, da⟩ := hwa
    obtain ⟨ob, gb, db⟩ := hwb
    rcases Nat.lt_trichotomy a b with h3 | h3 | h3
    · exact h3
    · rw [h3, h2] at h1'; simp at h1'
    · have := hcl' b a ob oa h3 gb ga (clash_wr db (.inr da))
      rw [hpt b a h3 h1 h2 h1'] at this
      simp at this
  -- along the schedule
  have key : ∀ (q p : List Nat), idx = p ++ q → lops P (q.filterMap (l[·]?)) K (sOf l vs s p) (H (p.filter tl).length) := by
    intro q
    induction q with
    | nil =>
      intro p hp
      rw [List.append_nil] at hp
      simp only [List.filterMap_nil, lops]
      rw [← hp, hτ]
      have e : sOf l vs s idx = sOf l vs s ((List.range l.length).filter (fun i => !tl i) ++ τ) := by
        funext t
        refine sOf_eq (fun j hw => ?_) (hinc t) (hτ ▸ hcat t idx (hinc t))
        obtain ⟨o, ho, _⟩ := hw
        have hjl := (List.getElem?_eq_some_iff.1 ho).1
        rw [List.mem_append, hprm, hτm]
        constructor
        · intro hm
          cases h1 : tl j
          · exact .inl ⟨hjl, rfl⟩
          · exact .inr ⟨hm, rfl⟩
        · intro _; exact hall j hjl
      rw [e]
      exact hend
    | cons j q ih =>
      intro p hp
      have hj : j < l.length := hlt j (by rw [hp]; simp)
      have hsplit := hnd
      rw [hp] at hsplit
      have hsplit := List.nodup_append.1 hsplit
      have hjp : j ∉ p := fun hm => hsplit.2.2 j hm j (by simp) rfl
      have hpinc : ∀ t, incW l t p := fun t => (hinc t).sublist (by rw [hp]; exact List.sublist_append_left _ _)
      rw [List.filterMap_cons_some (List.getElem?_eq_getElem hj)]
      simp only [lops]
      have e1 : updO (sOf l vs s p) l[j].dst (vs j) = sOf l vs s (p ++ [j]) := by
        rw [sOf_snoc]; unfold stp; rw [List.getElem?_eq_getElem hj]
      have hnext := ih (p ++ [j]) (by rw [hp]; simp)
      rw [List.filter_append, List.length_append] at hnext
      rcases Bool.eq_false_or_eq_true (tl j) with hjn | hjn
      rotate_left
      · have ef : List.filter tl [j] = [] := by simp [hjn]
        rw [ef, List.length_nil, Nat.add_zero] at hnext
        refine ⟨vs j, _, ?_, fun _ => by rw [e1]; exact hnext⟩
        obtain ⟨o, ho, hs0⟩ := hquiet j hj hjn
        have go : l[j] = o := by
          rw [List.getElem?_eq_getElem hj] at ho
          injection ho
        rw [go]
        have hagree : ∀ t, t ∈ rdX o → sOf l vs s ((List.range j).filter (fun i => !tl i)) t = sOf l vs s p t := by
          intro t ht
          refine sOf_eq (fun i hw => ?_) (hrange j t) (hpinc t)
          obtain ⟨a, ha, hd⟩ := hw
          rw [List.mem_filter, List.mem_range]
          constructor
          · intro hij; exact (hord p j q hp i a o ha ho).1 hij.1 (clash_wr hd (.inl ht))
          · intro hm
            rcases Nat.lt_trichotomy i j with h1 | h1 | h1
            · refine ⟨h1, ?_⟩
              cases h2 : tl i
              · rfl
              · have h3 := hcl' i j a o h1 ha ho (clash_wr hd (.inl ht))
                rw [hpt i j h1 hj h2 hjn] at h3
                simp at h3
            · subst h1; exact absurd hm hjp
            · exact absurd hm ((hord p j q hp i a o ha ho).2 h1 (clash_rw hd ht))
        by_cases hc : p.filter tl = []
        · rw [hc, List.length_nil, hH0]
          have hs1 : LStep P o (sOf l vs s ((List.range j).filter (fun i => !tl i))) h (vs j) h := by
            split at hs0
            · exact toE_self hs0
            · exact hs0
          exact LStep_congr hagree hs1
        · -- an operation of the tail has run: this one floats
          have hfl : ∀ i, i ∈ p → tl i = true → anc ops ops.size i j = false := by
            intro i hi hin
            cases ha : anc ops ops.size i j with
            | false => rfl
            | true =>
              exfalso
              obtain ⟨p1, p2, hpp⟩ := List.append_of_mem hi
              have := hancp p1 i (p2 ++ j :: q) (by rw [hp, hpp]; simp) j ha
              exact hjp (by rw [hpp]; exact List.mem_append_left _ this)
          have hcond : ∀ i, i ∈ p → tl i = true → isFree o = true ∨ ∃ b, l[i]? = some b ∧ (isP b = true ∨ (isAl b = true ∧ isExt o = true)) := by
            intro i hi hin
            have hil : i < l.length := hlt i (by rw [hp]; simp [hi])
            have h1 := List.all_eq_true.1 hlast i (List.mem_range.2 hil)
            rw [Bool.or_eq_true] at h1
            rcases h1 with h1 | h1
            · rw [hin] at h1; simp at h1
            · have h2 := List.all_eq_true.1 h1 j (List.mem_range.2 hj)
              rw [hjn, Bool.false_or, hfl i hi hin, Bool.false_or, ho, List.getElem?_eq_getElem hil] at h2
              simp only [Bool.or_eq_true, Bool.and_eq_true] at h2
              rcases h2 with h2 | h2 | ⟨h2, h3⟩
              · exact .inl h2
              · exact .inr ⟨_, List.getElem?_eq_getElem hil, .inl h2⟩
              · exact .inr ⟨_, List.getElem?_eq_getElem hil, .inr ⟨h2, h3⟩⟩
          obtain ⟨i0, hi0⟩ := List.exists_mem_of_ne_nil _ hc
          obtain ⟨hi0p, hi0n⟩ := List.mem_filter.1 hi0
          have hflo : floats ops l.length tl j = true := by
            unfold floats
            rw [List.any_eq_true]
            have hil : i0 < l.length := hlt i0 (by rw [hp]; simp [hi0p])
            exact ⟨i0, List.mem_range.2 hil, by rw [hfl i0 hi0p hi0n]; simp [hi0n]⟩
          rw [if_pos hflo] at hs0
          by_cases hfree : isFree o = true
          · exact free_any hfree (LStep_congr hagree (toE_self hs0))
          · have hs2 : LStep P (toE o) (sOf l vs s p) h (vs j) h := LStep_congr (fun t ht => hagree t (by
              have : rdX (toE o) = rdX o := by
                obtain ⟨d, g, op⟩ := o
                cases op with
                | p q => rfl
                | e q => cases q <;> rfl
              rw [this] at ht; exact ht)) hs0
            have hEx : ∀ m, m ≤ (p.filter tl).length → (isExt o = true → Ext h (H m)) ∧ (¬ isExt o = true → H m = h) := by
              intro m
              induction m with
              | zero => intro _; rw [hH0]; exact ⟨fun _ => Ext.refl h, fun _ => rfl⟩
              | succ m ihm =>
                intro hm
                have e2 : τ = p.filter tl ++ (j :: q).filter tl := by rw [← hτ, hp, List.filter_append]
                have e3 : τ[m]? = some (p.filter tl)[m] := by rw [e2, List.getElem?_append_left (by omega), List.getElem?_eq_getElem (by omega)]
                obtain ⟨ob, g1, g2⟩ := hsteps m _ e3
                have hmem := List.getElem_mem (l := p.filter tl) (n := m) (by omega)
                obtain ⟨m1, m2⟩ := List.mem_filter.1 hmem
                obtain ⟨i1, i2⟩ := ihm (by omega)
                rcases hcond _ m1 m2 with h1 | ⟨b, hb, hb2⟩
                · exact absurd h1 hfree
                · rw [g1] at hb
                  injection hb with hb
                  subst hb
                  rcases hb2 with hP | ⟨hal, hx⟩
                  · rw [p_same hP g2]; exact ⟨i1, i2⟩
                  · exact ⟨fun _ => (i1 hx).trans (al_ext hal g2), fun hn => absurd hx hn⟩
            by_cases hext : isExt o = true
            · exact ext_step hext ((hEx _ (Nat.le_refl _)).1 hext) hs2
            · rw [(hEx _ (Nat.le_refl _)).2 hext]
              exact toE_self hs2
      · have ef : List.filter tl [j] = [j] := by simp [hjn]
        rw [ef, List.length_singleton] at hnext
        have e2 : τ = p.filter tl ++ j :: q.filter tl := by
          rw [← hτ, hp, List.filter_append, List.filter_cons_of_pos hjn]
        obtain ⟨o, ho, hs0⟩ := hsteps (p.filter tl).length j (by rw [e2]; simp)
        have go : l[j] = o := by
          rw [List.getElem?_eq_getElem hj] at ho
          injection ho
        rw [go] at e1 ⊢
        have etake : τ.take (p.filter tl).length = p.filter tl := by rw [e2]; simp
        rw [etake] at hs0
        have hagree : ∀ t, t ∈ rdX o → sOf l vs s ((List.range l.length).filter (fun i => !tl i) ++ p.filter tl) t = sOf l vs s p t := by
          intro t ht
          refine sOf_eq (fun i hw => ?_) (hcat t p (hpinc t)) (hpinc t)
          obtain ⟨a, ha, hd⟩ := hw
          rw [List.mem_append, hprm, List.mem_filter]
          constructor
          · rintro (⟨hil, hin⟩ | ⟨hm, _⟩)
            · rcases Nat.lt_trichotomy i j with h1 | h1 | h1
              · exact (hord p j q hp i a o ha ho).1 h1 (clash_wr hd (.inl ht))
              · rw [h1, hjn] at hin; simp at hin
              · have h3 := hcl' j i o a h1 ho ha (clash_rw hd ht)
                rw [hpt j i h1 hil hjn hin] at h3
                simp at h3
            · exact hm
          · intro hm
            cases h1 : tl i
            · exact .inl ⟨(List.getElem?_eq_some_iff.1 ha).1, rfl⟩
            · exact .inr ⟨hm, rfl⟩
        exact ⟨vs j, _, LStep_congr hagree hs0, fun _ => by rw [e1]; exact hnext⟩
  have := key idx [] rfl
  rw [List.filter_nil, List.length_nil, hH0] at this
  exact this

end
end Go.Proofs.YtdfiicpikcdokaaGreatDoor
namespace Go.Proofs.YtdfiicpikcdokaaGreatDoor
set_option linter.unusedSimpArgs false
set_option linter.unusedVariables false
open Go.RowKit

def belowB (n : Nat) : LV → Prop
  | .sl k _ _ _ _ => k < n
  | .ptr k _ _ _ _ => k < n
  | .mp k _ => k < n
  | .any => True
  | .sc _ => True
  | .nsl => True
  | .rsl _ _ _ => True
  | .rptr _ => True
  | .rmp _ => True
  | .ifc _ => True
  | _ => False
def allBl (n : Nat) : List LV → Prop
  | [] => True
  | x :: r => belowB n x ∧ allBl n r
def belowC (n : Nat) : LV → Prop
  | .sl k _ _ _ _ => k < n
  | .ptr k _ _ _ _ => k < n
  | .mp k _ => k < n
  | .any => True
  | .sc _ => True
  | .nsl => True
  | .rsl _ _ _ => True
  | .rptr _ => True
  | .rmp _ => True
  | .ifc _ => True
  | .fn _ cs => allBl n cs
  | .agg cs => allBl n cs
  | _ => False
def allC (n : Nat) : List LV → Prop
  | [] => True
  | x :: r => belowC n x ∧ allC n r
def belowV (n : Nat) : LV → Prop
  | .agg cs => allC n cs
  | .fn _ cs => allC n cs
  | .tup cs => allC n cs
  | v => belowC n v
def belowO (n : Nat) : LO → Prop
  | .box cs => allC n cs
  | .row sz m f => ∀ i, i < m → allC n ((f i).take sz)
  | .map es => allC n (es.map (·.2))
  | .tbox _ cs => allC n cs
  | _ => True

def mkS : List (Nat × LV) → LS
  | [] => fun _ => .any
  | (i, v) :: r => upd (mkS r) i v
def mkH (l : List (Nat × LO)) : LH := ⟨l.length, fun k => l.getD k (0, .dead)⟩
def weakS (n : Nat) (s : LS) : List (Nat × LV) → Prop
  | [] => True
  | (i, v) :: r => s i = v ∧ belowV n v ∧ weakS n s r
def weakH (n : Nat) (h : LH) : Nat → List (Nat × LO) → Prop
  | _, [] => True
  | k, vo :: r => h.f k = vo ∧ belowO n vo.2 ∧ weakH n h (k + 1) r
def weakTo (s : LS) (h : LH) (sv : List (Nat × LV)) (ho : List (Nat × LO)) : Prop :=
  ho.length ≤ h.n ∧ weakS ho.length s sv ∧ weakH ho.length h 0 ho

def Br (g : Bool) (A B : Prop) : Prop := (g = true → A) ∧ (g = false → B)

def FrzTo (s : LS) (h : LH) (s' : LS) (h' : LH) : Prop := ∀ (B : Nat) (R : RO) (ι : IM) (w : World), B ≤ w.heap.size → Rep R ι h B w → ∃ R' ι', Trans B R ι h w R' ι' h' w ∧ ∀ t x, Rv R ι h (s t) x → Rv R' ι' h' (s' t) x
def kOk (σ : Nat → Nat) (h h' : LH) (k k' : Nat) : Prop := k = σ k' ∧ k' < h'.n ∧ k < h.n ∧ (h'.f k').1 = (h.f k).1
def rigid : LV → Prop
  | .any => True
  | .sc _ => True
  | .nsl => True
  | .rsl _ _ _ => True
  | .rptr _ => True
  | .rmp _ => True
  | .ifc _ => True
  | _ => False
def renB (σ : Nat → Nat) (h h' : LH) : LV → LV → Prop
  | .sl k a b c d, .sl k' a' b' c' d' => kOk σ h h' k k' ∧ a = a' ∧ b = b' ∧ c = c' ∧ d = d'
  | .ptr k a b c d, .ptr k' a' b' c' d' => kOk σ h h' k k' ∧ a = a' ∧ b = b' ∧ c = c' ∧ d = d'
  | .mp k a, .mp k' a' => kOk σ h h' k k' ∧ a = a'
  | x, y => x = y ∧ rigid x
def renBl (σ : Nat → Nat) (h h' : LH) : List LV → List LV → Prop
  | [], [] => True
  | x :: r, y :: q => renB σ h h' x y ∧ renBl σ h h' r q
  | _, _ => False
def renC (σ : Nat → Nat) (h h' : LH) : LV → LV → Prop
  | .fn f cs, .fn g ds => f = g ∧ renBl σ h h' cs ds
  | x, y => renB σ h h' x y
def renCl (σ : Nat → Nat) (h h' : LH) : List LV → List LV → Prop
  | [], [] => True
  | x :: r, y :: q => renC σ h h' x y ∧ renCl σ h h' r q
  | _, _ => False
def renV (σ : Nat → Nat) (h h' : LH) : LV → LV → Prop
  | .agg cs, .agg ds => renCl σ h h' cs ds
  | .tup cs, .tup ds => renCl σ h h' cs ds
  | x, y => renC σ h h' x y
def renO (σ : Nat → Nat) (h h' : LH) : LO → LO → Prop
  | .box cs, .box ds => renCl σ h h' cs ds
  | .ints xs, .ints ys => xs = ys
  | .bools xs, .bools ys => xs = ys
  | .row sz n f, .row sz' n' g => sz = sz' ∧ n = n' ∧ ∀ i, i < n → renCl σ h h' (f i) (g i)
  | .map es, .map fs => es = fs ∧ ∀ kv, kv ∈ es → rigid kv.2
  | .tbox t cs, .tbox u ds => t = u ∧ renCl σ h h' cs ds
  | .byt t xs, .byt u ys => t = u ∧ xs = ys
  | _, _ => False
structure RenOk (nb : Nat) (σ : Nat → Nat) (h h' : LH) : Prop where
  low : nb ≤ h'.n
  keep : ∀ k, k < nb → σ k = k ∧ (h'.f k).1 = (h.f k).1
  obj : ∀ k, k < h'.n → (h'.f k).2.live = true → σ k < h.n ∧ (h'.f k).1 = (h.f (σ k)).1 ∧ renO σ h h' (h.f (σ k)).2 (h'.f k).2
  inj : ∀ k j, k < h'.n → j < h'.n → (h'.f k).2.live = true → (h'.f j).2.live = true → σ k = σ j → k = j
def RenTo (nb : Nat) (s : LS) (h : LH) (s' : LS) (h' : LH) : Prop := ∃ σ, RenOk nb σ h h' ∧ ∀ t, renV σ h h' (s t) (s' t) ∨ s' t = .any
def Wk (nb : Nat) (s : LS) (h : LH) (s' : LS) (h' : LH) : Prop := (s' = s ∧ h' = h) ∨ (∃ sv ho, nb ≤ ho.length ∧ weakTo s h sv ho ∧ s' = mkS sv ∧ h' = mkH ho) ∨ FrzTo s h s' h' ∨ RenTo nb s h s' h'
def lwp (P : Program) (nb : Nat) : LC → (LS → LH → Prop) → (Nat → LS → LH → Prop) → (LS → LH → Prop) → LS → LH → Prop
  | .skip, K, _, _, s, h => K s h
  | .reg ops, K, _, _, s, h => lops P ops K s h
  | .dreg pre sufs, K, _, _, s, h => lopsD P pre sufs K s h
  | .seq a b, K, E, T, s, h => lwp P nb a (fun s h => lwp P nb b K E T s h) E T s h
  | .seqj a b, K, E, T, s, h => lwp P nb a (fun s h => ∃ s' h', Wk nb s h s' h' ∧ lwp P nb b K E T s' h') E T s h
  | .cond c a b, K, E, T, s, h => isBool (op1 s c) ∧ opC true s c ∧ Br (boolOf (op1 s c)) (lwp P nb a K E T s h) (lwp P nb b K E T s h)
  | .block id a, K, E, T, s, h => lwp P nb a K (fun j s h => if j = id then K s h else E j s h) T s h
  | .loop a, _, E, T, s, h => ∃ (α : Type) (I : α → Prop) (sv : α → List (Nat × LV)) (ho : α → List (Nat × LO)) (μ : α → Nat) (x0 : α), I x0 ∧ weakTo s h (sv x0) (ho x0) ∧
      (∀ x, nb ≤ (ho x).length) ∧ ∀ x, I x → lwp P nb a (fun s' h' => ∃ y, I y ∧ weakTo s' h' (sv y) (ho y) ∧ μ y < μ x) E T (mkS (sv x)) (mkH (ho x))
  | .exit id, _, E, _, s, h => E id s h
  | .ret, _, _, T, s, h => T s h

def cCode (P : Program) (N : Nat) : Code → Option LC
  | .skip => some .skip
  | .region _ ops false => (cOps false P N ops ops.toList).map .reg
  | .region _ ops true => match cOps true P N ops ops.toList with
    | some l => (drawAt P ops l).map fun T => .dreg (preX ops l T.contains) (sufsX ops l T.contains)
    | none => none
  | .seq a b => match cCode P N a, cCode P N b with
    | some x, some y => some (.seq x y)
    | _, _ => none
  | .cond c a b => match cCode P N a, cCode P N b with
    | some x, some y => some (.cond c x y)
    | _, _ => none
  | .block id a => (cCode P N a).map (.block id)
  | .loop a => (cCode P N a).map .loop
  | .exit id => some (.exit id)
  | .ret => some .ret
  | _ => none

section
variable {P : Program} {N B : Nat} {R R0 : RO} {ι ι0 : IM} {h h0 : LH} {w w0 : World} {s : LS} {a : Act}

theorem allC_get {n : Nat} : ∀ {cs : List LV} {i : Nat} {c : LV}, allC n cs → cs[i]? = some c → belowC n c
  | [], _, _, _, hx => by simp at hx
  | x :: r, 0, c, h, hx => by simp at hx; subst hx; exact h.1
  | x :: r, i + 1, c, h, hx => allC_get h.2 (by simpa using hx)

theorem allBl_get {n : Nat} : ∀ {cs : List LV} {i : Nat} {c : LV}, allBl n cs → cs[i]? = some c → belowB n c
  | [], _, _, _, hx => by simp at hx
  | x :: r, 0, c, h, hx => by simp at hx; subst hx; exact h.1
  | x :: r, i + 1, c, h, hx => allBl_get h.2 (by simpa using hx)
theorem Rv.truncB {h' : LH} {n : Nat} (hn : n ≤ h'.n) (hf : ∀ k, k < n → h'.f k = h.f k) {lv : LV} {v : Value} (hb : belowB n lv) (hr : Rv R ι h lv v) : Rv R ι h' lv v := by
  cases lv with
  | any => exact .any _
  | sc x => obtain ⟨rfl, hp⟩ := hr.sc_inv; exact .ro (.sc _ hp)
  | nsl => rw [hr.nsl_inv]; exact .ro .nsl
  | rsl sz m f => exact .ro hr.rsl_inv
  | rptr cs => exact .ro hr.rptr_inv
  | rmp es => exact .ro hr.rmp_inv
  | ifc b => exact .ro (.ifc _ _ hr.ifc_inv)
  | sl k ver sz off len =>
    obtain ⟨a, cap, rfl, h1, h2, h3, h4, h5⟩ := hr.sl_inv
    have hk : k < n := hb
    refine .sl _ _ _ _ _ _ _ (by omega) (by rw [hf k hk]; exact h2) h3 h4 (by rw [hf k hk]; exact h5)
  | ptr k ver sz i c =>
    obtain ⟨a, rfl, h1, h2, h3⟩ := hr.ptr_inv
    have hk : k < n := hb
    exact .ptr _ _ _ _ _ _ (by omega) (by rw [hf k hk]; exact h2) (by rw [hf k hk]; exact h3)
  | mp k ver =>
    obtain ⟨b, rfl, h1, h2, h3⟩ := hr.mp_inv
    have hk : k < n := hb
    exact .mp _ _ _ (by omega) (by rw [hf k hk]; exact h2) (by rw [hf k hk]; exact h3)
  | _ => exact hb.elim
theorem Rv.truncC {h' : LH} {n : Nat} (hn : n ≤ h'.n) (hf : ∀ k, k < n → h'.f k = h.f k) {lv : LV} {v : Value} (hb : belowC n lv) (hr : Rv R ι h lv v) : Rv R ι h' lv v := by
  cases lv with
  | fn f cs =>
    obtain ⟨vs, rfl, h1, h2⟩ := hr.fn_inv
    exact .fn _ _ _ h1 (fun i c hi => (h2 i c hi).truncB hn hf (allBl_get hb hi))
  | agg cs =>
    obtain ⟨vs, rfl, h1, h2, h3⟩ := hr.agg_inv
    exact .agg _ _ h1 (fun i c hi => (h2 i c hi).truncB hn hf (allBl_get hb hi)) h3
  | _ => exact hr.truncB hn hf hb

theorem Rv.trunc {h' : LH} {n : Nat} (hn : n ≤ h'.n) (hf : ∀ k, k < n → h'.f k = h.f k) {lv : LV} {v : Value} (hb : belowV n lv) (hr : Rv R ι h lv v) : Rv R ι h' lv v := by
  cases lv with
  | agg cs =>
    obtain ⟨vs, rfl, h1, h2, h3⟩ := hr.agg_inv
    exact .agg _ _ h1 (fun i c hi => (h2 i c hi).truncC hn hf (allC_get hb hi)) h3
  | tup cs =>
    obtain ⟨vs, rfl, h1, h2⟩ := hr.tup_inv
    exact .tup _ _ h1 (fun i c hi => (h2 i c hi).truncC hn hf (allC_get hb hi))
  | fn f cs =>
    obtain ⟨vs, rfl, h1, h2⟩ := hr.fn_inv
    exact .fn _ _ _ h1 (fun i c hi => (h2 i c hi).truncC hn hf (allC_get hb hi))
  | _ => exact hr.truncC hn hf hb

theorem belowO_cell {n : Nat} {ob : LO} (hb : belowO n ob) {i c : Nat} {lv : LV} (hx : cellAt ob i c = some lv) : belowC n lv := by
  unfold cellAt at hx
  split at hx
  · split at hx
    · exact allC_get hb hx
    · simp at hx
  · split at hx
    · simp only [Option.map_eq_some_iff] at hx; obtain ⟨x, _, rfl⟩ := hx; exact trivial
    · simp at hx
  · split at hx
    · simp only [Option.map_eq_some_iff] at hx; obtain ⟨x, _, rfl⟩ := hx; exact trivial
    · simp at hx
  · split at hx
    · rename_i e
      refine allC_get (hb i e.1) (i := c) ?_
      rw [List.getElem?_take_of_lt e.2]; exact hx
    · simp at hx
  · split at hx
    · exact allC_get hb hx
    · simp at hx
  · split at hx
    · simp only [Option.map_eq_some_iff] at hx; obtain ⟨x, _, rfl⟩ := hx; exact trivial
    · simp at hx
  · simp at hx

theorem Rep.trunc {h' : LH} (hr : Rep R ι h B w) (hn : h'.n ≤ h.n) (hf : ∀ k, k < h'.n → h'.f k = h.f k) (hb : ∀ k, k < h'.n → belowO h'.n (h.f k).2) : Rep R ι h' B w := by
  refine ⟨hr.ro, ?_, ?_, ?_, ?_, ?_, fun k hk => by rw [hf k hk]; exact hr.ty k (by omega), hr.gl⟩
  · intro k hk h1 h2 h3
    have hk' : k < h.n := by omega
    rw [hf k hk] at h1 h2 ⊢
    obtain ⟨cl, e, q1, q2, q3, q4, q5⟩ := (hr.cells k hk' h1 h2 h3).ex
    exact ⟨cl, e, q1, q2, q3, q4, fun i c lv hx => let ⟨v, a1, a2⟩ := q5 i c lv hx; ⟨v, a1, a2.truncC (Nat.le_refl _) hf (belowO_cell (hb k hk) hx)⟩⟩
  · intro k hk h1 h2 h3
    rw [hf k hk] at h1 h2 ⊢
    exact hr.empty k (by omega) h1 h2 h3
  · intro k hk h1 h2
    rw [hf k hk] at h1 h2
    exact hr.base k (by omega) h1 h2
  · intro k k' hk hk' h1 h2 h3 h4
    rw [hf k hk] at h1 h3
    rw [hf k' hk'] at h2 h4
    exact hr.apart k k' (by omega) (by omega) h1 h2 h3 h4
  · intro k es hk he
    have hb' := hb k hk
    rw [hf k hk] at he
    rw [he] at hb'
    obtain ⟨ents, clock, q1, q2, q3, q4⟩ := hr.maps k es (by omega) he
    refine ⟨ents, clock, q1, q2, q3, fun i kv hkv => ?_⟩
    obtain ⟨en, a1, a2, a3⟩ := q4 i kv hkv
    exact ⟨en, a1, a2, a3.truncC (Nat.le_refl _) hf (allC_get hb' (i := i) (by simp [hkv]))⟩

theorem weakH_get {n : Nat} : ∀ {l : List (Nat × LO)} {k j : Nat}, weakH n h k l → (hj : j < l.length) → h.f (k + j) = l[j] ∧ belowO n (l[j]).2
  | [], _, _, _, hj => by simp at hj
  | vo :: r, k, 0, hw, _ => ⟨hw.1, hw.2.1⟩
  | vo :: r, k, j + 1, hw, hj => by
    have := weakH_get (j := j) hw.2.2 (by simpa using hj)
    have e : k + 1 + j = k + (j + 1) := by omega
    rw [e] at this
    exact this

theorem weakS_ok {n : Nat} {h' : LH} (hn : n ≤ h'.n) (hf : ∀ k, k < n → h'.f k = h.f k) (hs : ∀ t, Rv R ι h (s t) (a.eval (.tmp t))) : ∀ (sv : List (Nat × LV)), weakS n s sv → ∀ t, Rv R ι h' (mkS sv t) (a.eval (.tmp t))
  | [], _, t => .any _
  | (i, v) :: r, hw, t => by
    obtain ⟨h1, h2, h3⟩ := hw
    show Rv R ι h' (if t = i then v else mkS r t) _
    split
    · rename_i e; subst e
      have := hs t
      rw [h1] at this
      exact this.trunc hn hf h2
    · exact weakS_ok hn hf hs r h3 t

theorem Good.weak {sv : List (Nat × LV)} {ho : List (Nat × LO)} (hg : Good N B R0 ι0 h0 w0 s h a w) (hnb : h0.n ≤ ho.length) (hw : weakTo s h sv ho) : Good N B R0 ι0 h0 w0 (mkS sv) (mkH ho) a w := by
  obtain ⟨R, ι, hT, hA⟩ := hg
  obtain ⟨w1, w2, w3⟩ := hw
  have hf : ∀ k, k < ho.length → (mkH ho).f k = h.f k := by
    intro k hk
    have := (weakH_get w3 hk).1
    rw [Nat.zero_add] at this
    rw [this]
    show ho.getD k (0, .dead) = _
    rw [getD_el hk]
  have hb : ∀ k, k < (mkH ho).n → belowO (mkH ho).n (h.f k).2 := by
    intro k hk
    have hk' : k < ho.length := hk
    have h2 := weakH_get w3 hk'
    rw [Nat.zero_add] at h2
    rw [h2.1]; exact h2.2
  refine ⟨R, ι, ⟨hT.rep.trunc w1 hf hb, ⟨hT.mono.ro, hnb, fun k hk => ?_, fun k hk he => ?_⟩, hT.below, hT.rob, hT.size⟩, ⟨hA.defers, hA.size, weakS_ok (Nat.le_refl _) hf hA.slots sv w2⟩⟩
  · rw [hf k (by omega)]; exact hT.mono.ver k hk
  · rw [hf k (by omega)] at he; exact hT.mono.same k hk he

theorem cOps_cons {dr : Bool} {all : Array Oper} {o : Oper} {r : List Oper} {l : List LX} (hc : cOps dr P N all (o :: r) = some l) : ∃ x l', cOps dr P N all [o] = some [x] ∧ cOps dr P N all r = some l' ∧ l = x :: l' := by
  simp only [cOps] at hc ⊢
  split at hc
  · rename_i g k l' h1 h2 h3 h4
    injection hc with hc
    refine ⟨⟨o.dst, g, k⟩, l', ?_, h4, hc.symm⟩
    rw [h1, h2, h3]
  · simp at hc
theorem cOps_mk {dr : Bool} {all : Array Oper} {o : Oper} {r : List Oper} {x : LX} {l : List LX} (h1 : cOps dr P N all [o] = some [x]) (h2 : cOps dr P N all r = some l) : cOps dr P N all (o :: r) = some (x :: l) := by
  simp only [cOps] at h1 ⊢
  split at h1
  · rename_i g k l' g1 g2 g3 g4
    injection h1 with h1
    injection h1 with h1 _
    rw [g1, g2, g3, h2, ← h1]
  · simp at h1
theorem cOps_get {dr : Bool} {all : Array Oper} : ∀ {os : List Oper} {l : List LX}, cOps dr P N all os = some l → l.length = os.length ∧ ∀ (i : Nat) (o : Oper), os[i]? = some o → ∃ x, l[i]? = some x ∧ cOps dr P N all [o] = some [x]
  | [], l, hc => by
    simp only [cOps, Option.some.injEq] at hc; subst hc
    exact ⟨rfl, fun i o h => by simp at h⟩
  | o :: r, l, hc => by
    obtain ⟨x, l', h1, h2, rfl⟩ := cOps_cons hc
    obtain ⟨g1, g2⟩ := cOps_get h2
    refine ⟨by simp [g1], fun i o' ho => ?_⟩
    cases i with
    | zero => simp at ho; subst ho; exact ⟨x, rfl, h1⟩
    | succ i => obtain ⟨y, a, b⟩ := g2 i o' (by simpa using ho); exact ⟨y, by simpa using a, b⟩
theorem cOps_pick {dr : Bool} {ops : Array Oper} {l : List LX} (hc : cOps dr P N ops ops.toList = some l) : ∀ (idx : List Nat), cOps dr P N ops (idx.filterMap (ops[·]?)) = some (idx.filterMap (l[·]?))
  | [] => rfl
  | i :: r => by
    obtain ⟨h1, h2⟩ := cOps_get hc
    cases ho : ops[i]? with
    | none =>
      rw [List.filterMap_cons_none (by simpa using ho), List.filterMap_cons_none (by
        have : ops.size ≤ i := Array.getElem?_eq_none_iff.1 ho
        simp only [Array.length_toList] at h1
        exact List.getElem?_eq_none (by omega))]
      exact cOps_pick hc r
    | some o =>
      obtain ⟨x, g1, g2⟩ := h2 i o (by simpa using ho)
      rw [List.filterMap_cons_some (by simpa using ho), List.filterMap_cons_some g1]
      exact cOps_mk g2 (cOps_pick hc r)
theorem Good.drew (hg : Good N B R0 ι0 h0 w0 s h a w) : Good N B R0 ι0 h0 w0 s h a { w with drawn := w.drawn + 1 } := by
  obtain ⟨R, ι, hT, hA⟩ := hg
  exact ⟨R, ι, ⟨hT.rep.drew, hT.mono, hT.below.drew, hT.rob, hT.size⟩, hA⟩

theorem er_skip {lc : LC} (h : erase lc = .skip) : lc = .skip := by cases lc <;> simp [erase] at h ⊢
theorem er_reg {lc : LC} {l : List LX} (h : erase lc = .reg l) : lc = .reg l := by cases lc <;> simp [erase] at h ⊢; exact h
theorem er_dreg {lc : LC} {l : List LX} {f : List (List LX)} (h : erase lc = .dreg l f) : lc = .dreg l f := by cases lc <;> simp [erase] at h ⊢; exact h
theorem er_exit {lc : LC} {i : Nat} (h : erase lc = .exit i) : lc = .exit i := by cases lc <;> simp [erase] at h ⊢; exact h
theorem er_ret {lc : LC} (h : erase lc = .ret) : lc = .ret := by cases lc <;> simp [erase] at h ⊢
theorem er_seq {lc x y : LC} (h : erase lc = .seq x y) : ∃ a b, (lc = .seq a b ∨ lc = .seqj a b) ∧ erase a = x ∧ erase b = y := by
  cases lc with
  | seq a b => simp only [erase, LC.seq.injEq] at h; exact ⟨a, b, .inl rfl, h.1, h.2⟩
  | seqj a b => simp only [erase, LC.seq.injEq] at h; exact ⟨a, b, .inr rfl, h.1, h.2⟩
  | _ => simp [erase] at h
theorem er_cond {lc x y : LC} {c : Operand} (h : erase lc = .cond c x y) : ∃ a b, lc = .cond c a b ∧ erase a = x ∧ erase b = y := by
  cases lc with
  | cond c a b => simp only [erase, LC.cond.injEq] at h; exact ⟨a, b, by rw [h.1], h.2.1, h.2.2⟩
  | _ => simp [erase] at h
theorem er_block {lc x : LC} {i : Nat} (h : erase lc = .block i x) : ∃ a, lc = .block i a ∧ erase a = x := by
  cases lc with
  | block i a => simp only [erase, LC.block.injEq] at h; exact ⟨a, by rw [h.1], h.2⟩
  | _ => simp [erase] at h
theorem er_loop {lc x : LC} (h : erase lc = .loop x) : ∃ a, lc = .loop a ∧ erase a = x := by
  cases lc with
  | loop a => simp only [erase, LC.loop.injEq] at h; exact ⟨a, rfl, h⟩
  | _ => simp [erase] at h
section
variable {σ : Nat → Nat} {h' : LH}
theorem Rv.renB {o x : LV} {v : Value} (hr : Rv R ι h o v) (hq : Go.Proofs.YtdfiicpikcdokaaGreatDoor.renB σ h h' o x) : Rv R (fun k => ι (σ k)) h' x v := by
  unfold Go.Proofs.YtdfiicpikcdokaaGreatDoor.renB at hq
  split at hq
  · obtain ⟨⟨rfl, k1, k2, k3⟩, rfl, rfl, rfl, rfl⟩ := hq
    obtain ⟨a, cap, rfl, h1, h2, h3, h4, h5⟩ := hr.sl_inv
    exact .sl _ _ _ _ _ _ _ k1 (by rw [k3]; exact h2) h3 h4 (by rw [k3]; exact h5)
  · obtain ⟨⟨rfl, k1, k2, k3⟩, rfl, rfl, rfl, rfl⟩ := hq
    obtain ⟨a, rfl, h1, h2, h3⟩ := hr.ptr_inv
    exact .ptr _ _ _ _ _ _ k1 (by rw [k3]; exact h2) (by rw [k3]; exact h3)
  · obtain ⟨⟨rfl, k1, k2, k3⟩, rfl⟩ := hq
    obtain ⟨b, rfl, h1, h2, h3⟩ := hr.mp_inv
    exact .mp _ _ _ k1 (by rw [k3]; exact h2) (by rw [k3]; exact h3)
  · obtain ⟨rfl, hx⟩ := hq
    cases o with
    | any => exact .any _
    | sc x => obtain ⟨rfl, hp⟩ := hr.sc_inv; exact .ro (.sc _ hp)
    | nsl => rw [hr.nsl_inv]; exact .ro .nsl
    | rsl sz m f => exact .ro hr.rsl_inv
    | rptr cs => exact .ro hr.rptr_inv
    | rmp es => exact .ro hr.rmp_inv
    | ifc b => exact .ro (.ifc _ _ hr.ifc_inv)
    | _ => exact hx.elim
theorem renBl_get : ∀ {cs ds : List LV}, renBl σ h h' cs ds → cs.length = ds.length ∧ ∀ (i : Nat) (y : LV), ds[i]? = some y → ∃ x, cs[i]? = some x ∧ renB σ h h' x y
  | [], [], _ => ⟨rfl, fun i y hy => by simp at hy⟩
  | x :: r, y :: q, ht => by
    obtain ⟨h1, h2⟩ := renBl_get ht.2
    refine ⟨by simp [h1], fun i z hz => ?_⟩
    cases i with
    | zero => simp at hz; subst hz; exact ⟨x, rfl, ht.1⟩
    | succ i => obtain ⟨u, hu, hu2⟩ := h2 i z (by simpa using hz); exact ⟨u, by simpa using hu, hu2⟩
  | [], _ :: _, ht => ht.elim
  | _ :: _, [], ht => ht.elim
theorem Rv.renC {o x : LV} {v : Value} (hr : Rv R ι h o v) (hq : Go.Proofs.YtdfiicpikcdokaaGreatDoor.renC σ h h' o x) : Rv R (fun k => ι (σ k)) h' x v := by
  unfold Go.Proofs.YtdfiicpikcdokaaGreatDoor.renC at hq
  split at hq
  · obtain ⟨rfl, hq⟩ := hq
    obtain ⟨g1, g2⟩ := renBl_get hq
    obtain ⟨vs, rfl, h1, h2⟩ := hr.fn_inv
    refine .fn _ _ _ (by omega) (fun i c hi => ?_)
    obtain ⟨u, hu, hu2⟩ := g2 i c hi
    exact (h2 i u hu).renB hu2
  · exact hr.renB hq
theorem renCl_get : ∀ {cs ds : List LV}, renCl σ h h' cs ds → cs.length = ds.length ∧ ∀ (i : Nat) (y : LV), ds[i]? = some y → ∃ x, cs[i]? = some x ∧ renC σ h h' x y
  | [], [], _ => ⟨rfl, fun i y hy => by simp at hy⟩
  | x :: r, y :: q, ht => by
    obtain ⟨h1, h2⟩ := renCl_get ht.2
    refine ⟨by simp [h1], fun i z hz => ?_⟩
    cases i with
    | zero => simp at hz; subst hz; exact ⟨x, rfl, ht.1⟩
    | succ i => obtain ⟨u, hu, hu2⟩ := h2 i z (by simpa using hz); exact ⟨u, by simpa using hu, hu2⟩
  | [], _ :: _, ht => ht.elim
  | _ :: _, [], ht => ht.elim
theorem Rv.renV {o x : LV} {v : Value} (hr : Rv R ι h o v) (hq : Go.Proofs.YtdfiicpikcdokaaGreatDoor.renV σ h h' o x) : Rv R (fun k => ι (σ k)) h' x v := by
  unfold Go.Proofs.YtdfiicpikcdokaaGreatDoor.renV at hq
  split at hq
  · obtain ⟨g1, g2⟩ := renCl_get hq
    obtain ⟨vs, rfl, h1, h2, h3⟩ := hr.agg_inv
    refine .agg _ _ (by omega) (fun i c hi => ?_) h3
    obtain ⟨u, hu, hu2⟩ := g2 i c hi
    exact (h2 i u hu).renC hu2
  · obtain ⟨g1, g2⟩ := renCl_get hq
    obtain ⟨vs, rfl, h1, h2⟩ := hr.tup_inv
    refine .tup _ _ (by omega) (fun i c hi => ?_)
    obtain ⟨u, hu, hu2⟩ := g2 i c hi
    exact (h2 i u hu).renC hu2
  · exact hr.renC hq
theorem renO_facts {a b : LO} (hq : renO σ h h' a b) : a.live = true ∧ b.live = true ∧ a.isMap = b.isMap ∧ a.size = b.size ∧ a.sz = b.sz := by
  unfold renO at hq
  split at hq
  · exact ⟨rfl, rfl, rfl, (renCl_get hq).1, rfl⟩
  · subst hq; exact ⟨rfl, rfl, rfl, rfl, rfl⟩
  · subst hq; exact ⟨rfl, rfl, rfl, rfl, rfl⟩
  · obtain ⟨rfl, rfl, _⟩ := hq; exact ⟨rfl, rfl, rfl, rfl, rfl⟩
  · obtain ⟨rfl, _⟩ := hq; exact ⟨rfl, rfl, rfl, rfl, rfl⟩
  · exact ⟨rfl, rfl, rfl, (renCl_get hq.2).1, rfl⟩
  · obtain ⟨rfl, rfl⟩ := hq; exact ⟨rfl, rfl, rfl, rfl, rfl⟩
  · exact hq.elim
theorem renO_cell {a b : LO} (hq : renO σ h h' a b) {i c : Nat} {y : LV} (hy : cellAt b i c = some y) : ∃ x, cellAt a i c = some x ∧ renC σ h h' x y := by
  unfold renO at hq
  split at hq
  · unfold cellAt at hy ⊢
    simp only at hy ⊢
    split at hy
    · rename_i e
      rw [if_pos e]
      exact (renCl_get hq).2 c y hy
    · simp at hy
  · subst hq
    unfold cellAt at hy ⊢
    simp only at hy ⊢
    split at hy
    · rename_i e
      rw [if_pos e]
      refine ⟨y, hy, ?_⟩
      simp only [Option.map_eq_some_iff] at hy
      obtain ⟨x, _, rfl⟩ := hy
      exact ⟨rfl, trivial⟩
    · simp at hy
  · subst hq
    unfold cellAt at hy ⊢
    simp only at hy ⊢
    split at hy
    · rename_i e
      rw [if_pos e]
      refine ⟨y, hy, ?_⟩
      simp only [Option.map_eq_some_iff] at hy
      obtain ⟨x, _, rfl⟩ := hy
      exact ⟨rfl, trivial⟩
    · simp at hy
  · obtain ⟨rfl, rfl, hq⟩ := hq
    unfold cellAt at hy ⊢
    simp only at hy ⊢
    split at hy
    · rename_i e
      rw [if_pos e]
      exact (renCl_get (hq i e.1)).2 c y hy
    · simp at hy
  · unfold cellAt at hy; simp at hy
  · obtain ⟨rfl, hq⟩ := hq
    unfold cellAt at hy ⊢
    simp only at hy ⊢
    split at hy
    · rename_i e
      rw [if_pos e]
      exact (renCl_get hq).2 c y hy
    · simp at hy
  · obtain ⟨rfl, rfl⟩ := hq
    unfold cellAt at hy ⊢
    simp only at hy ⊢
    split at hy
    · rename_i e
      rw [if_pos e]
      refine ⟨y, hy, ?_⟩
      simp only [Option.map_eq_some_iff] at hy
      obtain ⟨x, _, rfl⟩ := hy
      exact ⟨rfl, trivial⟩
    · simp at hy
  · exact hq.elim
theorem renO_ty {a b : LO} {x : IA} (hq : renO σ h h' a b) (ht : tyC w a x) : tyC w b x := by
  unfold renO at hq
  split at hq
  · trivial
  · trivial
  · trivial
  · trivial
  · trivial
  · obtain ⟨rfl, hq⟩ := hq
    exact ⟨ht.1, by rw [← (renCl_get hq).1]; exact ht.2.1, ht.2.2⟩
  · obtain ⟨rfl, rfl⟩ := hq; exact ht
  · exact hq.elim
theorem Rep.ren (hr : Rep R ι h B w) {nb : Nat} (ho : RenOk nb σ h h') : Rep R (fun k => ι (σ k)) h' B w := by
  refine ⟨hr.ro, ?_, ?_, ?_, ?_, ?_, ?_, hr.gl⟩
  · intro k hk h1 h2 h3
    obtain ⟨o1, o2, o3⟩ := ho.obj k hk h1
    obtain ⟨f1, f2, f3, f4, f5⟩ := renO_facts o3
    obtain ⟨cl, e, q1, q2, q3, q4, q5⟩ := (hr.cells (σ k) o1 f1 (by rw [f3]; exact h2) h3).ex
    refine ⟨cl, e, q1, q2, by rw [← f4]; exact q3, q4, fun i c lv hx => ?_⟩
    obtain ⟨x, hx1, hx2⟩ := renO_cell o3 hx
    obtain ⟨v, a1, a2⟩ := q5 i c x hx1
    exact ⟨v, by rw [← f5]; exact a1, a2.renC hx2⟩
  · intro k hk h1 h2 h3
    obtain ⟨o1, o2, o3⟩ := ho.obj k hk h1
    obtain ⟨f1, f2, f3, f4, f5⟩ := renO_facts o3
    rw [← f4]
    exact hr.empty (σ k) o1 f1 (by rw [f3]; exact h2) h3
  · intro k hk h1 h2
    obtain ⟨o1, o2, o3⟩ := ho.obj k hk h1
    obtain ⟨f1, f2, f3, f4, f5⟩ := renO_facts o3
    exact hr.base (σ k) o1 f1 (by rw [f3]; exact h2)
  · intro k k' hk hk' h1 h2 h3 h4 h5
    obtain ⟨o1, o2, o3⟩ := ho.obj k hk h1
    obtain ⟨f1, f2, f3, f4, f5⟩ := renO_facts o3
    obtain ⟨p1, p2, p3⟩ := ho.obj k' hk' h2
    obtain ⟨g1, g2, g3, g4, g5⟩ := renO_facts p3
    exact ho.inj k k' hk hk' h1 h2 (hr.apart (σ k) (σ k') o1 p1 f1 g1 (by rw [f3]; exact h3) (by rw [g3]; exact h4) h5)
  · intro k es hk he
    obtain ⟨o1, o2, o3⟩ := ho.obj k hk (by rw [he]; rfl)
    rw [he] at o3
    generalize ha : (h.f (σ k)).2 = ob at o3
    cases ob with
    | map fs =>
      obtain ⟨rfl, hri⟩ := o3
      obtain ⟨ents, clock, q1, q2, q3, q4⟩ := hr.maps (σ k) fs o1 ha
      refine ⟨ents, clock, q1, q2, q3, fun i kv hkv => ?_⟩
      obtain ⟨en, a1, a2, a3⟩ := q4 i kv hkv
      refine ⟨en, a1, a2, a3.renB (σ := σ) ?_⟩
      have := hri kv (List.mem_of_getElem? hkv)
      generalize kv.2 = x at *
      cases x <;> first | exact ⟨rfl, this⟩ | exact this.elim
    | _ => exact o3.elim
  · intro k hk
    by_cases hl : (h'.f k).2.live = true
    · obtain ⟨o1, o2, o3⟩ := ho.obj k hk hl
      exact renO_ty o3 (hr.ty (σ k) o1)
    · cases hd : (h'.f k).2 with
      | dead => trivial
      | _ => rw [hd] at hl; exact absurd rfl hl
theorem Good.ren {s' : LS} (hg : Good N B R0 ι0 h0 w0 s h a w) (ho : RenOk h0.n σ h h') (hs : ∀ t, Go.Proofs.YtdfiicpikcdokaaGreatDoor.renV σ h h' (s t) (s' t) ∨ s' t = .any) : Good N B R0 ι0 h0 w0 s' h' a w := by
  obtain ⟨R, ι, hT, hA⟩ := hg
  refine ⟨R, fun k => ι (σ k), ⟨hT.rep.ren ho, ⟨hT.mono.ro, ho.low, fun k hk => ?_, fun k hk he => ?_⟩, hT.below, hT.rob, hT.size⟩, ⟨hA.defers, hA.size, fun t => ?_⟩⟩
  · rw [(ho.keep k hk).2]; exact hT.mono.ver k hk
  · rw [(ho.keep k hk).2] at he
    show ι (σ k) = ι0 k
    rw [(ho.keep k hk).1]; exact hT.mono.same k hk he
  · rcases hs t with h1 | h1
    · exact (hA.slots t).renV h1
    · rw [h1]; exact .any _
end
theorem Good.wk {s' : LS} {h' : LH} (hg : Good N B R0 ι0 h0 w0 s h a w) (hw : Wk h0.n s h s' h') : Good N B R0 ι0 h0 w0 s' h' a w := by
  rcases hw with ⟨rfl, rfl⟩ | ⟨sv, ho, h1, h2, rfl, rfl⟩ | hf | ⟨σ, h1, h2⟩
  · exact hg
  · exact hg.weak h1 h2
  rotate_left
  · exact hg.ren h1 h2
  · obtain ⟨R, ι, hT, hA⟩ := hg
    obtain ⟨R', ι', hT', hv⟩ := hf B R ι w (Nat.le_trans hT.size hT.below.size) hT.rep
    exact ⟨R', ι', hT.trans hT', hA.defers, hA.size, fun t => hv t _ (hA.slots t)⟩
theorem lwp_ok : ∀ (c : Code) (lc : LC), cCode P N c = some (erase lc) → ∀ {K : LS → LH → Prop} {E : Nat → LS → LH → Prop} {T : LS → LH → Prop} {Q : Exit → Act → World → Prop},
    (∀ s h a w, Good N B R0 ι0 h0 w0 s h a w → K s h → Q .normal a w) → (∀ id s h a w, Good N B R0 ι0 h0 w0 s h a w → E id s h → Q (.exit id) a w) → (∀ s h a w, Good N B R0 ι0 h0 w0 s h a w → T s h → Q .ret a w) →
    ∀ s h a w, Good N B R0 ι0 h0 w0 s h a w → lwp P h0.n lc K E T s h → c.wp P Q a w := by
  intro c
  induction c with
  | skip =>
    intro lc hc K E T Q hK hE hT s h a w hg hl
    simp only [cCode, Option.some.injEq] at hc
    obtain rfl := er_skip hc.symm
    exact wp_skip (hK s h a w hg hl)
  | region id ops draw =>
    intro lc hc K E T Q hK hE hT s h a w hg hl
    cases draw with
    | true =>
      simp only [cCode] at hc
      split at hc
      · rename_i l hl'
        have hlen : l.length = ops.size := by have := (cOps_get hl').1; simpa using this
        rw [Option.map_eq_some_iff] at hc
        obtain ⟨n, hn, hc⟩ := hc
        have hok : drawOkR P ops l n.contains = true := drawAt_ok hn
        obtain rfl := er_dreg hc.symm
        exact wp_region_draw fun t => lops_ok hK _ _ _ rfl (cOps_pick hl' _) s h a _ hg.drew (lops_draw hl' hlen hok hl t)
      · simp at hc
    | false =>
      simp only [cCode, Option.map_eq_some_iff] at hc
      obtain ⟨l, hl', hc⟩ := hc
      obtain rfl := er_reg hc.symm
      exact wp_region (lops_ok hK _ _ _ (filterMap_range ops) hl' s h a w hg hl)
  | seq x y ihx ihy =>
    intro lc hc K E T Q hK hE hT s h a w hg hl
    simp only [cCode] at hc
    split at hc
    · rename_i lx' ly' hx hy
      injection hc with hc
      obtain ⟨lx, ly, hlc | hlc, rfl, rfl⟩ := er_seq hc.symm
      · subst hlc
        refine wp_seq (ihx lx hx (K := fun s h => lwp P h0.n ly K E T s h) (E := E) (T := T) ?_ ?_ ?_ s h a w hg hl)
        · intro s h a w hg hl; exact ihy ly hy hK hE hT s h a w hg hl
        · intro id s h a w hg hl; exact hE id s h a w hg hl
        · intro s h a w hg hl; exact hT s h a w hg hl
      · subst hlc
        refine wp_seq (ihx lx hx (K := fun s h => ∃ s' h', Wk h0.n s h s' h' ∧ lwp P h0.n ly K E T s' h') (E := E) (T := T) ?_ ?_ ?_ s h a w hg hl)
        · intro s h a w hg hl
          obtain ⟨s', h', hw, hl⟩ := hl
          exact ihy ly hy hK hE hT s' h' a w (hg.wk hw) hl
        · intro id s h a w hg hl; exact hE id s h a w hg hl
        · intro s h a w hg hl; exact hT s h a w hg hl
    · simp at hc
  | cond c x y ihx ihy =>
    intro lc hc K E T Q hK hE hT s h a w hg hl
    simp only [cCode] at hc
    split at hc
    · rename_i lx' ly' hx hy
      injection hc with hc
      obtain ⟨lx, ly, rfl, rfl, rfl⟩ := er_cond hc.symm
      obtain ⟨h1, h2, h3⟩ := hl
      obtain ⟨R, ι, hTr, hA⟩ := hg
      obtain ⟨b, hb, hv⟩ := isBool_inv (op1_ok (eval_ok hA) rfl h2) h1
      refine wp_cond_split hv (fun e => ?_) (fun e => ?_)
      · subst e; exact ihx lx hx hK hE hT s h a w ⟨R, ι, hTr, hA⟩ (h3.1 (by rw [hb]; rfl))
      · subst e; exact ihy ly hy hK hE hT s h a w ⟨R, ι, hTr, hA⟩ (h3.2 (by rw [hb]; rfl))
    · simp at hc
  | block id x ih =>
    intro lc hc K E T Q hK hE hT s h a w hg hl
    simp only [cCode, Option.map_eq_some_iff] at hc
    obtain ⟨lx', hx, hc⟩ := hc
    obtain ⟨lx, rfl, rfl⟩ := er_block hc.symm
    refine wp_block (ih lx hx (K := K) (E := fun j s h => if j = id then K s h else E j s h) (T := T) ?_ ?_ ?_ s h a w hg hl)
    · intro s h a w hg hl; exact hK s h a w hg hl
    · intro j s h a w hg hl
      simp only [Exit.inBlock]
      split
      · rename_i e; rw [if_pos e] at hl; exact hK s h a w hg hl
      · rename_i e; rw [if_neg e] at hl; exact hE j s h a w hg hl
    · intro s h a w hg hl; exact hT s h a w hg hl
  | loop x ih =>
    intro lc hc K E T Q hK hE hT s h a w hg hl
    simp only [cCode, Option.map_eq_some_iff] at hc
    obtain ⟨lx', hx, hc⟩ := hc
    obtain ⟨lx, rfl, rfl⟩ := er_loop hc.symm
    obtain ⟨α, I, sv, ho, μ, x0, hI0, hw0, hnb, hround⟩ := hl
    -- the ghost of a state: some x for which the state is good
    have hch : ∀ (p : Act × World), ∃ n : Nat, (∃ x, I x ∧ Good N B R0 ι0 h0 w0 (mkS (sv x)) (mkH (ho x)) p.1 p.2) → (∃ x, I x ∧ μ x = n ∧ Good N B R0 ι0 h0 w0 (mkS (sv x)) (mkH (ho x)) p.1 p.2) ∧
        ∀ x, I x → Good N B R0 ι0 h0 w0 (mkS (sv x)) (mkH (ho x)) p.1 p.2 → n ≤ μ x := by
      intro p
      by_cases hex : ∃ x, I x ∧ Good N B R0 ι0 h0 w0 (mkS (sv x)) (mkH (ho x)) p.1 p.2
      · have : ∀ n, (∃ x, I x ∧ μ x = n ∧ Good N B R0 ι0 h0 w0 (mkS (sv x)) (mkH (ho x)) p.1 p.2) → ∃ m, (∃ x, I x ∧ μ x = m ∧ Good N B R0 ι0 h0 w0 (mkS (sv x)) (mkH (ho x)) p.1 p.2) ∧
            ∀ x, I x → Good N B R0 ι0 h0 w0 (mkS (sv x)) (mkH (ho x)) p.1 p.2 → m ≤ μ x := by
          intro n
          induction n using Nat.strongRecOn with
          | _ n ihn =>
            intro hn
            by_cases hlow : ∃ x, I x ∧ μ x < n ∧ Good N B R0 ι0 h0 w0 (mkS (sv x)) (mkH (ho x)) p.1 p.2
            · obtain ⟨x, h1, h2, h3⟩ := hlow
              exact ihn (μ x) h2 ⟨x, h1, rfl, h3⟩
            · refine ⟨n, hn, fun x hIx hgx => ?_⟩
              rcases Nat.lt_or_ge (μ x) n with hlt | hge
              · exact absurd ⟨x, hIx, hlt, hgx⟩ hlow
              · exact hge
        obtain ⟨x, h1, h2⟩ := hex
        obtain ⟨m, hm1, hm2⟩ := this (μ x) ⟨x, h1, rfl, h2⟩
        exact ⟨m, fun _ => ⟨hm1, hm2⟩⟩
      · exact ⟨0, fun h => absurd h hex⟩
    obtain ⟨ν, hν⟩ := Classical.axiomOfChoice hch
    refine wp_loop (fun a w => ∃ x, I x ∧ Good N B R0 ι0 h0 w0 (mkS (sv x)) (mkH (ho x)) a w) (fun a w => ν (a, w)) ⟨x0, hI0, hg.weak (hnb x0) hw0⟩ ?_
    intro a w hI
    obtain ⟨⟨x, hIx, hμ, hgx⟩, _⟩ := hν (a, w) hI
    refine ih lx hx (K := fun s' h' => ∃ y, I y ∧ weakTo s' h' (sv y) (ho y) ∧ μ y < μ x) (E := E) (T := T) ?_ ?_ ?_ _ _ a w hgx (hround x hIx)
    · intro s' h' a' w' hg' hy
      obtain ⟨y, hIy, hwy, hlt⟩ := hy
      have hgy := hg'.weak (hnb y) hwy
      refine ⟨⟨y, hIy, hgy⟩, ?_⟩
      have := (hν (a', w') ⟨y, hIy, hgy⟩).2 y hIy hgy
      show ν (a', w') < ν (a, w)
      omega
    · intro id s h a w hg hl; exact hE id s h a w hg hl
    · intro s h a w hg hl; exact hT s h a w hg hl
  | exit id =>
    intro lc hc K E T Q hK hE hT s h a w hg hl
    simp only [cCode, Option.some.injEq] at hc
    obtain rfl := er_exit hc.symm
    exact wp_exit (hE id s h a w hg hl)
  | ret =>
    intro lc hc K E T Q hK hE hT s h a w hg hl
    simp only [cCode, Option.some.injEq] at hc
    obtain rfl := er_ret hc.symm
    exact wp_ret (hT s h a w hg hl)
  | _ => intro lc hc; simp [cCode] at hc

end
end Go.Proofs.YtdfiicpikcdokaaGreatDoor
namespace Go.Proofs.YtdfiicpikcdokaaGreatDoor
set_option linter.unusedSimpArgs false
set_option linter.unusedVariables false
open Go.RowKit

def roTo1 (h : LH) : LV → LV → Prop
  | .nsl, .rsl _ n _ => n = 0
  | .sl k ver sz off len, .rsl sz' n f => sz' = sz ∧ n = len ∧ k < h.n ∧ (h.f k).1 = ver ∧ rngC (h.f k).2 sz off len ∧ (∀ i, i < len → elO (h.f k).2 (off + i) = f i ∧ roishL (f i))
  | .mp k ver, .rmp ds => k < h.n ∧ (h.f k).1 = ver ∧ (h.f k).2 = .map ds ∧ ∀ kv, kv ∈ ds → roish1 kv.2
  | x, y => x = y ∧ roish1 x
def roToL (h : LH) : List LV → List LV → Prop
  | [], [] => True
  | x :: r, y :: q => roTo1 h x y ∧ roToL h r q
  | _, _ => False
def roTo2 (h : LH) : LV → LV → Prop
  | .agg cs, .agg ds => roToL h cs ds
  | .ptr k ver sz i c, .rptr ds => k < h.n ∧ (h.f k).1 = ver ∧ sz = 0 ∧ i = 0 ∧ c = 0 ∧ match (h.f k).2 with
    | .box cs => roToL h cs ds
    | _ => False
  | .fn f cs, .fn g ds => f = g ∧ roToL h cs ds
  | x, y => roTo1 h x y
def roToL2 (h : LH) : List LV → List LV → Prop
  | [], [] => True
  | x :: r, y :: q => roTo2 h x y ∧ roToL2 h r q
  | _, _ => False
def roTo3 (h : LH) : LV → LV → Prop
  | .tup cs, .tup ds => roToL2 h cs ds
  | x, y => roTo2 h x y

section
variable {P : Program} {N B : Nat} {R R' R0 : RO} {ι ι0 : IM} {h h0 : LH} {w w0 : World} {s : LS} {a : Act}

theorem roTo1_ok (hrep : Rep R ι h B w) (hl : RoLe R R') (hfz : ∀ k, k < h.n → (h.f k).2.live = true → ((ι k).m ≠ 0 ∨ (h.f k).2.isMap = true) → R' (ι k).b = w.heap[(ι k).b]?)
    {lv r : LV} {v : Value} (hr : Rv R ι h lv v) (ht : roTo1 h lv r) : Ro R' r v := by
  unfold roTo1 at ht
  split at ht
  · subst ht
    rw [hr.nsl_inv]
    exact .rsl _ _ _ none 0 0 0 (fun _ _ => undef) (Nat.le_refl _) (by unfold maxLen; omega) (fun h => absurd h (Nat.lt_irrefl _)) (fun i hi => absurd hi (Nat.not_lt_zero _)) (fun i j hi => absurd hi (Nat.not_lt_zero _)) (fun i j c hi => absurd hi (Nat.not_lt_zero _)) (fun i j hi => absurd hi (Nat.not_lt_zero _))
  · rename_i k ver sz off len sz' n f
    obtain ⟨rfl, rfl, hk, hver, hrng, hel⟩ := ht
    obtain ⟨a, cap, rfl, _, _, hlc, hm, hcase⟩ := hr.sl_inv
    have hlen : ∀ i, i < n → (f i).length = sz' := by
      intro i hi
      rw [← (hel i hi).1]
      generalize (h.f k).2 = ob at hrng
      cases ob with
      | ints xs => exact hrng.1.symm
      | bools xs => exact hrng.1.symm
      | row s' n' f' => exact hrng.2.2 i hi
      | _ => exact hrng.elim
    have hall : ∀ i j, ∃ v, i < n → j < sz' → ∃ lv, (f i)[j]? = some lv ∧ w.cell? ⟨(ι k).b, (ι k).o + ((off + i) * sz' + j), none⟩ = some v ∧ Rv R ι h lv v ∧ plainV v = true ∧ R' (ι k).b = w.heap[(ι k).b]? := by
      intro i j
      by_cases hi : i < n
      · by_cases hj : j < sz'
        · obtain ⟨lv, v, e1, e2, e3, e4⟩ := rng_cells hrep hk hrng hi hj
          obtain ⟨_, _, _, _, g1, g2, g3⟩ := rngC_cell hrng hi hj
          rw [(hel i hi).1] at e1
          exact ⟨v, fun _ _ => ⟨lv, e1, e2, e3, e4, hfz k hk g1 (.inl (fun e => g3 (hrep.empty k hk g1 g2 e)))⟩⟩
        · exact ⟨undef, fun _ h => absurd h hj⟩
      · exact ⟨undef, fun h => absurd h hi⟩
    have hall2 : ∀ i, ∃ g : Nat → Value, ∀ j, i < n → j < sz' → ∃ lv, (f i)[j]? = some lv ∧ w.cell? ⟨(ι k).b, (ι k).o + ((off + i) * sz' + j), none⟩ = some (g j) ∧ Rv R ι h lv (g j) ∧ plainV (g j) = true ∧ R' (ι k).b = w.heap[(ι k).b]? :=
      fun i => Classical.axiomOfChoice (hall i)
    obtain ⟨g, hg⟩ := Classical.axiomOfChoice hall2
    refine .rsl _ _ _ a cap (ι k).b ((ι k).o + off * sz') g hlc hm ?_ hlen ?_ ?_ ?_
    · intro h0
      rcases hcase with h9 | h9
      · omega
      · exact (h9 hver.symm).1
    · intro i j hi hj
      obtain ⟨lv, _, e2, _, _, e5⟩ := hg i j hi hj
      unfold roCell
      rw [e5]
      unfold World.cell? at e2
      simp only at e2
      have e9 : (ι k).o + off * sz' + i * sz' + j = (ι k).o + ((off + i) * sz' + j) := by rw [Nat.add_mul]; omega
      rw [e9]
      split at e2
      · rename_i c _ _ hw
        rw [hw]
        simpa using e2
      · simp at e2
    · intro i j c hi hc
      have hj : j < sz' := by
        have := (List.getElem?_eq_some_iff.1 hc).1
        rw [hlen i hi] at this; exact this
      obtain ⟨lv, e1, _, e3, _⟩ := hg i j hi hj
      rw [e1] at hc
      injection hc with hc
      subst hc
      exact roish1_ok e3 hl (roishL_get (hel i hi).2 e1)
    · intro i j hi hj
      exact (hg i j hi hj).choose_spec.2.2.2.1
  · rename_i k ver ds
    obtain ⟨hk, hver, hob, hro⟩ := ht
    obtain ⟨b, rfl, _, _, hb⟩ := hr.mp_inv
    have := hb hver.symm
    subst this
    obtain ⟨ents, clock, h1, h2, h3, h4⟩ := hrep.maps k ds hk hob
    refine .rmp ds _ ents clock ?_ h2 h3.2 (fun i kv hi => let ⟨e, a, b, _⟩ := h4 i kv hi; ⟨e, a, b⟩) (fun i kv e hi he => ?_)
    · rw [hfz k hk (by rw [hob]; rfl) (.inr (by rw [hob]; rfl))]; exact h1
    · obtain ⟨e', a, _, c⟩ := h4 i kv hi
      rw [he] at a
      injection a with a
      subst a
      exact roish1_ok c hl (hro kv (List.mem_of_getElem? hi))
  · obtain ⟨rfl, hi⟩ := ht
    exact roish1_ok hr hl hi

theorem roToL_get : ∀ {xs ys : List LV}, roToL h xs ys → xs.length = ys.length ∧ ∀ (i : Nat) (y : LV), ys[i]? = some y → ∃ x, xs[i]? = some x ∧ roTo1 h x y
  | [], [], _ => ⟨rfl, fun i y hy => by simp at hy⟩
  | x :: r, y :: q, ht => by
    obtain ⟨h1, h2⟩ := roToL_get ht.2
    refine ⟨by simp [h1], fun i z hz => ?_⟩
    cases i with
    | zero => simp at hz; subst hz; exact ⟨x, rfl, ht.1⟩
    | succ i =>
      obtain ⟨u, hu, hu2⟩ := h2 i z (by simpa using hz)
      exact ⟨u, by simpa using hu, hu2⟩
  | [], _ :: _, ht => ht.elim
  | _ :: _, [], ht => ht.elim

theorem roTo2_ok (hrep : Rep R ι h B w) (hl : RoLe R R') (hfz : ∀ k, k < h.n → (h.f k).2.live = true → ((ι k).m ≠ 0 ∨ (h.f k).2.isMap = true) → R' (ι k).b = w.heap[(ι k).b]?)
    {lv r : LV} {v : Value} (hr : Rv R ι h lv v) (ht : roTo2 h lv r) : Ro R' r v := by
  unfold roTo2 at ht
  split at ht
  · rename_i cs ds
    obtain ⟨vs, rfl, h1, h2, h3⟩ := hr.agg_inv
    obtain ⟨g1, g2⟩ := roToL_get ht
    refine .agg _ _ (by omega) (fun i c hi => ?_) h3
    obtain ⟨x, hx, hx2⟩ := g2 i c hi
    exact roTo1_ok hrep hl hfz (h2 i x hx) hx2
  · rename_i k ver sz i c ds
    obtain ⟨hk, hver, rfl, rfl, rfl, hm⟩ := ht
    obtain ⟨a, rfl, _, _, ha⟩ := hr.ptr_inv
    rw [ha hver.symm]
    split at hm
    · rename_i cs hob
      obtain ⟨g1, g2⟩ := roToL_get hm
      by_cases h0 : cs.length = 0
      · have : ds = [] := List.length_eq_zero_iff.1 (by omega)
        subst this
        exact .rptr _ _ _ (fun _ => undef) (fun j hj => absurd hj (Nat.not_lt_zero _)) (fun j c hc => by simp at hc) (fun j hj => absurd hj (Nat.not_lt_zero _))
      · have hlive : (h.f k).2.live = true := by rw [hob]; rfl
        have hmap : (h.f k).2.isMap = false := by rw [hob]; rfl
        have hm0 : (ι k).m ≠ 0 := fun e => by
          have := hrep.empty k hk hlive hmap e
          rw [hob] at this; exact h0 this
        obtain ⟨cl, e, hw, hsz, _, hp, hcl⟩ := (hrep.cells k hk hlive hmap hm0).ex
        have hfzk := hfz k hk hlive (.inl hm0)
        rw [hob] at hcl
        have key : ∀ j y, ds[j]? = some y → ∃ x u, cs[j]? = some x ∧ roTo1 h x y ∧ cl[(ι k).o + j]? = some u ∧ Rv R ι h x u := by
          intro j y hy
          obtain ⟨x, hx, hx2⟩ := g2 j y hy
          obtain ⟨u, hu1, hu2⟩ := hcl 0 j x (by simp [cellAt, hx])
          exact ⟨x, u, hx, hx2, by simpa [LO.sz] using hu1, hu2⟩
        refine .rptr _ _ _ (fun j => cl.getD ((ι k).o + j) undef) (fun j hj => ?_) (fun j y hy => ?_) (fun j hj => ?_)
        · obtain ⟨x, u, _, _, e3, _⟩ := key j ds[j] (List.getElem?_eq_getElem hj)
          unfold roCell
          rw [hfzk, hw]
          simp only [Nat.zero_mul, Nat.add_zero]
          rw [Array.getD_eq_getD_getElem?, e3]; rfl
        · obtain ⟨x, u, _, e2, e3, e4⟩ := key j y hy
          rw [Array.getD_eq_getD_getElem?, e3]
          exact roTo1_ok hrep hl hfz e4 e2
        · obtain ⟨x, u, _, _, e3, _⟩ := key j ds[j] (List.getElem?_eq_getElem hj)
          exact hp _ (Array.getElem?_eq_some_iff.1 e3).1
    · exact hm.elim
  · rename_i f cs g ds
    obtain ⟨rfl, ht⟩ := ht
    obtain ⟨vs, rfl, h1, h2⟩ := hr.fn_inv
    obtain ⟨g1, g2⟩ := roToL_get ht
    refine .fn _ _ _ (by omega) (fun i c hi => ?_)
    obtain ⟨x, hx, hx2⟩ := g2 i c hi
    exact roTo1_ok hrep hl hfz (h2 i x hx) hx2
  · exact roTo1_ok hrep hl hfz hr ht

theorem roToL2_get : ∀ {xs ys : List LV}, roToL2 h xs ys → xs.length = ys.length ∧ ∀ (i : Nat) (y : LV), ys[i]? = some y → ∃ x, xs[i]? = some x ∧ roTo2 h x y
  | [], [], _ => ⟨rfl, fun i y hy => by simp at hy⟩
  | x :: r, y :: q, ht => by
    obtain ⟨h1, h2⟩ := roToL2_get ht.2
    refine ⟨by simp [h1], fun i z hz => ?_⟩
    cases i with
    | zero => simp at hz; subst hz; exact ⟨x, rfl, ht.1⟩
    | succ i =>
      obtain ⟨u, hu, hu2⟩ := h2 i z (by simpa using hz)
      exact ⟨u, by simpa using hu, hu2⟩
  | [], _ :: _, ht => ht.elim
  | _ :: _, [], ht => ht.elim

theorem roTo3_ok (hrep : Rep R ι h B w) (hl : RoLe R R') (hfz : ∀ k, k < h.n → (h.f k).2.live = true → ((ι k).m ≠ 0 ∨ (h.f k).2.isMap = true) → R' (ι k).b = w.heap[(ι k).b]?)
    {lv r : LV} {v : Value} (hr : Rv R ι h lv v) (ht : roTo3 h lv r) : Ro R' r v := by
  unfold roTo3 at ht
  split at ht
  · rename_i cs ds
    obtain ⟨vs, rfl, h1, h2⟩ := hr.tup_inv
    obtain ⟨g1, g2⟩ := roToL2_get ht
    refine .tup _ _ (by omega) (fun i c hi => ?_)
    obtain ⟨x, hx, hx2⟩ := g2 i c hi
    exact roTo2_ok hrep hl hfz (h2 i x hx) hx2
  · exact roTo2_ok hrep hl hfz hr ht

def Ev (P : Program) (f : FuncId) (args : List LV) (r : LV) : Prop :=
  ∀ (R : RO) (w : World) (vs : Array Value), (∀ b o, R b = some o → w.heap[b]? = some o) → Gl R → vs.size = args.length → (∀ i a, args[i]? = some a → Ro R a (vs.getD i undef)) →
    Calls P f vs w fun e w' => ∃ v R', e = .returned v ∧ RoLe R R' ∧ (∀ b, b < w.heap.size → R' b = R b) ∧ (∀ b o, R' b = some o → w'.heap[b]? = some o) ∧ Below w.heap.size w w' ∧ Ro R' r v

inductive RX where
  | tmp (t : Nat)
  | cell (a : Nat) (n : Option Nat)
def cRes (P : Program) : List ResultVar → Option (List RX)
  | [] => some []
  | .tmp t :: r => (cRes P r).map (.tmp t :: ·)
  | .cell a t :: r => match ldK P t, cRes P r with
    | some n, some l => some (.cell a n :: l)
    | _, _ => none
def resV (s : LS) (h : LH) : RX → LV
  | .tmp t => s t
  | .cell a n => ldV n h (s a)
def resC (s : LS) (h : LH) : RX → Prop
  | .tmp _ => True
  | .cell a n => ldC true n h (s a)
def resCL (s : LS) (h : LH) : List RX → Prop
  | [] => True
  | x :: r => resC s h x ∧ resCL s h r
def outV (s : LS) (h : LH) : List RX → LV
  | [x] => resV s h x
  | l => .tup (l.map (resV s h))

def argS : List LV → Nat → LS
  | [], _ => fun _ => .any
  | x :: r, i => upd (argS r (i + 1)) i x

theorem res_ok (hr : Rep R ι h B w) (hA : ActOk N a s R ι h) : ∀ (rs : List ResultVar) (l : List RX), cRes P rs = some l → resCL s h l →
    ∃ vs : List Value, (rs.mapM (m := Sem) fun | .tmp t => pure (a.tmps.getD t undef) | .cell b t => do loadVar t (← asAddr (a.tmps.getD b undef))).run P w = .ok vs w ∧ vs.length = l.length ∧
      ∀ i x, l[i]? = some x → Rv R ι h (resV s h x) (vs.getD i undef) := by
  intro rs
  induction rs with
  | nil => intro l hl _; simp only [cRes, Option.some.injEq] at hl; subst hl; exact ⟨[], by simp, rfl, fun i x hx => by simp at hx⟩
  | cons r rs ih =>
    intro l hl hc
    cases r with
    | tmp t =>
      simp only [cRes, Option.map_eq_some_iff] at hl
      obtain ⟨l', hl', rfl⟩ := hl
      obtain ⟨vs, h1, h2, h3⟩ := ih l' hl' hc.2
      refine ⟨a.tmps.getD t undef :: vs, ?_, by simp [h2], fun i x hx => ?_⟩
      · simp only [List.mapM_cons, Sem.run_bind, Sem.run_pure, Result.andThen_ok, h1]
      · cases i with
        | zero => simp at hx; subst hx; exact hA.slots t
        | succ i => have := h3 i x (by simpa using hx); simpa using this
    | cell b t =>
      simp only [cRes] at hl
      split at hl
      · rename_i n l' hn hl'
        injection hl with hl; subst hl
        obtain ⟨hc1, hc2⟩ := hc
        obtain ⟨vs, h1, h2, h3⟩ := ih l' hl' hc2
        have hb := hA.slots b
        obtain ⟨v, g1, g2⟩ := ld_ok hr hn hb hc1
        have hp : ∃ ad, a.tmps.getD b undef = .pointer (some ad) := by
          have hc1' : ldC true n h (s b) := hc1
          unfold ldC at hc1'
          split at hc1'
          · rename_i cs hx
            have hb' : Rv R ι h (s b) (a.tmps.getD b undef) := hb
            rw [hx] at hb'
            have := hb'.rptr_inv
            cases hv : a.tmps.getD b undef <;> rw [hv] at this <;> cases this
            exact ⟨_, rfl⟩
          · rename_i k ver sz i c hx
            have hb' : Rv R ι h (s b) (a.tmps.getD b undef) := hb
            rw [hx] at hb'
            obtain ⟨ad, e, _⟩ := hb'.ptr_inv
            exact ⟨ad, e⟩
          · exact hc1'.elim
        obtain ⟨ad, had⟩ := hp
        have g1' : (loadVar t ad).run P w = .ok v w := by
          have : a.eval (.tmp b) = .pointer (some ad) := had
          rw [this] at g1
          simpa [Instr.loadAt, Instr.sureAddr] using g1
        refine ⟨v :: vs, ?_, by simp [h2], fun i x hx => ?_⟩
        · have hasa : (asAddr (a.tmps.getD b undef)).run P w = .ok ad w := by rw [had]; rfl
          simp only [List.mapM_cons, Sem.run_bind, hasa, Sem.run_pure, Result.andThen_ok, g1', h1]
        · cases i with
          | zero => simp at hx; subst hx; exact g2
          | succ i => have := h3 i x (by simpa using hx); simpa using this
      · simp at hl

theorem out_ok (hr : Rep R ι h B w) (hA : ActOk N a s R ι h) {fn : Func} {l : List RX} (hl : cRes P fn.results.toList = some l) (hc : resCL s h l) : ∃ v, (results fn a.tmps).run P w = .ok v w ∧ Rv R ι h (outV s h l) v := by
  obtain ⟨vs, h1, h2, h3⟩ := res_ok (P := P) hr hA fn.results.toList l hl hc
  refine ⟨if h : vs.toArray.size = 1 then vs.toArray[0] else .tuple vs.toArray, ?_, ?_⟩
  · simp only [results, Sem.run_bind]
    rw [Array.mapM_eq_mapM_toList]
    simp only [Sem.run_map]
    have e : ∀ (x : Result (List Value)), x = .ok vs w → ((x.andThen fun a w' => Result.ok a.toArray w').andThen fun vs w' => Sem.run P (pure (if h : vs.size = 1 then vs[0] else Value.tuple vs)) w') = .ok (if h : vs.toArray.size = 1 then vs.toArray[0] else .tuple vs.toArray) w := by
      intro x hx; subst hx; rfl
    exact e _ h1
  · by_cases h1l : l.length = 1
    · obtain ⟨x, rfl⟩ := List.length_eq_one_iff.1 h1l
      have hv1 : vs.length = 1 := by omega
      obtain ⟨v, rfl⟩ := List.length_eq_one_iff.1 hv1
      have := h3 0 x rfl
      simpa [outV] using this
    · have hne : ¬ vs.toArray.size = 1 := by simp; omega
      rw [dif_neg hne]
      have ho : outV s h l = .tup (l.map (resV s h)) := by
        unfold outV
        split
        · simp at h1l
        · rfl
      rw [ho]
      refine .tup _ _ (by simp; omega) (fun i c hi => ?_)
      simp only [List.getElem?_map, Option.map_eq_some_iff] at hi
      obtain ⟨x, hx, rfl⟩ := hi
      have := h3 i x hx
      rw [List.getD_eq_getElem?_getD] at this
      rw [Array.getD_eq_getD_getElem?]; simpa using this

theorem argS_ok : ∀ (args : List LV) (i : Nat) (t : Nat), argS args i t = if i ≤ t then args.getD (t - i) .any else .any
  | [], i, t => by simp [argS]
  | x :: r, i, t => by
    simp only [argS, upd]
    by_cases e : t = i
    · subst e; simp
    · rw [if_neg e, argS_ok r (i + 1) t]
      by_cases h1 : i ≤ t
      · rw [if_pos h1, if_pos (by omega)]
        have : t - i = (t - (i + 1)) + 1 := by omega
        rw [this]; simp
      · rw [if_neg h1, if_neg (by omega)]

theorem args_act {args : List LV} {vs : Array Value} (hl : vs.size = args.length) (hle : args.length ≤ N) (hv : ∀ i a, args[i]? = some a → Rv R ι h a (vs.getD i undef)) :
    ActOk N { tmps := vs ++ Array.replicate (N - vs.size) undef, defers := [] } (argS args 0) R ι h := by
  refine ⟨rfl, by simp; omega, fun t => ?_⟩
  rw [argS_ok, if_pos (Nat.zero_le _), Nat.sub_zero]
  cases ht : args[t]? with
  | none => rw [List.getD_eq_getElem?_getD, ht]; exact .any _
  | some x =>
    rw [List.getD_eq_getElem?_getD, ht]
    have := hv t x ht
    have hlt : t < vs.size := by rw [hl]; exact (List.getElem?_eq_some_iff.1 ht).1
    show Rv R ι h x ((vs ++ Array.replicate (N - vs.size) undef).getD t undef)
    rw [Array.getD_eq_getD_getElem?, Array.getElem?_append_left hlt]
    rw [Array.getD_eq_getD_getElem?] at this
    exact this

def LH.empty : LH := ⟨0, fun _ => (0, .dead)⟩

theorem ev_of_lwp {f : FuncId} {fn : Func} {c : Code} {lc : LC} {l : List RX} {args : List LV} {r : LV} (hf : P.funcs[f]? = some fn) (hb : fn.body = some c) (hc : cCode P fn.ntmps c = some (erase lc)) (hl : cRes P fn.results.toList = some l)
    (hle : args.length ≤ fn.ntmps) (hw : lwp P 0 lc (fun s h => resCL s h l ∧ roTo3 h (outV s h l) r) (fun _ _ _ => False) (fun s h => resCL s h l ∧ roTo3 h (outV s h l) r) (argS args 0) LH.empty) : Ev P f args r := by
  intro R w vs hR hgl hvs ha
  refine calls_of_wp hf hb ?_
  have hrep : Rep R (fun _ => default) LH.empty w.heap.size w :=
    ⟨hR, fun k hk => absurd hk (Nat.not_lt_zero _), fun k hk => absurd hk (Nat.not_lt_zero _), fun k hk => absurd hk (Nat.not_lt_zero _), fun k _ hk => absurd hk (Nat.not_lt_zero _), fun k _ hk => absurd hk (Nat.not_lt_zero _), fun k hk => absurd hk (Nat.not_lt_zero _), hgl⟩
  have hgood : Good fn.ntmps w.heap.size R (fun _ => default) LH.empty w (argS args 0) LH.empty { tmps := vs ++ Array.replicate (fn.ntmps - vs.size) undef, defers := [] } w :=
    ⟨R, fun _ => default, Trans.refl hrep (Nat.le_refl _), args_act hvs hle (fun i a hi => .ro (ha i a hi))⟩
  have fin : ∀ s h a w', Good fn.ntmps w.heap.size R (fun _ => default) LH.empty w s h a w' → resCL s h l ∧ roTo3 h (outV s h l) r →
      a.defers = [] ∧ ∃ v, (results fn a.tmps).run P w' = .ok v w' ∧ ∃ v', ∃ R', Ending.returned v = .returned v' ∧ RoLe R R' ∧ (∀ b, b < w.heap.size → R' b = R b) ∧ (∀ b o, R' b = some o → w'.heap[b]? = some o) ∧ Below w.heap.size w w' ∧ Ro R' r v' := by
    intro s h a w' hg hq
    obtain ⟨R1, ι1, hT, hA⟩ := hg
    obtain ⟨v, hv1, hv2⟩ := out_ok hT.rep hA hl hq.1
    refine ⟨hA.defers, v, hv1, v, fun b => if b < w.heap.size then R b else w'.heap[b]?, rfl, ?_, ?_, ?_, hT.below, ?_⟩
    · intro b o hbo
      have h1 := hR b o hbo
      have h2 := (Array.getElem?_eq_some_iff.1 h1).1
      simp only [h2, if_true]; exact hbo
    · intro b hb; simp [hb]
    · intro b o hbo
      by_cases hlt : b < w.heap.size
      · simp only [hlt, if_true] at hbo
        rw [hT.below.block b hlt]; exact hR b o hbo
      · simp only [hlt, if_false] at hbo; exact hbo
    · refine roTo3_ok hT.rep ?_ ?_ hv2 hq.2
      · intro b o hbo
        by_cases hlt : b < w.heap.size
        · simp only [hlt, if_true]; rw [← hT.rob b hlt]; exact hbo
        · simp only [hlt, if_false]; exact hT.rep.ro b o hbo
      · intro k hk h1 h3
        have := (hT.rep.base k hk h1 h3).1
        simp only [show ¬ (ι1 k).b < w.heap.size by omega, if_false]
  refine lwp_ok (N := fn.ntmps) (B := w.heap.size) (R0 := R) (ι0 := fun _ => default) (h0 := LH.empty) (w0 := w) c lc hc (K := fun s h => resCL s h l ∧ roTo3 h (outV s h l) r) (E := fun _ _ _ => False) (T := fun s h => resCL s h l ∧ roTo3 h (outV s h l) r) ?_ ?_ ?_ _ _ _ _ hgood hw
  · intro s h a w' hg hq; exact fin s h a w' hg hq
  · intro id s h a w' _ hq; exact hq.elim
  · intro s h a w' hg hq; exact fin s h a w' hg hq

end
end Go.Proofs.YtdfiicpikcdokaaGreatDoor
namespace Go.Proofs.YtdfiicpikcdokaaGreatDoor
set_option linter.unusedSimpArgs false
set_option linter.unusedVariables false
open Go.RowKit

def cFn (P : Program) (fn : Func) : Option (LC × List RX) :=
  match fn.body with
  | some c => match cCode P fn.ntmps c, cRes P fn.results.toList with
    | some lc, some l => some (lc, l)
    | _, _ => none
  | none => none

section
variable {P : Program} {N B : Nat} {R R' R0 : RO} {ι ι0 : IM} {h h0 : LH} {w w0 : World} {s : LS} {a : Act}

theorem cFn_parts {fn : Func} {lc : LC} {l : List RX} (hc : cFn P fn = some (lc, l)) : ∃ c, fn.body = some c ∧ cCode P fn.ntmps c = some lc ∧ cRes P fn.results.toList = some l := by
  unfold cFn at hc
  split at hc
  · rename_i c hb
    split at hc
    · rename_i lc' l' h1 h2
      injection hc with hc
      injection hc with e1 e2
      subst e1 e2
      exact ⟨c, hb, h1, h2⟩
    · simp at hc
  · simp at hc

def fin (l : List RX) (r : LV) (s : LS) (h : LH) : Prop := resCL s h l ∧ roTo3 h (outV s h l) r

theorem ev_fn {f : FuncId} {fn : Func} {lc : LC} {l : List RX} {args : List LV} {r : LV} (hf : P.funcs[f]? = some fn) (hc : cFn P fn = some (erase lc, l)) (hle : args.length ≤ fn.ntmps)
    (hw : lwp P 0 lc (fin l r) (fun _ _ _ => False) (fin l r) (argS args 0) LH.empty) : Ev P f args r := by
  obtain ⟨c, h1, h2, h3⟩ := cFn_parts hc
  exact ev_of_lwp hf h1 h2 h3 hle hw

def scal1 : LV → Prop
  | .sc _ => True
  | _ => False
def scalL : List LV → Prop
  | [] => True
  | x :: r => scal1 x ∧ scalL r
def scal2 : LV → Prop
  | .agg cs => scalL cs
  | x => scal1 x
def scalL2 : List LV → Prop
  | [] => True
  | x :: r => scal2 x ∧ scalL2 r
def scal : LV → Prop
  | .tup cs => scalL2 cs
  | x => scal2 x

theorem scalL_get : ∀ {l : List LV} {i : Nat} {x : LV}, scalL l → l[i]? = some x → scal1 x
  | [], _, _, _, hx => by simp at hx
  | y :: r, 0, x, h, hx => by simp at hx; subst hx; exact h.1
  | y :: r, i + 1, x, h, hx => scalL_get h.2 (by simpa using hx)
theorem scalL2_get : ∀ {l : List LV} {i : Nat} {x : LV}, scalL2 l → l[i]? = some x → scal2 x
  | [], _, _, _, hx => by simp at hx
  | y :: r, 0, x, h, hx => by simp at hx; subst hx; exact h.1
  | y :: r, i + 1, x, h, hx => scalL2_get h.2 (by simpa using hx)
theorem scal1_ok {lv : LV} {v : Value} (hs : scal1 lv) (hr : Ro R lv v) : Ro R' lv v := by
  cases lv with
  | sc x => cases hr with
    | sc _ hp => exact .sc _ hp
  | _ => exact hs.elim
theorem scal2_ok {lv : LV} {v : Value} (hs : scal2 lv) (hr : Ro R lv v) : Ro R' lv v := by
  cases lv with
  | agg cs => cases hr with
    | agg _ vs hl hc hp => exact .agg _ _ hl (fun i c hi => scal1_ok (scalL_get hs hi) (hc i c hi)) hp
  | _ => exact scal1_ok hs hr
theorem scal_ok {lv : LV} {v : Value} (hs : scal lv) (hr : Ro R lv v) : Ro R' lv v := by
  cases lv with
  | tup cs => cases hr with
    | tup _ vs hl hc => exact .tup _ _ hl (fun i c hi => scal2_ok (scalL2_get hs hi) (hc i c hi))
  | _ => exact scal2_ok hs hr

def roish2 : LV → Prop
  | .agg cs => roishL cs
  | .fn _ cs => roishL cs
  | x => roish1 x
theorem roish2_ok {lv : LV} {v : Value} (hi : roish2 lv) (hr : Rv R ι h lv v) : Ro R lv v := by
  cases lv with
  | agg cs =>
    obtain ⟨vs, rfl, h1, h2, h3⟩ := hr.agg_inv
    exact .agg _ _ h1 (fun i c hc => roish1_ok (h2 i c hc) (fun _ _ h => h) (roishL_get hi hc)) h3
  | fn f cs =>
    obtain ⟨vs, rfl, h1, h2⟩ := hr.fn_inv
    exact .fn _ _ _ h1 (fun i c hc => roish1_ok (h2 i c hc) (fun _ _ h => h) (roishL_get hi hc))
  | _ => exact roish1_ok hr (fun _ _ h => h) hi
def roishL2 : List LV → Prop
  | [] => True
  | x :: r => roish2 x ∧ roishL2 r
theorem roishL2_get : ∀ {l : List LV} {i : Nat} {x : LV}, roishL2 l → l[i]? = some x → roish2 x
  | [], _, _, _, hx => by simp at hx
  | y :: r, 0, x, h, hx => by simp at hx; subst hx; exact h.1
  | y :: r, i + 1, x, h, hx => roishL2_get h.2 (by simpa using hx)

theorem lcall_ro {f : FuncId} {args : List LV} {r : LV} (he : Ev P f args r) (ha : roishL2 args) : LCall P f args h r h := by
  intro B R ι w vs hB hr hsz hargs
  refine (he R w vs hr.ro hr.gl hsz (fun i a hi => roish2_ok (roishL2_get ha hi) (hargs i a hi))).mono ?_
  intro e w' hx
  obtain ⟨v, R', rfl, h1, h2, h3, h4, h5⟩ := hx
  exact ⟨v, R', ι, rfl, trans_call hB hr h3 h4 h1 h2 rfl, .ro h5⟩

theorem lcall_frz {f : FuncId} {args args' : List LV} {r : LV} (he : Ev P f args' r) (ha : roToL2 h args args') (hs : scal r) : LCall P f args h r h := by
  intro B R ι w vs hB hr hsz hargs
  obtain ⟨g1, g2⟩ := roToL2_get ha
  refine (he (fun b => w.heap[b]?) w vs (fun _ _ h => h) (hr.gl.mono fun b o hb => hr.ro b o hb) (by omega) (fun i a hi => ?_)).mono ?_
  · obtain ⟨x, hx, hx2⟩ := g2 i a hi
    exact roTo2_ok hr (fun b o hb => hr.ro b o hb) (fun _ _ _ _ => rfl) (hargs i x hx) hx2
  · intro e w' hx
    obtain ⟨v, R', rfl, h1, h2, h3, h4, h5⟩ := hx
    refine ⟨v, R, ι, rfl, trans_call hB hr (R2 := R) (fun b o hbo => ?_) h4 (fun _ _ h => h) (fun _ _ => rfl) rfl, .ro (scal_ok hs h5)⟩
    have := hr.ro b o hbo
    rw [h4.block b (Array.getElem?_eq_some_iff.1 this).1]; exact this

end
end Go.Proofs.YtdfiicpikcdokaaGreatDoor
