/- The lifted layer, part 10: append, whole. Conditions: none. -/
import Derived.Test.YtfhifkcbdpgomaaL9
namespace Go.Proofs.Ytfhifkcbdpgomaa
set_option linter.unusedSimpArgs false
set_option linter.unusedVariables false
open Go.RowKit

section
variable {P : Program} {R : RO} {ι : IM} {h : LH} {B : Nat} {w : World} {s : LS} {ρ : Operand → Value}

theorem storeCells_raw (b p : Nat) (e : TypeId) : ∀ (us : List Value) (j : Nat) (w : World) (c : Array Value), w.heap[b]? = some (.cells c e (0, 0)) → p + j + us.length ≤ c.size → (∀ u, u ∈ us → plainV u = true) →
    ∃ w' c', (storeCells ⟨b, p, none⟩ us j).run P w = .ok () w' ∧ w'.heap[b]? = some (.cells c' e (0, 0)) ∧ c'.size = c.size ∧ (∀ q, q < us.length → c'[p + j + q]? = us[q]?) ∧
      (∀ q, q < p + j ∨ p + j + us.length ≤ q → c'[q]? = c[q]?) ∧ (∀ k, k ≠ b → w'.heap[k]? = w.heap[k]?) ∧ w'.heap.size = w.heap.size ∧ w'.os = w.os ∧ w'.tape = w.tape ∧ w'.output = w.output := by
  intro us
  induction us with
  | nil => intro j w c hw _ _; exact ⟨w, c, rfl, hw, rfl, fun q hq => absurd hq (Nat.not_lt_zero _), fun _ _ => rfl, fun _ _ => rfl, rfl, rfl, rfl, rfl⟩
  | cons u r ih =>
    intro j w c hw hl hp
    simp only [List.length_cons] at hl
    have hset := setCell_cells (w := w) (a := ⟨b, p + j, none⟩) (v := u) rfl hw
    obtain ⟨w', c', h1, h2, h3, h4, h5, h6, h7, h8, h9, h10⟩ := ih (j + 1) (w.setCell ⟨b, p + j, none⟩ u) (c.setIfInBounds (p + j) u) hset (by simp; omega) (fun x hx => hp x (by simp [hx]))
    refine ⟨w', c', ?_, h2, by simpa using h3, ?_, ?_, ?_, ?_, h8, h9, h10⟩
    · simp only [storeCells, Sem.run_bind, add_mk]
      rw [run_store _ _ _ _ _ (plain_oneCell (hp u (by simp)))]
      have g1 : w.cell? ⟨b, p + j, none⟩ = some c[p + j] := by
        simp only [World.cell?, hw]; simp
      have g2 : w.frozen? ⟨b, p + j, none⟩ = false := by simp [World.frozen?, hw]
      simp only [g1, g2, Bool.false_eq_true, if_false, Result.andThen_ok]
      exact h1
    · intro q hq
      cases q with
      | zero =>
        rw [Nat.add_zero, h5 (p + j) (.inl (by omega)), Array.getElem?_setIfInBounds]
        simp; omega
      | succ q =>
        have := h4 q (by simpa using hq)
        have e1 : p + j + (q + 1) = p + (j + 1) + q := by omega
        rw [e1, this]; simp
    · intro q hq
      simp only [List.length_cons] at hq
      rw [h5 q (by omega), Array.getElem?_setIfInBounds, if_neg (by omega)]
    · intro k hk
      rw [h6 k hk]
      simp only [World.setCell, Array.getElem?_modify]
      rw [if_neg (fun e => hk e.symm)]
    · rw [h7]; simp [World.setCell]

theorem growBy_le (need : Nat) (h256 : 256 ≤ need) : ∀ (n c : Nat), c ≤ 2 * need → Builtin.growBy need n c ≤ 2 * need := by
  intro n
  induction n with
  | zero => intro c hc; exact hc
  | succ n ih =>
    intro c hc
    unfold Builtin.growBy
    split
    · exact hc
    · exact ih _ (by omega)

theorem nextcap_le {need cap : Nat} (hlt : cap < need) : Builtin.nextslicecap need cap ≤ 2 * need := by
  unfold Builtin.nextslicecap
  split
  · omega
  · split
    · omega
    · exact growBy_le need (by omega) _ _ (by omega)

def bytesO (P : Program) (t : TypeId) : Option Nat := (P.info? t).map (·.bytes)

/-- The bounds of append. -/
def appRoom (bytes n : Nat) : Prop := 2 * n * bytes ≤ 281474976710656

theorem yPlain {y : LV} {sz : Nat} {us : Array Value} (h0 : 0 < sz) (hsz : us.size = yN y * sz) (hu : ∀ i j, i < yN y → j < sz → ∃ lv, (yF h y i)[j]? = some lv ∧ Rv R ι h lv (us.getD (i * sz + j) undef) ∧ plainV (us.getD (i * sz + j) undef) = true) :
    ∀ q, q < us.size → plainV (us.getD q undef) = true := by
  intro q hq
  rw [hsz] at hq
  obtain ⟨d1, d2, d3⟩ := divmod h0 hq
  obtain ⟨_, _, _, e⟩ := hu _ _ d1 d2
  rw [d3] at e; exact e

theorem zeroC_plain {z : Array Value} (hz : ∀ v, v ∈ z → plainV v = true) (n : Nat) : ∀ q, q < (Builtin.zeroCells z n).size → plainV ((Builtin.zeroCells z n).getD q undef) = true := by
  intro q hq
  unfold Builtin.zeroCells at hq ⊢
  have hlt : q < n * z.size := by simpa using hq
  have h0 : 0 < z.size := by
    rcases Nat.eq_zero_or_pos z.size with e | e
    · rw [e] at hlt; omega
    · exact e
  have hm : q % z.size < z.size := Nat.mod_lt _ h0
  rw [Array.getD_eq_getD_getElem?]
  simp only [Array.getElem?_map]
  rw [Array.getElem?_range]
  simp only [hlt, if_true, Option.map_some, Option.getD_some]
  rw [getElem!_pos z _ hm]
  exact hz _ (Array.getElem_mem hm)

theorem ykC_type {kd : Nat} {zero : List Value} {sz : Nat} (hk : kindZ zero = kd) (hz : zero.length = sz) : kd = 1 ∨ kd = 2 → sz = 1 := by
  rintro (rfl | rfl)
  · have := kindZ_one hk; subst this; simpa using hz.symm
  · have := kindZ_two hk; subst this; simpa using hz.symm

theorem Rep.drew (hr : Rep R ι h B w) : Rep R ι h B w.drew :=
  ⟨hr.ro, fun k a b c d => ⟨(hr.cells k a b c d).ex⟩, hr.empty, hr.base, hr.apart, hr.maps⟩

theorem append_room {t ty el : TypeId} {inf : TypeInfo} (ht : P.underlying t = some (.slice el)) (hinf : P.info? el = some inf) {a : Option Addr} {len cap n : Nat} {ya : Option Addr} {ycap : Nat} {us : Array Value} {w' : World}
    (hroom : len + n ≤ cap) (hf : (Builtin.firstCells inf.size n (.slice ya n ycap)).run P w = .ok us w) (hst : ∀ ad, a = some ad → (storeCells (ad.add (len * inf.size)) us.toList).run P w = .ok () w') (hnone : a = none → w' = w) :
    (Builtin.append_ #[t, t] ty #[.slice a len cap, .slice ya n ycap]).run P w = .ok (.slice a (len + n) cap) w' := by
  cases a with
  | none =>
    have := hnone rfl
    subst this
    simp [Builtin.append_, run_underlying ht, sizeOf, typeInfo, hinf, Builtin.lenOf, hroom, hf]
  | some ad =>
    have := hst ad rfl
    simp [Builtin.append_, run_underlying ht, sizeOf, typeInfo, hinf, Builtin.lenOf, hroom, hf, this]

theorem append_grow {t ty el : TypeId} {inf : TypeInfo} {z : Value} (ht : P.underlying t = some (.slice el)) (hinf : P.info? el = some inf) (hz : inf.zero = some z) {a : Option Addr} {len cap n : Nat} {ya : Option Addr} {ycap : Nat} {olds us : Array Value}
    (hroom : cap < len + n) (ho : (Builtin.firstCells inf.size len (.slice a len cap)).run P w.drew = .ok olds w.drew) (hf : (Builtin.firstCells inf.size n (.slice ya n ycap)).run P w.drew = .ok us w.drew)
    (h63 : ((len + n : Nat) : Int) ≤ 9223372036854775807) (hfit : Builtin.nextslicecap (len + n) cap * inf.bytes ≤ 281474976710656) :
    (Builtin.append_ #[t, t] ty #[.slice a len cap, .slice ya n ycap]).run P w =
      .ok (.slice (some ⟨w.heap.size, 0, none⟩) (len + n) (grownCap w (len + n) cap el)) (w.drew.alloc (.cells (olds ++ us ++ Builtin.zeroCells z.cells (grownCap w (len + n) cap el - (len + n))) el)) := by
  have hn : ¬ (len + n ≤ cap) := by omega
  have h63' : ¬ (9223372036854775807 < ((len : Int) + (n : Int))) := by omega
  have h48' : ¬ (281474976710656 < Builtin.nextslicecap (len + n) cap * inf.bytes) := by omega
  simp [Builtin.append_, run_underlying ht, sizeOf, typeInfo, zeroValue, hinf, hz, Builtin.lenOf, hn, h63', h48', Question.forced, hf, ho, newRow, grownCap]

theorem app_index {sz len m i c : Nat} (hc : c < sz) : (i < len → i * sz + c < len * sz) ∧ (len ≤ i → i - len < m → len * sz ≤ i * sz + c ∧ i * sz + c - len * sz = (i - len) * sz + c ∧ i * sz + c < (len + m) * sz) := by
  refine ⟨fun hi => ?_, fun h1 h2 => ?_⟩
  · have := Nat.mul_le_mul_right sz (Nat.succ_le_of_lt hi)
    rw [Nat.succ_mul] at this; omega
  · have e : i = len + (i - len) := by omega
    have e2 : i * sz = len * sz + (i - len) * sz := by rw [← Nat.add_mul, ← e]
    have := Nat.mul_le_mul_right sz (Nat.succ_le_of_lt h2)
    rw [Nat.succ_mul] at this
    rw [Nat.add_mul]
    omega

/-- append to a live object. -/
theorem app_ok (hr : Rep R ι h B w) (hB : B ≤ w.heap.size) {t ty el : TypeId} {kd sz bytes k ver off len : Nat} {zero : List Value} {y : LV} {vx vy : Value}
    (ht : P.underlying t = some (.slice el)) (hs : sizeO P el = some sz) (hb : bytesO P el = some bytes) (hb1 : 1 ≤ bytes) (hz : zeroCells P el = some zero) (hzl : zero.length = sz) (hk : kindZ zero = kd) (h0 : 0 < sz)
    (hx : Rv R ι h (.sl k ver sz off len) vx) (hy : Rv R ι h y vy) (hver : (h.f k).1 = ver) (hkd : kdC kd (h.f k).2) (hrng : rngC (h.f k).2 sz off len) (hyc : yC h sz y) (hyk : ykC kd h y) (hroom : appRoom bytes (len + yN y)) :
    ∃ v w' ι', (Builtin.append_ #[t, t] ty #[vx, vy]).run P w = .ok v w' ∧ Trans B R ι h w R ι' (h.set k (ver + 1, appO kd sz off len (h.f k).2 h y)) w' ∧
      Rv R ι' (h.set k (ver + 1, appO kd sz off len (h.f k).2 h y)) (.sl k (ver + 1) sz 0 (len + yN y)) v := by
  obtain ⟨f1, f2, f3, f4, f5⟩ := appO_facts (off := off) (len := len) (ob := (h.f k).2) hyc hyk (.inl hkd) (ykC_type hk hzl) (.inr hrng)
  have hxc : yC h sz (.sl k ver sz off len) := ⟨rfl, (hx.sl_inv).choose_spec.choose_spec.2.1, hver, hrng⟩
  obtain ⟨a, cap, hvx, hkn, _, hlc, hm, hcase⟩ := hx.sl_inv
  have hlive : (h.f k).2.live = true ∧ (h.f k).2.isMap = false := by
    unfold rngC at hrng
    generalize (h.f k).2 = ob at *
    cases ob <;> first | exact ⟨rfl, rfl⟩ | exact hrng.elim
  obtain ⟨inf, hinf, hbytes, hsize⟩ : ∃ i, P.info? el = some i ∧ i.bytes = bytes ∧ i.size = sz := by
    unfold bytesO at hb
    unfold sizeO at hs
    cases hi : P.info? el with
    | none => rw [hi] at hb; simp at hb
    | some i => rw [hi] at hb hs; simp at hb hs; exact ⟨i, rfl, hb, hs⟩
  obtain ⟨zv, hzv1, hzv2, hzv3⟩ := zeroCells_ok (P := P) (w := w) hz
  have hzi : inf.zero = some zv := by
    unfold zeroCells at hz
    simp only [zeroValue, typeInfo, Sem.run_bind, run_program, Result.andThen_ok, hinf, Sem.run_pure] at hzv1
    cases hq : inf.zero with
    | none => rw [hq] at hzv1; simp at hzv1
    | some v => rw [hq] at hzv1; simp at hzv1; rw [hzv1]
  unfold appRoom at hroom
  have hneed : 2 * (len + yN y) ≤ 2 * (len + yN y) * bytes := by
    have := Nat.mul_le_mul_left (2 * (len + yN y)) hb1
    omega
  have hfk : (h.set k (ver + 1, appO kd sz off len (h.f k).2 h y)).f k = (ver + 1, appO kd sz off len (h.f k).2 h y) := by simp [LH.set]
  by_cases hfit : len + yN y ≤ cap
  · obtain ⟨ya, ycap, us, rfl, hfc, husz, hus⟩ := firstCells_ok (P := P) hr h0 hy hyc
    have hyp := yPlain h0 husz hus
    by_cases hcap : cap = 0
    · have hl0 : len = 0 := by omega
      have hy0 : yN y = 0 := by omega
      have hus0 : us = #[] := by
        apply Array.eq_empty_of_size_eq_zero; rw [husz, hy0]; simp
      have hrun := append_room (P := P) (w := w) (w' := w) (ty := ty) (a := a) (len := len) (cap := cap) ht hinf hfit (by rw [hsize]; exact hfc) (fun ad _ => by rw [hus0]; rfl) (fun _ => rfl)
      have hch := hr.change hB hkn (ver' := ver + 1) (ob' := appO kd sz off len (h.f k).2 h y) (x' := ⟨w.heap.size, 0, 0⟩) (w' := { w with heap := w.heap.push (.cells #[] el) }) hlive.1 (by omega) (by omega) f1 f2 hlive.2 rfl rfl rfl (by simp)
        (fun b hb hne => by simp only [Array.getElem?_push]; rw [if_neg (by omega)]) (.inr ⟨Nat.le_refl _, by simp⟩) (fun _ hne => absurd rfl hne) (fun _ => by rw [f3, hl0, hy0]; simp)
      -- the same with the world as it is: nothing lies in the new block
      refine ⟨_, w, updI ι k ⟨w.heap.size, 0, 0⟩, by rw [hvx]; exact hrun, ⟨⟨?_, ?_, ?_, ?_, ?_, ?_⟩, hch.mono, Below.refl _ _, fun _ _ => rfl, hB⟩, ?_⟩
      · exact hr.ro
      · intro j hj h1 h2 h3
        have hjk : j ≠ k := by
          intro e; subst e; simp [updI] at h3
        have h4 : (h.set k (ver + 1, appO kd sz off len (h.f k).2 h y)).f j = h.f j := by simp [LH.set, hjk]
        have h5 : updI ι k ⟨w.heap.size, 0, 0⟩ j = ι j := by simp [updI, hjk]
        rw [h4] at h1 h2 ⊢
        rw [h5] at h3 ⊢
        obtain ⟨cl, e', q1, q2, q3, q4, q5⟩ := (hr.cells j hj h1 h2 h3).ex
        exact ⟨cl, e', q1, q2, q3, q4, fun i c lv hx => let ⟨v, a1, a2⟩ := q5 i c lv hx; ⟨v, a1, a2.mono hch.mono⟩⟩
      · exact hch.rep.empty
      · intro j hj h1 h3
        by_cases hjk : j = k
        · subst hjk
          rw [hfk] at h3
          rcases h3 with h3 | h3
          · simp [updI] at h3
          · rw [f2] at h3; simp at h3
        · have h4 : (h.set k (ver + 1, appO kd sz off len (h.f k).2 h y)).f j = h.f j := by simp [LH.set, hjk]
          have h5 : updI ι k ⟨w.heap.size, 0, 0⟩ j = ι j := by simp [updI, hjk]
          rw [h4] at h1 h3
          rw [h5] at h3 ⊢
          exact hr.base j hj h1 h3
      · exact hch.rep.apart
      · intro j es hj hes
        have hjk : j ≠ k := by
          intro e; subst e
          rw [hfk] at hes
          simp only at hes
          rw [hes] at f2; simp [LO.isMap] at f2
        have h4 : (h.set k (ver + 1, appO kd sz off len (h.f k).2 h y)).f j = h.f j := by simp [LH.set, hjk]
        have h5 : updI ι k ⟨w.heap.size, 0, 0⟩ j = ι j := by simp [updI, hjk]
        rw [h4] at hes
        rw [h5]
        obtain ⟨ents, clock, q1, q2, q3, q4⟩ := hr.maps j es hj hes
        exact ⟨ents, clock, q1, q2, q3, fun i kv hkv => let ⟨e, a1, a2, a3⟩ := q4 i kv hkv; ⟨e, a1, a2, a3.mono hch.mono⟩⟩
      · refine .sl _ _ _ _ _ _ _ hkn (by rw [hfk]; exact Nat.le_refl _) (by omega) hm (.inl hcap)
    · obtain ⟨rfl, hcapm⟩ := (hcase.resolve_left hcap) hver.symm
      have hm0 : (ι k).m ≠ 0 := by
        intro e; rw [e] at hcapm
        have := Nat.mul_le_mul_right sz (show 1 ≤ off + cap by omega)
        omega
      obtain ⟨cl, e, hw, hcs, hle, hpl, hcl⟩ := (hr.cells k hkn hlive.1 hlive.2 hm0).ex
      have hbig : (off + (len + yN y)) * sz ≤ (ι k).m := Nat.le_trans (Nat.mul_le_mul_right _ (by omega)) hcapm
      rw [Nat.add_mul, Nat.add_mul] at hbig
      obtain ⟨w', c', s1, s2, s3, s4, s5, s6, s7, s8, s9, s10⟩ := storeCells_raw (P := P) (ι k).b ((ι k).o + off * sz + len * sz) e us.toList 0 w cl hw (by simp; omega) (fun u hu => by
        obtain ⟨q, hq, rfl⟩ := List.getElem_of_mem hu
        have := hyp q (by simpa using hq)
        rw [Array.getD_eq_getD_getElem?, Array.getElem?_eq_getElem (by simpa using hq)] at this
        simpa using this)
      have hrun := append_room (P := P) (w := w) (w' := w') (ty := ty) (a := some ⟨(ι k).b, (ι k).o + off * sz, none⟩) (len := len) (cap := cap) ht hinf hfit (by rw [hsize]; exact hfc) (fun ad had => by
        injection had with had; subst had; rw [hsize, add_mk]; exact s1) (fun hn => by simp at hn)
      have hch := hr.change hB hkn (ver' := ver + 1) (ob' := appO kd sz off len (h.f k).2 h y) (x' := ⟨(ι k).b, (ι k).o + off * sz, (ι k).m - off * sz⟩) (w' := w') hlive.1 (by omega) (by omega) f1 f2 hlive.2 s8 s9 s10 (by omega)
        (fun b hb hne => s6 b hne) (.inl ⟨rfl, hm0⟩) (fun mono _ => ⟨c', e, s2, by simp only; omega, by rw [f3, Nat.add_mul]; simp only; omega, fun j hj => ?_, fun i c lv hx => ?_⟩) (fun hz0 => by simp only at hz0; rw [f3, Nat.add_mul]; omega)
      · refine ⟨_, w', _, by rw [hvx]; exact hrun, hch, ?_⟩
        refine .sl _ _ _ _ _ _ _ hkn (by rw [hfk]; exact Nat.le_refl _) (by omega) hm (.inr fun _ => ?_)
        have e1 : updI ι k ⟨(ι k).b, (ι k).o + off * sz, (ι k).m - off * sz⟩ k = ⟨(ι k).b, (ι k).o + off * sz, (ι k).m - off * sz⟩ := by simp [updI]
        rw [e1]
        refine ⟨by simp, ?_⟩
        rw [Nat.add_mul] at hcapm
        simp only [Nat.zero_add]
        omega
      · rw [s3] at hj
        by_cases hin : (ι k).o + off * sz + len * sz ≤ j ∧ j < (ι k).o + off * sz + len * sz + us.size
        · have := s4 (j - ((ι k).o + off * sz + len * sz)) (by simp; omega)
          have e9 : (ι k).o + off * sz + len * sz + 0 + (j - ((ι k).o + off * sz + len * sz)) = j := by omega
          rw [e9] at this
          rw [Array.getD_eq_getD_getElem?, this]
          have := hyp (j - ((ι k).o + off * sz + len * sz)) (by omega)
          rw [Array.getD_eq_getD_getElem?] at this
          simpa using this
        · rw [Array.getD_eq_getD_getElem?, s5 j (by simp; omega)]
          have := hpl j hj
          rw [Array.getD_eq_getD_getElem?] at this
          exact this
      · obtain ⟨hcs', hcase2⟩ := f5 i c lv hx
        rw [f4]
        simp only
        obtain ⟨ix1, ix2⟩ := app_index (len := len) (m := yN y) (i := i) hcs'
        rcases hcase2 with ⟨hi, hold, hobsz⟩ | ⟨hi, hi2, hnew⟩
        · obtain ⟨v, hv1, hv2⟩ := hcl (off + i) c lv hold
          refine ⟨v, ?_, hv2.mono mono⟩
          have := ix1 hi
          rw [s5 _ (by left; omega), ← hv1, hobsz]
          congr 1; rw [Nat.add_mul]; omega
        · obtain ⟨lv', e1, e2, e3⟩ := hus (i - len) c hi2 hcs'
          rw [e1] at hnew
          injection hnew with hnew
          subst hnew
          obtain ⟨j1, j2, j3⟩ := ix2 hi hi2
          refine ⟨_, ?_, e2.mono mono⟩
          have hq : (i - len) * sz + c < us.toList.length := by
            simp only [Array.length_toList, husz]
            rw [Nat.add_mul] at j3; omega
          have := s4 ((i - len) * sz + c) hq
          have e9 : (ι k).o + off * sz + len * sz + 0 + ((i - len) * sz + c) = (ι k).o + off * sz + (i * sz + c) := by omega
          rw [e9] at this
          rw [this, Array.getD_eq_getD_getElem?]
          simp only [Array.length_toList] at hq
          simp [hq]
  · have hgrow : cap < len + yN y := by omega
    obtain ⟨ya, ycap, us, rfl, hfc, husz, hus⟩ := firstCells_ok (P := P) hr.drew h0 hy hyc
    obtain ⟨xa, xcap, olds, hxv, hfo, hosz, hos⟩ := firstCells_ok (P := P) hr.drew h0 hx hxc
    have hyp := yPlain h0 husz hus
    have hop := yPlain h0 hosz hos
    rw [hvx] at hxv
    simp only [yN, Value.slice.injEq, true_and] at hxv
    obtain ⟨rfl, rfl⟩ := hxv
    rw [hvx] at hfo
    simp only [yN] at hfo hosz hos
    have hrun := append_grow (P := P) (w := w) (ty := ty) (a := a) (len := len) (cap := cap) ht hinf hzi hgrow (by rw [hsize]; exact hfo) (by rw [hsize]; exact hfc) (by omega)
      (by rw [hbytes]; have := Nat.mul_le_mul_right bytes (nextcap_le hgrow); omega)
    have hge := grownCap_ge w (len + yN y) cap el
    have hle := grownCap_le_maxLen w (len + yN y) cap el (by unfold maxLen; omega)
    have hzs : zv.cells.size = sz := by rw [← hzl, ← hzv2]; simp
    have hzc : (Builtin.zeroCells zv.cells (grownCap w (len + yN y) cap el - (len + yN y))).size = (grownCap w (len + yN y) cap el - (len + yN y)) * sz := by
      unfold Builtin.zeroCells; simp [hzs]
    have hall : (olds ++ us ++ Builtin.zeroCells zv.cells (grownCap w (len + yN y) cap el - (len + yN y))).size = grownCap w (len + yN y) cap el * sz := by
      simp only [Array.size_append, hosz, husz, hzc]
      rw [← Nat.add_mul, ← Nat.add_mul]; congr 1; omega
    have hnewsz : (len + yN y) * sz ≤ grownCap w (len + yN y) cap el * sz := Nat.mul_le_mul_right _ hge
    have hch := hr.change hB hkn (ver' := ver + 1) (ob' := appO kd sz off len (h.f k).2 h y) (x' := ⟨w.heap.size, 0, grownCap w (len + yN y) cap el * sz⟩)
      (w' := w.drew.alloc (.cells (olds ++ us ++ Builtin.zeroCells zv.cells (grownCap w (len + yN y) cap el - (len + yN y))) el)) hlive.1 (by omega) (by omega) f1 f2 hlive.2 rfl rfl rfl (by show w.heap.size ≤ (w.heap.push _).size; simp)
      (fun b hb hne => by show (w.heap.push _)[b]? = _; rw [Array.getElem?_push, if_neg (by omega)]) (.inr ⟨Nat.le_refl _, by show w.heap.size < (w.heap.push _).size; simp⟩)
      (fun mono _ => ⟨olds ++ us ++ Builtin.zeroCells zv.cells (grownCap w (len + yN y) cap el - (len + yN y)), el, by show (w.heap.push _)[w.heap.size]? = _; simp, by rw [hall]; simp, by rw [f3]; exact hnewsz, fun j hj => ?_, fun i c lv hx => ?_⟩) (fun hz0 => by simp only at hz0; rw [f3]; omega)
    · refine ⟨_, _, _, by rw [hvx]; exact hrun, hch, ?_⟩
      refine .sl _ _ _ _ _ _ _ hkn (by rw [hfk]; exact Nat.le_refl _) hge hle (.inr fun _ => ?_)
      simp [updI]
    · rw [Array.getD_eq_getD_getElem?]
      by_cases hj1 : j < olds.size
      · rw [Array.getElem?_append_left (by simp; omega), Array.getElem?_append_left hj1]
        have := hop j hj1
        rw [Array.getD_eq_getD_getElem?] at this; exact this
      · by_cases hj2 : j < olds.size + us.size
        · rw [Array.getElem?_append_left (by simp; omega), Array.getElem?_append_right (by omega)]
          have := hyp (j - olds.size) (by omega)
          rw [Array.getD_eq_getD_getElem?] at this; exact this
        · rw [Array.getElem?_append_right (by simp; omega)]
          simp only [Array.size_append] at hj ⊢
          have := zeroC_plain (z := zv.cells) (fun v hv => by
            rw [List.all_eq_true] at hzv3
            exact hzv3 v (by rw [← hzv2]; simpa using hv)) (grownCap w (len + yN y) cap el - (len + yN y)) (j - (olds.size + us.size)) (by omega)
          rw [Array.getD_eq_getD_getElem?] at this; exact this
    · obtain ⟨hcs', hcase2⟩ := f5 i c lv hx
      rw [f4]
      simp only [Nat.zero_add]
      obtain ⟨ix1, ix2⟩ := app_index (len := len) (m := yN y) (i := i) hcs'
      rcases hcase2 with ⟨hi, hold, hobsz⟩ | ⟨hi, hi2, hnew⟩
      · obtain ⟨lv', e1, e2, e3⟩ := hos i c hi hcs'
        have e4 : lv' = lv := by
          obtain ⟨lv2, g1, g2, _⟩ := rngC_cell hrng hi hcs'
          simp only [yF] at e1
          rw [g1] at e1; rw [g2] at hold
          injection e1 with e1; injection hold with hold
          rw [← e1, hold]
        subst e4
        refine ⟨_, ?_, e2.mono mono⟩
        have := ix1 hi
        rw [Array.getElem?_append_left (by simp; omega), Array.getElem?_append_left (by omega), Array.getD_eq_getD_getElem?, Array.getElem?_eq_getElem (by omega)]
        rfl
      · obtain ⟨lv', e1, e2, e3⟩ := hus (i - len) c hi2 hcs'
        rw [e1] at hnew
        injection hnew with hnew
        subst hnew
        obtain ⟨j1, j2, j3⟩ := ix2 hi hi2
        rw [Nat.add_mul] at j3
        refine ⟨_, ?_, e2.mono mono⟩
        rw [Array.getElem?_append_left (by simp; omega), Array.getElem?_append_right (by omega), Array.getD_eq_getD_getElem?, hosz, j2, Array.getElem?_eq_getElem (by omega)]
        rfl

end
end Go.Proofs.Ytfhifkcbdpgomaa
