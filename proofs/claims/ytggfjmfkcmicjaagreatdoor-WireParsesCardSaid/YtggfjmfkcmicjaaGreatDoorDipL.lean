/- Joined by program out of: Q1, Q2, T1, T2, T3, T4, T5, T6, T7, T8, T9, T10, T11, T12, LawWireParses. -/
import Derived.Test.YtggfjmfkcmicjaaGreatDoorDipJ
import Derived.Lib.MapLaws
import Derived.Lib.ValidLaws
import Derived.Lib.RuneCountTail
import Derived.Stop.FmtQuoteTie
set_option linter.all false
/- Plain facts of the wire laws: lines. -/
section
set_option linter.unusedVariables false
set_option linter.unusedSimpArgs false
namespace Go.Dip
open Go.Lib
def ln : Bytes → Bool → Bool → Option (Bytes × Bytes)
  | [], _, _ => none
  | b :: t, q, m => if m then (ln t q false).map fun p => (b :: p.1, p.2) else if b = 92 then (ln t q q).map fun p => (b :: p.1, p.2) else if b = 34 then (ln t (!q) false).map fun p => (b :: p.1, p.2)
    else if b = 10 ∧ q = false then some ([], t) else (ln t q false).map fun p => (b :: p.1, p.2)
theorem ln_split : ∀ (s : Bytes) (q m : Bool) (l r : Bytes), ln s q m = some (l, r) → s = l ++ 10 :: r
  | b :: t, q, m, l, r, h => by
    have key : ∀ q' m', (ln t q' m').map (fun p => (b :: p.1, p.2)) = some (l, r) → b :: t = l ++ 10 :: r := by
      intro q' m' h
      cases e : ln t q' m' with
      | none => rw [e] at h; cases h
      | some p =>
        rw [e] at h
        simp only [Option.map_some, Option.some.injEq, Prod.mk.injEq] at h
        have := ln_split t q' m' p.1 p.2 e
        rw [← h.1, ← h.2]
        simp [← this]
    simp only [ln] at h
    split at h
    · exact key _ _ h
    · split at h
      · exact key _ _ h
      · split at h
        · exact key _ _ h
        · split at h
          · rename_i hb
            simp only [Option.some.injEq, Prod.mk.injEq] at h
            rw [← h.1, ← h.2, hb.1]
            rfl
          · exact key _ _ h
def lineK {R : Type} (o : Option (Bytes × Bytes)) (K0 : Option R) (f : Bytes → Bytes → Option R) : Option R := match o with
  | none => K0
  | some p => f p.1 p.2
theorem lineK_none {R : Type} (K0 : Option R) (f : Bytes → Bytes → Option R) : lineK none K0 f = K0 := rfl
theorem byte10 (b : UInt8) : eqI ((b.toNat : Nat) : Int) 10 = (b == 10) := byte_eq (c := 10)
theorem line_loop : ∀ (t pre : Bytes) (q m : Bool), pre.length + t.length ≤ 1000000000 → Evk fun k => ∀ (R : Type) (K0 : Option R) (Kr : Bytes → Bytes → Bool → Option R),
    G35.L3 k (pre ++ t) q m (pre.length : Nat) K0 Kr = lineK (ln t q m) K0 fun l r => Kr (pre ++ l) r true
  | [], pre, q, m, _ => Evk.one fun k R K0 Kr => by
    have e : ¬ (((pre.length : Nat) : Int) < (((pre ++ ([] : Bytes)).length : Nat) : Int)) := by simp
    simp only [G35.L3, ltI_f e, cond_false, ln, lineK_none]
  | b :: t, pre, q, m, hl => by
    have e : ((pre.length : Nat) : Int) < (((pre ++ b :: t).length : Nat) : Int) := by simp; omega
    have ei : inI ((pre.length : Nat) : Int) (((pre ++ b :: t).length : Nat) : Int) = true := inI_true (by simp)
    simp only [List.length_cons] at hl
    have w1 : IntKind.i64.wrap (((pre.length : Nat) : Int) + 1) = ((pre.length + 1 : Nat) : Int) := next_nat (by simp only [BIG]; omega)
    have ih : ∀ q' m', Evk fun k => ∀ (R : Type) (K0 : Option R) (Kr : Bytes → Bytes → Bool → Option R),
        G35.L3 k (pre ++ b :: t) q' m' ((pre.length + 1 : Nat) : Int) K0 Kr = lineK ((ln t q' m').map fun p => (b :: p.1, p.2)) K0 fun l r => Kr (pre ++ l) r true := by
      intro q' m'
      have := line_loop t (pre ++ [b]) q' m' (by simp; omega)
      rw [snoc, List.length_append, List.length_singleton] at this
      refine this.mono fun k hk R K0 Kr => ?_
      rw [hk R K0 Kr]
      cases ln t q' m' with
      | none => rfl
      | some p => simp [lineK]
    cases m with
    | true =>
      refine Evk.step (ih q false) fun k hk R K0 Kr => ?_
      simp only [G35.L3, ltI_t e, ei, w1, cond_true, hk, ln, if_true]
    | false =>
      by_cases h1 : b = 92
      · have e1 : (b == 92) = true := by simp [h1]
        refine Evk.step (ih q q) fun k hk R K0 Kr => ?_
        simp only [G35.L3, ltI_t e, ei, w1, getD_at, byte92, e1, cond_true, cond_false, hk, ln, Bool.false_eq_true, if_false, if_pos h1]
      · have e1 : (b == 92) = false := by simp [h1]
        by_cases h2 : b = 34
        · have e2 : (b == 34) = true := by simp [h2]
          refine Evk.step (ih (!q) false) fun k hk R K0 Kr => ?_
          simp only [G35.L3, ltI_t e, ei, w1, getD_at, byte92, byte34, e1, e2, cond_true, cond_false, hk, ln, Bool.false_eq_true, if_false, if_neg h1, if_pos h2]
        · have e2 : (b == 34) = false := by simp [h2]
          by_cases h3 : b = 10
          · have e3 : (b == 10) = true := by simp [h3]
            cases q with
            | false =>
              refine Evk.one fun k R K0 Kr => ?_
              have r1 : inR 0 ((pre.length : Nat) : Int) (((pre ++ b :: t).length : Nat) : Int) = true := by
                have := inR_nat 0 pre.length (pre ++ b :: t).length
                rw [Int.natCast_zero] at this
                rw [this]; simp
              have r2 : inR ((pre.length + 1 : Nat) : Int) (((pre ++ b :: t).length : Nat) : Int) (((pre ++ b :: t).length : Nat) : Int) = true := by rw [inR_nat]; simp
              have s1 : sub (pre ++ b :: t) 0 ((pre.length : Nat) : Int) = pre := by
                have := sub_nat (pre ++ b :: t) 0 pre.length
                rw [Int.natCast_zero] at this
                rw [this]; simp
              simp only [G35.L3, G35.J13, ltI_t e, ei, w1, getD_at, byte92, byte34, byte10, e1, e2, e3, cond_true, cond_false, Bool.not_false, r1, r2, s1, drop_at, ln, Bool.false_eq_true, if_false, if_neg h1, if_neg h2]
              simp [h3, lineK]
            | true =>
              refine Evk.step (ih true false) fun k hk R K0 Kr => ?_
              have hn : ¬ (b = 10 ∧ (true : Bool) = false) := fun h => by cases h.2
              simp only [G35.L3, G35.J13, ltI_t e, ei, w1, getD_at, byte92, byte34, byte10, e1, e2, e3, cond_true, cond_false, Bool.not_true, hk, ln, Bool.false_eq_true, if_false, if_neg h1, if_neg h2, if_neg hn]
          · have e3 : (b == 10) = false := by simp [h3]
            refine Evk.step (ih q false) fun k hk R K0 Kr => ?_
            have hn : ¬ (b = 10 ∧ q = false) := fun h => h3 h.1
            simp only [G35.L3, G35.J13, ltI_t e, ei, w1, getD_at, byte92, byte34, byte10, e1, e2, e3, cond_true, cond_false, hk, ln, Bool.false_eq_true, if_false, if_neg h1, if_neg h2, if_neg hn]
theorem line_spec {s : Bytes} (hs : s.length ≤ 1000000000) : Evk fun k => ∀ (R : Type) (K : Bytes → Bytes → Bool → Option R), G35.F k s K = lineK (ln s false false) (K [] [] false) fun l r => K l r true := by
  have := line_loop s [] false false (by simpa using hs)
  simp only [List.nil_append, List.length_nil, Int.natCast_zero] at this
  exact Evk.step this fun k hk R K => by simp only [G35.F, hk]
/-! Texts without a line's end. -/
def Calm (t : Bytes) : Prop := ∀ r, ln (t ++ r) false false = (ln r false false).map fun p => (t ++ p.1, p.2)
theorem Calm.nil : Calm [] := fun r => by cases h : ln r false false <;> simp [h]
theorem Calm.app {a b : Bytes} (ha : Calm a) (hb : Calm b) : Calm (a ++ b) := fun r => by
  rw [List.append_assoc, ha, hb]
  cases ln r false false <;> simp
theorem Calm.one {b : UInt8} (h1 : b ≠ 34) (h2 : b ≠ 10) : Calm [b] := fun r => by
  simp only [List.cons_append, List.nil_append, ln, Bool.false_eq_true, if_false, if_neg h1]
  split
  · rfl
  · rw [if_neg (fun e => h2 e.1)]
theorem Calm.cons {b : UInt8} {t : Bytes} (h1 : b ≠ 34) (h2 : b ≠ 10) (ht : Calm t) : Calm (b :: t) := (Calm.one h1 h2).app ht
theorem Calm.plain : ∀ {t : Bytes}, (∀ b, b ∈ t → b ≠ 34 ∧ b ≠ 10) → Calm t
  | [], _ => .nil
  | b :: t, h => .cons (h b (by simp)).1 (h b (by simp)).2 (Calm.plain fun x hx => h x (List.mem_cons_of_mem _ hx))
def Stp.tx (s : Stp) : Bytes := s.wr (Nd.wrs s.nodes)
end Go.Dip
end
/- Plain facts of the wire laws: steps in rows: PrintAll, ParseAll, asSteps, sameSteps. -/
section
set_option linter.unusedVariables false
set_option linter.unusedSimpArgs false
namespace Go.Dip
open Go.Lib
/-! One step. -/
structure Ok (s : Stp) : Prop where
  got : Got s.tx s
  w : 2 + Nd.wts s.nodes ≤ SM
def PrintN (s : Stp) (t : Bytes) (e : Int) : Prop := Evk fun k => ∀ (R : Type) (K : Bytes → Int → Option R), G9.F k s.pv K = K t e
theorem PrintN.uniq {s : Stp} {t u : Bytes} {e f : Int} (h : PrintN s t e) (g : PrintN s u f) : t = u ∧ e = f := by
  obtain ⟨k, hk⟩ := (Evk.and h g).get
  have := (hk.1 (Bytes × Int) fun a b => some (a, b)).symm.trans (hk.2 (Bytes × Int) fun a b => some (a, b))
  simpa using this
/-! PrintAll. -/
def rowsK {R : Type} (o : Option (List Stp)) (K0 : Option R) (f : List Stp → Option R) : Option R := match o with
  | none => K0
  | some l => f l
/-! ParseAll. -/
/-! asSteps, sameSteps. -/
theorem steps_loop : ∀ (r1 r2 p1 p2 : List Stp), (∀ n, n ∈ r1 → Nd.wts n.nodes ≤ SM) → p1.length = p2.length → r1.length = r2.length → p1.length + r1.length ≤ 1000000000 → ∃ o : Bool, (o = true ↔ r1 = r2) ∧ Evk fun k => ∀ (R : Type) (K0 : Option R) (Kr : Bool → Option R),
    G16.L4 k ((p1 ++ r1).map Stp.pv) ((p2 ++ r2).map Stp.pv) (p1.length : Nat) K0 Kr = bif o then K0 else Kr false
  | [], r2, p1, p2, _, hp, hr, _ => ⟨true, by simp at hr; simp [List.eq_nil_of_length_eq_zero hr.symm], Evk.one fun k R K0 Kr => by
    have e : ¬ (((p1.length : Nat) : Int) < ((((p1 ++ ([] : List Stp)).map Stp.pv).length : Nat) : Int)) := by simp
    simp only [G16.L4, ltI_f e, cond_true, cond_false]⟩
  | s :: r1, [], p1, p2, _, hp, hr, _ => by simp at hr
  | s :: r1, t :: r2, p1, p2, hs, hp, hr, hl => by
    have e : ((p1.length : Nat) : Int) < ((((p1 ++ s :: r1).map Stp.pv).length : Nat) : Int) := by simp; omega
    have e1 : inI ((p1.length : Nat) : Int) ((((p1 ++ s :: r1).map Stp.pv).length : Nat) : Int) = true := inI_true (by simp)
    have e2 : inI ((p1.length : Nat) : Int) ((((p2 ++ t :: r2).map Stp.pv).length : Nat) : Int) = true := inI_true (by simp; omega)
    have q2 : pat ((p2 ++ t :: r2).map Stp.pv) ((p1.length : Nat) : Int) = t.pv := by rw [hp]; exact pat_steps p2 t r2
    simp only [List.length_cons] at hl hr
    obtain ⟨b, b1, b2⟩ := sameStep_spec s t (hs s (by simp))
    cases b with
    | true =>
      have hst := b1.1 rfl
      obtain ⟨o, o1, o2⟩ := steps_loop r1 r2 (p1 ++ [s]) (p2 ++ [t]) (fun n hn => hs n (by simp [hn])) (by simp [hp]) (by omega) (by simp; omega)
      refine ⟨o, by rw [o1]; simp [hst], Evk.step (o2.and b2) fun k hk R K0 Kr => ?_⟩
      have := hk.1 R K0 Kr
      rw [snoc, snoc, snoc_len] at this
      simp only [G16.L4, ltI_t e, e1, e2, pat_steps, q2, agg6, cond_true, cond_false, hk.2, Bool.not_true, next_nat (show p1.length ≤ BIG by simp only [BIG]; omega)]
      exact this
    | false =>
      refine ⟨false, ⟨fun h => (by cases h), fun h => by injection h with h _; exact (by have := b1.2 h; cases this)⟩, Evk.step b2 fun k hk R K0 Kr => ?_⟩
      simp only [G16.L4, ltI_t e, e1, e2, pat_steps, q2, agg6, cond_true, cond_false, hk, Bool.not_false]
theorem sameSteps_spec {l m : List Stp} (hs : ∀ n, n ∈ l → Nd.wts n.nodes ≤ SM) (hl : l.length ≤ 1000000000) : ∃ o : Bool, (o = true ↔ l = m) ∧ Evk fun k => ∀ (R : Type) (K : Bool → Option R), G16.F k (l.map Stp.pv) (m.map Stp.pv) K = K o := by
  by_cases he : l.length = m.length
  · obtain ⟨o, o1, o2⟩ := steps_loop l m [] [] hs rfl he (by simpa using hl)
    simp only [List.nil_append, List.length_nil, Int.natCast_zero] at o2
    refine ⟨o, o1, Evk.step o2 fun k hk R K => ?_⟩
    have c : eqI (((l.map Stp.pv).length : Nat) : Int) (((m.map Stp.pv).length : Nat) : Int) = true := eqI_t (by simp [he])
    simp only [G16.F, c, Bool.not_true, cond_false, hk]
    cases o <;> rfl
  · refine ⟨false, ⟨fun h => (by cases h), fun h => absurd (by rw [h]) he⟩, Evk.one fun k R K => ?_⟩
    have c : eqI (((l.map Stp.pv).length : Nat) : Int) (((m.map Stp.pv).length : Nat) : Int) = false := eqI_f (by simp; omega)
    simp only [G16.F, c, Bool.not_false, cond_true]
theorem sameRows_self (l : List Stp) (hs : ∀ n, n ∈ l → Nd.wts n.nodes ≤ SM) (hl : l.length ≤ 1000000000) : Evk fun k => ∀ (R : Type) (K : Bool → Option R), G16.F k (l.map Stp.pv) (l.map Stp.pv) K = K true := by
  obtain ⟨o, o1, o2⟩ := sameSteps_spec (m := l) hs hl
  have := o1.2 rfl
  subst this
  exact o2
end Go.Dip
end
/- Plain facts of the wire laws: code points: what is valid, how many they are; letters. No program in it. -/
section
set_option linter.unusedVariables false
set_option linter.unusedSimpArgs false
set_option maxRecDepth 10000
namespace Go.Dip
open Go.Lib
theorem enc_eq (r : Nat) : (Utf8.encode (r : Int)).data.toList = encodeRune (r : Int) := by
  unfold encodeRune
  rw [← Extern.FmtText.encode_eq]
  simp [Extern.FmtText.nums, Function.comp_def]
def reenc (l : Bytes) : Bytes := mapD id l
theorem reenc_step {l : Bytes} (h : l ≠ []) : reenc l = encodeRune ((decodeL l).1 : Int) ++ reenc (l.drop (decodeL l).2) := by
  unfold reenc
  rw [mapD_step id l h]
  simp
theorem enc_len {l : Bytes} (h : l ≠ []) : (decodeL l).2 ≤ (encodeRune ((decodeL l).1 : Int)).length ∧ (((decodeL l).1 = 65533 ∧ (decodeL l).2 = 1) → (decodeL l).2 < (encodeRune ((decodeL l).1 : Int)).length) := by
  by_cases hv : (decodeL l).1 = 65533 ∧ (decodeL l).2 = 1
  · have : (encodeRune (65533 : Int)).length = 3 := by decide
    rw [hv.1, hv.2]
    have e : ((65533 : Nat) : Int) = 65533 := rfl
    rw [e, this]
    exact ⟨by omega, fun _ => by omega⟩
  · rw [encode_decode l h hv, List.length_take]
    have := decodeL_le l h
    exact ⟨by omega, fun h => absurd h hv⟩
theorem reenc_len : ∀ (n : Nat) (l : Bytes), l.length ≤ n → l.length ≤ (reenc l).length ∧ (validD l = false → l.length < (reenc l).length)
  | _, [], _ => ⟨by simp, fun h => by rw [validD_nil] at h; cases h⟩
  | 0, b :: t, h => by simp at h
  | n + 1, b :: t, h => by
    have hne : (b :: t : Bytes) ≠ [] := by simp
    have hw := decodeL_width (b :: t)
    have hw2 := decodeL_le (b :: t) hne
    have ih := reenc_len n ((b :: t).drop (decodeL (b :: t)).2) (by rw [List.length_drop]; omega)
    have he := enc_len hne
    rw [reenc_step hne, validD_step _ hne, List.length_append]
    rw [List.length_drop] at ih
    refine ⟨by omega, fun hv => ?_⟩
    split at hv
    · rename_i hb
      have := he.2 hb
      omega
    · have := ih.2 hv
      omega
theorem reenc_valid : ∀ (n : Nat) (l : Bytes), l.length ≤ n → validD l = true → reenc l = l
  | _, [], _, _ => rfl
  | 0, b :: t, h, _ => by simp at h
  | n + 1, b :: t, h, hv => by
    have hne : (b :: t : Bytes) ≠ [] := by simp
    have hw := decodeL_width (b :: t)
    rw [validD_step _ hne] at hv
    split at hv
    · cases hv
    · rename_i hb
      rw [reenc_step hne, encode_decode _ hne hb, reenc_valid n _ (by rw [List.length_drop]; omega) hv, List.take_append_drop]
theorem valid_iff (l : Bytes) : validD l = eqS (reenc l) l := by
  cases h : validD l with
  | true => rw [eqS_t (reenc_valid _ l (Nat.le_refl _) h)]
  | false =>
    rw [eqS_f]
    intro e
    have := (reenc_len _ l (Nat.le_refl _)).2 h
    rw [e] at this
    omega
/-! The model's own loop over a text. -/
def runeV : Value → PV := fun v => match v with
  | .int _ n => .int .i32 n
  | _ => .any
theorem ofRunes_snoc (l : List PV) (x : PV) : ofRunes (l ++ [x]) = ofRunes l ++ (Utf8.encode (intOf x)).data.toList := by simp [ofRunes]
theorem enc_pv (n : Nat) : (Utf8.encode (intOf (PV.int .i32 (Int.ofNat n)))).data.toList = encodeRune (n : Int) := by
  have : intOf (PV.int .i32 (Int.ofNat n)) = (n : Int) := rfl
  rw [this]
  exact enc_eq n
theorem bsz (s : Bytes) : (⟨s.toArray⟩ : ByteArray).size = s.length := by
  show s.toArray.size = _
  simp
theorem runes_loop (s : ByteArray) : ∀ (fuel i : Nat) (acc : Array Value), s.size ≤ i + fuel →
    ofRunes ((Conv.runesFrom s fuel i acc).toList.map runeV) = ofRunes (acc.toList.map runeV) ++ reenc (s.data.toList.drop i) ∧ (Conv.runesFrom s fuel i acc).size = acc.size + runeCountFrom s fuel i ∧
      (acc.toList.all (fun v => match v with | .int .i32 _ => true | _ => false) = true → (Conv.runesFrom s fuel i acc).toList.all (fun v => match v with | .int .i32 _ => true | _ => false) = true)
  | 0, i, acc, h => by
    have : s.data.toList.drop i = [] := by
      apply List.drop_eq_nil_of_le
      have : s.data.toList.length = s.size := by show _ = s.data.size; simp
      omega
    rw [this]
    exact ⟨by simp [Conv.runesFrom, reenc, mapD_nil], rfl, fun h => h⟩
  | fuel + 1, i, acc, h => by
    have hsz : s.data.toList.length = s.size := by show _ = s.data.size; simp
    unfold Conv.runesFrom runeCountFrom
    by_cases hi : i < s.size
    · rw [if_pos hi, if_pos hi]
      have hne : s.data.toList.drop i ≠ [] := by
        intro e
        have := congrArg List.length e
        rw [List.length_drop, List.length_nil] at this
        omega
      have hw := decode_width_pos s i hi
      obtain ⟨h1, h2, h3⟩ := runes_loop s fuel (i + (Utf8.decode s i).2) (acc.push (.int .i32 (Int.ofNat (Utf8.decode s i).1))) (by omega)
      refine ⟨?_, ?_, ?_⟩
      · show ofRunes ((Conv.runesFrom s fuel (i + (Utf8.decode s i).2) (acc.push (.int .i32 (Int.ofNat (Utf8.decode s i).1)))).toList.map runeV) = _
        rw [h1, reenc_step hne, decodeL_drop, List.drop_drop]
        have hp : (acc.push (.int .i32 (Int.ofNat (Utf8.decode s i).1))).toList.map runeV = acc.toList.map runeV ++ [PV.int .i32 (Int.ofNat (Utf8.decode s i).1)] := by
          rw [Array.toList_push, List.map_append]
          rfl
        rw [hp, ofRunes_snoc, List.append_assoc]
        rw [enc_pv]
      · show (Conv.runesFrom s fuel (i + (Utf8.decode s i).2) (acc.push (.int .i32 (Int.ofNat (Utf8.decode s i).1)))).size = _
        rw [h2, Array.size_push]
        omega
      · intro ha
        exact h3 (by simp only [Array.toList_push, List.all_append, ha]; rfl)
    · rw [if_neg hi, if_neg hi]
      have : s.data.toList.drop i = [] := by
        apply List.drop_eq_nil_of_le
        omega
      rw [this]
      exact ⟨by simp [reenc, mapD_nil], rfl, fun h => h⟩
theorem runesOf_eq (s : Bytes) : runesOf s = (Conv.runesFrom ⟨s.toArray⟩ s.length 0 #[]).toList.map runeV := rfl
theorem runes_facts (s : Bytes) : ofRunes (runesOf s) = reenc s ∧ (runesOf s).length = runeCountL s ∧ (runesOf s).all (isInt .i32) = true := by
  obtain ⟨h1, h2, h3⟩ := runes_loop ⟨s.toArray⟩ s.length 0 #[] (by rw [bsz]; omega)
  rw [runesOf_eq]
  refine ⟨?_, ?_, ?_⟩
  · rw [h1]
    simp [ofRunes]
  · rw [List.length_map]
    have : (Conv.runesFrom ⟨s.toArray⟩ s.length 0 #[]).toList.length = (Conv.runesFrom ⟨s.toArray⟩ s.length 0 #[]).size := by simp
    rw [this, h2]
    unfold runeCountL runeCount
    rw [bsz]
    simp
  · have := h3 (by simp)
    rw [List.all_map]
    rw [List.all_eq_true] at this ⊢
    intro v hv
    have := this v hv
    split at this
    · simp [runeV, isInt]
    · cases this
/-! Letters. -/
theorem letter_iff (b : UInt8) : b ∈ L26 ↔ 97 ≤ b.toNat ∧ b.toNat ≤ 122 := by
  have key : ∀ n : Fin 256, (UInt8.ofNat n.val) ∈ L26 ↔ 97 ≤ n.val ∧ n.val ≤ 122 := by decide
  have := key ⟨b.toNat, b.toNat_lt⟩
  simpa using this
theorem dropWhile_full {p : UInt8 → Bool} : ∀ {s : Bytes}, (∀ b, b ∈ s → p b = true) → s.dropWhile p = []
  | [], _ => rfl
  | b :: s, h => by
    simp only [List.dropWhile_cons, h b (by simp), if_true]
    exact dropWhile_full fun x hx => h x (by simp [hx])
theorem trimS_iff (s : Bytes) : trimS s L26 = [] ↔ Letters s := by
  refine ⟨trimS_nil, fun h => ?_⟩
  have h1 : s.reverse.dropWhile (L26.contains ·) = [] := dropWhile_full fun b hb => by
    have := h b (by simpa using hb)
    simpa using this
  unfold trimS trimRightS
  rw [h1]
  rfl
instance (s : Bytes) : Decidable (Letters s) := inferInstanceAs (Decidable (∀ b, b ∈ s → b ∈ L26))
theorem nameB_eq (s : Bytes) : nameB s = (decide (Letters s) && (!eqS s [] && (leI ((s.length : Nat) : Int) 8 && !eqS s TEXT))) := by
  unfold nameB
  by_cases h : Letters s
  · rw [eqS_t ((trimS_iff s).2 h), decide_eq_true h]
    cases eqS s [] <;> cases leI ((s.length : Nat) : Int) 8 <;> rfl
  · rw [eqS_f (fun e => h ((trimS_iff s).1 e)), decide_eq_false h]
    rfl
end Go.Dip
end
/- Plain facts of the wire laws: what the program and the document's answer tell of a node: the same. -/
section
set_option linter.unusedVariables false
set_option linter.unusedSimpArgs false
namespace Go.Dip
open Go.Lib
/-! What they tell, plainly. -/
def leS (a b : Bytes) : Bool := Op.bytesLess a b || eqS a b
def riseB : Option Bytes → List Bytes → Bool
  | _, [] => true
  | p, s :: l => nameB s && ((match p with
      | none => true
      | some q => !leS s q) && riseB (some s) l)
def alikeB (a b : Nd) : Bool := eqS a.kind TEXT && (eqS b.kind TEXT && decide (a.marks = b.marks))
mutual
def Nd.formed : Nd → Bool
  | .mk k t m a ks => bif eqS k TEXT then !eqS t [] && (validD t && (riseB none m && (decide (a = []) && decide (ks = []))))
    else (a.all fun x => valueB x.2) && (nameB k && (eqS t [] && (decide (m = []) && (riseB none (a.map fun x => x.1) && Nd.formeds none ks))))
def Nd.formeds : Option Nd → List Nd → Bool
  | _, [] => true
  | p, n :: l => n.formed && ((match p with
      | none => true
      | some q => !alikeB q n) && Nd.formeds (some n) l)
end
mutual
def Nd.depth : Nd → Int
  | .mk k t m a ks => bif eqS k TEXT then 0 else IntKind.i64.wrap (Nd.depths 0 ks + 1)
def Nd.depths : Int → List Nd → Int
  | acc, [] => acc
  | acc, n :: l => Nd.depths (max acc n.depth) l
end
mutual
def Nd.size : Nd → Int
  | .mk k t m a ks => bif eqS k TEXT then ((runeCountL t : Nat) : Int) else IntKind.i64.wrap (2 + Nd.sizes 0 ks)
def Nd.sizes : Int → List Nd → Int
  | acc, [] => acc
  | acc, n :: l => Nd.sizes (IntKind.i64.wrap (acc + n.size)) l
end
def Nd.check (n : Nd) : Int := bif n.formed then (if n.depth > 40 then 4 else if n.size > 4000 then 5 else 0) else 2
/-! Names and values, of the document. -/
theorem name57_loop : ∀ (rest pre : Bytes), pre.length + rest.length ≤ 1000000000 → Evk fun k => ∀ (R : Type) (K0 : Bytes → Option R) (Kr : Bool → Option R),
    G57.L2 k (pre ++ rest) (pre.length : Nat) K0 Kr = bif decide (Letters rest) then K0 (pre ++ rest) else Kr false
  | [], pre, _ => Evk.one fun k R K0 Kr => by
    have e : ¬ (((pre.length : Nat) : Int) < (((pre ++ ([] : Bytes)).length : Nat) : Int)) := by simp
    have d : decide (Letters []) = true := decide_eq_true fun b hb => by cases hb
    simp only [G57.L2, ltI_f e, cond_false, d, cond_true]
  | b :: rest, pre, hl => by
    have e : ((pre.length : Nat) : Int) < (((pre ++ b :: rest).length : Nat) : Int) := by simp; omega
    have ei : inI ((pre.length : Nat) : Int) (((pre ++ b :: rest).length : Nat) : Int) = true := inI_true (by simp)
    simp only [List.length_cons] at hl
    by_cases h1 : ((b.toNat : Nat) : Int) < 97
    · have d : decide (Letters (b :: rest)) = false := decide_eq_false fun h => by have := (letter_iff b).1 (h b (by simp)); omega
      exact Evk.one fun k R K0 Kr => by simp only [G57.L2, ltI_t e, ei, getD_at, ltI_t h1, cond_true, d, cond_false]
    · by_cases h2 : ((b.toNat : Nat) : Int) > 122
      · have d : decide (Letters (b :: rest)) = false := decide_eq_false fun h => by have := (letter_iff b).1 (h b (by simp)); omega
        exact Evk.one fun k R K0 Kr => by simp only [G57.L2, ltI_t e, ei, getD_at, ltI_f h1, gtI_t h2, cond_true, d, cond_false]
      · have hb : b ∈ L26 := (letter_iff b).2 (by omega)
        have d : decide (Letters (b :: rest)) = decide (Letters rest) := by
          congr 1
          exact propext ⟨fun h x hx => h x (by simp [hx]), fun h x hx => by rcases List.mem_cons.1 hx with rfl | hx; exact hb; exact h x hx⟩
        have ih := name57_loop rest (pre ++ [b]) (by simp; omega)
        rw [snoc, snoc_len] at ih
        refine Evk.step ih fun k hk R K0 Kr => ?_
        simp only [G57.L2, ltI_t e, ei, getD_at, ltI_f h1, gtI_f h2, cond_true, d, cond_false, next_nat (show pre.length ≤ BIG by simp only [BIG]; omega), hk]
theorem name57 {s : Bytes} (hs : s.length ≤ 1000000000) : Evk fun k => ∀ (R : Type) (K : Bool → Option R), G57.F k s K = K (nameB s) := by
  have h := name57_loop s [] (by simpa using hs)
  simp only [List.nil_append, List.length_nil, Int.natCast_zero] at h
  refine Evk.step h fun k hk R K => ?_
  rw [nameB_eq]
  simp only [G57.F, hk]
  cases decide (Letters s) with
  | false => rfl
  | true =>
    by_cases h0 : s = []
    · have g : geI ((s.length : Nat) : Int) 1 = false := geI_f (by subst h0; simp)
      simp only [g, cond_true, cond_false, eqS_t h0, Bool.not_true, Bool.false_and, Bool.and_false]
    · have g : geI ((s.length : Nat) : Int) 1 = true := geI_t (by have := List.length_pos_iff.2 h0; omega)
      simp only [g, cond_true, eqS_f h0, Bool.not_false, Bool.true_and]
      cases leI ((s.length : Nat) : Int) 8 <;> rfl
theorem valid83 {s : Bytes} (hs : s.length ≤ 1000000000) : Evk fun k => ∀ (R : Type) (K : Bool → Option R), G83.F k s K = K (validD s) := by
  obtain ⟨r1, r2, r3⟩ := runes_facts s
  have h : Evk fun k => ∀ (R : Type) (K : List PV → Bool → Option R), G123.F k s K = K (runesOf s) (validD s) :=
    Evk.one fun k R K => by simp only [G123.F, lim (show s.length ≤ 1099511627776 by omega), r3, cond_true, r1, valid_iff]
  exact Evk.step h fun k hk R K => by simp only [G83.F, hk]
theorem value58 {s : Bytes} (hs : s.length ≤ 1000000000) : Evk fun k => ∀ (R : Type) (K : Bool → Option R), G58.F k s K = K (valueB s) :=
  Evk.step (valid83 hs) fun k hk R K => by
    simp only [G58.F, hk, valueB]
    cases leI ((s.length : Nat) : Int) 40 <;> rfl
/-! Rising names. -/
theorem last_snoc {α : Type} (l : List α) (x : α) : (l ++ [x]).getLast? = some x := by simp
theorem riseE_loop : ∀ (rest pre : List Bytes), (∀ s, s ∈ rest → s.length ≤ 1000000000) → pre.length + rest.length ≤ 1000000000 →
    Evk fun k => ∀ (R : Type) (K0 : Option R) (Kr : Bool → Option R), G88.L2 k (strs (pre ++ rest)) (strs (pre ++ rest)) (((strs (pre ++ rest)).length : Nat) : Int) (pre.length : Nat) K0 Kr = (bif riseB pre.getLast? rest then K0 else Kr false) ∧
      G84.L2 k (strs (pre ++ rest)) (pre.length : Nat) K0 Kr = bif riseB pre.getLast? rest then K0 else Kr false
  | [], pre, _, _ => Evk.one fun k R K0 Kr => by
    have e : ¬ (((pre.length : Nat) : Int) < (((strs (pre ++ [])).length : Nat) : Int)) := by simp [strs]
    exact ⟨by simp only [G88.L2, ltI_f e, cond_true, cond_false, riseB], by simp only [G84.L2, ltI_f e, cond_true, cond_false, riseB]⟩
  | s :: rest, pre, hs, hl => by
    have e : ((pre.length : Nat) : Int) < (((strs (pre ++ s :: rest)).length : Nat) : Int) := by simp [strs]; omega
    have ei : inI ((pre.length : Nat) : Int) (((strs (pre ++ s :: rest)).length : Nat) : Int) = true := inI_true (by simp [strs])
    have hn := (name_spec (hs s (by simp))).and (name57 (hs s (by simp)))
    simp only [List.length_cons] at hl
    cases hb : nameB s with
    | false =>
      rw [hb] at hn
      have hB : riseB pre.getLast? (s :: rest) = false := by simp only [riseB, hb, Bool.false_and]
      rw [hB]
      refine Evk.step hn fun k hk R K0 Kr => ⟨?_, ?_⟩
      · simp only [G88.L2, ltI_t e, ei, pat_strs, pcell_str, isStr_str, strOf_str, Bool.and_self, Bool.and_true, cond_true, cond_false, hk.1, Bool.not_false]
      · simp only [G84.L2, ltI_t e, ei, pat_strs, pcell_str, isStr_str, strOf_str, Bool.and_self, Bool.and_true, cond_true, cond_false, hk.2, Bool.not_false]
    | true =>
      rw [hb] at hn
      have ih := riseE_loop rest (pre ++ [s]) (fun u hu => hs u (by simp [hu])) (by simp; omega)
      rw [snoc, snoc_len, last_snoc] at ih
      rcases List.eq_nil_or_concat pre with rfl | ⟨pre', p, hp⟩
      · have hB : riseB ([] : List Bytes).getLast? (s :: rest) = riseB (some s) rest := by simp [riseB, hb]
        rw [hB]
        have g0 : gtI (((([] : List Bytes).length : Nat) : Int)) 0 = false := gtI_f (by simp)
        refine Evk.step (ih.and hn) fun k hk R K0 Kr => ⟨?_, ?_⟩
        · have := (hk.1 R K0 Kr).1
          simp only [G88.L2, ltI_t e, ei, pat_strs, pcell_str, isStr_str, strOf_str, Bool.and_self, Bool.and_true, cond_true, cond_false, hk.2.1, Bool.not_true, g0, next_nat (show ([] : List Bytes).length ≤ BIG by simp [BIG])]
          exact this
        · have := (hk.1 R K0 Kr).2
          simp only [G84.L2, ltI_t e, ei, pat_strs, pcell_str, isStr_str, strOf_str, Bool.and_self, Bool.and_true, cond_true, cond_false, hk.2.2, Bool.not_true, g0, next_nat (show ([] : List Bytes).length ≤ BIG by simp [BIG])]
          exact this
      · have hp : pre = pre' ++ [p] := by rw [hp, List.concat_eq_append]
        have hpl : pre.length = pre'.length + 1 := by rw [hp]; simp
        have hla : pre.getLast? = some p := by rw [hp]; simp
        have g1 : gtI ((pre.length : Nat) : Int) 0 = true := gtI_t (by omega)
        have w1 : IntKind.i64.wrap (((pre.length : Nat) : Int) - 1) = ((pre'.length : Nat) : Int) := by rw [wrap64 (by omega) (by omega)]; omega
        have ep : pat (strs (pre ++ s :: rest)) ((pre'.length : Nat) : Int) = .str p := by
          rw [hp, List.append_assoc]
          exact pat_strs pre' p ([] ++ s :: rest)
        have ei' : inI ((pre'.length : Nat) : Int) (((strs (pre ++ s :: rest)).length : Nat) : Int) = true := inI_true (by simp [strs]; omega)
        have hB : riseB pre.getLast? (s :: rest) = (!leS s p && riseB (some s) rest) := by rw [hla]; simp [riseB, hb]
        rw [hB]
        cases hc : leS s p with
        | true =>
          have hc' : (Op.bytesLess s p || eqS s p) = true := hc
          rw [Bool.not_true, Bool.false_and]
          refine Evk.step hn fun k hk R K0 Kr => ⟨?_, ?_⟩
          · simp only [G88.L2, ltI_t e, ei, pat_strs, pcell_str, isStr_str, strOf_str, Bool.and_self, Bool.and_true, cond_true, cond_false, hk.1, Bool.not_true, g1, w1, ei', ep, hc']
          · simp only [G84.L2, ltI_t e, ei, pat_strs, pcell_str, isStr_str, strOf_str, Bool.and_self, Bool.and_true, cond_true, cond_false, hk.2, Bool.not_true, g1, w1, ei', ep, hc']
        | false =>
          have hc' : (Op.bytesLess s p || eqS s p) = false := hc
          rw [Bool.not_false, Bool.true_and]
          refine Evk.step (ih.and hn) fun k hk R K0 Kr => ⟨?_, ?_⟩
          · have := (hk.1 R K0 Kr).1
            simp only [G88.L2, ltI_t e, ei, pat_strs, pcell_str, isStr_str, strOf_str, Bool.and_self, Bool.and_true, cond_true, cond_false, hk.2.1, Bool.not_true, g1, w1, ei', ep, hc', next_nat (show pre.length ≤ BIG by simp only [BIG]; omega)]
            exact this
          · have := (hk.1 R K0 Kr).2
            simp only [G84.L2, ltI_t e, ei, pat_strs, pcell_str, isStr_str, strOf_str, Bool.and_self, Bool.and_true, cond_true, cond_false, hk.2.2, Bool.not_true, g1, w1, ei', ep, hc', next_nat (show pre.length ≤ BIG by simp only [BIG]; omega)]
            exact this
theorem riseE {l : List Bytes} (hs : ∀ s, s ∈ l → s.length ≤ 1000000000) (hl : l.length ≤ 1000000000) : Evk fun k => ∀ (R : Type) (K : Bool → Option R), G88.F k (strs l) K = K (riseB none l) ∧ G84.F k (strs l) K = K (riseB none l) := by
  have h := riseE_loop l [] hs (by simpa using hl)
  simp only [List.nil_append, List.length_nil, Int.natCast_zero, List.getLast?_nil] at h
  refine Evk.step h fun k hk R K => ?_
  have h1 := fun K0 Kr => (hk R K0 Kr).1
  have h2 := fun K0 Kr => (hk R K0 Kr).2
  simp only [G88.F, G84.F, h1, h2]
  cases riseB none l <;> exact ⟨rfl, rfl⟩
/-! The same marks. -/
theorem equalE_loop : ∀ (r1 r2 p1 p2 : List Bytes), p1.length = p2.length → r1.length = r2.length → p1.length + r1.length ≤ 1000000000 → Evk fun k => ∀ (R : Type) (K0 : Option R) (Kr : Bool → Option R),
    G125.L4 k (strs (p1 ++ r1)) (strs (p2 ++ r2)) (((strs (p1 ++ r1)).length : Nat) : Int) (p1.length : Nat) K0 Kr = bif decide (r1 = r2) then K0 else Kr false
  | [], r2, p1, p2, hp, hr, _ => Evk.one fun k R K0 Kr => by
    have e : ¬ (((p1.length : Nat) : Int) < (((strs (p1 ++ [])).length : Nat) : Int)) := by simp [strs]
    have hr2 : r2 = [] := List.eq_nil_of_length_eq_zero (by simpa using hr.symm)
    subst hr2
    have d : decide (([] : List Bytes) = []) = true := decide_eq_true rfl
    rw [d]
    simp only [G125.L4, ltI_f e, cond_true, cond_false]
  | s :: r1, [], p1, p2, hp, hr, _ => by simp at hr
  | s :: r1, t :: r2, p1, p2, hp, hr, hl => by
    have e : ((p1.length : Nat) : Int) < (((strs (p1 ++ s :: r1)).length : Nat) : Int) := by simp [strs]; omega
    have e1 : inI ((p1.length : Nat) : Int) (((strs (p1 ++ s :: r1)).length : Nat) : Int) = true := inI_true (by simp [strs])
    have e2 : inI ((p1.length : Nat) : Int) (((strs (p2 ++ t :: r2)).length : Nat) : Int) = true := inI_true (by simp [strs]; omega)
    have q2 : pat (strs (p2 ++ t :: r2)) ((p1.length : Nat) : Int) = .str t := by rw [hp]; exact pat_strs p2 t r2
    simp only [List.length_cons] at hl hr
    by_cases hc : s = t
    · have d : decide (s :: r1 = t :: r2) = decide (r1 = r2) := by simp [hc]
      have ih := equalE_loop r1 r2 (p1 ++ [s]) (p2 ++ [t]) (by simp [hp]) (by omega) (by simp; omega)
      rw [d]
      refine Evk.step ih fun k hk R K0 Kr => ?_
      have := hk R K0 Kr
      rw [snoc, snoc, List.length_append, List.length_singleton] at this
      simp only [G125.L4, ltI_t e, e1, e2, pat_strs, q2, pcell_str, isStr_str, strOf_str, cond_true, cond_false, eqS_t hc, Bool.not_true, next_nat (show p1.length ≤ BIG by simp only [BIG]; omega)]
      exact this
    · have d : decide (s :: r1 = t :: r2) = false := by simp [hc]
      rw [d]
      refine Evk.one fun k R K0 Kr => ?_
      simp only [G125.L4, ltI_t e, e1, e2, pat_strs, q2, pcell_str, isStr_str, strOf_str, cond_true, cond_false, eqS_f hc, Bool.not_false]
theorem equalE {l m : List Bytes} (hl : l.length ≤ 1000000000) : Evk fun k => ∀ (R : Type) (K : Bool → Option R), G125.F k (strs l) (strs m) K = K (decide (l = m)) := by
  by_cases he : l.length = m.length
  · have h := equalE_loop l m [] [] rfl he (by simpa using hl)
    simp only [List.nil_append, List.length_nil, Int.natCast_zero] at h
    refine Evk.step h fun k hk R K => ?_
    have c : eqI (((strs l).length : Nat) : Int) (((strs m).length : Nat) : Int) = true := eqI_t (by simp [strs, he])
    simp only [G125.F, c, Bool.not_true, cond_false, hk]
    cases decide (l = m) <;> rfl
  · have d : decide (l = m) = false := decide_eq_false fun e => he (by rw [e])
    rw [d]
    refine Evk.one fun k R K => ?_
    have c : eqI (((strs l).length : Nat) : Int) (((strs m).length : Nat) : Int) = false := eqI_f (by simp [strs]; omega)
    simp only [G125.F, c, Bool.not_false, cond_true]
theorem namesE {l m : List Bytes} (hl : l.length ≤ 1000000000) : Evk fun k => ∀ (R : Type) (K : Bool → Option R), G80.F k (strs l) (strs m) K = K (decide (l = m)) := by
  obtain ⟨o, o1, o2⟩ := names_spec (l := l) (m := m) hl
  have : o = decide (l = m) := by
    by_cases h : l = m
    · rw [decide_eq_true h]; exact o1.2 h
    · rw [decide_eq_false h]; cases o with
      | false => rfl
      | true => exact absurd (o1.1 rfl) h
  rw [← this]
  exact o2
theorem alikeE (a b : Nd) (ha : a.marks.length ≤ 1000000000) : Evk fun k => ∀ (R : Type) (K : Bool → Option R), G89.F k a.pv b.pv K = K (alikeB a b) := by
  have h1 := isText_spec a
  have h2 := isText_spec b
  unfold alikeB
  cases ca : eqS a.kind TEXT with
  | false =>
    rw [ca] at h1
    exact Evk.step h1 fun k hk R K => by simp only [G89.F, isAgg5, agg5, cond_true, cond_false, hk, Bool.false_and]
  | true =>
    rw [ca] at h1
    cases cb : eqS b.kind TEXT with
    | false =>
      rw [cb] at h2
      exact Evk.step (h1.and h2) fun k hk R K => by simp only [G89.F, isAgg5, agg5, cond_true, cond_false, hk.1, hk.2, Bool.false_and, Bool.true_and]
    | true =>
      rw [cb] at h2
      exact Evk.step ((h1.and h2).and (equalE (l := a.marks) (m := b.marks) ha)) fun k hk R K => by
        simp only [G89.F, isAgg5, agg5, cond_true, cond_false, hk.1.1, hk.1.2, Bool.true_and]
        simp only [nd2, isSl_self, slOf_sl, Bool.and_self, Bool.and_true, cond_true, hk.2]
end Go.Dip
end
/- Plain facts of the wire laws: a node's check, by the program and by the document's answer. -/
section
set_option linter.unusedVariables false
set_option linter.unusedSimpArgs false
namespace Go.Dip
open Go.Lib
def FormE (n : Nd) : Prop := Evk fun k => ∀ (R : Type) (K : Bool → Option R), G63.F k n.pv K = K n.formed ∧ G56.F k n.pv K = K n.formed
section
variable {x2 x3 x4 x5 x6 x7 x8 : PV}
theorem formE_attrs : ∀ (rest pre : List (Bytes × Bytes)), (∀ a, a ∈ rest → a.1.length ≤ 1000000000 ∧ a.2.length ≤ 1000000000) → pre.length + rest.length ≤ 1000000000 → Evk fun k => ∀ (R : Type) (K0 : PV → PV → PV → PV → PV → List PV → Option R) (Kr : Bool → Option R),
    G63.L5 k (.sl 2 ((pre ++ rest).map attrPV)) (((pre ++ rest).length : Nat) : Int) (pre.length : Nat) x4 x5 x6 x7 x8 (strs (pre.map fun a => a.1)) K0 Kr = (bif rest.all (fun x => valueB x.2) then K0 x4 x5 x6 x7 x8 (strs ((pre ++ rest).map fun a => a.1)) else Kr false) ∧
    G56.L5 k (pre.length : Nat) x4 x5 x6 (.sl 2 ((pre ++ rest).map attrPV)) x8 (strs (pre.map fun a => a.1)) K0 Kr = bif rest.all (fun x => valueB x.2) then K0 x4 x5 x6 (.sl 2 ((pre ++ rest).map attrPV)) x8 (strs ((pre ++ rest).map fun a => a.1)) else Kr false
  | [], pre, _, _ => Evk.one fun k R K0 Kr => by
    have e : ¬ (((pre.length : Nat) : Int) < ((pre.length : Nat) : Int)) := by omega
    have e2 : ¬ (((pre.length : Nat) : Int) < (((pre.map attrPV).length : Nat) : Int)) := by simp
    exact ⟨by simp only [List.append_nil, G63.L5, ltI_f e, cond_true, cond_false, List.all_nil], by simp only [List.append_nil, G56.L5, isSl_self, slOf_sl, ltI_f e2, cond_true, cond_false, List.all_nil]⟩
  | s :: rest, pre, hs, hl => by
    have e : ((pre.length : Nat) : Int) < (((pre ++ s :: rest).length : Nat) : Int) := by simp; omega
    have e2 : ((pre.length : Nat) : Int) < ((((pre ++ s :: rest).map attrPV).length : Nat) : Int) := by simp; omega
    have ei : inI ((pre.length : Nat) : Int) ((((pre ++ s :: rest).map attrPV).length : Nat) : Int) = true := inI_true (by simp)
    obtain ⟨h1, h2⟩ := hs s (by simp)
    have hv := (value_spec h2).and (value58 h2)
    simp only [List.length_cons] at hl
    have hl' : leN ((strs (pre.map fun a => a.1)).length + 1) LIM = true := lim (by simp [strs]; omega)
    cases hb : valueB s.2 with
    | false =>
      rw [hb] at hv
      have hA : (s :: rest).all (fun x => valueB x.2) = false := by simp only [List.all_cons, hb, Bool.false_and]
      rw [hA]
      refine Evk.step hv fun k hk R K0 Kr => ⟨?_, ?_⟩
      · simp only [G63.L5, ltI_t e, isSl_self, slOf_sl, ei, pat_attrs, attr0, attr1, isStr_str, strOf_str, Bool.and_self, Bool.and_true, cond_true, cond_false, hk.1, Bool.not_false]
      · simp only [G56.L5, ltI_t e2, isSl_self, slOf_sl, ei, pat_attrs, attr0, attr1, isStr_str, isOne_str, strOf_str, Bool.and_self, Bool.and_true, cond_true, cond_false, hl', hk.2, Bool.not_false]
    | true =>
      rw [hb] at hv
      have hA : (s :: rest).all (fun x => valueB x.2) = rest.all (fun x => valueB x.2) := by simp only [List.all_cons, hb, Bool.true_and]
      rw [hA]
      have ih := formE_attrs rest (pre ++ [s]) (fun u hu => hs u (by simp [hu])) (by simp; omega)
      have ha : strs (pre.map fun a => a.1) ++ [.str s.1] = strs ((pre ++ [s]).map fun a => a.1) := by simp [strs]
      rw [snoc, snoc_len] at ih
      refine Evk.step (ih.and hv) fun k hk R K0 Kr => ⟨?_, ?_⟩
      · have := (hk.1 R K0 Kr).1
        simp only [G63.L5, ltI_t e, isSl_self, slOf_sl, ei, pat_attrs, attr0, attr1, isStr_str, isOne_str, strOf_str, Bool.and_self, Bool.and_true, cond_true, cond_false, hk.2.1, Bool.not_true, hl', ha, next_nat (show pre.length ≤ BIG by simp only [BIG]; omega)]
        exact this
      · have := (hk.1 R K0 Kr).2
        simp only [G56.L5, ltI_t e2, isSl_self, slOf_sl, ei, pat_attrs, attr0, attr1, isStr_str, isOne_str, strOf_str, Bool.and_self, Bool.and_true, cond_true, cond_false, hl', hk.2.2, Bool.not_true, ha, next_nat (show pre.length ≤ BIG by simp only [BIG]; omega)]
        exact this
theorem formE_kids : ∀ (rest pre : List Nd), (∀ n, n ∈ rest → FormE n) → (∀ n, n ∈ pre ++ rest → n.marks.length ≤ 1000000000) → pre.length + rest.length ≤ 1000000000 → Evk fun k => ∀ (R : Type) (K0 : Option R) (Kr : Bool → Option R),
    G63.L14 k (.sl 5 (Nd.pvs (pre ++ rest))) (((pre ++ rest).length : Nat) : Int) (pre.length : Nat) x4 x5 x6 x7 (.sl 5 (Nd.pvs (pre ++ rest))) K0 Kr = (bif Nd.formeds pre.getLast? rest then K0 else Kr false) ∧
    G56.L13 k (pre.length : Nat) x4 x5 x6 x7 (.sl 5 (Nd.pvs (pre ++ rest))) K0 Kr = bif Nd.formeds pre.getLast? rest then K0 else Kr false
  | [], pre, _, _, _ => Evk.one fun k R K0 Kr => by
    have e : ¬ (((pre.length : Nat) : Int) < ((pre.length : Nat) : Int)) := by omega
    have e2 : ¬ (((pre.length : Nat) : Int) < (((Nd.pvs pre).length : Nat) : Int)) := by rw [pvs_length]; omega
    exact ⟨by simp only [List.append_nil, G63.L14, ltI_f e, cond_true, cond_false, Nd.formeds], by simp only [List.append_nil, G56.L13, isSl_self, slOf_sl, ltI_f e2, cond_true, cond_false, Nd.formeds]⟩
  | s :: rest, pre, hs, hm, hl => by
    have e : ((pre.length : Nat) : Int) < (((pre ++ s :: rest).length : Nat) : Int) := by simp; omega
    have e2 : ((pre.length : Nat) : Int) < (((Nd.pvs (pre ++ s :: rest)).length : Nat) : Int) := by rw [pvs_length]; exact e
    have ei : inI ((pre.length : Nat) : Int) (((Nd.pvs (pre ++ s :: rest)).length : Nat) : Int) = true := inI_true (by simp [pvs_length])
    have hF := hs s (by simp)
    simp only [List.length_cons] at hl
    unfold FormE at hF
    cases hb : s.formed with
    | false =>
      have hB : Nd.formeds pre.getLast? (s :: rest) = false := by simp only [Nd.formeds, hb, Bool.false_and]
      rw [hB]
      rw [hb] at hF
      refine Evk.step hF fun k hk R K0 Kr => ⟨?_, ?_⟩
      · have h1 := fun R K => (hk R K).1
        simp only [G63.L14, ltI_t e, isSl_self, slOf_sl, ei, pat_nodes, agg5, Bool.and_self, cond_true, cond_false, h1, Bool.not_false]
      · have h1 := fun R K => (hk R K).2
        simp only [G56.L13, ltI_t e2, isSl_self, slOf_sl, ei, pat_nodes, agg5, Bool.and_self, cond_true, cond_false, h1, Bool.not_false]
    | true =>
      rw [hb] at hF
      have ih := formE_kids rest (pre ++ [s]) (fun u hu => hs u (by simp [hu])) (fun n hn => hm n (by rw [snoc] at hn; exact hn)) (by simp; omega)
      rw [snoc, snoc_len, last_snoc] at ih
      have nx := next_nat (show pre.length ≤ BIG by simp only [BIG]; omega)
      rcases List.eq_nil_or_concat pre with rfl | ⟨pre', p, hp⟩
      · have hB : Nd.formeds ([] : List Nd).getLast? (s :: rest) = Nd.formeds (some s) rest := by simp [Nd.formeds, hb]
        rw [hB]
        have g0 : gtI (((([] : List Nd).length : Nat) : Int)) 0 = false := gtI_f (by simp)
        refine Evk.step (ih.and hF) fun k hk R K0 Kr => ⟨?_, ?_⟩
        · have h1 := fun R K => (hk.2 R K).1
          have := (hk.1 R K0 Kr).1
          simp only [G63.L14, ltI_t e, isSl_self, slOf_sl, ei, pat_nodes, agg5, Bool.and_self, cond_true, cond_false, h1, Bool.not_true, g0, nx]
          exact this
        · have h1 := fun R K => (hk.2 R K).2
          have := (hk.1 R K0 Kr).2
          simp only [G56.L13, ltI_t e2, isSl_self, slOf_sl, ei, pat_nodes, agg5, Bool.and_self, cond_true, cond_false, h1, Bool.not_true, g0, nx]
          exact this
      · have hp : pre = pre' ++ [p] := by rw [hp, List.concat_eq_append]
        have hpl : pre.length = pre'.length + 1 := by rw [hp]; simp
        have hla : pre.getLast? = some p := by rw [hp]; simp
        have g1 : gtI ((pre.length : Nat) : Int) 0 = true := gtI_t (by omega)
        have w1 : IntKind.i64.wrap (((pre.length : Nat) : Int) - 1) = ((pre'.length : Nat) : Int) := by rw [wrap64 (by omega) (by omega)]; omega
        have ep : pat (Nd.pvs (pre ++ s :: rest)) ((pre'.length : Nat) : Int) = p.pv := by
          rw [hp, List.append_assoc]
          exact pat_nodes pre' p ([] ++ s :: rest)
        have ei' : inI ((pre'.length : Nat) : Int) (((Nd.pvs (pre ++ s :: rest)).length : Nat) : Int) = true := inI_true (by simp [pvs_length]; omega)
        have hal := alikeE p s (hm p (by rw [hp]; simp))
        have hnm := namesE (l := s.marks) (m := p.marks) (hm s (by simp))
        have hB : Nd.formeds pre.getLast? (s :: rest) = (!alikeB p s && Nd.formeds (some s) rest) := by rw [hla]; simp [Nd.formeds, hb]
        rw [hB]
        refine Evk.step ((ih.and hF).and (hal.and hnm)) fun k hk R K0 Kr => ⟨?_, ?_⟩
        · have h1 := fun R K => (hk.1.2 R K).1
          have h2 := hk.2.1
          have := (hk.1.1 R K0 Kr).1
          cases ha : alikeB p s with
          | true =>
            rw [ha] at h2
            simp only [G63.L14, ltI_t e, isSl_self, slOf_sl, ei, pat_nodes, agg5, Bool.and_self, cond_true, cond_false, h1, h2, Bool.not_true, g1, w1, ei', ep, Bool.false_and]
          | false =>
            rw [ha] at h2
            simp only [G63.L14, ltI_t e, isSl_self, slOf_sl, ei, pat_nodes, agg5, Bool.and_self, cond_true, cond_false, h1, h2, Bool.not_true, g1, w1, ei', ep, nx, Bool.not_false, Bool.true_and]
            exact this
        · have h1 := fun R K => (hk.1.2 R K).2
          have h2 := hk.2.2
          have := (hk.1.1 R K0 Kr).2
          unfold alikeB
          cases hsk : eqS s.kind TEXT with
          | false =>
            simp only [G56.L13, ltI_t e2, isSl_self, slOf_sl, ei, pat_nodes, agg5, Bool.and_self, cond_true, cond_false, h1, Bool.not_true, g1]
            simp only [isSl_self, slOf_sl, ei, Bool.and_self, cond_true, cond_false, Bool.not_true, nd0, isStr_str, strOf_str, hsk, nx, Bool.false_and, Bool.and_false, Bool.not_false, Bool.true_and]
            exact this
          | true =>
            cases hpk : eqS p.kind TEXT with
            | false =>
              simp only [G56.L13, ltI_t e2, isSl_self, slOf_sl, ei, pat_nodes, agg5, Bool.and_self, cond_true, cond_false, h1, Bool.not_true, g1]
              simp only [isSl_self, slOf_sl, ei, Bool.and_self, cond_true, cond_false, Bool.not_true, nd0, isStr_str, strOf_str, hsk, w1, ei', ep, hpk, nx, Bool.false_and, Bool.not_false, Bool.true_and]
              exact this
            | true =>
              by_cases hmm : p.marks = s.marks
              · have d1 : decide (s.marks = p.marks) = true := decide_eq_true hmm.symm
                have d2 : decide (p.marks = s.marks) = true := decide_eq_true hmm
                rw [d1] at h2
                rw [d2]
                simp only [G56.L13, ltI_t e2, isSl_self, slOf_sl, ei, pat_nodes, agg5, Bool.and_self, cond_true, cond_false, h1, Bool.not_true, g1]
                simp only [isSl_self, slOf_sl, ei, Bool.and_self, cond_true, cond_false, Bool.not_true, nd0, isStr_str, strOf_str, hsk, w1, ei', ep, hpk, nd2, Bool.and_true, h2, Bool.false_and]
              · have d1 : decide (s.marks = p.marks) = false := decide_eq_false fun e => hmm e.symm
                have d2 : decide (p.marks = s.marks) = false := decide_eq_false hmm
                rw [d1] at h2
                rw [d2]
                simp only [G56.L13, ltI_t e2, isSl_self, slOf_sl, ei, pat_nodes, agg5, Bool.and_self, cond_true, cond_false, h1, Bool.not_true, g1]
                simp only [isSl_self, slOf_sl, ei, Bool.and_self, cond_true, cond_false, Bool.not_true, nd0, isStr_str, strOf_str, hsk, w1, ei', ep, hpk, nd2, Bool.and_true, h2, nx, Bool.and_false, Bool.not_false, Bool.true_and]
                exact this
end
theorem len0_eq {α : Type} [DecidableEq α] (l : List α) : eqI ((l.length : Nat) : Int) 0 = decide (l = []) := by
  by_cases h : l = []
  · rw [decide_eq_true h, len0.2 h]
  · rw [decide_eq_false h]
    cases c : eqI ((l.length : Nat) : Int) 0 with
    | false => rfl
    | true => exact absurd (len0.1 c) h
theorem formE_mk {kd t : Bytes} {m : List Bytes} {a : List (Bytes × Bytes)} {ks : List Nd} (hw : (Nd.mk kd t m a ks).wt ≤ SM) (hk : ∀ s, s ∈ ks → FormE s) : FormE (.mk kd t m a ks) := by
  simp only [Nd.wt, SM] at hw
  have hm := markW_len m
  have ha := attrW_len a
  have hks := Nd.len_wts ks
  have hisa : PV.isAgg 5 (Nd.mk kd t m a ks).pv = true := isAgg5 _
  have ht := isText_spec (.mk kd t m a ks)
  simp only [Nd.kind] at ht
  have hri := riseE (l := m) (fun s hs => by have := mark_len hs; omega) (by omega)
  have hd : ∀ b : Bool, (Nd.mk kd t m a ks).formed = b → FormE (.mk kd t m a ks) = (Evk fun k => ∀ (R : Type) (K : Bool → Option R), G63.F k (Nd.mk kd t m a ks).pv K = K b ∧ G56.F k (Nd.mk kd t m a ks).pv K = K b) := fun b hb => by unfold FormE; rw [hb]
  have hdef : (Nd.mk kd t m a ks).formed = bif eqS kd TEXT then !eqS t [] && (validD t && (riseB none m && (decide (a = []) && decide (ks = []))))
    else (a.all fun x => valueB x.2) && (nameB kd && (eqS t [] && (decide (m = []) && (riseB none (a.map fun x => x.1) && Nd.formeds none ks)))) := by simp only [Nd.formed]
  have hag : PV.agg [.str kd, .str t, .sl 1 (strs m), .sl 2 (a.map attrPV), .sl 5 (Nd.pvs ks)] = (Nd.mk kd t m a ks).pv := by simp [Nd.pv]
  cases hc : eqS kd TEXT with
  | true =>
    rw [hc] at ht
    rw [hc, cond_true] at hdef
    cases he : eqS t [] with
    | true =>
      rw [hd false (by rw [hdef, he]; rfl)]
      exact Evk.step ht fun k hk R K => ⟨by simp only [G63.F, hisa, nd0, nd1, nd2, nd3, nd4, Nd.kind, Nd.text, Nd.marks, Nd.attrs, Nd.kids, hag, hk, isStr_str, strOf_str, he, cond_true, cond_false, Bool.not_true],
        by simp only [G56.F, hisa, nd0, nd1, nd2, nd3, nd4, Nd.kind, Nd.text, isStr_str, strOf_str, hc, he, cond_true, cond_false, Bool.not_true]⟩
    | false =>
      have hv83 := valid83 (s := t) (by omega)
      cases hv : validD t with
      | false =>
        rw [hv] at hv83
        rw [hd false (by rw [hdef, he, hv]; rfl)]
        exact Evk.step (ht.and hv83) fun k hk R K => ⟨by simp only [G63.F, hisa, nd0, nd1, nd2, nd3, nd4, Nd.kind, Nd.text, Nd.marks, Nd.attrs, Nd.kids, hag, hk.1, isStr_str, strOf_str, he, cond_true, cond_false, Bool.not_false, Bool.and_self, lValid_ok (show t.length ≤ 1000000000 by omega), hv],
          by simp only [G56.F, hisa, nd0, nd1, nd2, nd3, nd4, Nd.kind, Nd.text, isStr_str, strOf_str, hc, he, cond_true, cond_false, Bool.not_false, Bool.and_self, hk.2]⟩
      | true =>
        rw [hv] at hv83
        cases ri : riseB none m with
        | false =>
          rw [ri] at hri
          rw [hd false (by rw [hdef, he, hv, ri]; rfl)]
          refine Evk.step ((ht.and hv83).and hri) fun k hk R K => ?_
          have h1 := fun R K => (hk.2 R K).1
          have h2 := fun R K => (hk.2 R K).2
          exact ⟨by simp only [G63.F, hisa, nd0, nd1, nd2, nd3, nd4, Nd.kind, Nd.text, Nd.marks, Nd.attrs, Nd.kids, hag, hk.1.1, h1, isStr_str, strOf_str, isSl_self, slOf_sl, he, cond_true, cond_false, Bool.not_false, Bool.and_self, lValid_ok (show t.length ≤ 1000000000 by omega), hv],
            by simp only [G56.F, hisa, nd0, nd1, nd2, nd3, nd4, Nd.kind, Nd.text, Nd.marks, isStr_str, strOf_str, isSl_self, slOf_sl, hc, he, cond_true, cond_false, Bool.not_false, Bool.and_self, hk.1.2, h2]⟩
        | true =>
          rw [ri] at hri
          have w0 : IntKind.i64.wrap ((((a.map attrPV).length : Nat) : Int) + (((Nd.pvs ks).length : Nat) : Int)) = ((a.length + ks.length : Nat) : Int) := by
            rw [pvs_length, List.length_map, wrap64 (by omega) (by omega)]; omega
          have e0 : eqI ((a.length + ks.length : Nat) : Int) 0 = (decide (a = []) && decide (ks = [])) := by
            by_cases h1 : a = []
            · by_cases h2 : ks = []
              · rw [decide_eq_true h1, decide_eq_true h2]; exact eqI_t (by simp [h1, h2])
              · rw [decide_eq_true h1, decide_eq_false h2]; exact eqI_f (by have := List.length_pos_iff.2 h2; omega)
            · rw [decide_eq_false h1]; exact eqI_f (by have := List.length_pos_iff.2 h1; omega)
          rw [hd (decide (a = []) && decide (ks = [])) (by rw [hdef, he, hv, ri]; simp)]
          refine Evk.step ((ht.and hv83).and hri) fun k hk R K => ?_
          have h1 := fun R K => (hk.2 R K).1
          have h2 := fun R K => (hk.2 R K).2
          have e3 : eqI (((a.map attrPV).length : Nat) : Int) 0 = decide (a = []) := by rw [List.length_map]; exact len0_eq a
          have e4 : eqI (((Nd.pvs ks).length : Nat) : Int) 0 = decide (ks = []) := by
            rw [pvs_length]
            by_cases h : ks = []
            · rw [decide_eq_true h, len0.2 h]
            · rw [decide_eq_false h]; exact eqI_f (by have := List.length_pos_iff.2 h; omega)
          refine ⟨by simp only [G63.F, hisa, nd0, nd1, nd2, nd3, nd4, Nd.kind, Nd.text, Nd.marks, Nd.attrs, Nd.kids, hag, hk.1.1, h1, isStr_str, strOf_str, isSl_self, slOf_sl, he, cond_true, cond_false, Bool.not_false, Bool.and_self, lValid_ok (show t.length ≤ 1000000000 by omega), hv, w0, e0], ?_⟩
          simp only [G56.F, hisa, nd0, nd1, nd2, nd3, nd4, Nd.kind, Nd.text, Nd.marks, Nd.attrs, Nd.kids, isStr_str, strOf_str, isSl_self, slOf_sl, hc, he, cond_true, cond_false, Bool.not_false, Bool.and_self, hk.1.2, h2, e3, e4]
          cases decide (a = []) <;> rfl
  | false =>
    rw [hc] at ht
    rw [hc, cond_false] at hdef
    have hA := formE_attrs (x4 := .str kd) (x5 := .str t) (x6 := .sl 1 (strs m)) (x7 := .sl 2 (a.map attrPV)) (x8 := .sl 5 (Nd.pvs ks)) a [] (fun x hx => by have := attr_len hx; omega) (by simp; omega)
    simp only [List.nil_append, List.length_nil, Int.natCast_zero, List.map_nil] at hA
    have e0 : (((a.map attrPV).length : Nat) : Int) = ((a.length : Nat) : Int) := by simp
    have s0 : strs [] = [] := rfl
    rw [s0] at hA
    have hn := (name_spec (s := kd) (by omega)).and (name57 (s := kd) (by omega))
    have e5 : gtI (((strs m).length : Nat) : Int) 0 = !decide (m = []) := by
      by_cases h : m = []
      · rw [decide_eq_true h]; exact gtI_f (by rw [h]; simp [strs])
      · rw [decide_eq_false h]; exact gtI_t (by rw [strs_length]; have := List.length_pos_iff.2 h; omega)
    have hrn := riseE (l := a.map fun x => x.1) (fun s hs => by
      obtain ⟨x, hx, rfl⟩ := List.mem_map.1 hs
      have := attr_len hx; omega) (by simp; omega)
    have hK := formE_kids (x4 := .str kd) (x5 := .str t) (x6 := .sl 1 (strs m)) (x7 := .sl 2 (a.map attrPV)) ks [] hk (fun n hn => by
      have := Nd.wt_mem (l := ks) (n := n) (by simpa using hn)
      have h2 := markW_len n.marks
      cases n
      simp only [Nd.wt, Nd.marks] at this h2 ⊢
      omega) (by simp; omega)
    simp only [List.nil_append, List.length_nil, Int.natCast_zero, List.getLast?_nil] at hK
    have e1 : (((Nd.pvs ks).length : Nat) : Int) = ((ks.length : Nat) : Int) := by rw [pvs_length]
    unfold FormE
    rw [hdef]
    refine Evk.step ((((ht.and hA).and hn).and hrn).and hK) fun k hk R K => ?_
    have a1 := fun R K0 Kr => (hk.1.1.1.2 R K0 Kr).1
    have a2 := fun R K0 Kr => (hk.1.1.1.2 R K0 Kr).2
    have n1 := hk.1.1.2.1
    have n2 := hk.1.1.2.2
    have r1 := fun R K => (hk.1.2 R K).1
    have r2 := fun R K => (hk.1.2 R K).2
    have k1 := fun R K0 Kr => (hk.2 R K0 Kr).1
    have k2 := fun R K0 Kr => (hk.2 R K0 Kr).2
    have tx := hk.1.1.1.1
    refine ⟨?_, ?_⟩
    · simp only [G63.F, G63.J13, hisa, nd0, nd1, nd2, nd3, nd4, Nd.kind, Nd.text, Nd.marks, Nd.attrs, Nd.kids, hag, tx, isSl_self, slOf_sl, e0, a1, n1, isStr_str, strOf_str, Bool.and_self, e5, r1, e1, k1, cond_true, cond_false]
      cases (a.all fun x => valueB x.2) <;> cases nameB kd <;> cases eqS t [] <;> cases decide (m = []) <;> cases riseB none (a.map fun x => x.1) <;> cases Nd.formeds none ks <;> rfl
    · simp only [G56.F, G56.J12, hisa, nd0, nd1, nd2, nd3, nd4, Nd.kind, Nd.text, Nd.marks, Nd.attrs, Nd.kids, hc, isSl_self, slOf_sl, a2, n2, isStr_str, strOf_str, Bool.and_self, e5, r2, k2, cond_true, cond_false]
      cases (a.all fun x => valueB x.2) <;> cases nameB kd <;> cases eqS t [] <;> cases decide (m = []) <;> cases riseB none (a.map fun x => x.1) <;> cases Nd.formeds none ks <;> rfl
mutual
theorem formE : ∀ n : Nd, n.wt ≤ SM → FormE n
  | .mk k t m a ks, h => formE_mk h (formEs ks (by simp only [Nd.wt] at h; omega))
theorem formEs : ∀ l : List Nd, Nd.wts l ≤ SM → ∀ s, s ∈ l → FormE s
  | n :: l, h, s, hs => by
    simp only [Nd.wts] at h
    rcases List.mem_cons.1 hs with e | hs
    · rw [e]; exact formE n (by omega)
    · exact formEs l (by omega) s hs
end
end Go.Dip
end
/- Plain facts of the wire laws: depth, size, check, by the program and by the document's answer. -/
section
set_option linter.unusedVariables false
set_option linter.unusedSimpArgs false
namespace Go.Dip
open Go.Lib
def DepE (n : Nd) : Prop := Evk fun k => ∀ (R : Type) (K : Int → Option R), G64.F k n.pv K = K n.depth ∧ G85.F k n.pv K = K n.depth
def SizE (n : Nd) : Prop := Evk fun k => ∀ (R : Type) (K : Int → Option R), G65.F k n.pv K = K n.size ∧ G86.F k n.pv K = K n.size
section
variable {x3 x4 x5 x6 : PV}
theorem depE_loop : ∀ (rest pre : List Nd) (acc : Int), (∀ n, n ∈ rest → DepE n) → pre.length + rest.length ≤ 1000000000 → Evk fun k => ∀ (R : Type) (K0 : Int → Option R),
    G64.L5 k acc (.sl 5 (Nd.pvs (pre ++ rest))) (((pre ++ rest).length : Nat) : Int) (pre.length : Nat) K0 = K0 (Nd.depths acc rest) ∧
    G85.L5 k acc (pre.length : Nat) x3 x4 x5 x6 (.sl 5 (Nd.pvs (pre ++ rest))) K0 = K0 (Nd.depths acc rest)
  | [], pre, acc, _, _ => Evk.one fun k R K0 => by
    have e : ¬ (((pre.length : Nat) : Int) < ((pre.length : Nat) : Int)) := by omega
    have e2 : ¬ (((pre.length : Nat) : Int) < (((Nd.pvs pre).length : Nat) : Int)) := by rw [pvs_length]; omega
    exact ⟨by simp only [List.append_nil, G64.L5, ltI_f e, cond_false, Nd.depths], by simp only [List.append_nil, G85.L5, isSl_self, slOf_sl, ltI_f e2, cond_true, cond_false, Nd.depths]⟩
  | s :: rest, pre, acc, hs, hl => by
    have e : ((pre.length : Nat) : Int) < (((pre ++ s :: rest).length : Nat) : Int) := by simp; omega
    have e2 : ((pre.length : Nat) : Int) < (((Nd.pvs (pre ++ s :: rest)).length : Nat) : Int) := by rw [pvs_length]; exact e
    have ei : inI ((pre.length : Nat) : Int) (((Nd.pvs (pre ++ s :: rest)).length : Nat) : Int) = true := inI_true (by simp [pvs_length])
    have hd := hs s (by simp)
    simp only [List.length_cons] at hl
    have nx := next_nat (show pre.length ≤ BIG by simp only [BIG]; omega)
    have ih := depE_loop rest (pre ++ [s]) (max acc s.depth) (fun u hu => hs u (by simp [hu])) (by simp; omega)
    rw [snoc, snoc_len] at ih
    simp only [Nd.depths]
    refine Evk.step (Evk.and ih hd) fun k hk R K0 => ⟨?_, ?_⟩
    · have h1 := fun R K => (hk.2 R K).1
      have := (hk.1 R K0).1
      simp only [G64.L5, ltI_t e, isSl_self, slOf_sl, ei, pat_nodes, agg5, Bool.and_self, cond_true, h1, nx]
      exact this
    · have h1 := fun R K => (hk.2 R K).2
      have := (hk.1 R K0).2
      simp only [G85.L5, ltI_t e2, isSl_self, slOf_sl, ei, pat_nodes, agg5, Bool.and_self, cond_true, h1, nx]
      exact this
end
theorem depE_mk {kd t : Bytes} {m : List Bytes} {a : List (Bytes × Bytes)} {ks : List Nd} (hl : ks.length ≤ 1000000000) (hk : ∀ s, s ∈ ks → DepE s) : DepE (.mk kd t m a ks) := by
  have hisa : PV.isAgg 5 (Nd.mk kd t m a ks).pv = true := isAgg5 _
  have ht := isText_spec (.mk kd t m a ks)
  simp only [Nd.kind] at ht
  unfold DepE
  simp only [Nd.depth]
  cases hc : eqS kd TEXT with
  | true =>
    rw [hc] at ht
    exact Evk.step ht fun k hk R K => ⟨by simp only [G64.F, hisa, agg5, hk, cond_true], by simp only [G85.F, hisa, nd0, Nd.kind, isStr_str, strOf_str, hc, cond_true]⟩
  | false =>
    rw [hc] at ht
    have hr := depE_loop (x3 := .str kd) (x4 := .str t) (x5 := .sl 1 (strs m)) (x6 := .sl 2 (a.map attrPV)) ks [] 0 hk (by simpa using hl)
    simp only [List.nil_append, List.length_nil, Int.natCast_zero] at hr
    have e1 : (((Nd.pvs ks).length : Nat) : Int) = ((ks.length : Nat) : Int) := by rw [pvs_length]
    refine Evk.step (ht.and hr) fun k hk R K => ⟨?_, ?_⟩
    · have h1 := fun R K => (hk.2 R K).1
      simp only [G64.F, hisa, agg5, hk.1, cond_true, cond_false]
      simp only [nd4, Nd.kids, isSl_self, slOf_sl, cond_true, e1, h1]
    · have h1 := fun R K => (hk.2 R K).2
      simp only [G85.F, hisa, nd0, nd1, nd2, nd3, nd4, Nd.kind, Nd.text, Nd.marks, Nd.attrs, Nd.kids, isStr_str, strOf_str, hc, cond_true, cond_false, h1]
mutual
theorem depE : ∀ n : Nd, n.wt ≤ SM → DepE n
  | .mk k t m a ks, h => by
    have := Nd.len_wts ks
    simp only [Nd.wt, SM] at h
    exact depE_mk (by omega) (depEs ks (by simp only [SM]; omega))
theorem depEs : ∀ l : List Nd, Nd.wts l ≤ SM → ∀ s, s ∈ l → DepE s
  | n :: l, h, s, hs => by
    simp only [Nd.wts] at h
    rcases List.mem_cons.1 hs with e | hs
    · rw [e]; exact depE n (by omega)
    · exact depEs l (by omega) s hs
end
theorem sizE_loop : ∀ (rest pre : List Nd) (acc : Int), (∀ n, n ∈ rest → SizE n) → pre.length + rest.length ≤ 1000000000 → Evk fun k => ∀ (R : Type) (K0 : Int → Option R),
    G91.L3 k acc (Nd.pvs (pre ++ rest)) (((pre ++ rest).length : Nat) : Int) (pre.length : Nat) K0 = K0 (Nd.sizes acc rest) ∧
    G124.L3 k (Nd.pvs (pre ++ rest)) acc (pre.length : Nat) K0 = K0 (Nd.sizes acc rest)
  | [], pre, acc, _, _ => Evk.one fun k R K0 => by
    have e : ¬ (((pre.length : Nat) : Int) < ((pre.length : Nat) : Int)) := by omega
    have e2 : ¬ (((pre.length : Nat) : Int) < (((Nd.pvs pre).length : Nat) : Int)) := by rw [pvs_length]; omega
    exact ⟨by simp only [List.append_nil, G91.L3, ltI_f e, cond_false, Nd.sizes], by simp only [List.append_nil, G124.L3, ltI_f e2, cond_false, Nd.sizes]⟩
  | s :: rest, pre, acc, hs, hl => by
    have e : ((pre.length : Nat) : Int) < (((pre ++ s :: rest).length : Nat) : Int) := by simp; omega
    have e2 : ((pre.length : Nat) : Int) < (((Nd.pvs (pre ++ s :: rest)).length : Nat) : Int) := by rw [pvs_length]; exact e
    have ei : inI ((pre.length : Nat) : Int) (((Nd.pvs (pre ++ s :: rest)).length : Nat) : Int) = true := inI_true (by simp [pvs_length])
    have hd := hs s (by simp)
    simp only [List.length_cons] at hl
    have nx := next_nat (show pre.length ≤ BIG by simp only [BIG]; omega)
    have ih := sizE_loop rest (pre ++ [s]) (IntKind.i64.wrap (acc + s.size)) (fun u hu => hs u (by simp [hu])) (by simp; omega)
    rw [snoc, snoc_len] at ih
    simp only [Nd.sizes]
    refine Evk.step (Evk.and ih hd) fun k hk R K0 => ⟨?_, ?_⟩
    · have h1 := fun R K => (hk.2 R K).1
      have := (hk.1 R K0).1
      simp only [G91.L3, ltI_t e, ei, pat_nodes, agg5, cond_true, h1, nx]
      exact this
    · have h1 := fun R K => (hk.2 R K).2
      have := (hk.1 R K0).2
      simp only [G124.L3, ltI_t e2, ei, pat_nodes, agg5, cond_true, h1, nx]
      exact this
theorem sizE_mk {kd t : Bytes} {m : List Bytes} {a : List (Bytes × Bytes)} {ks : List Nd} (ht0 : t.length ≤ 1000000000) (hl : ks.length ≤ 1000000000) (hk : ∀ s, s ∈ ks → SizE s) : SizE (.mk kd t m a ks) := by
  have hisa : PV.isAgg 5 (Nd.mk kd t m a ks).pv = true := isAgg5 _
  have ht := isText_spec (.mk kd t m a ks)
  simp only [Nd.kind] at ht
  unfold SizE
  simp only [Nd.size]
  cases hc : eqS kd TEXT with
  | true =>
    rw [hc] at ht
    obtain ⟨r1, r2, r3⟩ := runes_facts t
    have h123 : Evk fun k => ∀ (R : Type) (K : List PV → Bool → Option R), G123.F k t K = K (runesOf t) (validD t) :=
      Evk.one fun k R K => by simp only [G123.F, lim (show t.length ≤ 1099511627776 by omega), r3, cond_true, r1, valid_iff]
    refine Evk.step (ht.and h123) fun k hk R K => ⟨?_, ?_⟩
    · simp only [G65.F, hisa, agg5, hk.1, cond_true]
      simp only [nd1, Nd.text, isStr_str, strOf_str, Bool.and_self, cond_true]
      exact lRune_ok ht0 _
    · simp only [G86.F, hisa, nd0, nd1, Nd.kind, Nd.text, isStr_str, strOf_str, hc, Bool.and_self, cond_true, hk.2, r2]
  | false =>
    rw [hc] at ht
    have hr := sizE_loop ks [] 0 hk (by simpa using hl)
    simp only [List.nil_append, List.length_nil, Int.natCast_zero] at hr
    have e1 : (((Nd.pvs ks).length : Nat) : Int) = ((ks.length : Nat) : Int) := by rw [pvs_length]
    have hT : Evk fun k => ∀ (R : Type) (K : Int → Option R), G91.F k (Nd.pvs ks) K = K (Nd.sizes 0 ks) ∧ G124.F k (Nd.pvs ks) K = K (Nd.sizes 0 ks) := Evk.step hr fun k hk R K => by
      have h1 := fun R K => (hk R K).1
      have h2 := fun R K => (hk R K).2
      exact ⟨by simp only [G91.F, e1, h1], by simp only [G124.F, h2]⟩
    refine Evk.step (ht.and hT) fun k hk R K => ⟨?_, ?_⟩
    · have h1 := fun R K => (hk.2 R K).1
      simp only [G65.F, hisa, agg5, hk.1, cond_true, cond_false]
      simp only [nd4, Nd.kids, isSl_self, slOf_sl, Bool.and_self, cond_true, h1]
    · have h1 := fun R K => (hk.2 R K).2
      simp only [G86.F, hisa, nd0, nd4, Nd.kind, Nd.kids, isStr_str, strOf_str, hc, isSl_self, slOf_sl, Bool.and_self, cond_true, cond_false, h1]
mutual
theorem sizE : ∀ n : Nd, n.wt ≤ SM → SizE n
  | .mk k t m a ks, h => by
    have := Nd.len_wts ks
    simp only [Nd.wt, SM] at h
    exact sizE_mk (by omega) (by omega) (sizEs ks (by simp only [SM]; omega))
theorem sizEs : ∀ l : List Nd, Nd.wts l ≤ SM → ∀ s, s ∈ l → SizE s
  | n :: l, h, s, hs => by
    simp only [Nd.wts] at h
    rcases List.mem_cons.1 hs with e | hs
    · rw [e]; exact sizE n (by omega)
    · exact sizEs l (by omega) s hs
end
theorem checkE {n : Nd} (h : n.wt ≤ SM) : Evk fun k => ∀ (R : Type) (K : Int → Option R), G36.F k n.pv K = K n.check ∧ G62.F k n.pv K = K n.check := by
  refine Evk.step ((Evk.and (formE n h) (depE n h)).and (sizE n h)) fun k hk R K => ?_
  have f1 := fun R K => (hk.1.1 R K).1
  have f2 := fun R K => (hk.1.1 R K).2
  have d1 := fun R K => (hk.1.2 R K).1
  have d2 := fun R K => (hk.1.2 R K).2
  have s1 := fun R K => (hk.2 R K).1
  have s2 := fun R K => (hk.2 R K).2
  unfold Nd.check
  simp only [G36.F, G62.F, isAgg5, agg5, f1, f2, d1, d2, s1, s2, cond_true]
  cases n.formed with
  | false => exact ⟨rfl, rfl⟩
  | true =>
    simp only [Bool.not_true, cond_false, cond_true]
    by_cases h1 : n.depth > 40
    · rw [if_pos h1, gtI_t h1]; exact ⟨rfl, rfl⟩
    · rw [if_neg h1, gtI_f h1]
      by_cases h2 : n.size > 4000
      · rw [if_pos h2, gtI_t h2]; exact ⟨rfl, rfl⟩
      · rw [if_neg h2, gtI_f h2]; exact ⟨rfl, rfl⟩
theorem check_is {n : Nd} (h : n.wt ≤ SM) : CheckN n n.check := (checkE h).mono fun k hk R K => (hk R K).1
theorem check62 {n : Nd} (h : n.wt ≤ SM) : Evk fun k => ∀ (R : Type) (K : Int → Option R), G62.F k n.pv K = K n.check := (checkE h).mono fun k hk R K => (hk R K).2
theorem check_two {n : Nd} : n.check = 2 ↔ n.formed = false := by
  unfold Nd.check
  cases n.formed with
  | false => simp
  | true =>
    simp only [cond_true]
    split
    · simp
    · split <;> simp
theorem good_of {n : Nd} (h : n.wt ≤ SM) (hf : n.formed = true) : n.Good := by
  obtain ⟨c, c1, c2⟩ := check_nd n h
  have := (check_is h).uniq c2
  exact c1 fun e => by
    have := (check_two (n := n)).1 (by omega)
    rw [hf] at this
    cases this
end Go.Dip
end
/- Plain facts of the wire laws: how the document's answer writes a node: as the program. -/
section
set_option linter.unusedVariables false
set_option linter.unusedSimpArgs false
namespace Go.Dip
open Go.Lib
theorem one_at (pre : Bytes) (b : UInt8) (t : Bytes) : sub (pre ++ b :: t) ((pre.length : Nat) : Int) ((pre.length + 1 : Nat) : Int) = [b] := by
  rw [sub_nat]
  have : (pre ++ b :: t).drop pre.length = b :: t := by simp
  rw [this]
  have e : pre.length + 1 - pre.length = 1 := by omega
  rw [e]
  rfl
theorem quote61_loop : ∀ (rest pre acc : Bytes), pre.length + rest.length ≤ 100000000 → acc.length + 2 * rest.length ≤ 1000000000 → Evk fun k => ∀ (R : Type) (K0 : Bytes → Option R), G61.L3 k (pre ++ rest) acc (pre.length : Nat) K0 = K0 (acc ++ esc rest)
  | [], pre, acc, _, _ => Evk.one fun k R K0 => by
    have e : ¬ (((pre.length : Nat) : Int) < (((pre ++ ([] : Bytes)).length : Nat) : Int)) := by simp
    simp only [G61.L3, ltI_f e, cond_false, esc_nil]
    simp
  | b :: rest, pre, acc, hl, ha => by
    have e : ((pre.length : Nat) : Int) < (((pre ++ b :: rest).length : Nat) : Int) := by simp; omega
    have ei : inI ((pre.length : Nat) : Int) (((pre ++ b :: rest).length : Nat) : Int) = true := inI_true (by simp)
    simp only [List.length_cons] at hl ha
    have nx := next_nat (show pre.length ≤ BIG by simp only [BIG]; omega)
    have er : inR ((pre.length : Nat) : Int) ((pre.length + 1 : Nat) : Int) (((pre ++ b :: rest).length : Nat) : Int) = true := by rw [inR_nat]; simp
    have l0 : leN (acc.length + ([92] : Bytes).length) LIM = true := lim (by simp; omega)
    have l1 : leN (acc.length + ([b] : Bytes).length) LIM = true := lim (by simp; omega)
    have l2 : leN ((acc ++ ([92] : Bytes)).length + ([b] : Bytes).length) LIM = true := lim (by simp; omega)
    rw [esc_cons]
    by_cases h1 : b = 34
    · have e1 : (b == 34) = true := by simp [h1]
      have hb : escB b = [92, b] := by simp [escB, h1]
      have ih := quote61_loop rest (pre ++ [b]) (acc ++ [92] ++ [b]) (by simp; omega) (by simp; omega)
      rw [snoc, snoc_len] at ih
      refine Evk.step ih fun k hk R K0 => ?_
      simp only [G61.L3, G61.J7, ltI_t e, ei, getD_at, byte34, e1, cond_true, l0, nx, er, one_at, l2, hk, hb]
      simp
    · have e1 : (b == 34) = false := by simp [h1]
      by_cases h2 : b = 92
      · have e2 : (b == 92) = true := by simp [h2]
        have hb : escB b = [92, b] := by simp [escB, h2]
        have ih := quote61_loop rest (pre ++ [b]) (acc ++ [92] ++ [b]) (by simp; omega) (by simp; omega)
        rw [snoc, snoc_len] at ih
        refine Evk.step ih fun k hk R K0 => ?_
        simp only [G61.L3, G61.J7, ltI_t e, ei, getD_at, byte34, byte92, e1, e2, cond_true, cond_false, l0, nx, er, one_at, l2, hk, hb]
        simp
      · have e2 : (b == 92) = false := by simp [h2]
        have hb : escB b = [b] := by simp [escB, h1, h2]
        have ih := quote61_loop rest (pre ++ [b]) (acc ++ [b]) (by simp; omega) (by simp; omega)
        rw [snoc, snoc_len] at ih
        refine Evk.step ih fun k hk R K0 => ?_
        simp only [G61.L3, G61.J7, ltI_t e, ei, getD_at, byte34, byte92, e1, e2, cond_true, cond_false, nx, er, one_at, l1, hk, hb]
        simp
theorem quote61 {s : Bytes} (hs : s.length ≤ 100000000) : Evk fun k => ∀ (R : Type) (K : Bytes → Option R), G61.F k s K = K (quoteS s) := by
  have h := quote61_loop s [] [34] (by simpa using hs) (by simp; omega)
  simp only [List.nil_append, List.length_nil, Int.natCast_zero] at h
  have hl := esc_len s
  exact Evk.step h fun k hk R K => by
    simp only [G61.F, hk, lim (show (([34] : Bytes) ++ esc s).length + ([34] : Bytes).length ≤ 1099511627776 by simp; omega), cond_true]
    rfl
theorem join_cons (s : Bytes) (l : List Bytes) (c : UInt8) : Lib.join (s :: l) [c] = s ++ joinTail [c] l := Lib.join_cons s l [c]
theorem joinTail_cons (s : Bytes) (l : List Bytes) (c : UInt8) : joinTail [c] (s :: l) = c :: (s ++ joinTail [c] l) := by simp [joinTail]
section
variable {x3 x4 x5 x6 x7 : PV}
theorem head_marks : ∀ (rest pre : List Bytes) (acc : Bytes), pre ≠ [] → pre.length + rest.length ≤ 1000000000 → acc.length + markW rest ≤ 1000000000 → Evk fun k => ∀ (R : Type) (K0 : Bytes → PV → PV → PV → PV → PV → Option R),
    G122.L4 k acc (pre.length : Nat) x3 x4 (.sl 1 (strs (pre ++ rest))) x6 x7 K0 = K0 (acc ++ joinTail [44] rest) x3 x4 (.sl 1 (strs (pre ++ rest))) x6 x7
  | [], pre, acc, _, _, _ => Evk.one fun k R K0 => by
    have e : ¬ (((pre.length : Nat) : Int) < (((strs (pre ++ [])).length : Nat) : Int)) := by simp [strs]
    have j : joinTail [44] ([] : List Bytes) = [] := by simp [joinTail]
    simp only [G122.L4, isSl_self, slOf_sl, ltI_f e, cond_true, cond_false, j]
    simp
  | s :: rest, pre, acc, hp, hl, ha => by
    have e : ((pre.length : Nat) : Int) < (((strs (pre ++ s :: rest)).length : Nat) : Int) := by simp [strs]; omega
    have ei : inI ((pre.length : Nat) : Int) (((strs (pre ++ s :: rest)).length : Nat) : Int) = true := inI_true (by simp [strs])
    have g1 : gtI ((pre.length : Nat) : Int) 0 = true := gtI_t (by have := List.length_pos_iff.2 hp; omega)
    simp only [List.length_cons] at hl
    simp only [markW, List.map_cons, List.sum_cons] at ha
    have nx := next_nat (show pre.length ≤ BIG by simp only [BIG]; omega)
    have l0 : leN (acc.length + ([44] : Bytes).length) LIM = true := lim (by simp; omega)
    have l1 : leN ((acc ++ ([44] : Bytes)).length + s.length) LIM = true := lim (by simp; omega)
    have ih := head_marks rest (pre ++ [s]) (acc ++ [44] ++ s) (by simp) (by simp; omega) (by simp only [List.length_append, List.length_singleton, markW]; omega)
    rw [snoc pre s rest, snoc_len] at ih
    rw [joinTail_cons]
    refine Evk.step ih fun k hk R K0 => ?_
    simp only [G122.L4, G122.J8, isSl_self, slOf_sl, ltI_t e, ei, g1, l0, pat_strs, pcell_str, isStr_str, strOf_str, l1, Bool.and_self, cond_true, nx, hk]
    simp
theorem head_join {m : List Bytes} (hm : m.length ≤ 100000000) (hw : markW m ≤ 100000000) : Evk fun k => ∀ (R : Type) (K0 : Bytes → PV → PV → PV → PV → PV → Option R),
    G122.L4 k [] 0 x3 x4 (.sl 1 (strs m)) x6 x7 K0 = K0 (Lib.join m [44]) x3 x4 (.sl 1 (strs m)) x6 x7 := by
  cases m with
  | nil =>
    exact Evk.one fun k R K0 => by
      have e : ¬ ((0 : Int) < (((strs []).length : Nat) : Int)) := by simp [strs]
      have j : Lib.join [] [44] = [] := rfl
      simp only [G122.L4, isSl_self, slOf_sl, ltI_f e, cond_true, cond_false, j]
  | cons s rest =>
    simp only [List.length_cons] at hm
    simp only [markW, List.map_cons, List.sum_cons] at hw
    have ih := head_marks (x3 := x3) (x4 := x4) (x6 := x6) (x7 := x7) rest [s] s (by simp) (by rw [List.length_singleton]; omega) (by simp only [markW]; omega)
    have hc : [s] ++ rest = s :: rest := rfl
    rw [hc] at ih
    have e : ltI 0 (((strs (s :: rest)).length : Nat) : Int) = true := ltI_t (by rw [strs_length, List.length_cons]; omega)
    have ei : inI 0 (((strs (s :: rest)).length : Nat) : Int) = true := inI_true (i := 0) (by simp [strs])
    have g0 : gtI 0 0 = false := by decide
    have l1 : leN (([] : Bytes).length + s.length) LIM = true := lim (by simp; omega)
    have ep : pat (strs (s :: rest)) 0 = .str s := rfl
    have w : IntKind.i64.wrap (0 + 1) = (([s].length : Nat) : Int) := by
      rw [List.length_singleton]
      decide
    rw [join_cons]
    refine Evk.step ih fun k hk R K0 => ?_
    simp only [G122.L4, G122.J8, isSl_self, slOf_sl, e, ei, g0, ep, pcell_str, isStr_str, strOf_str, l1, Bool.and_self, cond_true, cond_false, w, List.nil_append, hk]
theorem head_attrs : ∀ (rest pre : List (Bytes × Bytes)) (acc : Bytes), pre ≠ [] → (∀ a, a ∈ rest → a.2.length ≤ 100000000) → pre.length + rest.length ≤ 1000000000 → acc.length + markW (rest.map attrS) ≤ 1000000000 → Evk fun k => ∀ (R : Type) (K0 : Bytes → PV → PV → PV → PV → PV → Option R),
    G122.L13 k acc (pre.length : Nat) x3 x4 x5 (.sl 2 ((pre ++ rest).map attrPV)) x7 K0 = K0 (acc ++ joinTail [32] (rest.map attrS)) x3 x4 x5 (.sl 2 ((pre ++ rest).map attrPV)) x7
  | [], pre, acc, _, _, _, _ => Evk.one fun k R K0 => by
    have e : ¬ (((pre.length : Nat) : Int) < ((((pre ++ []).map attrPV).length : Nat) : Int)) := by simp
    have j : joinTail [32] (([] : List (Bytes × Bytes)).map attrS) = [] := by simp [joinTail]
    simp only [G122.L13, isSl_self, slOf_sl, ltI_f e, cond_true, cond_false, j]
    simp
  | s :: rest, pre, acc, hp, hv, hl, ha => by
    have e : ((pre.length : Nat) : Int) < ((((pre ++ s :: rest).map attrPV).length : Nat) : Int) := by simp; omega
    have ei : inI ((pre.length : Nat) : Int) ((((pre ++ s :: rest).map attrPV).length : Nat) : Int) = true := inI_true (by simp)
    have g1 : gtI ((pre.length : Nat) : Int) 0 = true := gtI_t (by have := List.length_pos_iff.2 hp; omega)
    simp only [List.length_cons] at hl
    simp only [markW, List.map_cons, List.sum_cons] at ha
    have hal : (attrS s).length = s.1.length + 1 + (quoteS s.2).length := by simp [attrS]; omega
    have nx := next_nat (show pre.length ≤ BIG by simp only [BIG]; omega)
    have l0 : leN (acc.length + ([32] : Bytes).length) LIM = true := lim (by simp; omega)
    have l1 : leN ((acc ++ ([32] : Bytes)).length + s.1.length) LIM = true := lim (by simp; omega)
    have l2 : leN (((acc ++ ([32] : Bytes)) ++ s.1).length + ([61] : Bytes).length) LIM = true := lim (by simp; omega)
    have l3 : leN ((((acc ++ ([32] : Bytes)) ++ s.1) ++ ([61] : Bytes)).length + (quoteS s.2).length) LIM = true := lim (by simp; omega)
    have ih := head_attrs rest (pre ++ [s]) (acc ++ [32] ++ s.1 ++ [61] ++ quoteS s.2) (by simp) (fun x hx => hv x (by simp [hx])) (by simp; omega) (by simp only [List.length_append, List.length_singleton, markW]; omega)
    rw [snoc pre s rest, snoc_len] at ih
    rw [List.map_cons, joinTail_cons]
    refine Evk.step (ih.and (quote61 (hv s (by simp)))) fun k hk R K0 => ?_
    simp only [G122.L13, G122.J17, isSl_self, slOf_sl, ltI_t e, ei, g1, l0, pat_attrs, attr0, attr1, isStr_str, strOf_str, l1, l2, Bool.and_self, cond_true, hk.2, l3, nx, hk.1]
    simp [attrS]
theorem head_ajoin {a : List (Bytes × Bytes)} (hv : ∀ x, x ∈ a → x.2.length ≤ 100000000) (hm : a.length ≤ 100000000) (hw : markW (a.map attrS) ≤ 100000000) : Evk fun k => ∀ (R : Type) (K0 : Bytes → PV → PV → PV → PV → PV → Option R),
    G122.L13 k [] 0 x3 x4 x5 (.sl 2 (a.map attrPV)) x7 K0 = K0 (Lib.join (a.map attrS) [32]) x3 x4 x5 (.sl 2 (a.map attrPV)) x7 := by
  cases a with
  | nil =>
    exact Evk.one fun k R K0 => by
      have e : ¬ ((0 : Int) < (((([] : List (Bytes × Bytes)).map attrPV).length : Nat) : Int)) := by simp
      have j : Lib.join (([] : List (Bytes × Bytes)).map attrS) [32] = [] := rfl
      simp only [G122.L13, isSl_self, slOf_sl, ltI_f e, cond_true, cond_false, j]
  | cons s rest =>
    simp only [List.length_cons] at hm
    simp only [markW, List.map_cons, List.sum_cons] at hw
    have hal : (attrS s).length = s.1.length + 1 + (quoteS s.2).length := by simp [attrS]; omega
    have ih := head_attrs (x3 := x3) (x4 := x4) (x5 := x5) (x7 := x7) rest [s] (attrS s) (by simp) (fun x hx => hv x (by simp [hx])) (by rw [List.length_singleton]; omega) (by simp only [markW]; omega)
    have hc : [s] ++ rest = s :: rest := rfl
    rw [hc] at ih
    have e : ltI 0 ((((s :: rest).map attrPV).length : Nat) : Int) = true := ltI_t (by rw [List.length_map, List.length_cons]; omega)
    have ei : inI 0 ((((s :: rest).map attrPV).length : Nat) : Int) = true := inI_true (i := 0) (by simp)
    have g0 : gtI 0 0 = false := by decide
    have l1 : leN (([] : Bytes).length + s.1.length) LIM = true := lim (by simp; omega)
    have l2 : leN ((([] : Bytes) ++ s.1).length + ([61] : Bytes).length) LIM = true := lim (by simp; omega)
    have l3 : leN (((([] : Bytes) ++ s.1) ++ ([61] : Bytes)).length + (quoteS s.2).length) LIM = true := lim (by simp; omega)
    have ep : pat ((s :: rest).map attrPV) 0 = attrPV s := rfl
    have w : IntKind.i64.wrap (0 + 1) = (([s].length : Nat) : Int) := by
      rw [List.length_singleton]
      decide
    have ha : (([] : Bytes) ++ s.1 ++ [61]) ++ quoteS s.2 = attrS s := by simp [attrS]
    have hjc : Lib.join ((s :: rest).map attrS) [32] = attrS s ++ joinTail [32] (rest.map attrS) := by rw [List.map_cons, join_cons]
    rw [hjc]
    refine Evk.step (ih.and (quote61 (hv s (by simp)))) fun k hk R K0 => ?_
    simp only [G122.L13, G122.J17, isSl_self, slOf_sl, e, ei, g0, ep, attr0, attr1, isStr_str, strOf_str, l1, l2, Bool.and_self, cond_true, cond_false, hk.2, l3, w, ha, hk.1]
end
theorem head122 (n : Nd) (h : n.wt ≤ SM) : Evk fun k => ∀ (R : Type) (K : Bytes → Option R), G122.F k n.pv K = K n.headS := by
  obtain ⟨kd, t, m, a, ks⟩ := n
  simp only [Nd.wt, SM] at h
  have hm := markW_len m
  have ha := attrW_len a
  have hjm := join_len 44 m
  have hja := join_len 32 (a.map attrS)
  have haw := attrS_w a
  have hisa : PV.isAgg 5 (Nd.mk kd t m a ks).pv = true := isAgg5 _
  have hS : (Nd.mk kd t m a ks).headS = if kd = TEXT then (if m = [] then [] else ([60] ++ Lib.join m [44]) ++ [62]) else if a = [] then kd else ((kd ++ [40]) ++ Lib.join (a.map attrS) [32]) ++ [41] := rfl
  rw [hS]
  by_cases hk : kd = TEXT
  · rw [if_pos hk]
    have hJ := head_join (x3 := .str kd) (x4 := .str t) (x6 := .sl 2 (a.map attrPV)) (x7 := .sl 5 (Nd.pvs ks)) (m := m) (by omega) (by omega)
    refine Evk.step hJ fun k hk' R K => ?_
    have l1 : leN (([60] : Bytes).length + (Lib.join m [44]).length) LIM = true := lim (by simp; omega)
    have l2 : leN ((([60] : Bytes) ++ Lib.join m [44]).length + ([62] : Bytes).length) LIM = true := lim (by simp; omega)
    by_cases hme : m = []
    · have g : gtI (((strs m).length : Nat) : Int) 0 = false := gtI_f (by rw [hme]; simp [strs])
      rw [if_pos hme]
      simp only [G122.F, hisa, nd0, nd1, nd2, nd3, nd4, Nd.kind, Nd.text, Nd.marks, Nd.attrs, Nd.kids, isStr_str, strOf_str, eqS_t hk, isSl_self, slOf_sl, cond_true, cond_false, hk', g]
      rw [hme]
      rfl
    · have g : gtI (((strs m).length : Nat) : Int) 0 = true := gtI_t (by rw [strs_length]; have := List.length_pos_iff.2 hme; omega)
      rw [if_neg hme]
      simp only [G122.F, hisa, nd0, nd1, nd2, nd3, nd4, Nd.kind, Nd.text, Nd.marks, Nd.attrs, Nd.kids, isStr_str, strOf_str, eqS_t hk, isSl_self, slOf_sl, cond_true, hk', g, l1, l2]
  · rw [if_neg hk]
    have hJ := head_ajoin (x3 := .str kd) (x4 := .str t) (x5 := .sl 1 (strs m)) (x7 := .sl 5 (Nd.pvs ks)) (a := a) (fun x hx => by have := attr_len hx; omega) (by omega) (by omega)
    refine Evk.step hJ fun k hk' R K => ?_
    have l1 : leN (([40] : Bytes).length + (Lib.join (a.map attrS) [32]).length) LIM = true := lim (by simp; omega)
    have l2 : leN ((([40] : Bytes) ++ Lib.join (a.map attrS) [32]).length + ([41] : Bytes).length) LIM = true := lim (by simp; omega)
    have l3 : leN (kd.length + ((([40] : Bytes) ++ Lib.join (a.map attrS) [32]) ++ ([41] : Bytes)).length) LIM = true := lim (by simp; omega)
    have l4 : leN (kd.length + (Lib.join (a.map attrS) [32]).length) LIM = true := lim (by omega)
    by_cases hae : a = []
    · have g : gtI (((a.map attrPV).length : Nat) : Int) 0 = false := gtI_f (by rw [hae]; simp)
      rw [if_pos hae]
      simp only [G122.F, hisa, nd0, nd1, nd2, nd3, nd4, Nd.kind, Nd.text, Nd.marks, Nd.attrs, Nd.kids, isStr_str, strOf_str, eqS_f hk, isSl_self, slOf_sl, cond_true, cond_false, hk', g, l4]
      have j : Lib.join (a.map attrS) [32] = [] := by rw [hae]; rfl
      rw [j, List.append_nil]
    · have g : gtI (((a.map attrPV).length : Nat) : Int) 0 = true := gtI_t (by rw [List.length_map]; have := List.length_pos_iff.2 hae; omega)
      rw [if_neg hae]
      simp only [G122.F, hisa, nd0, nd1, nd2, nd3, nd4, Nd.kind, Nd.text, Nd.marks, Nd.attrs, Nd.kids, isStr_str, strOf_str, eqS_f hk, isSl_self, slOf_sl, cond_true, cond_false, hk', g, l1, l2, l3]
      simp
def WriE (n : Nd) : Prop := Evk fun k => ∀ (R : Type) (K : Bytes → Option R), G82.F k n.pv K = K n.wr
theorem all60_loop : ∀ (rest pre : List Nd) (acc : Bytes), (∀ n, n ∈ rest → WriE n) → pre.length + rest.length ≤ 1000000000 → acc.length + (Nd.wrs rest).length ≤ 1000000000 → Evk fun k => ∀ (R : Type) (K0 : Bytes → Option R),
    G60.L3 k (Nd.pvs (pre ++ rest)) acc (pre.length : Nat) K0 = K0 (acc ++ Nd.wrs rest)
  | [], pre, acc, _, _, _ => Evk.one fun k R K0 => by
    have e : ¬ (((pre.length : Nat) : Int) < (((Nd.pvs (pre ++ [])).length : Nat) : Int)) := by simp [pvs_length]
    simp only [G60.L3, ltI_f e, cond_false, Nd.wrs]
    simp
  | s :: rest, pre, acc, hs, hl, ha => by
    have e : ((pre.length : Nat) : Int) < (((Nd.pvs (pre ++ s :: rest)).length : Nat) : Int) := by simp [pvs_length]; omega
    have ei : inI ((pre.length : Nat) : Int) (((Nd.pvs (pre ++ s :: rest)).length : Nat) : Int) = true := inI_true (by simp [pvs_length])
    simp only [List.length_cons] at hl
    simp only [Nd.wrs, List.length_append] at ha
    have nx := next_nat (show pre.length ≤ BIG by simp only [BIG]; omega)
    have l1 : leN (acc.length + s.wr.length) LIM = true := lim (by omega)
    have ih := all60_loop rest (pre ++ [s]) (acc ++ s.wr) (fun n hn => hs n (by simp [hn])) (by simp; omega) (by rw [List.length_append]; omega)
    rw [snoc, snoc_len] at ih
    refine Evk.step (ih.and (hs s (by simp))) fun k hk R K0 => ?_
    simp only [G60.L3, ltI_t e, ei, pat_nodes, agg5, cond_true, hk.2, l1, nx, hk.1, Nd.wrs, List.append_assoc]
theorem all60_of {l : List Nd} (hs : ∀ n, n ∈ l → WriE n) (hl : l.length ≤ 1000000000) (ha : (Nd.wrs l).length ≤ 1000000000) : Evk fun k => ∀ (R : Type) (K : Bytes → Option R), G60.F k (Nd.pvs l) K = K (Nd.wrs l) := by
  have h := all60_loop l [] [] hs (by simpa using hl) (by simpa using ha)
  simp only [List.nil_append, List.length_nil, Int.natCast_zero] at h
  exact Evk.step h fun k hk R K => by simp only [G60.F, hk]
theorem wriE_mk {kd t : Bytes} {m : List Bytes} {a : List (Bytes × Bytes)} {ks : List Nd} (h : (Nd.mk kd t m a ks).wt ≤ SM) (hk : ∀ s, s ∈ ks → WriE s) : WriE (.mk kd t m a ks) := by
  have hh := head122 _ h
  have hl := headS_len (.mk kd t m a ks)
  have hkl := wrs_len ks
  have hn := Nd.len_wts ks
  have hq := quoteS_len t
  simp only [Nd.wt, SM] at h
  simp only [Nd.kind, Nd.marks, Nd.attrs] at hl
  have hisa : PV.isAgg 5 (Nd.mk kd t m a ks).pv = true := isAgg5 _
  unfold WriE
  simp only [Nd.wr]
  by_cases hc : kd = TEXT
  · rw [if_pos hc]
    refine Evk.step (hh.and (quote61 (s := t) (by omega))) fun k hk' R K => ?_
    have l1 : leN ((quoteS t).length + (Nd.mk kd t m a ks).headS.length) LIM = true := lim (by omega)
    simp only [G82.F, hisa, agg5, hk'.1, cond_true]
    simp only [nd0, nd1, Nd.kind, Nd.text, isStr_str, strOf_str, eqS_t hc, Bool.and_self, cond_true, hk'.2, l1]
  · rw [if_neg hc]
    refine Evk.step (hh.and (all60_of hk (by omega) (by omega))) fun k hk' R K => ?_
    have l1 : leN ((Nd.mk kd t m a ks).headS.length + ([91] : Bytes).length) LIM = true := lim (by simp; omega)
    have l2 : leN (((Nd.mk kd t m a ks).headS ++ ([91] : Bytes)).length + (Nd.wrs ks).length) LIM = true := lim (by simp; omega)
    have l3 : leN ((((Nd.mk kd t m a ks).headS ++ ([91] : Bytes)) ++ Nd.wrs ks).length + ([93] : Bytes).length) LIM = true := lim (by simp; omega)
    simp only [G82.F, hisa, agg5, hk'.1, cond_true]
    simp only [nd0, nd4, Nd.kind, Nd.kids, isStr_str, strOf_str, eqS_f hc, isSl_self, slOf_sl, Bool.and_self, cond_true, cond_false, hk'.2, l1, l2, l3]
    simp
mutual
theorem wriE : ∀ n : Nd, n.wt ≤ SM → WriE n
  | .mk k t m a ks, h => wriE_mk h (wriEs ks (by simp only [Nd.wt] at h; omega))
theorem wriEs : ∀ l : List Nd, Nd.wts l ≤ SM → ∀ s, s ∈ l → WriE s
  | n :: l, h, s, hs => by
    simp only [Nd.wts] at h
    rcases List.mem_cons.1 hs with e | hs
    · rw [e]; exact wriE n (by omega)
    · exact wriEs l (by omega) s hs
end
theorem all60 {l : List Nd} (h : Nd.wts l ≤ SM) : Evk fun k => ∀ (R : Type) (K : Bytes → Option R), G60.F k (Nd.pvs l) K = K (Nd.wrs l) := by
  have h1 := Nd.len_wts l
  have h2 := wrs_len l
  have h3 := wriEs l h
  simp only [SM] at h
  exact all60_of h3 (by omega) (by omega)
theorem print34 {l : List Nd} (h : 2 + Nd.wts l ≤ SM) : Evk fun k => ∀ (R : Type) (K : Bytes → Int → Option R), G34.F k (Nd.pvs l) K = if (Nd.x l).check = 0 then K (Nd.wrs l) 0 else K [] (Nd.x l).check := by
  have hx : (Nd.x l).pv = PV.agg [PV.str ([120] : Bytes), PV.str [], PV.sl 1 [], PV.sl 2 [], PV.sl 5 (Nd.pvs l)] := by simp [Nd.x, Nd.pv, strs]
  have hc := check62 (n := Nd.x l) (by rw [x_wt]; exact h)
  rw [hx] at hc
  refine Evk.step (hc.and (all60 (l := l) (by omega))) fun k hk R K => ?_
  simp only [G34.F, hk.1]
  by_cases c : (Nd.x l).check = 0
  · simp only [eqI_t c, Bool.not_true, cond_false, hk.2, if_pos c]
  · simp only [eqI_f c, Bool.not_false, cond_true, if_neg c]
end Go.Dip
end
/- Plain facts of the wire laws: the small readers of the document's answer. -/
section
set_option linter.unusedVariables false
set_option linter.unusedSimpArgs false
namespace Go.Dip
open Go.Lib
/-! A text, and what is left of it. -/
def Suf (S r : Bytes) : Prop := ∃ p, S = p ++ r
def psn (S r : Bytes) : Int := ((S.length - r.length : Nat) : Int)
theorem Suf.refl (S : Bytes) : Suf S S := ⟨[], rfl⟩
theorem Suf.len {S r : Bytes} (h : Suf S r) : r.length ≤ S.length := by obtain ⟨p, rfl⟩ := h; simp
theorem Suf.tail {S r : Bytes} {b : UInt8} (h : Suf S (b :: r)) : Suf S r := by obtain ⟨p, rfl⟩ := h; exact ⟨p ++ [b], by simp⟩
theorem Suf.app {S p r : Bytes} (h : Suf S (p ++ r)) : Suf S r := by obtain ⟨q, rfl⟩ := h; exact ⟨q ++ p, by simp⟩
theorem Suf.dr {S r : Bytes} (c : UInt8) (h : Suf S r) : Suf S (dr c r) := by
  unfold Dip.dr
  split
  · cases r with
    | nil => exact h
    | cons b r => exact h.tail
  · exact h
theorem Suf.rs {S r : Bytes} (h : Suf S r) : Suf S (rs r) := by
  rw [nm_rs r] at h
  exact h.app
theorem Suf.nil {S : Bytes} : Suf S [] := ⟨S, by simp⟩
theorem qs_suf : ∀ (n : Nat) (s v r : Bytes), s.length ≤ n → qs s = some (v, r) → ∃ p, s = p ++ 34 :: r
  | _, [], v, r, _, h => by simp [qs] at h
  | _, [b], v, r, _, h => by
    simp only [qs] at h
    split at h
    · rename_i hb
      injection h with h; injection h with h1 h2; subst h1 h2 hb; exact ⟨[], rfl⟩
    · cases h
  | 0, b :: c :: t, v, r, hl, h => by simp at hl
  | n + 1, b :: c :: t, v, r, hl, h => by
    simp only [List.length_cons] at hl
    simp only [qs] at h
    split at h
    · rename_i hb
      injection h with h; injection h with h1 h2; subst h1 h2 hb; exact ⟨[], rfl⟩
    · split at h
      · cases hq : qs t with
        | none => rw [hq] at h; cases h
        | some q =>
          rw [hq] at h
          simp only [Option.map_some, Option.some.injEq, Prod.mk.injEq] at h
          obtain ⟨p, hp⟩ := qs_suf n t q.1 q.2 (by omega) hq
          exact ⟨b :: c :: p, by rw [hp, ← h.2]; rfl⟩
      · cases hq : qs (c :: t) with
        | none => rw [hq] at h; cases h
        | some q =>
          rw [hq] at h
          simp only [Option.map_some, Option.some.injEq, Prod.mk.injEq] at h
          obtain ⟨p, hp⟩ := qs_suf n (c :: t) q.1 q.2 (by simp; omega) hq
          exact ⟨b :: p, by rw [hp, ← h.2]; rfl⟩
/-! is, eat. -/
def BL : Nat := 1000000000
theorem psn_app (p r : Bytes) : psn (p ++ r) r = ((p.length : Nat) : Int) := by
  unfold psn
  have : (p ++ r).length - r.length = p.length := by simp
  rw [this]
theorem is_at {S r : Bytes} (h : Suf S r) (c : UInt8) (a : Int) (ha : a = ((c.toNat : Nat) : Int)) (bad : Bool) : Evk fun k => ∀ (R : Type) (K : Bool → Bytes → Int → Bool → Option R), G145.F k a S (psn S r) bad K = K (hd c r) S (psn S r) bad := by
  obtain ⟨p, rfl⟩ := h
  rw [psn_app, ha]
  cases r with
  | nil =>
    refine Evk.one fun k R K => ?_
    have e : ¬ (((p.length : Nat) : Int) < (((p ++ ([] : Bytes)).length : Nat) : Int)) := by simp
    simp only [G145.F, ltI_f e, cond_false, hd]
  | cons b t =>
    refine Evk.one fun k R K => ?_
    have e : ((p.length : Nat) : Int) < (((p ++ b :: t).length : Nat) : Int) := by simp; omega
    have ei : inI ((p.length : Nat) : Int) (((p ++ b :: t).length : Nat) : Int) = true := inI_true (by simp)
    have hb : (b == c) = (c == b) := Bool.beq_comm
    simp only [G145.F, ltI_t e, ei, cond_true, getD_at, byte_eq, hd, hb]
theorem psn_step {S r : Bytes} {b : UInt8} (h : Suf S (b :: r)) (hl : S.length ≤ BL) : IntKind.i64.wrap (psn S (b :: r) + 1) = psn S r := by
  have := h.len
  simp only [List.length_cons] at this
  simp only [BL] at hl
  unfold psn
  rw [wrap64 (by omega) (by omega)]
  simp only [List.length_cons]
  omega
theorem eat_at {S r : Bytes} (h : Suf S r) (hl : S.length ≤ BL) (c : UInt8) (a : Int) (ha : a = ((c.toNat : Nat) : Int)) (bad : Bool) : Evk fun k => ∀ (R : Type) (K : Bytes → Int → Bool → Option R), G147.F k a S (psn S r) bad K = K S (psn S (dr c r)) (bad || !hd c r) := by
  refine Evk.step (is_at h c a ha bad) fun k hk R K => ?_
  simp only [G147.F, hk]
  cases hc : hd c r with
  | false => simp only [cond_false, dr_f hc, Bool.not_false, Bool.or_true]
  | true =>
    cases r with
    | nil => simp [hd] at hc
    | cons b t =>
      have e : dr c (b :: t) = t := by simp [dr, hc]
      rw [e]
      simp only [cond_true, psn_step h hl, Bool.not_true, Bool.or_false]
/-! letters. -/
theorem rs_nil : rs [] = [] := rfl
theorem rs_letter {b : UInt8} {t : Bytes} (h : b ∈ L26) : rs (b :: t) = rs t := by
  unfold rs trimLeftS
  rw [List.dropWhile_cons, if_pos (by simpa using h)]
theorem rs_other {b : UInt8} {t : Bytes} (h : b ∉ L26) : rs (b :: t) = b :: t := by
  unfold rs trimLeftS
  rw [List.dropWhile_cons, if_neg (by simpa using h)]
theorem letters_loop (S : Bytes) (hl : S.length ≤ BL) (from_ : Int) (bad : Bool) : ∀ (t : Bytes), Suf S t → Evk fun k => ∀ (R : Type) (K0 : Int → Bytes → Int → Bool → Option R), G148.L2 k from_ S (psn S t) bad K0 = K0 from_ S (psn S (rs t)) bad
  | [], h => by
    obtain ⟨p, rfl⟩ := h
    rw [rs_nil, psn_app]
    refine Evk.one fun k R K0 => ?_
    have e : ¬ (((p.length : Nat) : Int) < (((p ++ ([] : Bytes)).length : Nat) : Int)) := by simp
    simp only [G148.L2, ltI_f e, cond_false]
  | b :: t, h => by
    have hst := psn_step h hl
    have ih := letters_loop S hl from_ bad t h.tail
    have hp : ∃ p, S = p ++ b :: t := h
    obtain ⟨p, hp⟩ := hp
    have ep : psn S (b :: t) = ((p.length : Nat) : Int) := by rw [hp, psn_app]
    have e : psn S (b :: t) < ((S.length : Nat) : Int) := by rw [ep, hp]; simp; omega
    have ei : inI (psn S (b :: t)) ((S.length : Nat) : Int) = true := by rw [ep, hp]; exact inI_true (by simp)
    have eg : S.getD (Int.toNat (psn S (b :: t))) 0 = b := by rw [ep, hp]; exact getD_at p b t
    by_cases h1 : (97 : Int) ≤ ((b.toNat : Nat) : Int)
    · by_cases h2 : ((b.toNat : Nat) : Int) ≤ 122
      · rw [rs_letter ((letter_iff b).2 (by omega))]
        refine Evk.step ih fun k hk R K0 => ?_
        simp only [G148.L2, G148.J3, ltI_t e, ei, eg, geI_t h1, leI_t h2, cond_true, hst, hk]
      · rw [rs_other fun hb => by have := (letter_iff b).1 hb; omega]
        refine Evk.one fun k R K0 => ?_
        simp only [G148.L2, ltI_t e, ei, eg, geI_t h1, leI_f h2, cond_true, cond_false]
    · rw [rs_other fun hb => by have := (letter_iff b).1 hb; omega]
      refine Evk.one fun k R K0 => ?_
      simp only [G148.L2, ltI_t e, ei, eg, geI_f h1, cond_true, cond_false]
theorem letters_at {S r : Bytes} (h : Suf S r) (hl : S.length ≤ BL) (bad : Bool) : Evk fun k => ∀ (R : Type) (K : Bytes → Bytes → Int → Bool → Option R), G148.F k S (psn S r) bad K = K (nm r) S (psn S (rs r)) bad := by
  have h1 := h.len
  have h2 := nm_len r
  refine Evk.step (letters_loop S hl (psn S r) bad r h) fun k hk R K => ?_
  have e : inR (psn S r) (psn S (rs r)) ((S.length : Nat) : Int) = true := by
    unfold psn
    rw [inR_nat]
    simp
    omega
  have es : sub S (psn S r) (psn S (rs r)) = nm r := by
    unfold psn
    rw [sub_nat]
    obtain ⟨p, rfl⟩ := h
    have : (p ++ r).drop ((p ++ r).length - r.length) = r := by simp
    rw [this]
    unfold nm
    congr 1
    simp
    omega
  simp only [G148.F, hk, e, cond_true, es]
/-! quoted. -/
theorem quoted2_loop (S : Bytes) (hl : S.length ≤ BL) : ∀ (n : Nat) (r acc : Bytes), r.length ≤ n → Suf S r → acc.length + r.length ≤ BL → Evk fun k => ∀ (R : Type) (K0 Kr : Bytes → Bytes → Int → Bool → Option R),
    G146.L3 k acc S (psn S r) false K0 Kr = lineK (qs r) (Kr [] S (psn S []) true) fun v t => K0 (acc ++ v) S (psn S (34 :: t)) false
  | _, [], acc, _, h, _ => by
    have i1 := is_at h 34 34 rfl false
    have i2 := is_at h 92 92 rfl false
    refine Evk.step (i1.and i2) fun k hk R K0 Kr => ?_
    have h34 : hd 34 [] = false := rfl
    have h92 : hd 92 [] = false := rfl
    have g : geI (psn S []) ((S.length : Nat) : Int) = true := geI_t (by unfold psn; simp)
    simp only [G146.L3, G146.J4, G146.J6, Bool.not_false, cond_true, hk.1, hk.2, h34, h92, cond_false, g, qs, lineK]
  | 0, b :: t, acc, hn, _, _ => by simp at hn
  | n + 1, b :: t, acc, hn, h, ha => by
    simp only [List.length_cons] at hn ha
    have i1 := is_at h 34 34 rfl false
    have i2 := is_at h 92 92 rfl false
    have hst := psn_step h hl
    obtain ⟨p, hp⟩ : ∃ p, S = p ++ b :: t := h
    simp only [BL] at hl ha
    by_cases h1 : b = 34
    · subst h1
      have h34 : hd 34 (34 :: t) = true := hd_self 34 t
      have hq : qs (34 :: t) = some ([], t) := by cases t <;> simp [qs]
      refine Evk.step i1 fun k hk R K0 Kr => ?_
      simp only [G146.L3, Bool.not_false, cond_true, hk, h34, Bool.not_true, cond_false, hq, lineK, List.append_nil]
    · have h34 : hd 34 (b :: t) = false := by simp only [hd]; simp; exact fun e => h1 e.symm
      by_cases h2 : b = 92
      · subst h2
        have h92 : hd 92 (92 :: t) = true := hd_self 92 t
        cases t with
        | nil =>
          have hq : qs [92] = none := by simp [qs]
          have g : geI (psn S []) ((S.length : Nat) : Int) = true := geI_t (by unfold psn; simp)
          refine Evk.step (i1.and i2) fun k hk R K0 Kr => ?_
          simp only [G146.L3, G146.J4, G146.J6, Bool.not_false, cond_true, hk.1, hk.2, h34, h92, cond_false, hst, g, hq, lineK]
        | cons c t =>
          simp only [List.length_cons] at hn ha
          have hs2 : Suf S (c :: t) := ⟨p ++ [92], by rw [hp]; simp⟩
          have hst2 := psn_step hs2 (by simp only [BL]; exact hl)
          have ih := quoted2_loop S (by simp only [BL]; exact hl) n t (acc ++ [c]) (by omega) hs2.tail (by simp only [BL]; simp; omega)
          have ep : psn S (c :: t) = (((p ++ [92]).length : Nat) : Int) := by
            have e : S = (p ++ [92]) ++ c :: t := by rw [hp]; simp
            rw [e, psn_app]
          have g : geI (psn S (c :: t)) ((S.length : Nat) : Int) = false := geI_f (by rw [ep, hp]; simp; omega)
          have er : inR (psn S (c :: t)) (IntKind.i64.wrap (psn S (c :: t) + 1)) ((S.length : Nat) : Int) = true := by
            rw [hst2]
            unfold psn
            rw [inR_nat]
            have := hs2.len
            simp at this ⊢
            omega
          have es : sub S (psn S (c :: t)) (IntKind.i64.wrap (psn S (c :: t) + 1)) = [c] := by
            rw [ep]
            have e : S = (p ++ [92]) ++ c :: t := by rw [hp]; simp
            have w : IntKind.i64.wrap ((((p ++ [92]).length : Nat) : Int) + 1) = (((p ++ [92]).length + 1 : Nat) : Int) := next_nat (by rw [hp] at hl; simp at hl; simp [BIG]; omega)
            rw [w]
            conv => lhs; rw [e]
            exact one_at _ _ _
          have hq : qs (92 :: c :: t) = (qs t).map fun q => (c :: q.1, q.2) := by simp [qs]
          have l1 : leN (acc.length + ([c] : Bytes).length) LIM = true := lim (by simp; omega)
          rw [hst2] at er es
          refine Evk.step ((i1.and i2).and ih) fun k hk R K0 Kr => ?_
          simp only [G146.L3, G146.J4, G146.J6, Bool.not_false, cond_true, hk.1.1, hk.1.2, h34, h92, cond_false, hst, g, er, es, l1, hst2, hk.2, hq]
          cases qs t with
          | none => rfl
          | some q => simp [lineK]
      · have h92 : hd 92 (b :: t) = false := by simp only [hd]; simp; exact fun e => h2 e.symm
        have hs0 : Suf S (b :: t) := ⟨p, hp⟩
        have ih := quoted2_loop S (by simp only [BL]; exact hl) n t (acc ++ [b]) (by omega) hs0.tail (by simp only [BL]; simp; omega)
        have ep : psn S (b :: t) = ((p.length : Nat) : Int) := by rw [hp, psn_app]
        have g : geI (psn S (b :: t)) ((S.length : Nat) : Int) = false := geI_f (by rw [ep, hp]; simp; omega)
        have er : inR (psn S (b :: t)) (IntKind.i64.wrap (psn S (b :: t) + 1)) ((S.length : Nat) : Int) = true := by
          rw [hst]
          unfold psn
          rw [inR_nat]
          have := hs0.len
          simp at this ⊢
          omega
        have es : sub S (psn S (b :: t)) (IntKind.i64.wrap (psn S (b :: t) + 1)) = [b] := by
          rw [ep]
          have w : IntKind.i64.wrap (((p.length : Nat) : Int) + 1) = ((p.length + 1 : Nat) : Int) := next_nat (by rw [hp] at hl; simp at hl; simp [BIG]; omega)
          rw [w]
          conv => lhs; rw [hp]
          exact one_at _ _ _
        have hq : qs (b :: t) = (qs t).map fun q => (b :: q.1, q.2) := by
          cases t with
          | nil => simp [qs, h1]
          | cons c t => simp [qs, h1, h2]
        have l1 : leN (acc.length + ([b] : Bytes).length) LIM = true := lim (by simp; omega)
        rw [hst] at er es
        refine Evk.step ((i1.and i2).and ih) fun k hk R K0 Kr => ?_
        simp only [G146.L3, G146.J4, G146.J6, Bool.not_false, cond_true, hk.1.1, hk.1.2, h34, h92, cond_false, g, er, es, l1, hst, hk.2, hq]
        cases qs t with
        | none => rfl
        | some q => simp [lineK]
def rq2 (r : Bytes) (b : Bool) : Bytes × Bytes × Bool :=
  if b || !hd 34 r then ([], dr 34 (dr 34 r), true) else match qs (dr 34 r) with
    | none => ([], [], true)
    | some (v, t) => (v, t, false)
theorem rq2_suf {S r : Bytes} (h : Suf S r) (b : Bool) : Suf S (rq2 r b).2.1 := by
  unfold rq2
  split
  · exact (h.dr 34).dr 34
  · cases hq : qs (dr 34 r) with
    | none => exact Suf.nil
    | some q =>
      obtain ⟨p, hp⟩ := qs_suf _ _ q.1 q.2 (Nat.le_refl _) hq
      have := h.dr 34
      rw [hp] at this
      exact this.app.tail
theorem quoted2_at {S r : Bytes} (h : Suf S r) (hl : S.length ≤ 500000000) (b : Bool) : Evk fun k => ∀ (R : Type) (K : Bytes → Bytes → Int → Bool → Option R), G146.F k S (psn S r) b K = K (rq2 r b).1 S (psn S (rq2 r b).2.1) (rq2 r b).2.2 := by
  have hB : S.length ≤ BL := by simp only [BL]; omega
  have he := eat_at h hB 34 34 rfl b
  by_cases c : (b || !hd 34 r) = true
  · have e : rq2 r b = ([], dr 34 (dr 34 r), true) := by simp only [rq2, c, if_true]
    rw [c] at he
    rw [e]
    have he2 := eat_at (h.dr 34) hB 34 34 rfl true
    have hL : Evk fun k => ∀ (R : Type) (K0 Kr : Bytes → Bytes → Int → Bool → Option R), G146.L3 k [] S (psn S (dr 34 r)) true K0 Kr = K0 [] S (psn S (dr 34 r)) true :=
      Evk.one fun k R K0 Kr => by simp only [G146.L3, Bool.not_true, cond_false]
    exact Evk.step ((he.and he2).and hL) fun k hk R K => by simp only [G146.F, hk.1.1, hk.1.2, hk.2, Bool.true_or]
  · have c' : (b || !hd 34 r) = false := by simpa using c
    have e : rq2 r b = match qs (dr 34 r) with | none => ([], [], true) | some (v, t) => (v, t, false) := by simp only [rq2, c', Bool.false_eq_true, if_false]
    rw [c'] at he
    rw [e]
    have h1 := (h.dr 34).len
    have hL := quoted2_loop S hB (dr 34 r).length (dr 34 r) [] (Nat.le_refl _) (h.dr 34) (by simp only [BL]; simp; omega)
    cases hq : qs (dr 34 r) with
    | none =>
      rw [hq] at hL
      exact Evk.step (he.and hL) fun k hk R K => by simp only [G146.F, hk.1, hk.2, lineK]
    | some q =>
      rw [hq] at hL
      obtain ⟨p, hp⟩ := qs_suf _ _ q.1 q.2 (Nat.le_refl _) hq
      have hs := h.dr 34
      rw [hp] at hs
      have he2 := eat_at hs.app hB 34 34 rfl false
      rw [dr_self, hd_self] at he2
      exact Evk.step ((he.and hL).and he2) fun k hk R K => by simp only [G146.F, hk.1.1, hk.1.2, lineK, List.nil_append, hk.2, Bool.not_true, Bool.or_self]
theorem rq2_len (s : Bytes) (b : Bool) : (rq2 s b).1.length + (rq2 s b).2.1.length + (if (rq2 s b).2.2 then 0 else 2) ≤ s.length := by
  have h1 := dr_len 34 s
  unfold rq2
  split
  · have := dr_le 34 (dr 34 s)
    simp; omega
  · rename_i c
    cases hq : qs (dr 34 s) with
    | none => simp
    | some q =>
      have := qs_len _ _ q.1 q.2 (Nat.le_refl _) hq
      have hh : hd 34 s = true := by simp at c; exact c.2
      rw [if_pos hh] at h1
      simp
      omega
theorem rq2_bad (s : Bytes) (b : Bool) (h : (rq2 s b).2.2 = true) : (rq2 s b).1 = [] := by
  unfold rq2 at h ⊢
  split
  · rfl
  · cases hq : qs (dr 34 s) with
    | none => rfl
    | some q => rename_i c; rw [if_neg c, hq] at h; cases h
theorem rq2_quote (v r : Bytes) : rq2 (quoteS v ++ r) false = (v, r, false) := by
  have e : quoteS v ++ r = 34 :: (esc v ++ 34 :: r) := by simp [quoteS]
  rw [e]
  simp [rq2, hd_self, dr_self, qs_esc]
end Go.Dip
end
/- Plain facts of the wire laws: the document's reader of nodes, on any text; what is written is read. -/
section
set_option linter.unusedVariables false
set_option linter.unusedSimpArgs false
namespace Go.Dip
open Go.Lib
inductive Attrs2 : UInt8 → Bytes → Bool → List (Bytes × Bytes) → Bytes → Bool → Prop
  | stop {c : UInt8} {r : Bytes} {bad : Bool} (h : hd c r = false ∨ bad = true) : Attrs2 c r bad [] r bad
  | go {c : UInt8} {r : Bytes} {at_ : List (Bytes × Bytes)} {r' : Bytes} {b : Bool} (h : hd c r = true)
      (t : Attrs2 32 (rq2 (dr 61 (rs (dr c r))) (!hd 61 (rs (dr c r)))).2.1 (rq2 (dr 61 (rs (dr c r))) (!hd 61 (rs (dr c r)))).2.2 at_ r' b) :
      Attrs2 c r false ((nm (dr c r), (rq2 (dr 61 (rs (dr c r))) (!hd 61 (rs (dr c r)))).1) :: at_) r' b
theorem attr2_step {c : UInt8} {r : Bytes} (h : hd c r = true) : 1 + (nm (dr c r)).length + (rq2 (dr 61 (rs (dr c r))) (!hd 61 (rs (dr c r)))).1.length + (rq2 (dr 61 (rs (dr c r))) (!hd 61 (rs (dr c r)))).2.1.length ≤ r.length := by
  have h0 := dr_len c r
  rw [if_pos h] at h0
  have h1 := nm_len (dr c r)
  have h2 := dr_le 61 (rs (dr c r))
  have h3 := rq2_len (dr 61 (rs (dr c r))) (!hd 61 (rs (dr c r)))
  omega
theorem attrs2_len {c : UInt8} {s : Bytes} {bad : Bool} {at_ : List (Bytes × Bytes)} {r : Bytes} {b : Bool} (h : Attrs2 c s bad at_ r b) : attrW at_ + r.length ≤ s.length := by
  induction h with
  | stop h => simp [attrW]
  | go h t ih =>
    have := attr2_step h
    simp only [attrW, List.map_cons, List.sum_cons] at ih ⊢
    omega
theorem attrs2_ex : ∀ (n : Nat) (c : UInt8) (s : Bytes) (bad : Bool), s.length ≤ n → ∃ at_ r b, Attrs2 c s bad at_ r b
  | n, c, s, bad, hn => by
    cases bad with
    | true => exact ⟨_, _, _, .stop (.inr rfl)⟩
    | false =>
      cases h : hd c s with
      | false => exact ⟨_, _, _, .stop (.inl h)⟩
      | true =>
        have := attr2_step h
        cases n with
        | zero => omega
        | succ n =>
          obtain ⟨at_, r, b, h'⟩ := attrs2_ex n 32 _ (rq2 (dr 61 (rs (dr c s))) (!hd 61 (rs (dr c s)))).2.2 (show (rq2 (dr 61 (rs (dr c s))) (!hd 61 (rs (dr c s)))).2.1.length ≤ n by omega)
          exact ⟨_, _, _, .go h h'⟩
theorem attrs2_suf {S : Bytes} {c : UInt8} {s : Bytes} {bad : Bool} {at_ : List (Bytes × Bytes)} {r : Bytes} {b : Bool} (h : Attrs2 c s bad at_ r b) : Suf S s → Suf S r := by
  induction h with
  | stop h => exact fun h => h
  | go h t ih => exact fun hs => ih (rq2_suf ((hs.dr _).rs.dr 61) _)
theorem marks_suf {S s : Bytes} {ms : List Bytes} {r : Bytes} (h : MarksR s ms r) : Suf S s → Suf S r := by
  induction h with
  | last h => exact fun hs => hs.rs
  | more h t ih => exact fun hs => ih (hs.rs.dr 44)
inductive RD2 : Nat → Bool → Bytes → Bool → List Nd → Bytes → Bool → Prop
  | zero {r : Bytes} : RD2 0 false r false [.mk [] [] [] [] []] r true
  | text0 {d : Nat} {s : Bytes} (h : hd 34 s = true) (g : hd 60 (rq2 s false).2.1 = false) : RD2 (d + 1) false s false [.mk TEXT (rq2 s false).1 [] [] []] (rq2 s false).2.1 (rq2 s false).2.2
  | text1 {d : Nat} {s : Bytes} {ms : List Bytes} {l : Bytes} (h : hd 34 s = true) (g : hd 60 (rq2 s false).2.1 = true) (m : MarksR (dr 60 (rq2 s false).2.1) ms l) :
      RD2 (d + 1) false s false [.mk TEXT (rq2 s false).1 ms [] []] (dr 62 l) ((rq2 s false).2.2 || !hd 62 l)
  | node0 {d : Nat} {s : Bytes} {ks : List Nd} {r : Bytes} {b : Bool} (h : hd 34 s = false) (g : hd 40 (rs s) = false) (t : RD2 d true (dr 91 (rs s)) (!hd 91 (rs s)) ks r b) :
      RD2 (d + 1) false s false [.mk (nm s) [] [] [] ks] (dr 93 r) (b || !hd 93 r)
  | node1 {d : Nat} {s : Bytes} {at_ : List (Bytes × Bytes)} {l : Bytes} {b1 : Bool} {ks : List Nd} {r : Bytes} {b : Bool} (h : hd 34 s = false) (g : hd 40 (rs s) = true)
      (a : Attrs2 40 (rs s) false at_ l b1) (t : RD2 d true (dr 91 (dr 41 l)) ((b1 || !hd 41 l) || !hd 91 (dr 41 l)) ks r b) :
      RD2 (d + 1) false s false [.mk (nm s) [] [] at_ ks] (dr 93 r) (b || !hd 93 r)
  | stop {d : Nat} {s : Bytes} {bad : Bool} (h : bad = true ∨ s = [] ∨ hd 93 s = true) : RD2 d true s bad [] s bad
  | more {d : Nat} {s : Bytes} {n : Nd} {l : Bytes} {b1 : Bool} {ns : List Nd} {r : Bytes} {b : Bool} (h : s ≠ []) (g : hd 93 s = false) (t : RD2 d false s false [n] l b1) (u : RD2 d true l b1 ns r b) : RD2 d true s false (n :: ns) r b
theorem rd2_len {d : Nat} {q : Bool} {s : Bytes} {bad : Bool} {ns : List Nd} {r : Bytes} {b : Bool} (h : RD2 d q s bad ns r b) : Nd.wts ns + 10 * r.length + (if bad then 10 else 0) ≤ 10 * s.length + (if b then 10 else 0) := by
  induction h with
  | zero => simp [Nd.wts, Nd.wt, markW, attrW]; omega
  | text0 h g =>
    rename_i d s
    have h1 := rq2_len s false
    have h2 := rq2_bad s false
    cases c : (rq2 s false).2.2 with
    | true =>
      rw [c] at h1 h2
      rw [h2 rfl] at h1 ⊢
      simp [Nd.wts, Nd.wt, markW, attrW] at h1 ⊢
      omega
    | false =>
      rw [c] at h1
      simp [Nd.wts, Nd.wt, markW, attrW] at h1 ⊢
      omega
  | text1 h g m =>
    rename_i d s ms l
    have h1 := rq2_len s false
    have h2 := rq2_bad s false
    have h3 := marks_len m
    have h4 := dr_len 60 (rq2 s false).2.1
    have h5 := dr_le 62 l
    rw [g, if_pos rfl] at h4
    cases c : (rq2 s false).2.2 with
    | true =>
      rw [c] at h1 h2
      rw [h2 rfl] at h1 ⊢
      simp [Nd.wts, Nd.wt, attrW] at h1 ⊢
      omega
    | false =>
      rw [c] at h1
      simp [Nd.wts, Nd.wt, attrW] at h1 ⊢
      omega
  | node0 h g t ih =>
    rename_i d s ks r b
    have h1 := nm_len s
    have h2 := dr_len 91 (rs s)
    have h3 := dr_le 93 r
    simp only [Nd.wts, Nd.wt, markW, attrW, List.map_nil, List.sum_nil, List.length_nil] at ih ⊢
    cases c : hd 91 (rs s) <;> rw [c] at ih h2 <;> cases b <;> simp at ih h2 ⊢ <;> omega
  | node1 h g a t ih =>
    rename_i d s at_ l b1 ks r b
    have h1 := nm_len s
    have ha := attrs2_len a
    have h2 := dr_len 91 (dr 41 l)
    have h4 := dr_len 41 l
    have h3 := dr_le 93 r
    have h5 : 1 ≤ (rs s).length := by
      cases hr : rs s with
      | nil => rw [hr] at g; simp [hd] at g
      | cons b t => simp
    simp only [Nd.wts, Nd.wt, markW, List.map_nil, List.sum_nil, List.length_nil] at ih ⊢
    cases c : hd 91 (dr 41 l) <;> rw [c] at ih h2 <;> cases d : hd 41 l <;> rw [d] at ih h4 <;> cases b <;> cases b1 <;> simp at ih h2 h4 ha ⊢ <;> omega
  | stop h => simp [Nd.wts]
  | more h g t u i1 i2 =>
    rename_i d s n l b1 ns r b
    simp only [Nd.wts] at i1 i2 ⊢
    cases b1 <;> cases b <;> simp at i1 i2 ⊢ <;> omega
theorem rd2_suf {S : Bytes} {d : Nat} {q : Bool} {s : Bytes} {bad : Bool} {ns : List Nd} {r : Bytes} {b : Bool} (h : RD2 d q s bad ns r b) : Suf S s → Suf S r := by
  induction h with
  | zero => exact fun h => h
  | text0 h g => exact fun hs => rq2_suf hs _
  | text1 h g m => exact fun hs => (marks_suf m ((rq2_suf hs _).dr 60)).dr 62
  | node0 h g t ih => exact fun hs => (ih (hs.rs.dr 91)).dr 93
  | node1 h g a t ih => exact fun hs => (ih (((attrs2_suf a hs.rs).dr 41).dr 91)).dr 93
  | stop h => exact fun h => h
  | more h g t u i1 i2 => exact fun hs => i2 (i1 hs)
theorem rd2_ex : ∀ d : Nat, (∀ s : Bytes, ∃ n r b, RD2 d false s false [n] r b) ∧ (∀ (s : Bytes) (bad : Bool), ∃ ns r b, RD2 d true s bad ns r b)
  | d => by
    have node : ∀ s : Bytes, ∃ n r b, RD2 d false s false [n] r b := by
      intro s
      cases d with
      | zero => exact ⟨_, _, _, .zero⟩
      | succ d =>
        cases c : hd 34 s with
        | true =>
          cases e : hd 60 (rq2 s false).2.1 with
          | false => exact ⟨_, _, _, .text0 c e⟩
          | true =>
            obtain ⟨ms, l, hm⟩ := marks_ex _ (dr 60 (rq2 s false).2.1) (Nat.le_refl _)
            exact ⟨_, _, _, .text1 c e hm⟩
        | false =>
          cases e : hd 40 (rs s) with
          | false =>
            obtain ⟨ks, r, b, hk⟩ := (rd2_ex d).2 (dr 91 (rs s)) (!hd 91 (rs s))
            exact ⟨_, _, _, .node0 c e hk⟩
          | true =>
            obtain ⟨at_, l, b1, ha⟩ := attrs2_ex _ 40 (rs s) false (Nat.le_refl _)
            obtain ⟨ks, r, b, hk⟩ := (rd2_ex d).2 (dr 91 (dr 41 l)) ((b1 || !hd 41 l) || !hd 91 (dr 41 l))
            exact ⟨_, _, _, .node1 c e ha hk⟩
    refine ⟨node, ?_⟩
    have kids : ∀ (N : Nat) (s : Bytes) (bad : Bool), s.length ≤ N → ∃ ns r b, RD2 d true s bad ns r b := by
      intro N
      induction N with
      | zero =>
        intro s bad h
        exact ⟨_, _, _, .stop (.inr (.inl (List.eq_nil_of_length_eq_zero (by omega))))⟩
      | succ N ih =>
        intro s bad h
        cases bad with
        | true => exact ⟨_, _, _, .stop (.inl rfl)⟩
        | false =>
          by_cases e : s = []
          · exact ⟨_, _, _, .stop (.inr (.inl e))⟩
          · cases c : hd 93 s with
            | true => exact ⟨_, _, _, .stop (.inr (.inr c))⟩
            | false =>
              obtain ⟨n, l, b1, hn⟩ := node s
              have hl := rd2_len hn
              have hw := n.wt_pos
              cases b1 with
              | true => exact ⟨_, _, _, .more e c hn (.stop (.inl rfl))⟩
              | false =>
                obtain ⟨ns, r, b, hk⟩ := ih l false (by simp [Nd.wts] at hl; omega)
                exact ⟨_, _, _, .more e c hn hk⟩
    exact fun s bad => kids s.length s bad (Nat.le_refl _)
/-! The answer's reader reads so. -/
section
variable {x1 x3 x4 x5 x6 : Bytes}
theorem marks2_spec {S : Bytes} (hl : S.length ≤ BL) {bad : Bool} {s : Bytes} {ms : List Bytes} {r : Bytes} (h : MarksR s ms r) : Suf S s → Evk fun k => ∀ (pre : List Bytes), pre.length + ms.length ≤ 1000000000 → ∀ (R : Type) (K0 : Bytes → Bytes → Bytes → Bytes → List PV → Bytes → Int → Bool → Option R),
    G121.L11 k x1 x3 x4 x5 (strs (pre ++ [nm s])) S (psn S (rs s)) bad K0 = K0 x1 x3 x4 x5 (strs (pre ++ ms)) S (psn S r) bad := by
  induction h with
  | last h =>
    rename_i s
    intro hs
    refine Evk.step (is_at hs.rs 44 44 rfl bad) fun k hk pre hp R K0 => ?_
    simp only [G121.L11, hk, h, cond_false]
  | more h t ih =>
    rename_i s ms r
    intro hs
    have h2 := eat_at hs.rs hl 44 44 rfl bad
    rw [h, Bool.not_true, Bool.or_false] at h2
    refine Evk.step (((is_at hs.rs 44 44 rfl bad).and h2).and ((letters_at (hs.rs.dr 44) hl bad).and (ih (hs.rs.dr 44)))) fun k hk pre hp R K0 => ?_
    simp only [List.length_cons] at hp
    have l1 : leN ((strs (pre ++ [nm s])).length + 1) LIM = true := lim (by rw [strs_length]; simp; omega)
    have := hk.2.2 (pre ++ [nm s]) (by simp; omega) R K0
    rw [snoc pre (nm s) ms] at this
    simp only [G121.L11, hk.1.1, hk.1.2, h, cond_true, hk.2.1, l1, strs_snoc, this]
theorem attrs2_spec {S : Bytes} (hl : S.length ≤ 500000000) {x0 : Int} {c : UInt8} {s : Bytes} {bad : Bool} {at_ : List (Bytes × Bytes)} {r : Bytes} {b : Bool} (h : Attrs2 c s bad at_ r b) : Suf S s → Evk fun k => ∀ (pre : List (Bytes × Bytes)), pre.length + at_.length ≤ 1000000000 → ∀ (R : Type) (K2 : Int → Bytes → Bytes → Bytes → Bytes → Bytes → Int → Bool → List PV → Option R),
    G121.L19 k x0 ((c.toNat : Nat) : Int) x3 x4 x5 x6 S (psn S s) bad (pre.map attrPV) K2 = K2 x0 x3 x4 x5 x6 S (psn S r) b ((pre ++ at_).map attrPV) := by
  have hB : S.length ≤ BL := by simp only [BL]; omega
  induction h with
  | stop h =>
    rename_i c s bad
    intro hs
    refine Evk.step (is_at hs c _ rfl bad) fun k hk pre hp R K2 => ?_
    rw [List.append_nil]
    rcases h with h | h
    · simp only [G121.L19, hk, h, cond_false]
    · subst h
      simp only [G121.L19, hk, Bool.not_true, cond_false]
      cases hd c s <;> rfl
  | go h t ih =>
    rename_i c s at_ r b
    intro hs
    have e1 := eat_at hs hB c _ rfl false
    rw [h, Bool.not_true, Bool.or_false] at e1
    have e3 := eat_at (hs.dr c).rs hB 61 61 rfl false
    rw [Bool.false_or] at e3
    have ih' := ih (rq2_suf ((hs.dr c).rs.dr 61) _)
    refine Evk.step ((((is_at hs c _ rfl false).and e1).and ((letters_at (hs.dr c) hB false).and e3)).and ((quoted2_at ((hs.dr c).rs.dr 61) hl (!hd 61 (rs (dr c s)))).and ih')) fun k hk pre hp R K2 => ?_
    simp only [List.length_cons] at hp
    have l1 : leN ((pre.map attrPV).length + 1) LIM = true := lim (by simp; omega)
    have := hk.2.2 (pre ++ [(nm (dr c s), (rq2 (dr 61 (rs (dr c s))) (!hd 61 (rs (dr c s)))).1)]) (by simp; omega) R K2
    rw [snoc] at this
    have c32 : (((32 : UInt8).toNat : Nat) : Int) = 32 := rfl
    rw [c32] at this
    simp only [G121.L19, G121.J20, hk.1.1.1, h, cond_true, Bool.not_false, hk.1.1.2, hk.1.2.1, hk.1.2.2, hk.2.1, l1, attrs_snoc, this]
end
def Node2Ok (S : Bytes) (d : Nat) (s : Bytes) (n : Nd) (r : Bytes) (b : Bool) : Prop := Evk fun k => ∀ (R : Type) (K : Bytes → Bytes → List PV → List PV → List PV → Bytes → Int → Bool → Option R),
  G121.F k (d : Nat) S (psn S s) false K = K n.kind n.text (strs n.marks) (n.attrs.map attrPV) (Nd.pvs n.kids) S (psn S r) b
def Kids2Ok (S : Bytes) (d : Nat) (s : Bytes) (bad : Bool) (ns : List Nd) (r : Bytes) (b : Bool) : Prop := Evk fun k => ∀ (pre : List Nd), pre.length + ns.length ≤ 5100000000 → ∀ (R : Type) (K0 : List PV → Bytes → Int → Bool → Option R),
  G149.L2 k (d : Nat) (Nd.pvs pre) S (psn S s) bad K0 = K0 (Nd.pvs (pre ++ ns)) S (psn S r) b
def Read2Ok (S : Bytes) (d : Nat) (q : Bool) (s : Bytes) (bad : Bool) (ns : List Nd) (r : Bytes) (b : Bool) : Prop :=
  if q then Kids2Ok S d s bad ns r b else ∀ n, ns = [n] → Node2Ok S d s n r b
theorem kids2_f {S : Bytes} {d : Nat} {s : Bytes} {bad : Bool} {ns : List Nd} {r : Bytes} {b : Bool} (h : Kids2Ok S d s bad ns r b) (hn : ns.length ≤ 5100000000) : Evk fun k => ∀ (R : Type) (K : List PV → Bytes → Int → Bool → Option R), G149.F k (d : Nat) S (psn S s) bad K = K (Nd.pvs ns) S (psn S r) b :=
  Evk.step h fun k hk R K => by
    have := hk [] (by simpa using hn)
    have e : Nd.pvs [] = [] := rfl
    rw [e, List.nil_append] at this
    simp only [G149.F, this]
theorem depth_dec {d : Nat} (h : d ≤ 1000000000) : IntKind.i64.wrap (((d + 1 : Nat) : Int) - 1) = (d : Nat) := by
  rw [wrap64 (by omega) (by omega)]
  omega
theorem rd2_spec {S : Bytes} (hl : S.length ≤ 500000000) {d : Nat} {q : Bool} {s : Bytes} {bad : Bool} {ns : List Nd} {r : Bytes} {b : Bool} (h : RD2 d q s bad ns r b) : d ≤ 1000000000 → Suf S s → Read2Ok S d q s bad ns r b := by
  have hB : S.length ≤ BL := by simp only [BL]; omega
  induction h with
  | zero =>
    rename_i s
    intro _ hs
    simp only [Read2Ok, Bool.false_eq_true, if_false]
    intro n hn
    injection hn with hn _
    subst hn
    refine Evk.one fun k R K => ?_
    have e : eqI ((0 : Nat) : Int) 0 = true := by decide
    simp only [G121.F, e, cond_true]
    rfl
  | text0 h g =>
    rename_i d s
    intro hd' hs
    simp only [Read2Ok, Bool.false_eq_true, if_false]
    intro n hn
    injection hn with hn _
    subst hn
    have e : eqI ((d + 1 : Nat) : Int) 0 = false := eqI_f (by omega)
    refine Evk.step (((is_at hs 34 34 rfl false).and (quoted2_at hs hl false)).and (is_at (rq2_suf hs false) 60 60 rfl (rq2 s false).2.2)) fun k hk R K => ?_
    simp only [G121.F, e, cond_false, hk.1.1, h, cond_true, hk.1.2, hk.2, g]
    rfl
  | text1 h g m =>
    rename_i d s ms l
    intro hd' hs
    simp only [Read2Ok, Bool.false_eq_true, if_false]
    intro n hn
    injection hn with hn _
    subst hn
    have e : eqI ((d + 1 : Nat) : Int) 0 = false := eqI_f (by omega)
    have hs1 := rq2_suf hs false
    have e1 := eat_at hs1 hB 60 60 rfl (rq2 s false).2.2
    rw [g, Bool.not_true, Bool.or_false] at e1
    have hs2 := hs1.dr 60
    have hm := marks2_spec (x1 := []) (x3 := []) (x4 := TEXT) (x5 := (rq2 s false).1) hB (bad := (rq2 s false).2.2) m hs2
    have hml := marks_len m
    have hmw := markW_len ms
    have hsl := hs2.len
    refine Evk.step ((((is_at hs 34 34 rfl false).and (quoted2_at hs hl false)).and (is_at hs1 60 60 rfl (rq2 s false).2.2)).and ((e1.and (letters_at hs2 hB (rq2 s false).2.2)).and (hm.and (eat_at (marks_suf m hs2) hB 62 62 rfl (rq2 s false).2.2)))) fun k hk R K => ?_
    have h1 := hk.2.2.1 [] (by simp; omega)
    rw [List.nil_append, List.nil_append] at h1
    have h0 : [PV.str (nm (dr 60 (rq2 s false).2.1))] = strs [nm (dr 60 (rq2 s false).2.1)] := rfl
    simp only [G121.F, e, cond_false, hk.1.1.1, h, cond_true, hk.1.1.2, hk.1.2, g, hk.2.1.1, hk.2.1.2, h0, h1, hk.2.2.2]
    rfl
  | node0 h g t ih =>
    rename_i d s ks r b
    intro hd' hs
    simp only [Read2Ok, Bool.false_eq_true, if_false]
    intro n hn
    injection hn with hn _
    subst hn
    have e : eqI ((d + 1 : Nat) : Int) 0 = false := eqI_f (by omega)
    have hs1 := hs.rs
    have hs2 := hs1.dr 91
    have e91 := eat_at hs1 hB 91 91 rfl false
    rw [Bool.false_or] at e91
    have hk := ih (by omega) hs2
    simp only [Read2Ok, if_true] at hk
    have h3 := rd2_len t
    have h4 := Nd.len_wts ks
    have h5 := hs2.len
    have hk' := kids2_f hk (by cases b <;> cases hd 91 (rs s) <;> simp at h3 <;> omega)
    have hs3 := rd2_suf t hs2
    refine Evk.step (((is_at hs 34 34 rfl false).and (letters_at hs hB false)).and ((is_at hs1 40 40 rfl false).and ((e91.and hk').and (eat_at hs3 hB 93 93 rfl b)))) fun k hk R K => ?_
    simp only [G121.F, G121.J26, e, cond_false, hk.1.1, h, hk.1.2, hk.2.1, g, hk.2.2.1.1, depth_dec (show d ≤ 1000000000 by omega), hk.2.2.1.2, hk.2.2.2]
    rfl
  | node1 h g a t ih =>
    rename_i d s at_ l b1 ks r b
    intro hd' hs
    simp only [Read2Ok, Bool.false_eq_true, if_false]
    intro n hn
    injection hn with hn _
    subst hn
    have e : eqI ((d + 1 : Nat) : Int) 0 = false := eqI_f (by omega)
    have hs1 := hs.rs
    have hsl := attrs2_suf a hs1
    have hs2 := (hsl.dr 41).dr 91
    have e41 := eat_at hsl hB 41 41 rfl b1
    have e91 := eat_at (hsl.dr 41) hB 91 91 rfl (b1 || !hd 41 l)
    have hk := ih (by omega) hs2
    simp only [Read2Ok, if_true] at hk
    have h3 := rd2_len t
    have h4 := Nd.len_wts ks
    have h5 := hs2.len
    have h6 := attrs2_len a
    have h7 := attrW_len at_
    have h8 := hs1.len
    have hk' := kids2_f hk (by cases b <;> simp at h3 <;> omega)
    have hs3 := rd2_suf t hs2
    have hA := attrs2_spec (x0 := ((d + 1 : Nat) : Int)) (x3 := []) (x4 := []) (x5 := nm s) (x6 := []) hl a hs1
    have c40 : (((40 : UInt8).toNat : Nat) : Int) = 40 := rfl
    rw [c40] at hA
    refine Evk.step (((is_at hs 34 34 rfl false).and (letters_at hs hB false)).and (((is_at hs1 40 40 rfl false).and hA).and ((e41.and e91).and (hk'.and (eat_at hs3 hB 93 93 rfl b))))) fun k hk R K => ?_
    have hA' := hk.2.1.2 [] (by simp; omega)
    rw [List.map_nil, List.nil_append] at hA'
    simp only [G121.F, G121.J26, e, cond_false, hk.1.1, h, hk.1.2, hk.2.1.1, g, cond_true, hA', hk.2.2.1.1, hk.2.2.1.2, depth_dec (show d ≤ 1000000000 by omega), hk.2.2.2.1, hk.2.2.2.2]
    rfl
  | stop h =>
    rename_i d s bad
    intro hd' hs
    simp only [Read2Ok, if_true, Kids2Ok]
    refine Evk.step (is_at hs 93 93 rfl bad) fun k hk pre hp R K0 => ?_
    rw [List.append_nil]
    cases bad with
    | true => simp only [G149.L2, Bool.not_true, cond_false]
    | false =>
      by_cases e : s = []
      · have hlt : ¬ (psn S s < ((S.length : Nat) : Int)) := by rw [e]; unfold psn; simp
        simp only [G149.L2, Bool.not_false, cond_true, ltI_f hlt, cond_false]
      · have c : hd 93 s = true := by
          rcases h with h | h | h
          · cases h
          · exact absurd h e
          · exact h
        have hlt : psn S s < ((S.length : Nat) : Int) := by
          have := hs.len
          have := List.length_pos_iff.2 e
          unfold psn
          omega
        simp only [G149.L2, Bool.not_false, cond_true, ltI_t hlt, hk, c, Bool.not_true, cond_false]
  | more h g t u i1 i2 =>
    rename_i d s n l b1 ns r b
    intro hd' hs
    simp only [Read2Ok, if_true, Kids2Ok]
    have j1 := i1 hd' hs
    have j2 := i2 hd' (rd2_suf t hs)
    simp only [Read2Ok, Bool.false_eq_true, if_false] at j1
    simp only [Read2Ok, if_true, Kids2Ok] at j2
    have j1' := j1 n rfl
    have hlt : psn S s < ((S.length : Nat) : Int) := by
      have := hs.len
      have := List.length_pos_iff.2 h
      unfold psn
      omega
    refine Evk.step ((is_at hs 93 93 rfl false).and (Evk.and j1' j2)) fun k hk pre hp R K0 => ?_
    simp only [List.length_cons] at hp
    have l1 : leN ((Nd.pvs pre).length + 1) LIM = true := lim (by rw [pvs_length]; omega)
    have := hk.2.2 (pre ++ [n]) (by simp; omega) R K0
    rw [snoc] at this
    simp only [G149.L2, G149.J3, Bool.not_false, cond_true, ltI_t hlt, hk.1, g, hk.2.1, l1, pv_eq, pvs_snoc, this]
end Go.Dip
end
/- Plain facts of the wire laws: the document's reader reads what is written; words, numbers, quotes of the document's answer. -/
section
set_option linter.unusedVariables false
set_option linter.unusedSimpArgs false
namespace Go.Dip
open Go.Lib
/-! What is written is read. -/
theorem attrs2_read : ∀ (m : List (Bytes × Bytes)) (c : UInt8) (rest : Bytes), m ≠ [] → (∀ s, s ∈ m → nameB s.1 = true) → Attrs2 c (c :: (Lib.join (m.map attrS) [32] ++ 41 :: rest)) false m (41 :: rest) false
  | [x], c, rest, _, h => by
    have ex : Lib.join ([x].map attrS) [32] ++ 41 :: rest = x.1 ++ 61 :: (quoteS x.2 ++ 41 :: rest) := by rw [List.map_singleton, join_one]; simp [attrS]
    obtain ⟨e1, e2⟩ := nm_app (a := x.1) (r := 61 :: (quoteS x.2 ++ 41 :: rest)) (letters_of (h x (by simp))) (not26 (by decide))
    rw [ex]
    generalize hz : x.1 ++ 61 :: (quoteS x.2 ++ 41 :: rest) = z at *
    have hq : rq2 (dr 61 (rs (dr c (c :: z)))) (!hd 61 (rs (dr c (c :: z)))) = (x.2, 41 :: rest, false) := by
      rw [dr_self, e2, dr_self, hd_self, Bool.not_true, rq2_quote]
    have := Attrs2.go (c := c) (r := c :: z) (at_ := []) (r' := 41 :: rest) (b := false) (hd_self c z) (by rw [hq]; exact Attrs2.stop (.inl rfl))
    rw [hq, dr_self, e1] at this
    exact this
  | x :: y :: l, c, rest, _, h => by
    have ex : Lib.join ((x :: y :: l).map attrS) [32] ++ 41 :: rest = x.1 ++ 61 :: (quoteS x.2 ++ 32 :: (Lib.join ((y :: l).map attrS) [32] ++ 41 :: rest)) := by
      rw [List.map_cons, List.map_cons, join_more]; simp [attrS]
    have ih := attrs2_read (y :: l) 32 rest (by simp) (fun s hs => h s (List.mem_cons_of_mem _ hs))
    obtain ⟨e1, e2⟩ := nm_app (a := x.1) (r := 61 :: (quoteS x.2 ++ 32 :: (Lib.join ((y :: l).map attrS) [32] ++ 41 :: rest))) (letters_of (h x (by simp))) (not26 (by decide))
    rw [ex]
    generalize hw : Lib.join ((y :: l).map attrS) [32] ++ 41 :: rest = w at *
    generalize hz : x.1 ++ 61 :: (quoteS x.2 ++ 32 :: w) = z at *
    have hq : rq2 (dr 61 (rs (dr c (c :: z)))) (!hd 61 (rs (dr c (c :: z)))) = (x.2, 32 :: w, false) := by
      rw [dr_self, e2, dr_self, hd_self, Bool.not_true, rq2_quote]
    have := Attrs2.go (c := c) (r := c :: z) (at_ := y :: l) (r' := 41 :: rest) (b := false) (hd_self c z) (by rw [hq]; exact ih)
    rw [hq, dr_self, e1] at this
    exact this
mutual
def Nd.ht : Nd → Nat
  | .mk _ _ _ _ ks => 1 + Nd.hts ks
def Nd.hts : List Nd → Nat
  | [] => 0
  | n :: l => max n.ht (Nd.hts l)
end
theorem wr_read2_mk {k t : Bytes} {m : List Bytes} {a : List (Bytes × Bytes)} {ks : List Nd} {d : Nat} (h : (Nd.mk k t m a ks).Good) (hk : ∀ rest, Nd.Goods ks → RD2 d true (Nd.wrs ks ++ 93 :: rest) false ks (93 :: rest) false) (rest : Bytes) (hr : hd 60 rest = false) :
    RD2 (d + 1) false ((Nd.mk k t m a ks).wr ++ rest) false [.mk k t m a ks] rest false := by
  simp only [Nd.Good] at h
  rcases h with ⟨rfl, hm, rfl, rfl⟩ | ⟨h1, rfl, rfl, ha, hks⟩
  · by_cases me : m = []
    · subst me
      have ex : (Nd.mk TEXT t [] [] []).wr ++ rest = quoteS t ++ rest := by simp [Nd.wr, Nd.headS, Nd.kind, Nd.marks]
      have hq := rq2_quote t rest
      have := RD2.text0 (d := d) (s := quoteS t ++ rest) (by simp [quoteS, hd]) (by rw [hq]; exact hr)
      rw [hq] at this
      rw [ex]
      exact this
    · have ex : (Nd.mk TEXT t m [] []).wr ++ rest = quoteS t ++ 60 :: (Lib.join m [44] ++ 62 :: rest) := by simp [Nd.wr, Nd.headS, Nd.kind, Nd.marks, me]
      have hq := rq2_quote t (60 :: (Lib.join m [44] ++ 62 :: rest))
      have := RD2.text1 (d := d) (s := quoteS t ++ 60 :: (Lib.join m [44] ++ 62 :: rest)) (ms := m) (l := 62 :: rest) (by simp [quoteS, hd]) (by rw [hq, hd_self]) (by rw [hq, dr_self]; exact marks_read m rest me hm)
      rw [hq, dr_self, hd_self] at this
      rw [ex]
      exact this
  · have f := nameB_facts h1
    have hkt : ¬ k = TEXT := f.2.2.2
    have hh : ∀ z, hd 34 (k ++ z) = false := by
      intro z
      cases k with
      | nil => exact absurd rfl f.2.1
      | cons b k =>
        have hb : b ∈ L26 := f.1 b (by simp)
        have : (34 : UInt8) ≠ b := fun e => by rw [← e] at hb; revert hb; decide
        simp [hd, this]
    by_cases ae : a = []
    · subst ae
      have ex : (Nd.mk k [] [] [] ks).wr ++ rest = k ++ 91 :: (Nd.wrs ks ++ 93 :: rest) := by simp [Nd.wr, hkt, Nd.headS, Nd.kind, Nd.attrs]
      obtain ⟨e1, e2⟩ := nm_app (a := k) (r := 91 :: (Nd.wrs ks ++ 93 :: rest)) f.1 (not26 (by decide))
      have := RD2.node0 (d := d) (s := k ++ 91 :: (Nd.wrs ks ++ 93 :: rest)) (ks := ks) (r := 93 :: rest) (b := false) (hh _) (by rw [e2]; rfl) (by rw [e2, dr_self, hd_self]; exact hk rest hks)
      rw [e1, dr_self, hd_self] at this
      rw [ex]
      exact this
    · have ex : (Nd.mk k [] [] a ks).wr ++ rest = k ++ 40 :: (Lib.join (a.map attrS) [32] ++ 41 :: (91 :: (Nd.wrs ks ++ 93 :: rest))) := by simp [Nd.wr, hkt, Nd.headS, Nd.kind, Nd.attrs, ae]
      obtain ⟨e1, e2⟩ := nm_app (a := k) (r := 40 :: (Lib.join (a.map attrS) [32] ++ 41 :: (91 :: (Nd.wrs ks ++ 93 :: rest)))) f.1 (not26 (by decide))
      have := RD2.node1 (d := d) (s := k ++ 40 :: (Lib.join (a.map attrS) [32] ++ 41 :: (91 :: (Nd.wrs ks ++ 93 :: rest)))) (at_ := a) (l := 41 :: (91 :: (Nd.wrs ks ++ 93 :: rest))) (b1 := false) (ks := ks) (r := 93 :: rest) (b := false) (hh _) (by rw [e2, hd_self])
        (by rw [e2]; exact attrs2_read a 40 _ ae ha) (by rw [dr_self, dr_self, hd_self, hd_self]; exact hk rest hks)
      rw [e1, dr_self, hd_self] at this
      rw [ex]
      exact this
mutual
theorem wr_read2 : ∀ (n : Nd) (d : Nat), n.ht ≤ d → n.Good → ∀ rest, hd 60 rest = false → RD2 d false (n.wr ++ rest) false [n] rest false
  | .mk k t m a ks, 0, hd', h, rest, hr => by simp [Nd.ht] at hd'
  | .mk k t m a ks, d + 1, hd', h, rest, hr => wr_read2_mk h (fun rest hg => wrs_read2 ks d (by simp only [Nd.ht] at hd'; omega) hg rest) rest hr
theorem wrs_read2 : ∀ (l : List Nd) (d : Nat), Nd.hts l ≤ d → Nd.Goods l → ∀ rest, RD2 d true (Nd.wrs l ++ 93 :: rest) false l (93 :: rest) false
  | [], d, _, _, rest => by
    simp only [Nd.wrs, List.nil_append]
    exact .stop (.inr (.inr (hd_self 93 rest)))
  | n :: l, d, hd', h, rest => by
    simp only [Nd.Goods] at h
    simp only [Nd.hts] at hd'
    have ex : Nd.wrs (n :: l) ++ 93 :: rest = n.wr ++ (Nd.wrs l ++ 93 :: rest) := by simp [Nd.wrs]
    have i1 := wr_read2 n d (by omega) h.1 (Nd.wrs l ++ 93 :: rest) (wrs_first h.2 rest (by decide) (by decide) (by decide))
    have i2 := wrs_read2 l d (by omega) h.2 rest
    obtain ⟨b, t, e, hb⟩ := wr_first h.1
    rw [ex]
    refine .more (by rw [e]; simp) ?_ i1 i2
    rw [e]
    simp only [List.cons_append, hd]
    exact first_ne hb (by decide) (by decide)
end
mutual
theorem ht_len : ∀ (n : Nd), n.Good → n.ht ≤ n.wr.length
  | .mk k t m a ks, h => by
    simp only [Nd.Good] at h
    simp only [Nd.ht]
    rcases h with ⟨rfl, _, _, rfl⟩ | ⟨h1, _, _, _, hks⟩
    · simp [Nd.hts, Nd.wr, quoteS]
    · have hkt : ¬ k = TEXT := (nameB_facts h1).2.2.2
      have := hts_len ks hks
      simp only [Nd.wr, if_neg hkt]
      simp
      omega
theorem hts_len : ∀ (l : List Nd), Nd.Goods l → Nd.hts l ≤ (Nd.wrs l).length
  | [], _ => by simp [Nd.hts]
  | n :: l, h => by
    simp only [Nd.Goods] at h
    have h1 := ht_len n h.1
    have h2 := hts_len l h.2
    simp only [Nd.hts, Nd.wrs, List.length_append]
    omega
end
/-! The nodes of a text, by the document's answer. -/
theorem psn_self (S : Bytes) : psn S S = 0 := by unfold psn; simp
theorem nodes54_of {u : Bytes} (hu : u.length ≤ 80000) {n : Nd} {r : Bytes} {b : Bool} (h : RD2 (([120, 91] ++ u ++ [93] : Bytes).length + 1) false ([120, 91] ++ u ++ [93]) false [n] r b) : n.wt ≤ SM ∧ ∃ fl : Bool, Evk fun k => ∀ (R : Type) (K : List PV → Bool → Option R), G54.F k u K = K (Nd.pvs n.kids) fl := by
  have hlen : ([120, 91] ++ u ++ [93] : Bytes).length = u.length + 3 := by simp
  have hw := rd2_len h
  have hw2 : n.wt ≤ SM := by
    simp only [Nd.wts, SM] at hw ⊢
    cases b <;> simp at hw <;> omega
  refine ⟨hw2, ?_⟩
  have hR := rd2_spec (S := [120, 91] ++ u ++ [93]) (by omega) h (by omega) (Suf.refl _)
  simp only [Read2Ok, Bool.false_eq_true, if_false] at hR
  have hN := hR n rfl
  unfold Node2Ok at hN
  rw [psn_self] at hN
  have hw1 : IntKind.i64.wrap (((([120, 91] ++ u ++ [93] : Bytes).length : Nat) : Int) + 1) = (((([120, 91] ++ u ++ [93] : Bytes).length + 1) : Nat) : Int) := next_nat (by rw [hlen]; simp only [BIG]; omega)
  have h81 : Evk fun k => ∀ (R : Type) (K : Bytes → Bytes → List PV → List PV → List PV → Bytes → Int → Bool → Option R), G81.F k ([120, 91] ++ u ++ [93]) 0 false K = K n.kind n.text (strs n.marks) (n.attrs.map attrPV) (Nd.pvs n.kids) ([120, 91] ++ u ++ [93]) (psn ([120, 91] ++ u ++ [93]) r) b :=
    Evk.step hN fun k hk R K => by simp only [G81.F, hw1, hk]
  have hF := (formE n hw2).mono fun k hk R K => (hk R K).2
  have l1 : leN (([120, 91] : Bytes).length + u.length) LIM = true := lim (by simp; omega)
  have l2 : leN ((([120, 91] : Bytes) ++ u).length + ([93] : Bytes).length) LIM = true := lim (by simp; omega)
  refine ⟨!b && (eqI (psn ([120, 91] ++ u ++ [93]) r) (((([120, 91] ++ u ++ [93] : Bytes).length : Nat) : Int)) && (eqS n.wr ([120, 91] ++ u ++ [93]) && n.formed)), Evk.step ((h81.and (wriE n hw2)).and hF) fun k hk R K => ?_⟩
  have k1 := hk.1.1
  have k2 : ∀ (R : Type) (K : Bytes → Option R), G82.F k n.pv K = K n.wr := hk.1.2
  have k3 := hk.2
  simp only [G54.F, l1, l2, cond_true, k1, pv_eq, k2, k3]
  cases b with
  | true => rfl
  | false =>
    simp only [Bool.not_false, cond_true, Bool.true_and]
    cases eqI (psn ([120, 91] ++ u ++ [93]) r) (((([120, 91] ++ u ++ [93] : Bytes).length : Nat) : Int)) with
    | false => rfl
    | true =>
      simp only [cond_true, Bool.true_and]
      cases eqS n.wr ([120, 91] ++ u ++ [93]) <;> rfl
theorem nodes54_any (u : Bytes) (hu : u.length ≤ 80000) : ∃ ks fl, 2 + Nd.wts ks ≤ SM ∧ Evk fun k => ∀ (R : Type) (K : List PV → Bool → Option R), G54.F k u K = K (Nd.pvs ks) fl := by
  obtain ⟨n, r, b, h⟩ := (rd2_ex (([120, 91] ++ u ++ [93] : Bytes).length + 1)).1 ([120, 91] ++ u ++ [93])
  obtain ⟨h1, fl, h2⟩ := nodes54_of hu h
  refine ⟨n.kids, fl, ?_, h2⟩
  have hw := rd2_len h
  have hlen : ([120, 91] ++ u ++ [93] : Bytes).length = u.length + 3 := by simp
  obtain ⟨k, t, m, a, ks⟩ := n
  simp only [Nd.wts, Nd.wt, Nd.kids, SM] at hw ⊢
  cases b <;> simp at hw <;> omega
theorem nodes54_wrs {ks : List Nd} (hu : (Nd.wrs ks).length ≤ 80000) (hg : Nd.Goods ks) : ∃ fl, Evk fun k => ∀ (R : Type) (K : List PV → Bool → Option R), G54.F k (Nd.wrs ks) K = K (Nd.pvs ks) fl := by
  have hgx : (Nd.x ks).Good := by
    simp only [Nd.x, Nd.Good]
    exact .inr ⟨by decide, trivial, trivial, by simp, hg⟩
  have ex : (Nd.x ks).wr ++ [] = [120, 91] ++ Nd.wrs ks ++ [93] := by rw [x_wr]; simp
  have hh := ht_len (Nd.x ks) hgx
  have hlen := congrArg List.length ex
  rw [List.append_nil] at hlen
  have h := wr_read2 (Nd.x ks) (([120, 91] ++ Nd.wrs ks ++ [93] : Bytes).length + 1) (by omega) hgx [] rfl
  rw [ex] at h
  obtain ⟨_, fl, h2⟩ := nodes54_of hu h
  exact ⟨fl, h2⟩
/-! A word. -/
theorem w_cons {b : UInt8} {t : Bytes} (h : b ≠ 32) : w1 (b :: t) = b :: w1 t ∧ w2 (b :: t) = w2 t := by
  by_cases ht : (32 : UInt8) ∈ t
  · obtain ⟨p, q, e, hp⟩ : ∃ p q, t = p ++ 32 :: q ∧ (32 : UInt8) ∉ p := by
      rcases index_split 32 t with ⟨_, h2⟩ | ⟨p, q, h1, h2, _⟩
      · exact absurd ht h2
      · exact ⟨p, q, h1, h2⟩
    subst e
    have := w_split (a := p) (r := q) hp
    have h2 := w_split (a := b :: p) (r := q) (by simp [hp]; exact fun e => h e.symm)
    rw [List.cons_append] at h2
    exact ⟨by rw [h2.1, this.1], by rw [h2.2, this.2]⟩
  · have := w_none ht
    have h2 := w_none (a := b :: t) (by simp [ht]; exact fun e => h e.symm)
    exact ⟨by rw [h2.1, this.1], by rw [h2.2, this.2]⟩
theorem byte32 (b : UInt8) : eqI ((b.toNat : Nat) : Int) 32 = (b == 32) := byte_eq (c := 32)
theorem word51_loop : ∀ (t pre : Bytes), pre.length + t.length ≤ 1000000000 → Evk fun k => ∀ (R : Type) (K : Bytes → Bytes → Option R), G51.L2 k (pre ++ t) (pre.length : Nat) (fun y2 => K y2 ([] : Bytes)) (fun y3 y4 => K y3 y4) = K (pre ++ w1 t) (w2 t)
  | [], pre, _ => Evk.one fun k R K => by
    have e : ¬ (((pre.length : Nat) : Int) < (((pre ++ ([] : Bytes)).length : Nat) : Int)) := by simp
    have h := w_none (a := ([] : Bytes)) (by simp)
    simp only [G51.L2, ltI_f e, cond_false, h.1, h.2]
  | b :: t, pre, hl => by
    have e : ((pre.length : Nat) : Int) < (((pre ++ b :: t).length : Nat) : Int) := by simp; omega
    have ei : inI ((pre.length : Nat) : Int) (((pre ++ b :: t).length : Nat) : Int) = true := inI_true (by simp)
    simp only [List.length_cons] at hl
    have nx := next_nat (show pre.length ≤ BIG by simp only [BIG]; omega)
    by_cases hb : b = 32
    · subst hb
      have h := w_split (a := ([] : Bytes)) (r := t) (by simp)
      rw [List.nil_append] at h
      have r1 : inR 0 ((pre.length : Nat) : Int) (((pre ++ 32 :: t).length : Nat) : Int) = true := by
        have := inR_nat 0 pre.length (pre ++ 32 :: t).length
        rw [Int.natCast_zero] at this
        rw [this]; simp
      have r2 : inR ((pre.length + 1 : Nat) : Int) (((pre ++ 32 :: t).length : Nat) : Int) (((pre ++ 32 :: t).length : Nat) : Int) = true := by rw [inR_nat]; simp
      have s1 : sub (pre ++ 32 :: t) 0 ((pre.length : Nat) : Int) = pre := by
        have := sub_nat (pre ++ 32 :: t) 0 pre.length
        rw [Int.natCast_zero] at this
        rw [this]; simp
      have e32 : ((32 : UInt8) == 32) = true := rfl
      refine Evk.one fun k R K => ?_
      simp only [G51.L2, ltI_t e, ei, getD_at, byte32, e32, r1, nx, r2, s1, drop_at, cond_true, h.1, h.2, List.append_nil]
    · have e32 : (b == 32) = false := by simp [hb]
      have h := w_cons (t := t) hb
      have ih := word51_loop t (pre ++ [b]) (by simp; omega)
      rw [snoc pre b t, snoc_len] at ih
      refine Evk.step ih fun k hk R K => ?_
      simp only [G51.L2, ltI_t e, ei, getD_at, byte32, e32, nx, cond_true, cond_false, hk, h.1, h.2]
      simp
theorem word51 {s : Bytes} (hs : s.length ≤ 1000000000) : Evk fun k => ∀ (R : Type) (K : Bytes → Bytes → Option R), G51.F k s K = K (w1 s) (w2 s) := by
  have h := word51_loop s [] (by simpa using hs)
  simp only [List.nil_append, List.length_nil, Int.natCast_zero] at h
  exact Evk.step h fun k hk R K => by simp only [G51.F, hk]
end Go.Dip
end
/- Plain facts of the wire laws: numbers and quoted words of the document's answer. -/
section
set_option linter.unusedVariables false
set_option linter.unusedSimpArgs false
namespace Go.Dip
open Go.Lib
/-! Numbers, read. -/
def dgt (b : UInt8) : Int := IntKind.u8.wrap (((b.toNat : Nat) : Int) - 48)
theorem wrap8 (n : Int) : 0 ≤ IntKind.u8.wrap n ∧ IntKind.u8.wrap n ≤ 255 := by
  have e : (2 : Int) ^ IntKind.u8.bits = 256 := by decide
  unfold IntKind.wrap
  simp only [e, IntKind.signed, Bool.false_and, Bool.false_eq_true, if_false]
  omega
theorem wrap8_id {n : Int} (h0 : 0 ≤ n) (h1 : n ≤ 255) : IntKind.u8.wrap n = n := by
  have e : (2 : Int) ^ IntKind.u8.bits = 256 := by decide
  unfold IntKind.wrap
  simp only [e, IntKind.signed, Bool.false_and, Bool.false_eq_true, if_false]
  omega
def nv : Nat → Int → Bytes → Int
  | 0, acc, _ => acc
  | _, acc, [] => acc
  | m + 1, acc, b :: t => nv m (10 * acc + dgt b) t
theorem num_loop : ∀ (t pre : Bytes) (acc : Int), pre.length + t.length ≤ 1000000 → pre.length ≤ 9 → 0 ≤ acc → acc + 29 ≤ 29 * ((10 ^ pre.length : Nat) : Int) → ∃ v : Int, 0 ≤ v ∧ v ≤ 256000000000 ∧ v = nv (9 - pre.length) acc t ∧ Evk fun k => ∀ (R : Type) (K0 : Int → Option R), G52.L5 k (pre ++ t) acc (pre.length : Nat) K0 = K0 v
  | [], pre, acc, hl, h9, h0, h1 => by
    have hp : 10 ^ pre.length ≤ 10 ^ 9 := Nat.pow_le_pow_right (by decide) h9
    have e9 : (10 : Nat) ^ 9 = 1000000000 := by decide
    refine ⟨acc, h0, by omega, ?_, Evk.one fun k R K0 => ?_⟩
    · cases 9 - pre.length <;> rfl
    · have e : ¬ (((pre.length : Nat) : Int) < (((pre ++ ([] : Bytes)).length : Nat) : Int)) := by simp
      simp only [G52.L5, ltI_f e, cond_false]
  | b :: t, pre, acc, hl, h9, h0, h1 => by
    have hp : 10 ^ pre.length ≤ 10 ^ 9 := Nat.pow_le_pow_right (by decide) h9
    have e9 : (10 : Nat) ^ 9 = 1000000000 := by decide
    have e : ((pre.length : Nat) : Int) < (((pre ++ b :: t).length : Nat) : Int) := by simp; omega
    have ei : inI ((pre.length : Nat) : Int) (((pre ++ b :: t).length : Nat) : Int) = true := inI_true (by simp)
    simp only [List.length_cons] at hl
    by_cases hlt : ((pre.length : Nat) : Int) < 9
    · obtain ⟨d0, d1⟩ := wrap8 (((b.toNat : Nat) : Int) - 48)
      have hs : 10 ^ (pre.length + 1) = 10 ^ pre.length * 10 := Nat.pow_succ ..
      have hw : IntKind.i64.wrap (IntKind.i64.wrap (10 * acc) + IntKind.i64.wrap (IntKind.u8.wrap (((b.toNat : Nat) : Int) - 48))) = 10 * acc + dgt b := by
        unfold dgt
        rw [wrap64 (n := 10 * acc) (by omega) (by omega), wrap64 (n := IntKind.u8.wrap (((b.toNat : Nat) : Int) - 48)) (by omega) (by omega), wrap64 (by omega) (by omega)]
      have hd0 : 0 ≤ dgt b := d0
      have hd1 : dgt b ≤ 255 := d1
      obtain ⟨v, v0, v1, v2, v3⟩ := num_loop t (pre ++ [b]) (10 * acc + dgt b) (by simp; omega) (by simp; omega) (by omega) (by rw [snoc_len, hs]; omega)
      rw [snoc, snoc_len] at v3
      refine ⟨v, v0, v1, ?_, Evk.step v3 fun k hk R K0 => ?_⟩
      · rw [v2, snoc_len]
        have e : 9 - pre.length = (9 - (pre.length + 1)) + 1 := by omega
        rw [e]
        rfl
      · simp only [G52.L5, G52.J7, ltI_t e, ltI_t hlt, ei, getD_at, cond_true, hw, next_nat (show pre.length ≤ BIG by simp only [BIG]; omega), hk]
    · refine ⟨acc, h0, by omega, ?_, Evk.one fun k R K0 => ?_⟩
      · have : 9 - pre.length = 0 := by omega
        rw [this]
        rfl
      · simp only [G52.L5, ltI_t e, ltI_f hlt, cond_true, cond_false]
theorem byte45 (b : UInt8) : eqI ((b.toNat : Nat) : Int) 45 = (b == 45) := byte_eq (c := 45)
def NumN (s : Bytes) (v : Int) : Prop := Evk fun k => ∀ (R : Type) (K : Int → Option R), G52.F k s K = K v
theorem num_plain {s : Bytes} (hl : s.length ≤ 1000000) (h : s.length ≤ 1 ∨ hd 45 s = false) : ∃ v : Int, 0 ≤ v ∧ v ≤ 256000000000 ∧ v = nv 9 0 s ∧ NumN s v := by
  obtain ⟨v, v0, v1, v2, v3⟩ := num_loop s [] 0 (by simpa using hl) (by simp) (by omega) (by decide)
  simp only [List.nil_append, List.length_nil, Int.natCast_zero] at v2 v3
  refine ⟨v, v0, v1, v2, Evk.step v3 fun k hk R K => ?_⟩
  cases s with
  | nil =>
    have g : gtI ((([] : Bytes).length : Nat) : Int) 1 = false := gtI_f (by simp)
    simp only [G52.F, g, cond_false, G52.J2, G52.J3, hk]
  | cons b t =>
    by_cases hn : t = []
    · have g : gtI (((b :: t : Bytes).length : Nat) : Int) 1 = false := gtI_f (by subst hn; simp)
      simp only [G52.F, g, cond_false, G52.J2, G52.J3, hk]
    · have g : gtI (((b :: t : Bytes).length : Nat) : Int) 1 = true := gtI_t (by have := List.length_pos_iff.2 hn; rw [List.length_cons]; omega)
      have hb : (b == 45) = false := by
        rcases h with h | h
        · have := List.length_pos_iff.2 hn
          simp at h
          exact absurd h hn
        · rw [Bool.beq_comm]
          exact h
      have ei : inI 0 (((b :: t : Bytes).length : Nat) : Int) = true := inI_true (i := 0) (by simp)
      have eg : (b :: t : Bytes).getD (Int.toNat 0) 0 = b := rfl
      simp only [G52.F, g, cond_true, ei, eg, byte45, hb, G52.J2, cond_false, G52.J3, hk]
theorem num_neg {t : Bytes} (hl : t.length ≤ 1000000) (hne : t ≠ []) {v : Int} (h0 : -256000000000 ≤ v) (h1 : v ≤ 256000000000) (h : NumN t v) : NumN (45 :: t) (-v) := by
  refine Evk.step h fun k hk R K => ?_
  have g : gtI (((45 :: t : Bytes).length : Nat) : Int) 1 = true := gtI_t (by have := List.length_pos_iff.2 hne; rw [List.length_cons]; omega)
  have ei : inI 0 (((45 :: t : Bytes).length : Nat) : Int) = true := inI_true (i := 0) (by simp)
  have eg : (45 :: t : Bytes).getD (Int.toNat 0) 0 = 45 := rfl
  have e45 : ((45 : UInt8) == 45) = true := rfl
  have er : inR 1 (((45 :: t : Bytes).length : Nat) : Int) (((45 :: t : Bytes).length : Nat) : Int) = true := by
    have := inR_nat 1 (45 :: t : Bytes).length (45 :: t : Bytes).length
    have e1 : ((1 : Nat) : Int) = 1 := rfl
    rw [e1] at this
    rw [this]; simp
  have es : sub (45 :: t : Bytes) 1 (((45 :: t : Bytes).length : Nat) : Int) = t := by
    have := sub_nat (45 :: t : Bytes) 1 (45 :: t : Bytes).length
    have e1 : ((1 : Nat) : Int) = 1 := rfl
    rw [e1] at this
    rw [this]; simp
  have w : IntKind.i64.wrap (0 - v) = -v := by rw [wrap64 (by omega) (by omega)]; omega
  simp only [G52.F, g, cond_true, ei, eg, byte45, e45, G52.J2, er, es, hk, w]
theorem num_any : ∀ (n : Nat) (s : Bytes), s.length ≤ n → s.length ≤ 1000000 → ∃ v : Int, -256000000000 ≤ v ∧ v ≤ 256000000000 ∧ NumN s v
  | n, s, hn, hl => by
    by_cases h : s.length ≤ 1 ∨ hd 45 s = false
    · obtain ⟨v, v0, v1, _, v3⟩ := num_plain hl h
      exact ⟨v, by omega, v1, v3⟩
    · cases s with
      | nil => exact absurd (.inl (by simp)) h
      | cons b t =>
        have hb : hd 45 (b :: t) = true := by
          cases c : hd 45 (b :: t) with
          | true => rfl
          | false => exact absurd (.inr c) h
        have hb' : b = 45 := (beq_iff_eq.1 (show (45 == b) = true from hb)).symm
        have hne : t ≠ [] := fun e => h (.inl (by subst e; simp))
        simp only [List.length_cons] at hn hl
        cases n with
        | zero => omega
        | succ n =>
          obtain ⟨v, v0, v1, v2⟩ := num_any n t (by omega) (by omega)
          rw [hb']
          exact ⟨-v, by omega, by omega, num_neg (by omega) hne v0 v1 v2⟩
theorem nv_app : ∀ (a : Bytes) (m : Nat) (acc : Int) (b : UInt8), a.length + 1 ≤ m → nv m acc (a ++ [b]) = 10 * nv m acc a + dgt b
  | [], m + 1, acc, b, _ => by
    simp only [List.nil_append, nv]
    cases m <;> rfl
  | x :: a, m + 1, acc, b, h => by
    simp only [List.length_cons] at h
    simp only [List.cons_append, nv]
    exact nv_app a m _ b (by omega)
theorem dgt_of {d : Nat} (h : d < 10) : dgt (UInt8.ofNat (48 + d)) = (d : Int) := by
  unfold dgt
  rw [dig_toNat h]
  have : (((48 + d : Nat) : Int) - 48) = (d : Int) := by omega
  rw [this, wrap8_id (by omega) (by omega)]
theorem digits_short : ∀ (j u : Nat), u < 10 ^ j → 1 ≤ j → (decDigits u).length ≤ j
  | 0, u, _, h => by omega
  | j + 1, u, hu, _ => by
    unfold decDigits
    split
    · simp
    · rename_i h10
      have hj : 1 ≤ j := by
        cases j with
        | zero => simp at hu; omega
        | succ j => omega
      have : u / 10 < 10 ^ j := by
        rw [Nat.pow_succ] at hu
        omega
      have ih := digits_short j (u / 10) this hj
      simp
      omega
theorem nv_digits : ∀ u : Nat, u < 10 ^ 9 → nv 9 0 (decDigits u) = (u : Int)
  | u, hu => by
    unfold decDigits
    split
    · rename_i h10
      simp only [nv, dgt_of h10]
      omega
    · rename_i h10
      have h1 : u / 10 < 10 ^ 9 := by omega
      have h8 : u / 10 < 10 ^ 8 := by
        have : (10 : Nat) ^ 9 = 10 ^ 8 * 10 := rfl
        omega
      have hl := digits_short 8 (u / 10) h8 (by omega)
      rw [nv_app _ _ _ _ (by omega), nv_digits (u / 10) h1, dgt_of (by omega)]
      omega
termination_by u => u
decreasing_by omega
theorem digits_first (u : Nat) : hd 45 (decDigits u) = false := by
  cases h : decDigits u with
  | nil => rfl
  | cons b t =>
    have := digits_mem u b (by rw [h]; simp)
    simp only [hd]
    have hne : (45 : UInt8) ≠ b := fun e => by
      subst e
      have : (45 : UInt8).toNat = 45 := rfl
      omega
    simp [hne]
theorem num_itoa {n : Int} (h0 : -1 ≤ n) (h1 : n ≤ 1048576) : NumN (itoa n) n := by
  unfold itoa
  split
  · have e : n = -1 := by omega
    subst e
    have hd1 : decDigits (Int.natAbs (-1)) = [49] := by
      unfold decDigits
      decide
    rw [hd1]
    obtain ⟨v, v0, v1, v2, v3⟩ := num_plain (s := [49]) (by simp) (.inl (by simp))
    have hv : v = 1 := by rw [v2]; decide
    subst hv
    exact num_neg (by simp) (by simp) (by omega) (by omega) v3
  · have hu : n.toNat < 10 ^ 9 := by
      have : (10 : Nat) ^ 9 = 1000000000 := by decide
      omega
    have hlen := digits_short 9 n.toNat hu (by omega)
    obtain ⟨v, v0, v1, v2, v3⟩ := num_plain (s := decDigits n.toNat) (by omega) (.inr (digits_first _))
    rw [nv_digits _ hu] at v2
    have : v = n := by omega
    rw [this] at v3
    exact v3
/-! Numbers, written. -/
theorem digit_sub {d : Nat} (h : d < 10) : sub ([48, 49, 50, 51, 52, 53, 54, 55, 56, 57] : Bytes) ((d : Nat) : Int) ((d + 1 : Nat) : Int) = [UInt8.ofNat (48 + d)] := by
  have : d = 0 ∨ d = 1 ∨ d = 2 ∨ d = 3 ∨ d = 4 ∨ d = 5 ∨ d = 6 ∨ d = 7 ∨ d = 8 ∨ d = 9 := by omega
  rcases this with rfl | rfl | rfl | rfl | rfl | rfl | rfl | rfl | rfl | rfl <;> rfl
theorem dec_step {u : Nat} (hu : u < 1000000000000) (acc : Bytes) (ha : acc.length ≤ 1000) {R : Type} (k : Nat) (Kn : Int → Bytes → Option R) :
    G59.J5 k ((u : Nat) : Int) acc Kn = Kn ((u / 10 : Nat) : Int) (UInt8.ofNat (48 + u % 10) :: acc) := by
  have hm : Int.tmod ((u : Nat) : Int) 10 = ((u % 10 : Nat) : Int) := Int.ofNat_tmod u 10
  have hq : Int.tdiv ((u : Nat) : Int) 10 = ((u / 10 : Nat) : Int) := Int.ofNat_tdiv u 10
  have hw : IntKind.i64.wrap (((u % 10 : Nat) : Int) + 1) = ((u % 10 + 1 : Nat) : Int) := next_nat (by simp only [BIG]; omega)
  have hw2 : IntKind.i64.wrap ((u / 10 : Nat) : Int) = ((u / 10 : Nat) : Int) := wrap64 (by omega) (by omega)
  have er : inR ((u % 10 : Nat) : Int) ((u % 10 + 1 : Nat) : Int) ((([48, 49, 50, 51, 52, 53, 54, 55, 56, 57] : Bytes).length : Nat) : Int) = true := by
    rw [inR_nat]
    have : ([48, 49, 50, 51, 52, 53, 54, 55, 56, 57] : Bytes).length = 10 := rfl
    rw [this]
    simp
    omega
  have es := digit_sub (d := u % 10) (by omega)
  have l1 : leN (([UInt8.ofNat (48 + u % 10)] : Bytes).length + acc.length) LIM = true := lim (by simp; omega)
  simp only [G59.J5, hm, hq, hw, er, es, l1, hw2, cond_true]
  rfl
theorem dec_loop : ∀ (u : Nat) (acc : Bytes), u < 1000000000000 → acc.length + (decDigits u).length ≤ 1000 → acc ≠ [] → u ≠ 0 → Evk fun k => ∀ (R : Type) (K0 : Bytes → Option R), G59.L4 k ((u : Nat) : Int) acc K0 = K0 (decDigits u ++ acc)
  | u, acc, hu, ha, hne, h0 => by
    have g : gtI ((u : Nat) : Int) 0 = true := gtI_t (by omega)
    have hE : ∀ (acc : Bytes), acc ≠ [] → Evk fun k => ∀ (R : Type) (K0 : Bytes → Option R), G59.L4 k 0 acc K0 = K0 acc := fun acc hne => Evk.one fun k R K0 => by
      have g0 : gtI 0 0 = false := by decide
      simp only [G59.L4, g0, eqS_f hne, cond_false]
    have hd : decDigits u = if u < 10 then [UInt8.ofNat (48 + u)] else decDigits (u / 10) ++ [UInt8.ofNat (48 + u % 10)] := by
      conv => lhs; unfold decDigits
      split <;> rfl
    rw [hd] at ha ⊢
    by_cases h10 : u < 10
    · rw [if_pos h10] at ha ⊢
      simp only [List.length_singleton] at ha
      have hq : u / 10 = 0 := by omega
      have hr : u % 10 = u := by omega
      refine Evk.step (hE (UInt8.ofNat (48 + u) :: acc) (by simp)) fun k hk R K0 => ?_
      simp only [G59.L4, g, cond_true, dec_step hu acc (by omega), hq, hr, Int.natCast_zero, hk]
      rfl
    · rw [if_neg h10] at ha ⊢
      simp only [List.length_append, List.length_singleton] at ha
      have ih := dec_loop (u / 10) (UInt8.ofNat (48 + u % 10) :: acc) (by omega) (by simp; omega) (by simp) (by omega)
      refine Evk.step ih fun k hk R K0 => ?_
      simp only [G59.L4, g, cond_true, dec_step hu acc (by omega), hk]
      simp
termination_by u => u
decreasing_by omega
theorem dec_nat {u : Nat} (hu : u < 1000000000000) : Evk fun k => ∀ (R : Type) (K0 : Bytes → Option R), G59.L4 k ((u : Nat) : Int) [] K0 = K0 (decDigits u) := by
  have hlen := digits_short 12 u hu (by omega)
  have hE : ∀ (acc : Bytes), acc ≠ [] → Evk fun k => ∀ (R : Type) (K0 : Bytes → Option R), G59.L4 k 0 acc K0 = K0 acc := fun acc hne => Evk.one fun k R K0 => by
    have g0 : gtI 0 0 = false := by decide
    simp only [G59.L4, g0, eqS_f hne, cond_false]
  by_cases h0 : u = 0
  · subst h0
    have hd : decDigits 0 = [48] := by
      unfold decDigits
      decide
    rw [hd]
    refine Evk.step (hE [48] (by simp)) fun k hk R K0 => ?_
    have g0 : gtI ((0 : Nat) : Int) 0 = false := by decide
    have s := dec_step (R := R) (u := 0) (by omega) [] (by simp) k (fun y5 y6 => G59.L4 k y5 y6 K0)
    have e48 : UInt8.ofNat (48 + 0 % 10) = 48 := rfl
    simp only [G59.L4, g0, eq_self, cond_true, cond_false, s, e48]
    exact hk R K0
  · have g : gtI ((u : Nat) : Int) 0 = true := gtI_t (by omega)
    have hd : decDigits u = if u < 10 then [UInt8.ofNat (48 + u)] else decDigits (u / 10) ++ [UInt8.ofNat (48 + u % 10)] := by
      conv => lhs; unfold decDigits
      split <;> rfl
    rw [hd] at hlen ⊢
    by_cases h10 : u < 10
    · rw [if_pos h10]
      have hq : u / 10 = 0 := by omega
      have hr : u % 10 = u := by omega
      refine Evk.step (hE [UInt8.ofNat (48 + u)] (by simp)) fun k hk R K0 => ?_
      simp only [G59.L4, g, cond_true, dec_step hu [] (by simp), hq, hr, Int.natCast_zero, hk]
    · rw [if_neg h10] at hlen ⊢
      simp only [List.length_append, List.length_singleton] at hlen
      have ih := dec_loop (u / 10) [UInt8.ofNat (48 + u % 10)] (by omega) (by simp; omega) (by simp) (by omega)
      refine Evk.step ih fun k hk R K0 => ?_
      simp only [G59.L4, g, cond_true, dec_step hu [] (by simp), hk]
theorem decimal59 {n : Int} (h0 : -256000000000 ≤ n) (h1 : n ≤ 256000000000) : Evk fun k => ∀ (R : Type) (K : Bytes → Option R), G59.F k n K = K (itoa n) := by
  have pos : ∀ m : Int, 0 ≤ m → m ≤ 256000000000 → Evk fun k => ∀ (R : Type) (K : Bytes → Option R), G59.F k m K = K (decDigits m.toNat) := fun m m0 m1 => by
    have h := dec_nat (u := m.toNat) (by omega)
    have e : ((m.toNat : Nat) : Int) = m := by omega
    rw [e] at h
    have hlt : ¬ m < 0 := by omega
    exact Evk.step h fun k hk R K => by simp only [G59.F, ltI_f hlt, cond_false, hk]
  unfold itoa
  split
  · rename_i hneg
    have hw : IntKind.i64.wrap (0 - n) = -n := by rw [wrap64 (by omega) (by omega)]; omega
    have ha : (-n).toNat = n.natAbs := by omega
    have hp := pos (-n) (by omega) (by omega)
    rw [ha] at hp
    have hlen := digits_short 12 n.natAbs (by have : (10 : Nat) ^ 12 = 1000000000000 := by decide
                                              omega) (by omega)
    refine Evk.step hp fun k hk R K => ?_
    have l1 : leN (([45] : Bytes).length + (decDigits n.natAbs).length) LIM = true := lim (by simp; omega)
    simp only [G59.F, ltI_t hneg, cond_true, hw, hk, l1]
    rfl
  · exact pos n (by omega) h1
/-! A quoted word. -/
def us2 : Bytes → Bytes
  | [] => []
  | [b] => [b]
  | b :: c :: t => if b = 92 then c :: us2 t else b :: us2 (c :: t)
theorem us2_esc : ∀ v : Bytes, us2 (esc v) = v
  | [] => rfl
  | b :: v => by
    have ih := us2_esc v
    rw [esc_cons]
    unfold escB
    split
    · rename_i h; subst h; simp [us2, ih]
    · split
      · rename_i h; subst h; simp [us2, ih]
      · rename_i h1 h2
        cases he : esc v with
        | nil =>
          rw [he] at ih
          simp only [us2] at ih
          subst ih
          simp [us2]
        | cons c t => rw [he] at ih; simp [us2, h1, ih]
theorem us2_len : ∀ (n : Nat) (t : Bytes), t.length ≤ n → (us2 t).length ≤ t.length
  | _, [], _ => by simp [us2]
  | _, [b], _ => by simp [us2]
  | 0, b :: c :: t, h => by simp at h
  | n + 1, b :: c :: t, h => by
    simp only [List.length_cons] at h
    simp only [us2]
    split
    · have := us2_len n t (by omega); simp; omega
    · have := us2_len n (c :: t) (by simp; omega); simp at this ⊢; omega
theorem unq2_loop : ∀ (n : Nat) (t pre acc : Bytes) (z : UInt8), t.length ≤ n → acc.length ≤ pre.length → pre.length + t.length ≤ 100000000 → Evk fun k => ∀ (R : Type) (K0 : Bytes → Option R),
    G53.L3 k (pre ++ (t ++ [z])) acc (pre.length : Nat) K0 = K0 (acc ++ us2 t)
  | _, [], pre, acc, z, _, _, hl => by
    simp at hl
    refine Evk.one fun k R K0 => ?_
    have w : IntKind.i64.wrap (((pre.length : Nat) : Int) + 1) = ((pre.length + 1 : Nat) : Int) := next_nat (by simp only [BIG]; omega)
    have e : ¬ (((pre.length + 1 : Nat) : Int) < (((pre ++ ([] ++ [z])).length : Nat) : Int)) := by simp
    simp only [G53.L3, w, ltI_f e, cond_false, us2, List.append_nil]
  | 0, b :: t, pre, acc, z, hn, _, _ => by simp at hn
  | n + 1, b :: t, pre, acc, z, hn, ha, hl => by
    simp only [List.length_cons] at hl hn
    have ec : pre ++ (b :: t ++ [z]) = pre ++ b :: (t ++ [z]) := by simp
    rw [ec]
    have w1 : IntKind.i64.wrap (((pre.length : Nat) : Int) + 1) = ((pre.length + 1 : Nat) : Int) := next_nat (by simp only [BIG]; omega)
    have w2 : IntKind.i64.wrap (((pre.length : Nat) : Int) + 2) = ((pre.length + 2 : Nat) : Int) := by rw [wrap64 (by omega) (by omega)]; omega
    have e : ((pre.length + 1 : Nat) : Int) < (((pre ++ b :: (t ++ [z])).length : Nat) : Int) := by simp; omega
    have ei : inI ((pre.length : Nat) : Int) (((pre ++ b :: (t ++ [z])).length : Nat) : Int) = true := inI_true (by simp)
    have er : inR ((pre.length : Nat) : Int) ((pre.length + 1 : Nat) : Int) (((pre ++ b :: (t ++ [z])).length : Nat) : Int) = true := by rw [inR_nat]; simp
    have l1 : ∀ c : UInt8, leN (acc.length + ([c] : Bytes).length) LIM = true := fun c => lim (by simp; omega)
    have step1 : ∀ (hu : us2 (b :: t) = b :: us2 t), (∀ k (R : Type) (K0 : Bytes → Option R), G53.L3 (k + 1) (pre ++ b :: (t ++ [z])) acc (pre.length : Nat) K0 = G53.J7 k (pre ++ b :: (t ++ [z])) acc ((pre.length : Nat) : Int) fun y7 y8 y9 => G53.L3 k y7 y8 (IntKind.i64.wrap (y9 + 1)) K0) →
        Evk fun k => ∀ (R : Type) (K0 : Bytes → Option R), G53.L3 k (pre ++ b :: (t ++ [z])) acc (pre.length : Nat) K0 = K0 (acc ++ us2 (b :: t)) := by
      intro hu hst
      have ih := unq2_loop n t (pre ++ [b]) (acc ++ [b]) z (by omega) (by simp; omega) (by simp; omega)
      rw [snoc pre b (t ++ [z]), snoc_len] at ih
      refine Evk.step ih fun k hk R K0 => ?_
      rw [hst]
      simp only [G53.J7, w1, er, one_at, l1, cond_true, hk, hu]
      simp
    by_cases h2 : b = 92
    · have e92 : (b == 92) = true := by simp [h2]
      cases t with
      | nil =>
        have e2 : ¬ (((pre.length + 2 : Nat) : Int) < (((pre ++ b :: ([] ++ [z])).length : Nat) : Int)) := by simp
        exact step1 (by simp [us2]) fun k R K0 => by
          simp only [G53.L3, w1, w2, ltI_t e, ltI_f e2, ei, getD_at, byte92, e92, cond_true, cond_false]
      | cons c t =>
        simp only [List.length_cons] at hl hn
        have e2 : ((pre.length + 2 : Nat) : Int) < (((pre ++ b :: (c :: t ++ [z])).length : Nat) : Int) := by simp; omega
        have ih := unq2_loop n t (pre ++ [b, c]) (acc ++ [c]) z (by omega) (by simp; omega) (by simp; omega)
        have el : (pre ++ [b, c]).length = pre.length + 2 := by simp
        have ea : pre ++ [b, c] ++ (t ++ [z]) = pre ++ b :: (c :: t ++ [z]) := by simp
        rw [el, ea] at ih
        have w3 : IntKind.i64.wrap (((pre.length + 1 : Nat) : Int) + 1) = ((pre.length + 2 : Nat) : Int) := next_nat (by simp only [BIG]; omega)
        have er2 : inR ((pre.length + 1 : Nat) : Int) ((pre.length + 2 : Nat) : Int) (((pre ++ b :: (c :: t ++ [z])).length : Nat) : Int) = true := by rw [inR_nat]; simp
        have es : sub (pre ++ b :: (c :: t ++ [z])) ((pre.length + 1 : Nat) : Int) ((pre.length + 2 : Nat) : Int) = [c] := by
          have := one_at (pre ++ [b]) c (t ++ [z])
          rw [snoc pre b (c :: (t ++ [z])), snoc_len] at this
          exact this
        refine Evk.step ih fun k hk R K0 => ?_
        simp only [G53.L3, G53.J7, w1, w2, ltI_t e, ltI_t e2, ei, getD_at, byte92, e92, cond_true, w3, er2, es, l1, hk]
        simp [us2, h2]
    · have e92 : (b == 92) = false := by simp [h2]
      have hu : us2 (b :: t) = b :: us2 t := by
        cases t with
        | nil => simp [us2]
        | cons c t => simp [us2, h2]
      exact step1 hu fun k R K0 => by
        simp only [G53.L3, w1, ltI_t e, ei, getD_at, byte92, e92, cond_true, cond_false]
def uq2 : Bytes → Bytes
  | [] => []
  | _ :: t => us2 t.dropLast
theorem uq2_quote (v : Bytes) : uq2 (quoteS v) = v := by
  have : quoteS v = 34 :: (esc v ++ [34]) := by simp [quoteS]
  rw [this]
  simp [uq2, us2_esc]
theorem uq2_len (s : Bytes) : (uq2 s).length ≤ s.length := by
  cases s with
  | nil => simp [uq2]
  | cons b t =>
    have := us2_len _ t.dropLast (Nat.le_refl _)
    simp [uq2] at this ⊢
    omega
theorem unquoted53 {s : Bytes} (hs : s.length ≤ 10000000) : Evk fun k => ∀ (R : Type) (K : Bytes → Option R), G53.F k s K = K (uq2 s) := by
  have hl : Evk fun k => ∀ (R : Type) (K0 : Bytes → Option R), G53.L3 k s [] 1 K0 = K0 (uq2 s) := by
    by_cases h : s.length ≤ 2
    · have e : uq2 s = [] := by
        match s, h with
        | [], _ => rfl
        | [a], _ => rfl
        | [a, b], _ => rfl
      rw [e]
      refine Evk.one fun k R K0 => ?_
      have w : IntKind.i64.wrap (1 + 1) = 2 := by decide
      have e : ¬ ((2 : Int) < ((s.length : Nat) : Int)) := by omega
      simp only [G53.L3, w, ltI_f e, cond_false]
    · match s, h, hs with
      | b :: t, h, hs =>
        simp only [List.length_cons] at h hs
        have ht : t ≠ [] := fun e => by subst e; simp at h
        have e1 : b :: t = [b] ++ (t.dropLast ++ [t.getLast ht]) := by simp [List.dropLast_concat_getLast]
        have := unq2_loop t.dropLast.length t.dropLast [b] [] (t.getLast ht) (Nat.le_refl _) (by simp) (by simp; omega)
        rw [← e1] at this
        simpa [uq2] using this
  exact Evk.step hl fun k hk R K => by simp only [G53.F, hk]
end Go.Dip
end
/- Plain facts of the wire laws: is a step right, by the program and by the document's answer: the same. -/
section
set_option linter.unusedVariables false
set_option linter.unusedSimpArgs false
namespace Go.Dip
open Go.Lib
/-! Neighbours joined. -/
def jn (out : List Nd) : List Nd → List Nd
  | [] => out
  | n :: l => if n.kind = TEXT ∧ n.text = [] then jn out l else match out.getLast? with
    | none => jn (out ++ [n]) l
    | some p => if n.kind = TEXT ∧ p.kind = TEXT ∧ p.marks = n.marks then jn (out.dropLast ++ [.mk n.kind (p.text ++ n.text) n.marks n.attrs n.kids]) l else jn (out ++ [n]) l
theorem wts_app : ∀ a b : List Nd, Nd.wts (a ++ b) = Nd.wts a + Nd.wts b
  | [], b => by simp [Nd.wts]
  | n :: a, b => by simp only [List.cons_append, Nd.wts, wts_app a b]; omega
theorem wt_eq (n : Nd) : n.wt = 1 + n.kind.length + n.text.length + markW n.marks + attrW n.attrs + Nd.wts n.kids := by cases n; simp only [Nd.wt, Nd.kind, Nd.text, Nd.marks, Nd.attrs, Nd.kids]
theorem jn_wts : ∀ (l out : List Nd), Nd.wts (jn out l) ≤ Nd.wts out + Nd.wts l
  | [], out => by simp [jn, Nd.wts]
  | n :: l, out => by
    simp only [jn, Nd.wts]
    split
    · have := jn_wts l out; omega
    · split
      · have := jn_wts l (out ++ [n])
        rw [wts_app] at this
        simp only [Nd.wts] at this
        omega
      · rename_i p hp
        split
        · obtain ⟨out', rfl⟩ : ∃ out', out = out' ++ [p] := by
            rcases List.eq_nil_or_concat out with rfl | ⟨o, q, rfl⟩
            · simp at hp
            · rw [List.concat_eq_append] at hp ⊢
              simp at hp
              exact ⟨o, by rw [hp]⟩
          have := jn_wts l ((out' ++ [p]).dropLast ++ [.mk n.kind (p.text ++ n.text) n.marks n.attrs n.kids])
          rw [wts_app] at this ⊢
          simp only [List.dropLast_concat, Nd.wts, Nd.wt, List.length_append] at this ⊢
          rw [wt_eq p, wt_eq n]
          omega
        · have := jn_wts l (out ++ [n])
          rw [wts_app] at this
          simp only [Nd.wts] at this
          omega
theorem formed_text {n : Nd} (h : n.formed = true) : ¬ (n.kind = TEXT ∧ n.text = []) := by
  obtain ⟨k, t, m, a, ks⟩ := n
  rintro ⟨h1, h2⟩
  simp only [Nd.kind, Nd.text] at h1 h2
  simp only [Nd.formed, eqS_t h1, eqS_t h2, cond_true, Bool.not_true, Bool.false_and] at h
  cases h
theorem jn_formed : ∀ (l out : List Nd), Nd.formeds out.getLast? l = true → jn out l = out ++ l
  | [], out, _ => by simp [jn]
  | n :: l, out, h => by
    simp only [Nd.formeds, Bool.and_eq_true] at h
    obtain ⟨h1, h2, h3⟩ := h
    simp only [jn, if_neg (formed_text h1)]
    have hs : (out ++ [n]).getLast? = some n := by simp
    have ih := jn_formed l (out ++ [n]) (by rw [hs]; exact h3)
    cases hp : out.getLast? with
    | none => simp only [ih]; simp
    | some p =>
      rw [hp] at h2
      have hna : ¬ (n.kind = TEXT ∧ p.kind = TEXT ∧ p.marks = n.marks) := by
        rintro ⟨a1, a2, a3⟩
        simp only [alikeB, eqS_t a1, eqS_t a2, decide_eq_true a3] at h2
        cases h2
      simp only [if_neg hna, ih]
      simp
theorem join55_loop : ∀ (rest pre out : List Nd), pre.length + rest.length ≤ 1000000000 → out.length ≤ pre.length → Nd.wts out + Nd.wts rest ≤ SM → Evk fun k => ∀ (R : Type) (K0 : List PV → Option R), G55.L3 k (Nd.pvs (pre ++ rest)) (pre.length : Nat) (Nd.pvs out) K0 = K0 (Nd.pvs (jn out rest))
  | [], pre, out, _, _, _ => Evk.one fun k R K0 => by
    have e : ¬ (((pre.length : Nat) : Int) < (((Nd.pvs (pre ++ [])).length : Nat) : Int)) := by simp [pvs_length]
    simp only [G55.L3, ltI_f e, cond_false, jn]
  | n :: rest, pre, out, hl, ho, hw => by
    have e : ((pre.length : Nat) : Int) < (((Nd.pvs (pre ++ n :: rest)).length : Nat) : Int) := by simp [pvs_length]; omega
    have ei : inI ((pre.length : Nat) : Int) (((Nd.pvs (pre ++ n :: rest)).length : Nat) : Int) = true := inI_true (by simp [pvs_length])
    simp only [List.length_cons] at hl
    simp only [Nd.wts] at hw
    have nx := next_nat (show pre.length ≤ BIG by simp only [BIG]; omega)
    have l1 : leN ((Nd.pvs out).length + 1) LIM = true := lim (by rw [pvs_length]; omega)
    have hpush : Nd.pvs out ++ [PV.agg [.str n.kind, .str n.text, .sl 1 (strs n.marks), .sl 2 (n.attrs.map attrPV), .sl 5 (Nd.pvs n.kids)]] = Nd.pvs (out ++ [n]) := by rw [pv_eq, pvs_snoc]
    have ihA := join55_loop rest (pre ++ [n]) (out ++ [n]) (by simp; omega) (by simp; omega) (by rw [wts_app]; simp only [Nd.wts]; omega)
    rw [snoc pre n rest, snoc_len] at ihA
    by_cases ht : n.kind = TEXT
    · by_cases hz : n.text = []
      · have hj : jn out (n :: rest) = jn out rest := by simp only [jn, if_pos (And.intro ht hz)]
        have ih := join55_loop rest (pre ++ [n]) out (by simp; omega) (by simp; omega) (by omega)
        rw [snoc pre n rest, snoc_len] at ih
        rw [hj]
        refine Evk.step ih fun k hk R K0 => ?_
        simp only [G55.L3, ltI_t e, ei, cond_true, pat_nodes, nd0, nd1, isStr_str, strOf_str, eqS_t ht, eqS_t hz, nx, hk]
      · have hcond : ¬ (n.kind = TEXT ∧ n.text = []) := fun h => hz h.2
        rcases List.eq_nil_or_concat out with rfl | ⟨out', p, hp⟩
        · have hj : jn [] (n :: rest) = jn ([] ++ [n]) rest := by simp only [jn, if_neg hcond, List.getLast?_nil]
          rw [hj]
          have w : IntKind.i64.wrap ((((Nd.pvs []).length : Nat) : Int) - 1) = -1 := by decide
          have g : geI (-1) 0 = false := by decide
          refine Evk.step ihA fun k hk R K0 => ?_
          simp only [G55.L3, G55.J8, G55.J9, ltI_t e, ei, cond_true, pat_nodes, nd0, nd1, nd2, nd3, nd4, isStr_str, strOf_str, eqS_t ht, eqS_f hz, cond_false, w, g, l1, hpush, nx, hk]
        · have hp : out = out' ++ [p] := by rw [hp, List.concat_eq_append]
          have hol : out.length = out'.length + 1 := by rw [hp]; simp
          have hla : out.getLast? = some p := by rw [hp]; simp
          have w : IntKind.i64.wrap ((((Nd.pvs out).length : Nat) : Int) - 1) = ((out'.length : Nat) : Int) := by rw [pvs_length, wrap64 (by omega) (by omega)]; omega
          have g : geI ((out'.length : Nat) : Int) 0 = true := geI_t (by omega)
          have ei' : inI ((out'.length : Nat) : Int) (((Nd.pvs out).length : Nat) : Int) = true := inI_true (by rw [pvs_length]; omega)
          have ep : pat (Nd.pvs out) ((out'.length : Nat) : Int) = p.pv := by rw [hp]; exact pat_nodes out' p []
          have hwp : p.wt ≤ SM := by
            have : Nd.wts out = Nd.wts out' + p.wt := by rw [hp, wts_app]; simp [Nd.wts]
            omega
          have hwn : n.wt ≤ SM := by omega
          by_cases hpt : p.kind = TEXT
          · have hpm : p.marks.length ≤ 1000000000 := by
              have := markW_len p.marks
              have := wt_eq p
              simp only [SM] at hwp
              omega
            have hN := namesE (l := p.marks) (m := n.marks) hpm
            by_cases hm : p.marks = n.marks
            · have d : decide (p.marks = n.marks) = true := decide_eq_true hm
              rw [d] at hN
              have hj : jn out (n :: rest) = jn (out' ++ [.mk n.kind (p.text ++ n.text) n.marks n.attrs n.kids]) rest := by
                simp only [jn, if_neg hcond, hla, if_pos (And.intro ht (And.intro hpt hm))]
                rw [hp]
                simp
              rw [hj]
              have hwo : Nd.wts out = Nd.wts out' + p.wt := by rw [hp, wts_app]; simp [Nd.wts]
              have hww : Nd.wts (out' ++ [.mk n.kind (p.text ++ n.text) n.marks n.attrs n.kids]) + Nd.wts rest ≤ SM := by
                rw [wts_app]
                simp only [Nd.wts, Nd.wt, List.length_append]
                have := wt_eq p
                have := wt_eq n
                omega
              have ih := join55_loop rest (pre ++ [n]) (out' ++ [.mk n.kind (p.text ++ n.text) n.marks n.attrs n.kids]) (by simp; omega) (by simp; omega) hww
              rw [snoc pre n rest, snoc_len] at ih
              have hlp : p.text.length + n.text.length ≤ 1099511627776 := by
                have := wt_eq p
                have := wt_eq n
                simp only [SM] at hwp hwn
                omega
              have r0 : inR 0 ((out'.length : Nat) : Int) (((Nd.pvs out).length : Nat) : Int) = true := by
                have := inR_nat 0 out'.length (Nd.pvs out).length
                rw [Int.natCast_zero] at this
                rw [this, pvs_length]
                simp
                omega
              have hsub : sub (Nd.pvs out) 0 ((out'.length : Nat) : Int) = Nd.pvs out' := by
                have := sub_nat (Nd.pvs out) 0 out'.length
                rw [Int.natCast_zero] at this
                rw [this, hp]
                simp [Nd.pvs_map]
              have l2 : leN (0 + (Nd.pvs out').length) LIM = true := lim (by rw [pvs_length]; omega)
              have l3 : leN (([] ++ Nd.pvs out').length + 1) LIM = true := lim (by rw [List.nil_append, pvs_length]; omega)
              have hpush2 : ([] ++ Nd.pvs out') ++ [PV.agg [.str n.kind, .str (p.text ++ n.text), .sl 1 (strs n.marks), .sl 2 (n.attrs.map attrPV), .sl 5 (Nd.pvs n.kids)]] = Nd.pvs (out' ++ [.mk n.kind (p.text ++ n.text) n.marks n.attrs n.kids]) := by
                rw [List.nil_append, ← pvs_snoc]
                simp [Nd.pv]
              refine Evk.step (ih.and hN) fun k hk R K0 => ?_
              simp only [G55.L3, G55.J8, G55.J9, ltI_t e, ei, cond_true, pat_nodes, nd0, nd1, nd2, nd3, nd4, isStr_str, strOf_str, isSl_self, slOf_sl, eqS_t ht, eqS_f hz, cond_false, w, g, ei', ep, eqS_t hpt, Bool.and_self, hk.2, lim hlp, r0, hsub, l2, l3, hpush2, nx, hk.1]
            · have d : decide (p.marks = n.marks) = false := decide_eq_false hm
              rw [d] at hN
              have hj : jn out (n :: rest) = jn (out ++ [n]) rest := by
                simp only [jn, if_neg hcond, hla, if_neg (fun h : n.kind = TEXT ∧ p.kind = TEXT ∧ p.marks = n.marks => hm h.2.2)]
              rw [hj]
              refine Evk.step (ihA.and hN) fun k hk R K0 => ?_
              simp only [G55.L3, G55.J8, G55.J9, ltI_t e, ei, cond_true, pat_nodes, nd0, nd1, nd2, nd3, nd4, isStr_str, strOf_str, isSl_self, slOf_sl, eqS_t ht, eqS_f hz, cond_false, w, g, ei', ep, eqS_t hpt, Bool.and_self, hk.2, l1, hpush, nx, hk.1]
          · have hj : jn out (n :: rest) = jn (out ++ [n]) rest := by
              simp only [jn, if_neg hcond, hla, if_neg (fun h : n.kind = TEXT ∧ p.kind = TEXT ∧ p.marks = n.marks => hpt h.2.1)]
            rw [hj]
            refine Evk.step ihA fun k hk R K0 => ?_
            simp only [G55.L3, G55.J8, G55.J9, ltI_t e, ei, cond_true, pat_nodes, nd0, nd1, nd2, nd3, nd4, isStr_str, strOf_str, eqS_t ht, eqS_f hz, cond_false, w, g, ei', ep, eqS_f hpt, l1, hpush, nx, hk]
    · have hcond : ¬ (n.kind = TEXT ∧ n.text = []) := fun h => ht h.1
      have hj : jn out (n :: rest) = jn (out ++ [n]) rest := by
        simp only [jn, if_neg hcond]
        cases out.getLast? with
        | none => rfl
        | some p => simp only [if_neg (fun h : n.kind = TEXT ∧ p.kind = TEXT ∧ p.marks = n.marks => ht h.1)]
      rw [hj]
      refine Evk.step ihA fun k hk R K0 => ?_
      simp only [G55.L3, G55.J8, G55.J9, ltI_t e, ei, cond_true, pat_nodes, nd0, nd1, nd2, nd3, nd4, isStr_str, strOf_str, eqS_f ht, cond_false, l1, hpush, nx, hk]
theorem join55 {l : List Nd} (h : Nd.wts l ≤ SM) : Evk fun k => ∀ (R : Type) (K : List PV → Option R), G55.F k (Nd.pvs l) K = K (Nd.pvs (jn [] l)) := by
  have hl := Nd.len_wts l
  have := join55_loop l [] [] (by simp only [SM] at h; simp; omega) (by simp) (by simpa [Nd.wts] using h)
  simp only [List.nil_append, List.length_nil, Int.natCast_zero] at this
  have e : Nd.pvs [] = [] := rfl
  rw [e] at this
  exact Evk.step this fun k hk R K => by simp only [G55.F, hk]
/-! Is a step right? -/
def spanB (s : Stp) : Bool := geI s.frm 0 && (leI s.frm s.upto && leI s.upto 1048576)
def rightB (s : Stp) : Bool :=
  bif eqI s.kind 114 then spanB s && ((Nd.x s.nodes).formed && (eqS s.name [] && eqS s.value []))
  else bif eqI s.kind 97 then geI s.frm (-1) && (leI s.frm 1048576 && (eqI s.upto 0 && (nameB s.name && (valueB s.value && decide (s.nodes = [])))))
  else (eqI s.kind 109 || eqI s.kind 117) && (spanB s && (nameB s.name && (decide (s.nodes = []) && eqS s.value [])))
theorem nodes_nil (l : List Nd) : eqI (((Nd.pvs l).length : Nat) : Int) 0 = decide (l = []) := by
  rw [pvs_length]
  by_cases h : l = []
  · rw [decide_eq_true h, len0.2 h]
  · rw [decide_eq_false h]; exact eqI_f (by have := List.length_pos_iff.2 h; omega)
theorem app_nil2 (a b : Bytes) : eqS (a ++ b) [] = (eqS a [] && eqS b []) := by
  cases a with
  | nil =>
    have : eqS ([] : Bytes) [] = true := rfl
    rw [this, List.nil_append, Bool.true_and]
  | cons x a => rfl
theorem check_eq2 (n : Nd) : eqI n.check 2 = !n.formed := by
  cases h : n.formed with
  | false => exact eqI_t (check_two.2 h)
  | true => exact eqI_f fun e => by rw [check_two.1 e] at h; cases h
theorem x_formed (l : List Nd) : (Nd.x l).formed = Nd.formeds none l := by
  have e : eqS ([120] : Bytes) TEXT = false := by decide
  have n : nameB ([120] : Bytes) = true := by decide
  have z : eqS ([] : Bytes) [] = true := rfl
  simp only [Nd.x, Nd.formed, e, cond_false, n, z, Bool.true_and, List.all_nil, List.map_nil, riseB]
  simp
section
variable {x3 x4 x5 : PV}
theorem right_tail (s : Stp) (x1 : Bool) (hn : s.name.length ≤ 1000000000) : Evk fun k => ∀ (R : Type) (Kr : Bool → Option R) (Kn : Option R),
    G17.J10 k x1 true x3 x4 x5 (.sl 5 (Nd.pvs s.nodes)) (.str s.name) (.str s.value) Kr Kn = Kr (x1 && (nameB s.name && (decide (s.nodes = []) && eqS s.value []))) ∧
    G32.J9 k x1 true x3 x4 x5 (.sl 5 (Nd.pvs s.nodes)) (.str s.name) (.str s.value) Kr Kn = Kr (x1 && (nameB s.name && (decide (s.nodes = []) && eqS s.value []))) := by
  refine ((name_spec hn).and (name57 hn)).mono fun k hk R Kr Kn => ?_
  simp only [G17.J10, G32.J9, cond_true, isStr_str, strOf_str, isSl_self, slOf_sl, Bool.and_self, hk.1, hk.2, nodes_nil]
  cases x1 <;> cases nameB s.name <;> cases decide (s.nodes = []) <;> exact ⟨rfl, rfl⟩
end
theorem rightE_part (s : Stp) (x1 : Bool) (hw : 2 + Nd.wts s.nodes ≤ SM) (hn : s.name.length ≤ 1000000000) (hv : s.value.length ≤ 1000000000) (hx : x1 = spanB s) : Evk fun k => ∀ (R : Type) (Kr : Bool → Option R),
    G17.J2 k x1 (.int .u8 s.kind) (.int .i64 s.frm) (.int .i64 s.upto) (.sl 5 (Nd.pvs s.nodes)) (.str s.name) (.str s.value) Kr = Kr (rightB s) ∧
    G32.J2 k x1 (.int .u8 s.kind) (.int .i64 s.frm) (.int .i64 s.upto) (.sl 5 (Nd.pvs s.nodes)) (.str s.name) (.str s.value) Kr = Kr (rightB s) := by
  by_cases c1 : s.kind = 114
  · have hx' : (Nd.x s.nodes).pv = PV.agg [PV.str ([120] : Bytes), PV.str [], PV.sl 1 [], PV.sl 2 [], PV.sl 5 (Nd.pvs s.nodes)] := by simp [Nd.x, Nd.pv, strs]
    have hc := check_is (n := Nd.x s.nodes) (by rw [x_wt]; exact hw)
    unfold CheckN at hc
    rw [hx'] at hc
    have hF := (formE (Nd.x s.nodes) (by rw [x_wt]; exact hw)).mono fun k hk R K => (hk R K).2
    rw [hx'] at hF
    have hJ := join55 (l := s.nodes) (by omega)
    obtain ⟨o, o1, o2⟩ := sameAll_spec (l := jn [] s.nodes) (m := s.nodes) (by have := jn_wts s.nodes []; simp only [Nd.wts] at this; omega)
    have ho : (Nd.x s.nodes).formed = true → o = true := fun h => o1.2 (by
      rw [x_formed] at h
      have := jn_formed s.nodes [] (by simpa using h)
      simpa using this)
    refine (Evk.and hc ((hF.and hJ).and o2)).mono fun k hk R Kr => ?_
    have l : leN (s.name.length + s.value.length) LIM = true := lim (by omega)
    unfold rightB
    rw [← hx]
    simp only [G17.J2, G32.J2, isInt_int, intOf_int, isOne_sl, isStr_str, strOf_str, isSl_self, slOf_sl, Bool.and_self, eqI_t c1, cond_true, hk.1, hk.2.1.1, hk.2.1.2, hk.2.2, check_eq2, Bool.not_not, l, app_nil2]
    cases x1 with
    | false => exact ⟨rfl, rfl⟩
    | true =>
      simp only [cond_true, Bool.true_and]
      cases hf : (Nd.x s.nodes).formed with
      | false => exact ⟨rfl, by cases o <;> rfl⟩
      | true =>
        rw [ho hf]
        exact ⟨rfl, by cases eqS s.name [] <;> rfl⟩
  · by_cases c2 : s.kind = 97
    · refine (((name_spec hn).and (name57 hn)).and ((value_spec hv).and (value58 hv))).mono fun k hk R Kr => ?_
      unfold rightB
      simp only [G17.J2, G32.J2, isInt_int, intOf_int, isStr_str, strOf_str, isSl_self, slOf_sl, Bool.and_self, eqI_f c1, eqI_t c2, cond_true, cond_false, hk.1.1, hk.1.2, hk.2.1, hk.2.2, nodes_nil]
      cases geI s.frm (-1) <;> cases leI s.frm 1048576 <;> cases eqI s.upto 0 <;> cases nameB s.name <;> cases valueB s.value <;> exact ⟨rfl, rfl⟩
    · have hT := right_tail (x3 := .int .u8 s.kind) (x4 := .int .i64 s.frm) (x5 := .int .i64 s.upto) s x1 hn
      unfold rightB
      rw [← hx]
      by_cases c3 : s.kind = 109
      · refine hT.mono fun k hk R Kr => ?_
        have h1 := fun Kr Kn => (hk R Kr Kn).1
        have h2 := fun Kr Kn => (hk R Kr Kn).2
        simp only [G17.J2, G32.J2, isInt_int, intOf_int, eqI_f c1, eqI_f c2, eqI_t c3, cond_true, cond_false, h1, h2, Bool.true_or, Bool.true_and, and_self]
      · by_cases c4 : s.kind = 117
        · refine hT.mono fun k hk R Kr => ?_
          have h1 := fun Kr Kn => (hk R Kr Kn).1
          have h2 := fun Kr Kn => (hk R Kr Kn).2
          simp only [G17.J2, G32.J2, isInt_int, intOf_int, eqI_f c1, eqI_f c2, eqI_f c3, eqI_t c4, cond_true, cond_false, h1, h2, Bool.or_true, Bool.true_and, and_self]
        · exact Evk.all fun k R Kr => by simp only [G17.J2, G17.J10, G32.J2, G32.J9, isInt_int, intOf_int, eqI_f c1, eqI_f c2, eqI_f c3, eqI_f c4, cond_true, cond_false, Bool.or_self, Bool.false_and, and_self]
theorem rightE (s : Stp) (hw : 2 + Nd.wts s.nodes ≤ SM) (hn : s.name.length ≤ 1000000000) (hv : s.value.length ≤ 1000000000) : Evk fun k => ∀ (R : Type) (K : Bool → Option R), G17.F k s.pv K = K (rightB s) ∧ G32.F k s.pv K = K (rightB s) := by
  have key := fun x1 hx => rightE_part s x1 hw hn hv hx
  by_cases c1 : (0 : Int) ≤ s.frm
  · by_cases c2 : s.frm ≤ s.upto
    · refine Evk.step (key (leI s.upto 1048576) (by simp only [spanB, geI_t c1, leI_t c2, Bool.true_and])) fun k hk R K => ?_
      have h1 := fun K => (hk R K).1
      have h2 := fun K => (hk R K).2
      simp only [G17.F, G32.F, isAgg6, st0, st1, st2, st3, st4, st5, isInt_int, intOf_int, geI_t c1, leI_t c2, h1, h2, cond_true, and_self]
    · refine Evk.step (key false (by simp only [spanB, geI_t c1, leI_f c2, Bool.true_and, Bool.false_and])) fun k hk R K => ?_
      have h1 := fun K => (hk R K).1
      have h2 := fun K => (hk R K).2
      simp only [G17.F, G32.F, isAgg6, st0, st1, st2, st3, st4, st5, isInt_int, intOf_int, geI_t c1, leI_f c2, h1, h2, cond_true, cond_false, and_self]
  · refine Evk.step (key false (by simp only [spanB, geI_f c1, Bool.false_and])) fun k hk R K => ?_
    have h1 := fun K => (hk R K).1
    have h2 := fun K => (hk R K).2
    simp only [G17.F, G32.F, isAgg6, st0, st1, st2, st3, st4, st5, isInt_int, intOf_int, geI_f c1, h1, h2, cond_true, cond_false, and_self]
theorem right_is (s : Stp) (hw : 2 + Nd.wts s.nodes ≤ SM) (hn : s.name.length ≤ 1000000000) (hv : s.value.length ≤ 1000000000) : RightN s (rightB s) := (rightE s hw hn hv).mono fun k hk R K => (hk R K).1
theorem right32 (s : Stp) (hw : 2 + Nd.wts s.nodes ≤ SM) (hn : s.name.length ≤ 1000000000) (hv : s.value.length ≤ 1000000000) : Evk fun k => ∀ (R : Type) (K : Bool → Option R), G32.F k s.pv K = K (rightB s) := (rightE s hw hn hv).mono fun k hk R K => (hk R K).2
end Go.Dip
end
/- Plain facts of the wire laws: how a step is written and read by the document's answer. -/
section
set_option linter.unusedVariables false
set_option linter.unusedSimpArgs false
namespace Go.Dip
open Go.Lib
/-! The words of a step. -/
theorem wr_ne (n : Nd) : n.wr ≠ [] := by
  obtain ⟨k, t, m, a, ks⟩ := n
  simp only [Nd.wr]
  split
  · simp [quoteS]
  · simp
theorem wrs_nil {l : List Nd} : Nd.wrs l = [] ↔ l = [] := by
  cases l with
  | nil => simp [Nd.wrs]
  | cons n l =>
    simp only [Nd.wrs]
    have := wr_ne n
    simp [this]
theorem tx_rep {s : Stp} (h : s.kind = 114) : s.tx = REPLACE ++ 32 :: (itoa s.frm ++ 32 :: (if s.nodes = [] then itoa s.upto else itoa s.upto ++ 32 :: Nd.wrs s.nodes)) := by
  unfold Stp.tx Stp.wr Stp.words
  rw [if_pos h]
  by_cases hn : s.nodes = []
  · rw [if_pos hn, if_pos (wrs_nil.2 hn)]
    exact join3 _ _ _
  · rw [if_neg hn, if_neg (fun e => hn (wrs_nil.1 e))]
    exact join4 _ _ _ _
theorem tx_att {s : Stp} (h : s.kind = 97) : s.tx = ATTR ++ 32 :: (itoa s.frm ++ 32 :: (s.name ++ 32 :: quoteS s.value)) := by
  unfold Stp.tx Stp.wr Stp.words
  rw [if_neg (by rw [h]; decide), if_pos h]
  exact join4 _ _ _ _
theorem tx_mark {s : Stp} (h : s.kind = 109) : s.tx = MARK ++ 32 :: (itoa s.frm ++ 32 :: (itoa s.upto ++ 32 :: s.name)) := by
  unfold Stp.tx Stp.wr Stp.words
  rw [if_neg (by rw [h]; decide), if_neg (by rw [h]; decide), if_pos h]
  exact join4 _ _ _ _
theorem tx_un {s : Stp} (h1 : s.kind ≠ 114) (h2 : s.kind ≠ 97) (h3 : s.kind ≠ 109) : s.tx = UNMARK ++ 32 :: (itoa s.frm ++ 32 :: (itoa s.upto ++ 32 :: s.name)) := by
  unfold Stp.tx Stp.wr Stp.words
  rw [if_neg h1, if_neg h2, if_neg h3]
  exact join4 _ _ _ _
/-! Written by the document's answer. -/
structure Mid (s : Stp) : Prop where
  f0 : -256000000000 ≤ s.frm
  f1 : s.frm ≤ 256000000000
  t0 : -256000000000 ≤ s.upto
  t1 : s.upto ≤ 256000000000
  w : 2 + Nd.wts s.nodes ≤ SM
  n : s.name.length ≤ 1000000
  v : s.value.length ≤ 1000000
theorem write33 {s : Stp} (h : Mid s) : Evk fun k => ∀ (R : Type) (K : Bytes → Option R), G33.F k s.pv K = K s.tx := by
  have hF := decimal59 h.f0 h.f1
  have hT := decimal59 h.t0 h.t1
  have h1 := itoa_len (n := s.frm) (by have := h.f0; omega) (by have := h.f1; omega)
  have h2 := itoa_len (n := s.upto) (by have := h.t0; omega) (by have := h.t1; omega)
  have hw := h.w
  have hl := wrs_len s.nodes
  have hn := h.n
  have hv := h.v
  have hq := quoteS_len s.value
  simp only [SM] at hw
  by_cases c1 : s.kind = 114
  · refine Evk.step ((hF.and hT).and (all60 (l := s.nodes) (by simp only [SM]; omega))) fun k hk R K => ?_
    rw [tx_rep c1]
    have l1 : leN (([114, 101, 112, 108, 97, 99, 101, 32] : Bytes).length + (itoa s.frm).length) LIM = true := lim (by simp; omega)
    have l2 : leN ((([114, 101, 112, 108, 97, 99, 101, 32] : Bytes) ++ itoa s.frm).length + ([32] : Bytes).length) LIM = true := lim (by simp; omega)
    have l3 : leN (((([114, 101, 112, 108, 97, 99, 101, 32] : Bytes) ++ itoa s.frm) ++ ([32] : Bytes)).length + (itoa s.upto).length) LIM = true := lim (by simp; omega)
    have l4 : leN ((((([114, 101, 112, 108, 97, 99, 101, 32] : Bytes) ++ itoa s.frm) ++ ([32] : Bytes)) ++ itoa s.upto).length + ([32] : Bytes).length) LIM = true := lim (by simp; omega)
    have l5 : leN (((((([114, 101, 112, 108, 97, 99, 101, 32] : Bytes) ++ itoa s.frm) ++ ([32] : Bytes)) ++ itoa s.upto) ++ ([32] : Bytes)).length + (Nd.wrs s.nodes).length) LIM = true := lim (by simp; omega)
    by_cases hz : s.nodes = []
    · have g : gtI (((Nd.pvs s.nodes).length : Nat) : Int) 0 = false := gtI_f (by rw [hz]; simp [Nd.pvs])
      rw [if_pos hz]
      simp only [G33.F, isAgg6, st0, st1, st2, st3, isInt_int, intOf_int, isSl_self, slOf_sl, Bool.and_self, eqI_t c1, cond_true, cond_false, hk.1.1, hk.1.2, l1, l2, l3, g]
      simp
    · have g : gtI (((Nd.pvs s.nodes).length : Nat) : Int) 0 = true := gtI_t (by rw [pvs_length]; have := List.length_pos_iff.2 hz; omega)
      rw [if_neg hz]
      simp only [G33.F, isAgg6, st0, st1, st2, st3, isInt_int, intOf_int, isSl_self, slOf_sl, Bool.and_self, eqI_t c1, cond_true, hk.1.1, hk.1.2, hk.2, l1, l2, l3, l4, l5, g]
      simp
  · by_cases c2 : s.kind = 97
    · refine Evk.step (hF.and (quote61 (s := s.value) (by omega))) fun k hk R K => ?_
      rw [tx_att c2]
      have l1 : leN (([97, 116, 116, 114, 32] : Bytes).length + (itoa s.frm).length) LIM = true := lim (by simp; omega)
      have l2 : leN ((([97, 116, 116, 114, 32] : Bytes) ++ itoa s.frm).length + ([32] : Bytes).length) LIM = true := lim (by simp; omega)
      have l3 : leN (((([97, 116, 116, 114, 32] : Bytes) ++ itoa s.frm) ++ ([32] : Bytes)).length + s.name.length) LIM = true := lim (by simp; omega)
      have l4 : leN ((((([97, 116, 116, 114, 32] : Bytes) ++ itoa s.frm) ++ ([32] : Bytes)) ++ s.name).length + ([32] : Bytes).length) LIM = true := lim (by simp; omega)
      have l5 : leN (((((([97, 116, 116, 114, 32] : Bytes) ++ itoa s.frm) ++ ([32] : Bytes)) ++ s.name) ++ ([32] : Bytes)).length + (quoteS s.value).length) LIM = true := lim (by simp; omega)
      simp only [G33.F, isAgg6, st0, st1, st4, st5, isInt_int, intOf_int, isStr_str, strOf_str, Bool.and_self, eqI_f c1, eqI_t c2, cond_true, cond_false, hk.1, hk.2, l1, l2, l3, l4, l5]
      simp
    · by_cases c3 : s.kind = 109
      · refine Evk.step (hF.and hT) fun k hk R K => ?_
        rw [tx_mark c3]
        have l1 : leN (([109, 97, 114, 107, 32] : Bytes).length + (itoa s.frm).length) LIM = true := lim (by simp; omega)
        have l2 : leN ((([109, 97, 114, 107, 32] : Bytes) ++ itoa s.frm).length + ([32] : Bytes).length) LIM = true := lim (by simp; omega)
        have l3 : leN (((([109, 97, 114, 107, 32] : Bytes) ++ itoa s.frm) ++ ([32] : Bytes)).length + (itoa s.upto).length) LIM = true := lim (by simp; omega)
        have l4 : leN ((((([109, 97, 114, 107, 32] : Bytes) ++ itoa s.frm) ++ ([32] : Bytes)) ++ itoa s.upto).length + ([32] : Bytes).length) LIM = true := lim (by simp; omega)
        have l5 : leN (((((([109, 97, 114, 107, 32] : Bytes) ++ itoa s.frm) ++ ([32] : Bytes)) ++ itoa s.upto) ++ ([32] : Bytes)).length + s.name.length) LIM = true := lim (by simp; omega)
        simp only [G33.F, isAgg6, st0, st1, st2, st4, isInt_int, intOf_int, isStr_str, strOf_str, Bool.and_self, eqI_f c1, eqI_f c2, eqI_t c3, cond_true, cond_false, hk.1, hk.2, l1, l2, l3, l4, l5]
        simp
      · refine Evk.step (hF.and hT) fun k hk R K => ?_
        rw [tx_un c1 c2 c3]
        have l1 : leN (([117, 110, 109, 97, 114, 107, 32] : Bytes).length + (itoa s.frm).length) LIM = true := lim (by simp; omega)
        have l2 : leN ((([117, 110, 109, 97, 114, 107, 32] : Bytes) ++ itoa s.frm).length + ([32] : Bytes).length) LIM = true := lim (by simp; omega)
        have l3 : leN (((([117, 110, 109, 97, 114, 107, 32] : Bytes) ++ itoa s.frm) ++ ([32] : Bytes)).length + (itoa s.upto).length) LIM = true := lim (by simp; omega)
        have l4 : leN ((((([117, 110, 109, 97, 114, 107, 32] : Bytes) ++ itoa s.frm) ++ ([32] : Bytes)) ++ itoa s.upto).length + ([32] : Bytes).length) LIM = true := lim (by simp; omega)
        have l5 : leN (((((([117, 110, 109, 97, 114, 107, 32] : Bytes) ++ itoa s.frm) ++ ([32] : Bytes)) ++ itoa s.upto) ++ ([32] : Bytes)).length + s.name.length) LIM = true := lim (by simp; omega)
        simp only [G33.F, isAgg6, st0, st1, st2, st4, isInt_int, intOf_int, isStr_str, strOf_str, Bool.and_self, eqI_f c1, eqI_f c2, eqI_f c3, cond_true, cond_false, hk.1, hk.2, l1, l2, l3, l4, l5]
        simp
/-! Read by the document's answer. -/
def ReadN (t : Bytes) (s : Stp) : Prop := Evk fun k => ∀ (R : Type) (K : Int → Int → Int → List PV → Bytes → Bytes → Option R), G31.F k t K = K s.kind s.frm s.upto (Nd.pvs s.nodes) s.name s.value
theorem read_rep {t : Bytes} (hl : t.length ≤ 1000000) (h : w1 t = REPLACE) {a b : Int} (ha : NumN (w1 (w2 t)) a) (hb : NumN (w1 (w2 (w2 t))) b) {ks : List Nd} {fl : Bool} (hk : Evk fun k => ∀ (R : Type) (K : List PV → Bool → Option R), G54.F k (w2 (w2 (w2 t))) K = K (Nd.pvs ks) fl) : ReadN t ⟨114, a, b, ks, [], []⟩ := by
  have l1 := w_len t
  have l2 := w_len (w2 t)
  have e : eqS REPLACE ATTR = false := by decide
  refine Evk.step ((((word51 (s := t) (by omega)).and (word51 (s := w2 t) (by omega))).and (word51 (s := w2 (w2 t)) (by omega))).and ((Evk.and ha hb).and hk)) fun k hk R K => ?_
  simp only [G31.F, hk.1.1.1, hk.1.1.2, hk.1.2, hk.2.1.1, hk.2.1.2, hk.2.2, h, e, eq_self, cond_true, cond_false]
theorem read_att {t : Bytes} (hl : t.length ≤ 1000000) (h : w1 t = ATTR) {a : Int} (ha : NumN (w1 (w2 t)) a) : ReadN t ⟨97, a, 0, [], w1 (w2 (w2 t)), uq2 (w2 (w2 (w2 t)))⟩ := by
  have l1 := w_len t
  have l2 := w_len (w2 t)
  have l3 := w_len (w2 (w2 t))
  refine Evk.step ((((word51 (s := t) (by omega)).and (word51 (s := w2 t) (by omega))).and (word51 (s := w2 (w2 t)) (by omega))).and (Evk.and ha (unquoted53 (s := w2 (w2 (w2 t))) (by omega)))) fun k hk R K => ?_
  simp only [G31.F, hk.1.1.1, hk.1.1.2, hk.1.2, hk.2.1, hk.2.2, h, eq_self, cond_true]
  rfl
theorem read_mark {t : Bytes} (hl : t.length ≤ 1000000) {kd : Int} (h : w1 t = MARK ∧ kd = 109 ∨ w1 t = UNMARK ∧ kd = 117) {a b : Int} (ha : NumN (w1 (w2 t)) a) (hb : NumN (w1 (w2 (w2 t))) b) : ReadN t ⟨kd, a, b, [], w2 (w2 (w2 t)), []⟩ := by
  have l1 := w_len t
  have l2 := w_len (w2 t)
  refine Evk.step ((((word51 (s := t) (by omega)).and (word51 (s := w2 t) (by omega))).and (word51 (s := w2 (w2 t)) (by omega))).and (Evk.and ha hb)) fun k hk R K => ?_
  rcases h with ⟨h, rfl⟩ | ⟨h, rfl⟩
  · simp only [G31.F, hk.1.1.1, hk.1.1.2, hk.1.2, hk.2.1, hk.2.2, h, ne_rm, ne_am, eq_self, cond_true, cond_false]
    rfl
  · simp only [G31.F, hk.1.1.1, hk.1.1.2, hk.1.2, hk.2.1, hk.2.2, h, ne_ru, ne_au, ne_mu, eq_self, cond_true, cond_false]
    rfl
theorem read_none {t : Bytes} (hl : t.length ≤ 1000000) (h1 : w1 t ≠ REPLACE) (h2 : w1 t ≠ ATTR) (h3 : w1 t ≠ MARK) (h4 : w1 t ≠ UNMARK) {a b : Int} (ha : NumN (w1 (w2 t)) a) (hb : NumN (w1 (w2 (w2 t))) b) : ReadN t ⟨0, a, b, [], [], []⟩ := by
  have l1 := w_len t
  have l2 := w_len (w2 t)
  refine Evk.step ((((word51 (s := t) (by omega)).and (word51 (s := w2 t) (by omega))).and (word51 (s := w2 (w2 t)) (by omega))).and (Evk.and ha hb)) fun k hk R K => ?_
  simp only [G31.F, hk.1.1.1, hk.1.1.2, hk.1.2, hk.2.1, hk.2.2, eqS_f h1, eqS_f h2, eqS_f h3, eqS_f h4, cond_false]
  rfl
structure MidK (s : Stp) : Prop extends Mid s where
  k0 : 0 ≤ s.kind
  k1 : s.kind ≤ 255
theorem read_any (t : Bytes) (hl : t.length ≤ 80000) : ∃ s, ReadN t s ∧ MidK s := by
  have l1 := w_len t
  have l2 := w_len (w2 t)
  have l3 := w_len (w2 (w2 t))
  have l4 := uq2_len (w2 (w2 (w2 t)))
  obtain ⟨a, a0, a1, ha⟩ := num_any _ (w1 (w2 t)) (Nat.le_refl _) (by omega)
  obtain ⟨b, b0, b1, hb⟩ := num_any _ (w1 (w2 (w2 t))) (Nat.le_refl _) (by omega)
  by_cases c1 : w1 t = REPLACE
  · obtain ⟨ks, fl, hw, hk⟩ := nodes54_any (w2 (w2 (w2 t))) (by omega)
    exact ⟨_, read_rep (by omega) c1 ha hb hk, ⟨⟨a0, a1, b0, b1, hw, by simp, by simp⟩, by simp, by simp⟩⟩
  · by_cases c2 : w1 t = ATTR
    · exact ⟨_, read_att (by omega) c2 ha, ⟨⟨a0, a1, by simp, by simp, small_nil, by simp only; omega, by simp only; omega⟩, by simp, by simp⟩⟩
    · by_cases c3 : w1 t = MARK
      · exact ⟨_, read_mark (by omega) (.inl ⟨c3, rfl⟩) ha hb, ⟨⟨a0, a1, b0, b1, small_nil, by simp only; omega, by simp⟩, by simp, by simp⟩⟩
      · by_cases c4 : w1 t = UNMARK
        · exact ⟨_, read_mark (by omega) (.inr ⟨c4, rfl⟩) ha hb, ⟨⟨a0, a1, b0, b1, small_nil, by simp only; omega, by simp⟩, by simp, by simp⟩⟩
        · exact ⟨_, read_none (by omega) c1 c2 c3 c4 ha hb, ⟨⟨a0, a1, b0, b1, small_nil, by simp, by simp⟩, by simp, by simp⟩⟩
/-! What a right step is like. -/
theorem span_facts {s : Stp} (h : spanB s = true) : 0 ≤ s.frm ∧ s.frm ≤ s.upto ∧ s.upto ≤ 1048576 := by
  simp only [spanB, Bool.and_eq_true] at h
  exact ⟨geI_iff.1 h.1, leI_iff.1 h.2.1, leI_iff.1 h.2.2⟩
inductive RightC (s : Stp) : Prop where
  | rep (h : s.kind = 114) (sp : spanB s = true) (f : (Nd.x s.nodes).formed = true) (n : s.name = []) (v : s.value = [])
  | att (h : s.kind = 97) (f0 : -1 ≤ s.frm) (f1 : s.frm ≤ 1048576) (u : s.upto = 0) (n : nameB s.name = true) (v : valueB s.value = true) (e : s.nodes = [])
  | mark (h : s.kind = 109 ∨ s.kind = 117) (sp : spanB s = true) (n : nameB s.name = true) (e : s.nodes = []) (v : s.value = [])
theorem rightC {s : Stp} (h : rightB s = true) : RightC s := by
  unfold rightB at h
  by_cases c1 : s.kind = 114
  · rw [eqI_t c1, cond_true] at h
    simp only [Bool.and_eq_true, eqS_iff] at h
    exact .rep c1 h.1 h.2.1 h.2.2.1 h.2.2.2
  · rw [eqI_f c1, cond_false] at h
    by_cases c2 : s.kind = 97
    · rw [eqI_t c2, cond_true] at h
      simp only [Bool.and_eq_true, geI_iff, leI_iff, eqI_iff, decide_eq_true_eq] at h
      exact .att c2 h.1 h.2.1 h.2.2.1 h.2.2.2.1 h.2.2.2.2.1 h.2.2.2.2.2
    · rw [eqI_f c2, cond_false] at h
      simp only [Bool.and_eq_true, Bool.or_eq_true, eqI_iff, eqS_iff, decide_eq_true_eq] at h
      exact .mark h.1 h.2.1 h.2.2.1 h.2.2.2.1 h.2.2.2.2
theorem goods_formed {l : List Nd} (hw : 2 + Nd.wts l ≤ SM) (h : (Nd.x l).formed = true) : Nd.Goods l := x_good (good_of (by rw [x_wt]; exact hw) h)
theorem read_tx {s : Stp} (hR : rightB s = true) (hw : 2 + Nd.wts s.nodes ≤ SM) (hl : s.tx.length ≤ 80000) : ReadN s.tx s := by
  obtain ⟨kd, fr, up, ks, nme, vle⟩ := s
  cases rightC hR with
  | rep h sp f n v =>
    simp only at h n v f hw
    subst h n v
    obtain ⟨s1, s2, s3⟩ := span_facts sp
    simp only at s1 s2 s3
    have htx := tx_rep (s := ⟨114, fr, up, ks, [], []⟩) rfl
    simp only at htx
    have p1 : ∀ r, w1 (REPLACE ++ 32 :: r) = REPLACE ∧ w2 (REPLACE ++ 32 :: r) = r := fun r => w_split (by decide)
    have p2 : ∀ r, w1 (itoa fr ++ 32 :: r) = itoa fr ∧ w2 (itoa fr ++ 32 :: r) = r := fun r => w_split itoa_nosp
    have hg := goods_formed hw f
    have key : ∀ z, w1 z = itoa up → w2 z = Nd.wrs ks → (Nd.wrs ks).length ≤ z.length → (Stp.mk 114 fr up ks [] []).tx = REPLACE ++ 32 :: (itoa fr ++ 32 :: z) → ReadN (Stp.mk 114 fr up ks [] []).tx ⟨114, fr, up, ks, [], []⟩ := by
      intro z z1 z2 zl e
      have hlen := congrArg List.length e
      simp only [List.length_append, List.length_cons] at hlen
      obtain ⟨fl, hN⟩ := nodes54_wrs (ks := ks) (by omega) hg
      rw [e] at hl ⊢
      exact read_rep (by omega) (p1 _).1 (by rw [(p1 _).2, (p2 _).1]; exact num_itoa (by omega) (by omega)) (by rw [(p1 _).2, (p2 _).2, z1]; exact num_itoa (by omega) (by omega)) (fl := fl) (by rw [(p1 _).2, (p2 _).2, z2]; exact hN)
    by_cases hns : ks = []
    · obtain ⟨y1, y2⟩ := w_none (a := itoa up) itoa_nosp
      rw [if_pos hns] at htx
      have hz := wrs_nil.2 hns
      exact key _ y1 (by rw [y2, hz]) (by rw [hz]; simp) htx
    · obtain ⟨y1, y2⟩ := w_split (a := itoa up) (r := Nd.wrs ks) itoa_nosp
      rw [if_neg hns] at htx
      exact key _ y1 y2 (by simp; omega) htx
  | att h f0 f1 u n v e =>
    simp only at h f0 f1 u n v e
    subst h u e
    have htx := tx_att (s := ⟨97, fr, 0, [], nme, vle⟩) rfl
    simp only at htx
    rw [htx] at hl ⊢
    have q1 : w1 (ATTR ++ 32 :: (itoa fr ++ 32 :: (nme ++ 32 :: quoteS vle))) = ATTR ∧ w2 (ATTR ++ 32 :: (itoa fr ++ 32 :: (nme ++ 32 :: quoteS vle))) = itoa fr ++ 32 :: (nme ++ 32 :: quoteS vle) := w_split (by decide)
    have q2 : w1 (itoa fr ++ 32 :: (nme ++ 32 :: quoteS vle)) = itoa fr ∧ w2 (itoa fr ++ 32 :: (nme ++ 32 :: quoteS vle)) = nme ++ 32 :: quoteS vle := w_split itoa_nosp
    have q3 : w1 (nme ++ 32 :: quoteS vle) = nme ∧ w2 (nme ++ 32 :: quoteS vle) = quoteS vle := w_split (letters_nosp (letters_of n))
    have := read_att (t := ATTR ++ 32 :: (itoa fr ++ 32 :: (nme ++ 32 :: quoteS vle))) (a := fr) (by omega) q1.1 (by rw [q1.2, q2.1]; exact num_itoa f0 f1)
    rw [q1.2, q2.2, q3.1, q3.2, uq2_quote] at this
    exact this
  | mark h sp n e v =>
    simp only at h n e v
    subst e v
    obtain ⟨s1, s2, s3⟩ := span_facts sp
    simp only at s1 s2 s3
    have key : ∀ W : Bytes, (32 : UInt8) ∉ W → (W = MARK ∧ kd = 109 ∨ W = UNMARK ∧ kd = 117) → (Stp.mk kd fr up [] nme []).tx = W ++ 32 :: (itoa fr ++ 32 :: (itoa up ++ 32 :: nme)) → ReadN (Stp.mk kd fr up [] nme []).tx ⟨kd, fr, up, [], nme, []⟩ := by
      intro W hW hk e
      have q1 : w1 (W ++ 32 :: (itoa fr ++ 32 :: (itoa up ++ 32 :: nme))) = W ∧ w2 (W ++ 32 :: (itoa fr ++ 32 :: (itoa up ++ 32 :: nme))) = itoa fr ++ 32 :: (itoa up ++ 32 :: nme) := w_split hW
      have q2 : w1 (itoa fr ++ 32 :: (itoa up ++ 32 :: nme)) = itoa fr ∧ w2 (itoa fr ++ 32 :: (itoa up ++ 32 :: nme)) = itoa up ++ 32 :: nme := w_split itoa_nosp
      have q3 : w1 (itoa up ++ 32 :: nme) = itoa up ∧ w2 (itoa up ++ 32 :: nme) = nme := w_split itoa_nosp
      rw [e] at hl ⊢
      have := read_mark (t := W ++ 32 :: (itoa fr ++ 32 :: (itoa up ++ 32 :: nme))) (kd := kd) (a := fr) (b := up) (by omega) (by rw [q1.1]; exact hk) (by rw [q1.2, q2.1]; exact num_itoa (by omega) (by omega)) (by rw [q1.2, q2.2, q3.1]; exact num_itoa (by omega) (by omega))
      rw [q1.2, q2.2, q3.2] at this
      exact this
    rcases h with rfl | rfl
    · exact key MARK (by decide) (.inl ⟨rfl, rfl⟩) (tx_mark rfl)
    · exact key UNMARK (by decide) (.inr ⟨rfl, rfl⟩) (tx_un (by simp) (by simp) (by simp))
end Go.Dip
end
/- Plain facts of the wire laws: the step of a text is the same by the program and by the document's answer. -/
section
set_option linter.unusedVariables false
set_option linter.unusedSimpArgs false
namespace Go.Dip
open Go.Lib
structure Form (t : Bytes) (s : Stp) : Prop where
  right : rightB s = true
  tx : s.tx = t
  fit : s.Fit
  w : 2 + Nd.wts s.nodes ≤ SM
  n : s.name.length ≤ 1000000
  v : s.value.length ≤ 1000000
def Parse13N (t : Bytes) (s : Stp) (e : Int) : Prop := Evk fun k => ∀ (R : Type) (K : Int → Int → Int → List PV → Bytes → Bytes → Int → Option R), G13.F k t K = K s.kind s.frm s.upto (Nd.pvs s.nodes) s.name s.value e
theorem ParseN.uniq {t : Bytes} {s s' : Stp} {e e' : Int} (h : ParseN t s e) (g : ParseN t s' e') : e = e' := by
  obtain ⟨k, hk⟩ := (Evk.and h g).get
  have := (hk.1 Int fun _ _ _ _ _ _ e => some e).symm.trans (hk.2 Int fun _ _ _ _ _ _ e => some e)
  exact Option.some.inj this
theorem mid_of {s : Stp} (hR : rightB s = true) (w : 2 + Nd.wts s.nodes ≤ SM) (n : s.name.length ≤ 1000000) (v : s.value.length ≤ 1000000) : Mid s := by
  cases rightC hR with
  | rep h sp f _ _ => have := span_facts sp; exact ⟨by omega, by omega, by omega, by omega, w, n, v⟩
  | att h f0 f1 u _ _ _ => exact ⟨by omega, by omega, by omega, by omega, w, n, v⟩
  | mark h sp _ _ _ => have := span_facts sp; exact ⟨by omega, by omega, by omega, by omega, w, n, v⟩
theorem parse13_of {t : Bytes} {s : Stp} (hr : ReadN t s) (hm : Mid s) : Parse13N t (if rightB s = true ∧ s.tx = t then finS s (Nd.x s.nodes).check else .nil) (if rightB s = true ∧ s.tx = t then (Nd.x s.nodes).check else 2) := by
  have hn := hm.n
  have hv := hm.v
  refine Evk.step (((Evk.and hr (right32 s hm.w (by omega) (by omega))).and (write33 hm)).and (print34 (l := s.nodes) hm.w)) fun k hk R K => ?_
  have k1 := hk.1.1.1
  have k2 : ∀ (R : Type) (K : Bool → Option R), G32.F k (PV.agg [PV.int .u8 s.kind, PV.int .i64 s.frm, PV.int .i64 s.upto, PV.sl 5 (Nd.pvs s.nodes), PV.str s.name, PV.str s.value]) K = K (rightB s) := hk.1.1.2
  have k3 : ∀ (R : Type) (K : Bytes → Option R), G33.F k (PV.agg [PV.int .u8 s.kind, PV.int .i64 s.frm, PV.int .i64 s.upto, PV.sl 5 (Nd.pvs s.nodes), PV.str s.name, PV.str s.value]) K = K s.tx := hk.1.2
  have k4 := hk.2
  cases hR : rightB s with
  | false =>
    rw [hR] at k2
    have hne : ¬ ((false : Bool) = true ∧ s.tx = t) := fun h => by cases h.1
    rw [if_neg hne, if_neg hne]
    simp only [G13.F, k1, k2, Bool.not_false, cond_true]
    rfl
  | true =>
    rw [hR] at k2
    by_cases htx : s.tx = t
    · rw [if_pos ⟨rfl, htx⟩, if_pos ⟨rfl, htx⟩]
      simp only [G13.F, G13.J4, k1, k2, Bool.not_true, cond_false, k3, eqS_t htx, k4]
      by_cases hc : (Nd.x s.nodes).check = 0
      · have d : eqI 0 0 = true := by decide
        simp only [hc, if_true, d, Bool.not_true, cond_false, finS]
      · simp only [if_neg hc, eqI_f hc, Bool.not_false, cond_true, finS]
        rfl
    · have hne : ¬ ((true : Bool) = true ∧ s.tx = t) := fun h => htx h.2
      rw [if_neg hne, if_neg hne]
      simp only [G13.F, k1, k2, Bool.not_true, cond_false, k3, eqS_f htx, Bool.not_false, cond_true]
      rfl
theorem form_parse13 {t : Bytes} {s : Stp} (h : Form t s) (hl : t.length ≤ 80000) : Parse13N t (finS s (Nd.x s.nodes).check) (Nd.x s.nodes).check := by
  have hr := read_tx h.right h.w (by rw [h.tx]; exact hl)
  rw [h.tx] at hr
  have := parse13_of hr (mid_of h.right h.w h.n h.v)
  rw [if_pos ⟨h.right, h.tx⟩, if_pos ⟨h.right, h.tx⟩] at this
  exact this
theorem parse13_any (t : Bytes) (hl : t.length ≤ 80000) : ∃ s e, Parse13N t s e ∧ (e ≠ 2 → ∃ s', Form t s' ∧ (Nd.x s'.nodes).check = e ∧ s = finS s' e) ∧ (e = 2 → s = .nil) := by
  obtain ⟨s, hr, hm⟩ := read_any t hl
  have hp := parse13_of hr hm.toMid
  by_cases hc : rightB s = true ∧ s.tx = t
  · rw [if_pos hc, if_pos hc] at hp
    have hks := Nd.len_wts s.nodes
    have hw := hm.w
    have hfm := hm
    refine ⟨_, _, hp, fun _ => ⟨s, ⟨hc.1, hc.2, ⟨hm.k0, hm.k1, by have := hm.f0; omega, by have := hm.f1; omega, by have := hm.t0; omega, by have := hm.t1; omega, by simp only [BIG]; simp only [SM] at hw; omega, fits_of _ (by omega), by have := hm.n; simp only [BIG]; omega, by have := hm.v; simp only [BIG]; omega⟩, hm.w, hm.n, hm.v⟩, rfl, rfl⟩, fun he => ?_⟩
    rw [he]
    exact fin_two s
  · rw [if_neg hc, if_neg hc] at hp
    exact ⟨_, _, hp, fun h => absurd rfl h, fun _ => rfl⟩
/-! The program. -/
theorem all_form {ks : List Nd} (hw : (Nd.wrs ks).length ≤ 80000) (hk : 2 + Nd.wts ks ≤ SM) (hf : (Nd.x ks).formed = true) : AllN (Nd.wrs ks) (if (Nd.x ks).check = 0 then ks else []) (Nd.x ks).check := by
  have hl : ([120, 91] ++ Nd.wrs ks ++ [93]).length ≤ 90000 := by simp; omega
  have hgx : (Nd.x ks).Good := good_of (by rw [x_wt]; exact hk) hf
  have h := wr_read (Nd.x ks) hgx [] rfl
  have ex : (Nd.x ks).wr ++ [] = [120, 91] ++ Nd.wrs ks ++ [93] := by rw [x_wr]; simp
  rw [ex] at h
  have hs := codec_spec hl h (check_is (by rw [x_wt]; exact hk))
  have e : codecE (Nd.x ks) [] false ([120, 91] ++ Nd.wrs ks ++ [93]) (Nd.x ks).check = (Nd.x ks).check := by
    rw [← ex]; simp [codecE]
  rw [e] at hs
  have e2 : (finN (Nd.x ks) (Nd.x ks).check).kids = if (Nd.x ks).check = 0 then ks else [] := by
    unfold finN
    split <;> rfl
  rw [e2] at hs
  exact Evk.step hs fun k hk R K => by
    have l1 : leN (([120, 91] : Bytes).length + (Nd.wrs ks).length) LIM = true := lim (by simp; omega)
    have l2 : leN ((([120, 91] : Bytes) ++ Nd.wrs ks).length + ([93] : Bytes).length) LIM = true := lim (by simp; omega)
    simp only [G28.F, l1, l2, cond_true, hk]
theorem check_x0 : (Nd.x []).check = 0 := (check_is (n := Nd.x []) (by rw [x_wt]; simp [Nd.wts, SM])).uniq check_none
theorem wr_same (s s' : Stp) (u : Bytes) (h1 : s.kind = s'.kind) (h2 : s.frm = s'.frm) (h3 : s.upto = s'.upto) (h4 : s.name = s'.name) (h5 : s.value = s'.value) : s.wr u = s'.wr u := by
  unfold Stp.wr Stp.words
  rw [h1, h2, h3, h4, h5]
theorem form_parse {t : Bytes} {s : Stp} (h : Form t s) (hl : t.length ≤ 80000) : ParseN t (finS s (Nd.x s.nodes).check) (Nd.x s.nodes).check := by
  have hf := h.fit
  have hw := h.w
  have hn := h.n
  have hv := h.v
  have hri := right_is s hw (by omega) (by omega)
  rw [h.right] at hri
  cases rightC h.right with
  | rep hk sp f n v =>
    obtain ⟨kd, fr, up, ks, nme, vle⟩ := s
    simp only at hk n v f hw
    subst hk n v
    have htx := tx_rep (s := ⟨114, fr, up, ks, [], []⟩) rfl
    simp only at htx
    have e0 := h.tx
    have p1 : ∀ r, w1 (REPLACE ++ 32 :: r) = REPLACE ∧ w2 (REPLACE ++ 32 :: r) = r := fun r => w_split (by decide)
    have p2 : ∀ r, w1 (itoa fr ++ 32 :: r) = itoa fr ∧ w2 (itoa fr ++ 32 :: r) = r := fun r => w_split itoa_nosp
    have key : ∀ z, w1 z = itoa up → w2 z = Nd.wrs ks → (Nd.wrs ks).length ≤ z.length → (Stp.mk 114 fr up ks [] []).tx = REPLACE ++ 32 :: (itoa fr ++ 32 :: z) → ParseN t (finS ⟨114, fr, up, ks, [], []⟩ (Nd.x ks).check) (Nd.x ks).check := by
      intro z z1 z2 zl e
      have et : t = REPLACE ++ 32 :: (itoa fr ++ 32 :: z) := e0.symm.trans e
      have hlen := congrArg List.length et
      simp only [List.length_append, List.length_cons] at hlen
      have q0 : w1 t = REPLACE := by rw [et]; exact (p1 _).1
      have q1 : w2 t = itoa fr ++ 32 :: z := by rw [et]; exact (p1 _).2
      have q2 : w2 (w2 t) = z := by rw [q1]; exact (p2 _).2
      have q3 : w2 (w2 (w2 t)) = Nd.wrs ks := by rw [q2]; exact z2
      have n1 := numOk_of (s := w2 t) hf.f0 hf.f1 (by rw [q1]; exact (p2 _).1)
      have n2 := numOk_of (s := w2 (w2 t)) hf.t0 hf.t1 (by rw [q2]; exact z1)
      have hA := all_form (ks := ks) (by omega) hw f
      have es : sRep t (if (Nd.x ks).check = 0 then ks else []) = ⟨114, fr, up, if (Nd.x ks).check = 0 then ks else [], [], []⟩ := by
        unfold sRep
        rw [n1.2, n2.2]
      have hw' : 2 + Nd.wts (if (Nd.x ks).check = 0 then ks else []) ≤ SM := by split <;> first | exact hw | exact small_nil
      have hb : rightB ⟨114, fr, up, if (Nd.x ks).check = 0 then ks else [], [], []⟩ = true := by
        have e114 : eqI 114 114 = true := by decide
        have ee : eqS ([] : Bytes) [] = true := rfl
        have hsp : spanB ⟨114, fr, up, if (Nd.x ks).check = 0 then ks else [], [], []⟩ = true := sp
        unfold rightB
        simp only [e114, cond_true, ee, Bool.and_self, Bool.and_true, hsp, Bool.true_and]
        split
        · exact f
        · rw [x_formed]; rfl
      have hbn := right_is ⟨114, fr, up, if (Nd.x ks).check = 0 then ks else [], [], []⟩ hw' (by simp) (by simp)
      rw [hb] at hbn
      have := parse_rep (t := t) (ks := if (Nd.x ks).check = 0 then ks else []) (e0 := (Nd.x ks).check) (b := true) (by omega) q0 (by rw [q3]; exact hA) hw' (fits_of _ (by omega)) (by rw [es]; exact hbn)
      have hwr : (Stp.mk 114 fr up (if (Nd.x ks).check = 0 then ks else []) [] []).wr (Nd.wrs ks) = t := (wr_same _ ⟨114, fr, up, ks, [], []⟩ _ rfl rfl rfl rfl rfl).trans e0
      rw [q3, es, n1.1, n2.1] at this
      have hvd : verd t ⟨114, fr, up, if (Nd.x ks).check = 0 then ks else [], [], []⟩ (Nd.wrs ks) (true && true) true (Nd.x ks).check = (Nd.x ks).check := by
        unfold verd
        rw [eqS_t hwr]
        rfl
      rw [hvd] at this
      have hfin : finS ⟨114, fr, up, if (Nd.x ks).check = 0 then ks else [], [], []⟩ (Nd.x ks).check = finS ⟨114, fr, up, ks, [], []⟩ (Nd.x ks).check := by
        unfold finS
        split <;> rfl
      rw [hfin] at this
      exact this
    by_cases hns : ks = []
    · obtain ⟨y1, y2⟩ := w_none (a := itoa up) itoa_nosp
      rw [if_pos hns] at htx
      have hz := wrs_nil.2 hns
      exact key _ y1 (by rw [y2, hz]) (by rw [hz]; simp) htx
    · obtain ⟨y1, y2⟩ := w_split (a := itoa up) (r := Nd.wrs ks) itoa_nosp
      rw [if_neg hns] at htx
      exact key _ y1 y2 (by simp; omega) htx
  | att hk f0 f1 u n v e =>
    have hc : (Nd.x s.nodes).check = 0 := by rw [e]; exact check_x0
    have := parse_print s hf (by rw [e]; simp [Nd.wts]) (by have := (nameB_facts n).2.2.1; omega) (by
      have : valueB s.value = true := v
      unfold valueB at this
      cases hle : leI ((s.value.length : Nat) : Int) 40 with
      | false => rw [hle] at this; cases this
      | true => have := leI_iff.1 hle; omega) hri (.att hk u n v e) (by rw [e]; exact check_none)
    rw [hc, finS_zero]
    have htx : s.wr (Nd.wrs s.nodes) = t := h.tx
    rw [htx] at this
    exact this
  | mark hk sp n e v =>
    have hc : (Nd.x s.nodes).check = 0 := by rw [e]; exact check_x0
    have := parse_print s hf (by rw [e]; simp [Nd.wts]) (by have := (nameB_facts n).2.2.1; omega) (by rw [v]; simp) hri (.mark hk n v e) (by rw [e]; exact check_none)
    rw [hc, finS_zero]
    have htx : s.wr (Nd.wrs s.nodes) = t := h.tx
    rw [htx] at this
    exact this
theorem all_any2 (u : Bytes) (hu : u.length ≤ 80000) : ∃ ks e, AllN u ks e ∧ 2 + Nd.wts ks ≤ SM ∧ (e ≠ 2 → ∃ kids, Nd.wrs kids = u ∧ (Nd.x kids).check = e ∧ 2 + Nd.wts kids ≤ SM ∧ (e = 0 → ks = kids)) := by
  have hl : ([120, 91] ++ u ++ [93]).length ≤ 90000 := by simp; omega
  obtain ⟨n, r, b, h⟩ := (rd_ex _).1 ([120, 91] ++ u ++ [93]) (Nat.le_refl _)
  have hw := rd_len h
  have hw1 : n.wt + 10 * r.length ≤ 10 * ([120, 91] ++ u ++ [93] : Bytes).length + 10 := by
    simp only [Nd.wts] at hw
    cases b <;> simp at hw ⊢ <;> omega
  have hw2 : n.wt ≤ SM := by simp only [SM]; omega
  have hs := codec_spec hl h (check_is hw2)
  have hA : AllN u (finN n (codecE n r b ([120, 91] ++ u ++ [93]) n.check)).kids (codecE n r b ([120, 91] ++ u ++ [93]) n.check) :=
    Evk.step hs fun k hk R K => by
      have l1 : leN (([120, 91] : Bytes).length + u.length) LIM = true := lim (by simp; omega)
      have l2 : leN ((([120, 91] : Bytes) ++ u).length + ([93] : Bytes).length) LIM = true := lim (by simp; omega)
      simp only [G28.F, l1, l2, cond_true, hk]
  have hkids : 2 + Nd.wts n.kids ≤ SM := by
    obtain ⟨k, t, m, a, ks⟩ := n
    simp [Nd.wt] at hw1
    simp only [Nd.kids, SM]
    omega
  refine ⟨_, _, hA, ?_, ?_⟩
  · unfold finN
    split
    · exact hkids
    · exact small_nil
  · intro he
    have hb : b = false := by
      cases b with
      | false => rfl
      | true => exact absurd (by simp [codecE]) he
    subst hb
    by_cases hr : r = []
    · by_cases ht : n.wr = [120, 91] ++ u ++ [93]
      · have e : codecE n r false ([120, 91] ++ u ++ [93]) n.check = n.check := by
          unfold codecE
          rw [if_neg (by simp), if_neg (by simp [hr]), if_neg (by simp [ht])]
        rw [e] at he ⊢
        have hf : n.formed = true := by
          cases hh : n.formed with
          | true => rfl
          | false => exact absurd (check_two.2 hh) he
        obtain ⟨x1, x2⟩ := x_of (good_of hw2 hf) ht
        refine ⟨n.kids, x2, by rw [← x1], hkids, fun h0 => ?_⟩
        unfold finN
        rw [if_pos h0]
      · exact absurd (by unfold codecE; rw [if_neg (by simp), if_neg (by simp [hr]), if_pos ht]) he
    · exact absurd (by unfold codecE; rw [if_neg (by simp), if_pos hr]) he
theorem pe_ne {ok w : Bool} {e0 : Int} (h : pe ok w e0 ≠ 2) : ok = true ∧ w = true ∧ e0 ≠ 2 ∧ pe ok w e0 = e0 := by
  cases ok <;> cases w <;> simp [pe] at h ⊢
  exact h
theorem parse_any2 (t : Bytes) (hl : t.length ≤ 80000) : ∃ s e, ParseN t s e ∧ (e ≠ 2 → ∃ s', Form t s' ∧ (Nd.x s'.nodes).check = e ∧ s = finS s' e) ∧ (e = 2 → s = .nil) := by
  have l1 := w_len t
  have l2 := w_len (w2 t)
  have l3 := w_len (w2 (w2 t))
  have l4 := uq_len (w2 (w2 (w2 t)))
  have two : ∀ (s : Stp) (u : Bytes) (ok b : Bool) (e0 : Int), verd t s u ok b e0 = 2 → finS s (verd t s u ok b e0) = .nil := fun s u ok b e0 h => by rw [h]; exact fin_two s
  by_cases c1 : w1 t = REPLACE
  · obtain ⟨ks, e0, a1, a2, a3⟩ := all_any2 (w2 (w2 (w2 t))) (by omega)
    have hf : Nd.Fits ks := fits_of ks (by omega)
    have hb := right_is (sRep t ks) a2 (by simp [sRep]) (by simp [sRep])
    refine ⟨_, _, parse_rep (by omega) c1 a1 a2 hf hb, fun h => ?_, two _ _ _ _ _⟩
    obtain ⟨z1, z2, z3, z4⟩ := pe_ne h
    obtain ⟨kids, k1, k2, k3, k4⟩ := a3 z3
    have hbt : rightB (sRep t ks) = true := by
      cases hq : rightB (sRep t ks) with
      | true => rfl
      | false => rw [hq, Bool.and_false] at z1; cases z1
    have hfk : (Nd.x kids).formed = true := by
      cases hh : (Nd.x kids).formed with
      | true => rfl
      | false => exact absurd ((check_two.2 hh).symm.trans k2).symm z3
    have hsp : spanB (sRep t ks) = true := by
      cases rightC hbt with
      | rep _ sp _ _ _ => exact sp
      | att h _ _ _ _ _ _ => exact absurd h (by simp [sRep])
      | mark h _ _ _ _ => rcases h with h | h <;> exact absurd h (by simp [sRep])
    have hbk : rightB (sRep t kids) = true := by
      have e114 : eqI (sRep t kids).kind 114 = true := eqI_t rfl
      have en : eqS (sRep t kids).name [] = true := rfl
      have ev : eqS (sRep t kids).value [] = true := rfl
      have hsp' : spanB (sRep t kids) = true := hsp
      have hfk' : (Nd.x (sRep t kids).nodes).formed = true := hfk
      unfold rightB
      rw [e114, en, ev, hsp', hfk']
      rfl
    have htx : (sRep t kids).tx = t := by
      unfold Stp.tx
      have e : (sRep t kids).nodes = kids := rfl
      rw [e, k1]
      exact (wr_same (sRep t kids) (sRep t ks) _ rfl rfl rfl rfl rfl).trans (eqS_iff.1 z2)
    refine ⟨sRep t kids, ⟨hbk, htx, sRep_fit t kids k3 (fits_of kids (by omega)), k3, by simp [sRep], by simp [sRep]⟩, ?_, ?_⟩
    · exact k2.trans z4.symm
    · have e : verd t (sRep t ks) (w2 (w2 (w2 t))) (numOk (w2 t) && numOk (w2 (w2 t))) (rightB (sRep t ks)) e0 = e0 := z4
      rw [e]
      unfold finS
      by_cases h0 : e0 = 0
      · rw [if_pos h0, if_pos h0, k4 h0]
      · rw [if_neg h0, if_neg h0]
  · have simple : ∀ (s : Stp) (ok : Bool), s.nodes = [] → s.Fit → s.name.length ≤ 1000000 → s.value.length ≤ 1000000 → verd t s [] ok (rightB s) 0 ≠ 2 → ∃ s', Form t s' ∧ (Nd.x s'.nodes).check = verd t s [] ok (rightB s) 0 ∧ finS s (verd t s [] ok (rightB s) 0) = finS s' (verd t s [] ok (rightB s) 0) := by
      intro s ok hns hfit hn hv h
      obtain ⟨z1, z2, z3, z4⟩ := pe_ne h
      have hbt : rightB s = true := by
        cases hq : rightB s with
        | true => rfl
        | false => rw [hq, Bool.and_false] at z1; cases z1
      have htx : s.tx = t := by
        unfold Stp.tx
        rw [hns]
        have : Nd.wrs [] = [] := by simp [Nd.wrs]
        rw [this]
        exact eqS_iff.1 z2
      refine ⟨s, ⟨hbt, htx, hfit, by rw [hns]; exact small_nil, hn, hv⟩, ?_, rfl⟩
      have e : verd t s [] ok (rightB s) 0 = 0 := z4
      rw [e, hns]
      exact check_x0
    by_cases c2 : w1 t = ATTR
    · have hb := right_is (sAttr t) small_nil (by simp only [sAttr]; omega) (by simp only [sAttr]; omega)
      exact ⟨_, _, parse_attr (by omega) c2 hb, simple (sAttr t) _ rfl (sAttr_fit t (by omega)) (by simp only [sAttr]; omega) (by simp only [sAttr]; omega), two _ _ _ _ _⟩
    · have mark : ∀ kd : Int, (w1 t = MARK ∧ kd = 109 ∨ w1 t = UNMARK ∧ kd = 117) → ∃ s e, ParseN t s e ∧ (e ≠ 2 → ∃ s', Form t s' ∧ (Nd.x s'.nodes).check = e ∧ s = finS s' e) ∧ (e = 2 → s = .nil) := by
        intro kd h
        have hb := right_is (sMark kd t) small_nil (by simp only [sMark]; omega) (by simp [sMark])
        exact ⟨_, _, parse_mark (by omega) h hb, simple (sMark kd t) _ rfl (sMark_fit kd t (by omega) (by omega) (by omega)) (by simp only [sMark]; omega) (by simp [sMark]), two _ _ _ _ _⟩
      by_cases c3 : w1 t = MARK
      · exact mark 109 (.inl ⟨c3, rfl⟩)
      · by_cases c4 : w1 t = UNMARK
        · exact mark 117 (.inr ⟨c4, rfl⟩)
        · exact ⟨.nil, 2, parse_none (by omega) c1 c2 c3 c4, fun h => absurd rfl h, fun _ => rfl⟩
theorem parse_both (t : Bytes) (hl : t.length ≤ 80000) : ∃ s e, ParseN t s e ∧ Parse13N t s e ∧ (e = 0 → Ok s ∧ s.tx = t) ∧ 2 + Nd.wts s.nodes ≤ SM := by
  obtain ⟨s, e, p1, p2, p3⟩ := parse_any2 t hl
  have hok : e = 0 → Ok s ∧ s.tx = t := fun h0 => by
    obtain ⟨s1, e1, q1, q2, _, q4⟩ := parse_any t hl
    obtain ⟨k, hk⟩ := (Evk.and p1 q1).get
    have := (hk.1 (Int × Int × Int × List PV × Bytes × Bytes × Int) fun a b c d e f g => some (a, b, c, d, e, f, g)).symm.trans (hk.2 _ fun a b c d e f g => some (a, b, c, d, e, f, g))
    have he : e = e1 := p1.uniq q1
    obtain ⟨s', f1, f2, f3⟩ := p2 (by rw [h0]; decide)
    have hs : s = s' := by rw [f3, h0, finS_zero]
    subst hs
    have hri := right_is s f1.w (by have := f1.n; omega) (by have := f1.v; omega)
    rw [f1.right] at hri
    have hrf : RightF s := by
      obtain ⟨b, b1, b2⟩ := right_spec s f1.w (by have := f1.n; omega) (by have := f1.v; omega)
      exact b1 (b2.uniq hri)
    have hc : CheckN (Nd.x s.nodes) 0 := by
      have := check_is (n := Nd.x s.nodes) (by rw [x_wt]; exact f1.w)
      rw [f2, h0] at this
      exact this
    exact ⟨⟨⟨hri, hrf, hc, rfl, f1.fit, f1.n, f1.v⟩, f1.w⟩, f1.tx⟩
  by_cases he : e = 2
  · obtain ⟨s2, f, q1, q2, q3⟩ := parse13_any t hl
    have hf : f = 2 := by
      by_cases hf : f = 2
      · exact hf
      · obtain ⟨s', f1, f2, f3⟩ := q2 hf
        have := form_parse f1 hl
        rw [f2] at this
        exact absurd (this.uniq p1) (by omega)
    rw [q3 hf, hf] at q1
    rw [p3 he, he] at p1
    exact ⟨.nil, 2, p1, q1, fun h => absurd h (by decide), small_nil⟩
  · obtain ⟨s', f1, f2, f3⟩ := p2 he
    have := form_parse13 f1 hl
    rw [f2, ← f3] at this
    have hw : 2 + Nd.wts s.nodes ≤ SM := by
      rw [f3]
      unfold finS
      split
      · exact f1.w
      · exact small_nil
    exact ⟨s, e, p1, this, hok, hw⟩
end Go.Dip
end
/- The law 'WireParses' as a plain function answers true. -/
section
set_option linter.unusedVariables false
set_option linter.unusedSimpArgs false
namespace Go.Dip
open Go.Lib
noncomputable def L5R {R : Type} (k : Nat) (text : Bytes) (fr : Int) (q : Bool) (i : Int) (out : List PV) (K : List PV → Int → Option R) : Option R :=
  G15.L5 k text fr q i out (fun y2 y3 y4 => bif !eqI y3 ((y2.length : Nat) : Int) then K [] 2 else K y4 0) (fun y5 y6 => K y6 y5)
theorem scan_some {text A : Bytes} (hA : text.length ≤ 1000000) {P : List PV → Prop} {v : List PV → (R : Type) → (List PV → Int → Option R) → Option R} : ∀ (n : Nat) (rest cur : Bytes) (q : Bool) (l r : Bytes), rest.length ≤ n → text = A ++ (cur ++ rest) → ln rest q false = some (l, r) →
    (Evk fun k => ∀ out, P out → ∀ (R : Type) (K : List PV → Int → Option R), L5R k text (A.length : Nat) false ((A.length + cur.length + l.length : Nat) : Int) out K = v out R K) →
    Evk fun k => ∀ out, P out → ∀ (R : Type) (K : List PV → Int → Option R), L5R k text (A.length : Nat) q ((A.length + cur.length : Nat) : Int) out K = v out R K
  | _, [], cur, q, l, r, _, _, h, _ => by simp [ln] at h
  | 0, b :: t, cur, q, l, r, hn, _, _, _ => by simp at hn
  | n + 1, b :: t, cur, q, l, r, hn, ht, h, hE => by
    simp only [List.length_cons] at hn
    have hlen : text.length = A.length + cur.length + (t.length + 1) := by rw [ht]; simp; omega
    have e : ((A.length + cur.length : Nat) : Int) < ((text.length : Nat) : Int) := by omega
    have ei : inI ((A.length + cur.length : Nat) : Int) ((text.length : Nat) : Int) = true := inI_true (by omega)
    have eg : text.getD (Int.toNat ((A.length + cur.length : Nat) : Int)) 0 = b := by
      have := getD_at (A ++ cur) b t
      rw [List.append_assoc, ← ht, List.length_append] at this
      exact this
    have wn : IntKind.i64.wrap (((A.length + cur.length : Nat) : Int) + 1) = ((A.length + cur.length + 1 : Nat) : Int) := next_nat (by simp only [BIG]; omega)
    -- one sign further
    have one : ∀ q' l', ln t q' false = some (l', r) → l = b :: l' → (∀ k out (R : Type) (K : List PV → Int → Option R), L5R (k + 1) text (A.length : Nat) q ((A.length + cur.length : Nat) : Int) out K = L5R k text (A.length : Nat) q' ((A.length + cur.length + 1 : Nat) : Int) out K) →
        Evk fun k => ∀ out, P out → ∀ (R : Type) (K : List PV → Int → Option R), L5R k text (A.length : Nat) q ((A.length + cur.length : Nat) : Int) out K = v out R K := by
      intro q' l' hq hl hst
      have ih := scan_some (A := A) hA (P := P) (v := v) n t (cur ++ [b]) q' l' r (by omega) (by rw [ht]; simp) hq (by
        have e2 : A.length + (cur ++ [b]).length + l'.length = A.length + cur.length + l.length := by rw [hl]; simp; omega
        rw [e2]
        exact hE)
      have e3 : A.length + (cur ++ [b]).length = A.length + cur.length + 1 := by simp; omega
      rw [e3] at ih
      exact Evk.step ih fun k hk out hp R K => by rw [hst]; exact hk out hp R K
    have opt : ∀ {o : Option (Bytes × Bytes)}, (o.map fun p => (b :: p.1, p.2)) = some (l, r) → ∃ l', o = some (l', r) ∧ l = b :: l' := by
      intro o ho
      cases o with
      | none => cases ho
      | some p =>
        simp only [Option.map_some, Option.some.injEq, Prod.mk.injEq] at ho
        exact ⟨p.1, by rw [← ho.2], ho.1.symm⟩
    simp only [ln, Bool.false_eq_true, if_false] at h
    by_cases h1 : b = 92
    · rw [if_pos h1] at h
      have e1 : (b == 92) = true := by simp [h1]
      have e34 : (b == 34) = false := by simp [h1]
      have e10 : (b == 10) = false := by simp [h1]
      cases q with
      | false =>
        obtain ⟨l', hq, hl⟩ := opt h
        refine one false l' hq hl fun k out R K => ?_
        unfold L5R
        simp only [G15.L5, G15.J9, G15.J11, ltI_t e, ei, eg, byte92, byte34, byte10, e1, e34, e10, cond_true, cond_false, Bool.not_false, wn]
      | true =>
        obtain ⟨l', hq, hl⟩ := opt h
        cases t with
        | nil => simp [ln] at hq
        | cons c t =>
          simp only [List.length_cons] at hn hlen
          simp only [ln, if_true] at hq
          cases hq2 : ln t true false with
          | none => rw [hq2] at hq; cases hq
          | some p =>
            rw [hq2] at hq
            simp only [Option.map_some, Option.some.injEq, Prod.mk.injEq] at hq
            have ih := scan_some (A := A) hA (P := P) (v := v) n t (cur ++ [b, c]) true p.1 r (by omega) (by rw [ht]; simp) (by rw [hq2, ← hq.2]) (by
              have e2 : A.length + (cur ++ [b, c]).length + p.1.length = A.length + cur.length + l.length := by rw [hl, ← hq.1]; simp; omega
              rw [e2]
              exact hE)
            have e3 : A.length + (cur ++ [b, c]).length = A.length + cur.length + 2 := by simp; omega
            rw [e3] at ih
            have wn2 : IntKind.i64.wrap (((A.length + cur.length + 1 : Nat) : Int) + 1) = ((A.length + cur.length + 2 : Nat) : Int) := next_nat (by simp only [BIG]; omega)
            refine Evk.step ih fun k hk out hp R K => ?_
            have := hk out hp R K
            unfold L5R at this ⊢
            simp only [G15.L5, ltI_t e, ei, eg, byte92, e1, cond_true, wn, wn2]
            exact this
    · rw [if_neg h1] at h
      have e1 : (b == 92) = false := by simp [h1]
      by_cases h2 : b = 34
      · rw [if_pos h2] at h
        have e34 : (b == 34) = true := by simp [h2]
        have e10 : (b == 10) = false := by simp [h2]
        obtain ⟨l', hq, hl⟩ := opt h
        refine one (!q) l' hq hl fun k out R K => ?_
        unfold L5R
        simp only [G15.L5, G15.J9, G15.J11, ltI_t e, ei, eg, byte92, byte34, byte10, e1, e34, e10, cond_true, cond_false, Bool.not_false, wn]
      · rw [if_neg h2] at h
        have e34 : (b == 34) = false := by simp [h2]
        by_cases h3 : b = 10
        · have e10 : (b == 10) = true := by simp [h3]
          cases q with
          | false =>
            rw [if_pos ⟨h3, rfl⟩] at h
            injection h with h
            injection h with hl hr
            rw [← hl, List.length_nil, Nat.add_zero] at hE
            exact hE
          | true =>
            rw [if_neg (fun h => by cases h.2)] at h
            obtain ⟨l', hq, hl⟩ := opt h
            refine one true l' hq hl fun k out R K => ?_
            unfold L5R
            simp only [G15.L5, G15.J9, G15.J11, ltI_t e, ei, eg, byte92, byte34, byte10, e1, e34, e10, cond_true, cond_false, Bool.not_true, wn]
        · have e10 : (b == 10) = false := by simp [h3]
          rw [if_neg (fun h => h3 h.1)] at h
          obtain ⟨l', hq, hl⟩ := opt h
          refine one q l' hq hl fun k out R K => ?_
          unfold L5R
          simp only [G15.L5, G15.J9, G15.J11, ltI_t e, ei, eg, byte92, byte34, byte10, e1, e34, e10, cond_true, cond_false, Bool.not_false, wn]
theorem scan_none {text A : Bytes} (hA : text.length ≤ 1000000) : ∀ (n : Nat) (rest cur : Bytes) (q : Bool), rest.length ≤ n → text = A ++ (cur ++ rest) → ln rest q false = none → cur ++ rest ≠ [] →
    Evk fun k => ∀ (out : List PV) (R : Type) (K : List PV → Int → Option R), L5R k text (A.length : Nat) q ((A.length + cur.length : Nat) : Int) out K = K [] 2
  | _, [], cur, q, _, ht, _, hne => by
    have hlen : text.length = A.length + cur.length := by rw [ht]; simp
    have hc : 0 < cur.length := List.length_pos_iff.2 (by simpa using hne)
    have e : ¬ (((A.length + cur.length : Nat) : Int) < ((text.length : Nat) : Int)) := by omega
    have en : eqI ((A.length : Nat) : Int) ((text.length : Nat) : Int) = false := eqI_f (by omega)
    refine Evk.one fun k out R K => ?_
    unfold L5R
    simp only [G15.L5, ltI_f e, cond_false, en, Bool.not_false, cond_true]
  | 0, b :: t, cur, q, hn, _, _, _ => by simp at hn
  | n + 1, b :: t, cur, q, hn, ht, h, hne => by
    simp only [List.length_cons] at hn
    have hlen : text.length = A.length + cur.length + (t.length + 1) := by rw [ht]; simp; omega
    have e : ((A.length + cur.length : Nat) : Int) < ((text.length : Nat) : Int) := by omega
    have ei : inI ((A.length + cur.length : Nat) : Int) ((text.length : Nat) : Int) = true := inI_true (by omega)
    have eg : text.getD (Int.toNat ((A.length + cur.length : Nat) : Int)) 0 = b := by
      have := getD_at (A ++ cur) b t
      rw [List.append_assoc, ← ht, List.length_append] at this
      exact this
    have wn : IntKind.i64.wrap (((A.length + cur.length : Nat) : Int) + 1) = ((A.length + cur.length + 1 : Nat) : Int) := next_nat (by simp only [BIG]; omega)
    have one : ∀ q', ln t q' false = none → (∀ k out (R : Type) (K : List PV → Int → Option R), L5R (k + 1) text (A.length : Nat) q ((A.length + cur.length : Nat) : Int) out K = L5R k text (A.length : Nat) q' ((A.length + cur.length + 1 : Nat) : Int) out K) →
        Evk fun k => ∀ (out : List PV) (R : Type) (K : List PV → Int → Option R), L5R k text (A.length : Nat) q ((A.length + cur.length : Nat) : Int) out K = K [] 2 := by
      intro q' hq hst
      have ih := scan_none (A := A) hA n t (cur ++ [b]) q' (by omega) (by rw [ht]; simp) hq (by simp)
      have e3 : A.length + (cur ++ [b]).length = A.length + cur.length + 1 := by simp; omega
      rw [e3] at ih
      exact Evk.step ih fun k hk out R K => by rw [hst]; exact hk out R K
    have opt : ∀ {o : Option (Bytes × Bytes)}, (o.map fun p => (b :: p.1, p.2)) = none → o = none := by
      intro o ho
      cases o with
      | none => rfl
      | some p => cases ho
    simp only [ln, Bool.false_eq_true, if_false] at h
    by_cases h1 : b = 92
    · rw [if_pos h1] at h
      have e1 : (b == 92) = true := by simp [h1]
      have e34 : (b == 34) = false := by simp [h1]
      have e10 : (b == 10) = false := by simp [h1]
      cases q with
      | false =>
        refine one false (opt h) fun k out R K => ?_
        unfold L5R
        simp only [G15.L5, G15.J9, G15.J11, ltI_t e, ei, eg, byte92, byte34, byte10, e1, e34, e10, cond_true, cond_false, Bool.not_false, wn]
      | true =>
        have wn2 : IntKind.i64.wrap (((A.length + cur.length + 1 : Nat) : Int) + 1) = ((A.length + cur.length + 2 : Nat) : Int) := next_nat (by simp only [BIG]; omega)
        cases t with
        | nil =>
          have hE : Evk fun k => ∀ (out : List PV) (R : Type) (K : List PV → Int → Option R), L5R k text (A.length : Nat) true ((A.length + cur.length + 2 : Nat) : Int) out K = K [] 2 := by
            simp only [List.length_nil] at hlen
            have e : ¬ (((A.length + cur.length + 2 : Nat) : Int) < ((text.length : Nat) : Int)) := by omega
            have en : eqI ((A.length : Nat) : Int) ((text.length : Nat) : Int) = false := eqI_f (by omega)
            refine Evk.one fun k out R K => ?_
            unfold L5R
            simp only [G15.L5, ltI_f e, cond_false, en, Bool.not_false, cond_true]
          refine Evk.step hE fun k hk out R K => ?_
          have := hk out R K
          unfold L5R at this ⊢
          simp only [G15.L5, ltI_t e, ei, eg, byte92, e1, cond_true, wn, wn2]
          exact this
        | cons c t =>
          simp only [List.length_cons] at hn hlen
          have hq := opt h
          simp only [ln, if_true] at hq
          have hq2 : ln t true false = none := by
            cases hh : ln t true false with
            | none => rfl
            | some p => rw [hh] at hq; cases hq
          have ih := scan_none (A := A) hA n t (cur ++ [b, c]) true (by omega) (by rw [ht]; simp) hq2 (by simp)
          have e3 : A.length + (cur ++ [b, c]).length = A.length + cur.length + 2 := by simp; omega
          rw [e3] at ih
          refine Evk.step ih fun k hk out R K => ?_
          have := hk out R K
          unfold L5R at this ⊢
          simp only [G15.L5, ltI_t e, ei, eg, byte92, e1, cond_true, wn, wn2]
          exact this
    · rw [if_neg h1] at h
      have e1 : (b == 92) = false := by simp [h1]
      by_cases h2 : b = 34
      · rw [if_pos h2] at h
        have e34 : (b == 34) = true := by simp [h2]
        have e10 : (b == 10) = false := by simp [h2]
        refine one (!q) (opt h) fun k out R K => ?_
        unfold L5R
        simp only [G15.L5, G15.J9, G15.J11, ltI_t e, ei, eg, byte92, byte34, byte10, e1, e34, e10, cond_true, cond_false, Bool.not_false, wn]
      · rw [if_neg h2] at h
        have e34 : (b == 34) = false := by simp [h2]
        by_cases h3 : b = 10
        · have e10 : (b == 10) = true := by simp [h3]
          cases q with
          | false => rw [if_pos ⟨h3, rfl⟩] at h; cases h
          | true =>
            rw [if_neg (fun h => by cases h.2)] at h
            refine one true (opt h) fun k out R K => ?_
            unfold L5R
            simp only [G15.L5, G15.J9, G15.J11, ltI_t e, ei, eg, byte92, byte34, byte10, e1, e34, e10, cond_true, cond_false, Bool.not_true, wn]
        · have e10 : (b == 10) = false := by simp [h3]
          rw [if_neg (fun h => h3 h.1)] at h
          refine one q (opt h) fun k out R K => ?_
          unfold L5R
          simp only [G15.L5, G15.J9, G15.J11, ltI_t e, ei, eg, byte92, byte34, byte10, e1, e34, e10, cond_true, cond_false, Bool.not_false, wn]
theorem line_step {text A l r : Bytes} (hA : text.length ≤ 1000000) (ht : text = A ++ (l ++ 10 :: r)) {s : Stp} {e : Int} (hp : Parse13N l s e) {P : List PV → Prop} (hP : ∀ out, P out → out.length ≤ 1000000000) {v : List PV → (R : Type) → (List PV → Int → Option R) → Option R}
    (hv : e = 0 → Evk fun k => ∀ out, P out → ∀ (R : Type) (K : List PV → Int → Option R), L5R k text ((A.length + l.length + 1 : Nat) : Int) false ((A.length + l.length + 1 : Nat) : Int) (out ++ [s.pv]) K = v out R K) :
    Evk fun k => ∀ out, P out → ∀ (R : Type) (K : List PV → Int → Option R), L5R k text (A.length : Nat) false ((A.length + l.length : Nat) : Int) out K = if e = 0 then v out R K else K [] 2 := by
  have hlen : text.length = A.length + l.length + (r.length + 1) := by rw [ht]; simp; omega
  have e0 : ((A.length + l.length : Nat) : Int) < ((text.length : Nat) : Int) := by omega
  have ei : inI ((A.length + l.length : Nat) : Int) ((text.length : Nat) : Int) = true := inI_true (by omega)
  have eg : text.getD (Int.toNat ((A.length + l.length : Nat) : Int)) 0 = 10 := by
    have := getD_at (A ++ l) 10 r
    rw [List.append_assoc, ← ht, List.length_append] at this
    exact this
  have wn : IntKind.i64.wrap (((A.length + l.length : Nat) : Int) + 1) = ((A.length + l.length + 1 : Nat) : Int) := next_nat (by simp only [BIG]; omega)
  have er : inR ((A.length : Nat) : Int) ((A.length + l.length : Nat) : Int) ((text.length : Nat) : Int) = true := by rw [inR_nat]; simp; omega
  have es : sub text ((A.length : Nat) : Int) ((A.length + l.length : Nat) : Int) = l := by
    rw [sub_nat, ht]
    simp
  have b1 : ((10 : UInt8) == 92) = false := rfl
  have b2 : ((10 : UInt8) == 34) = false := rfl
  have b3 : ((10 : UInt8) == 10) = true := rfl
  have hagg : PV.agg [PV.int .u8 s.kind, PV.int .i64 s.frm, PV.int .i64 s.upto, PV.sl 5 (Nd.pvs s.nodes), PV.str s.name, PV.str s.value] = s.pv := rfl
  by_cases z : e = 0
  · refine Evk.step (Evk.and hp (hv z)) fun k hk out ho R K => ?_
    have := hk.2 out ho R K
    have l1 : leN (out.length + 1) LIM = true := lim (by have := hP out ho; omega)
    rw [if_pos z]
    unfold L5R at this ⊢
    simp only [G15.L5, G15.J9, G15.J11, G15.J12, ltI_t e0, ei, eg, byte92, byte34, byte10, b1, b2, b3, cond_true, cond_false, Bool.not_true, er, es, hk.1, eqI_t z, l1, hagg, wn]
    exact this
  · refine Evk.step hp fun k hk out ho R K => ?_
    rw [if_neg z]
    unfold L5R
    simp only [G15.L5, G15.J9, G15.J11, G15.J12, ltI_t e0, ei, eg, byte92, byte34, byte10, b1, b2, b3, cond_true, cond_false, Bool.not_true, er, es, hk, eqI_f z, Bool.not_false]
theorem rows_both : ∀ (n : Nat) (s : Bytes), s.length ≤ n → s.length ≤ 80000 → ∃ o : Option (List Stp), (∀ l, o = some l → (∀ x, x ∈ l → Ok x) ∧ l.length ≤ s.length) ∧
    (Evk fun k => ∀ (acc : List Stp), acc.length + s.length ≤ 1000000000 → ∀ (R : Type) (K0 : List PV → Option R) (Kr : Int → List PV → Option R), G14.L2 k s (acc.map Stp.pv) K0 Kr = rowsK o (Kr 2 []) fun l => K0 ((acc ++ l).map Stp.pv)) ∧
    ∀ A : Bytes, (A ++ s).length ≤ 1000000 → Evk fun k => ∀ (acc : List Stp), acc.length + s.length ≤ 1000000000 → ∀ (R : Type) (K : List PV → Int → Option R), L5R k (A ++ s) (A.length : Nat) false (A.length : Nat) (acc.map Stp.pv) K = rowsK o (K [] 2) fun l => K ((acc ++ l).map Stp.pv) 0
  | n, s, hn, hs => by
    by_cases he : s = []
    · refine ⟨some [], fun l hl => ?_, Evk.one fun k acc ha R K0 Kr => ?_, fun A hA => Evk.one fun k acc ha R K => ?_⟩
      · injection hl with hl
        subst hl he
        simp
      · simp only [G14.L2, eqS_t he, Bool.not_true, cond_false, rowsK, List.append_nil]
      · have e : ¬ (((A.length : Nat) : Int) < (((A ++ s).length : Nat) : Int)) := by rw [he]; simp
        have en : eqI ((A.length : Nat) : Int) (((A ++ s).length : Nat) : Int) = true := eqI_t (by rw [he]; simp)
        unfold L5R
        simp only [G15.L5, ltI_f e, cond_false, en, Bool.not_true, rowsK, List.append_nil]
    · have hL := line_spec (s := s) (by omega)
      cases hq : ln s false false with
      | none =>
        rw [hq] at hL
        obtain ⟨s', e, p1, _, _, _⟩ := parse_any [] (by simp)
        refine ⟨none, fun l hl => (by cases hl), Evk.step (Evk.and hL p1) fun k hk acc ha R K0 Kr => ?_, fun A hA => ?_⟩
        · simp only [G14.L2, eqS_f he, Bool.not_false, cond_true, hk.1, lineK, hk.2, rowsK]
        · have := scan_none (text := A ++ s) (A := A) hA s.length s [] false (Nat.le_refl _) rfl hq (by simpa using he)
          rw [List.length_nil, Nat.add_zero] at this
          exact this.mono fun k hk acc ha R K => hk (acc.map Stp.pv) R K
      | some p =>
        obtain ⟨t, r⟩ := p
        rw [hq] at hL
        have hst := ln_split s false false t r hq
        have hlen := congrArg List.length hst
        simp only [List.length_append, List.length_cons] at hlen
        obtain ⟨s', e, p1, p13, hok, _⟩ := parse_both t (by omega)
        by_cases z : e = 0
        · obtain ⟨hok1, hok2⟩ := hok z
          cases n with
          | zero => omega
          | succ n =>
            obtain ⟨o, o1, o2, o3⟩ := rows_both n r (by omega) (by omega)
            refine ⟨o.map (s' :: ·), fun l hl => ?_, Evk.step ((Evk.and hL p1).and o2) fun k hk acc ha R K0 Kr => ?_, fun A hA => ?_⟩
            · cases o with
              | none => cases hl
              | some m =>
                simp only [Option.map_some, Option.some.injEq] at hl
                obtain ⟨m2, m3⟩ := o1 m rfl
                subst hl
                refine ⟨fun x hx => ?_, by simp; omega⟩
                rcases List.mem_cons.1 hx with rfl | hx
                · exact hok1
                · exact m2 x hx
            · have l1 : leN ((acc.map Stp.pv).length + 1) LIM = true := lim (by simp; omega)
              have := hk.2 (acc ++ [s']) (by simp; omega) R K0 Kr
              have ha2 : acc.map Stp.pv ++ [PV.agg [PV.int .u8 s'.kind, PV.int .i64 s'.frm, PV.int .i64 s'.upto, PV.sl 5 (Nd.pvs s'.nodes), PV.str s'.name, PV.str s'.value]] = (acc ++ [s']).map Stp.pv := by simp [Stp.pv]
              simp only [G14.L2, G14.J7, eqS_f he, Bool.not_false, cond_true, hk.1.1, lineK, hk.1.2, Bool.not_true, cond_false, eqI_t z, l1, ha2, this]
              cases o with
              | none => rfl
              | some m => simp [rowsK]
            · have ht : A ++ s = A ++ (t ++ 10 :: r) := by rw [hst]
              have hA' := o3 (A ++ t ++ [10]) (by rw [hst] at hA; simp at hA ⊢; omega)
              have ea : A ++ t ++ [10] ++ r = A ++ s := by rw [hst]; simp
              have el : (A ++ t ++ [10]).length = A.length + t.length + 1 := by simp; omega
              rw [ea, el] at hA'
              have hrest := line_step (text := A ++ s) (A := A) hA ht p13 (P := fun out => ∃ acc : List Stp, out = acc.map Stp.pv ∧ acc.length + s.length ≤ 1000000000) (fun out ⟨acc, h1, h2⟩ => by rw [h1, List.length_map]; omega)
                (v := fun out R K => rowsK (o.map (s' :: ·)) (K [] 2) fun l => K (out ++ l.map Stp.pv) 0) (fun _ => hA'.mono fun k hk out ⟨acc, h1, h2⟩ R K => by
                  have := hk (acc ++ [s']) (by simp; omega) R K
                  rw [List.map_append, List.map_singleton, ← h1] at this
                  rw [this]
                  cases o with
                  | none => rfl
                  | some m => simp [rowsK, h1])
              have hsc := scan_some (text := A ++ s) (A := A) hA (P := fun out => ∃ acc : List Stp, out = acc.map Stp.pv ∧ acc.length + s.length ≤ 1000000000) (v := fun out R K => rowsK (o.map (s' :: ·)) (K [] 2) fun l => K (out ++ l.map Stp.pv) 0) s.length s [] false t r (Nat.le_refl _) rfl hq (by
                rw [List.length_nil, Nat.add_zero]
                exact hrest.mono fun k hk out ho R K => by rw [hk out ho R K, if_pos z])
              rw [List.length_nil, Nat.add_zero] at hsc
              exact hsc.mono fun k hk acc ha R K => by
                rw [hk (acc.map Stp.pv) ⟨acc, rfl, ha⟩ R K]
                cases o with
                | none => rfl
                | some m => simp [rowsK]
        · refine ⟨none, fun l hl => (by cases hl), Evk.step (Evk.and hL p1) fun k hk acc ha R K0 Kr => ?_, fun A hA => ?_⟩
          · simp only [G14.L2, eqS_f he, Bool.not_false, cond_true, hk.1, lineK, hk.2, rowsK, Bool.not_true, cond_false, eqI_f z]
          · have ht : A ++ s = A ++ (t ++ 10 :: r) := by rw [hst]
            have hrest := line_step (text := A ++ s) (A := A) hA ht p13 (P := fun out => out.length ≤ 1000000000) (fun out h => h) (v := fun out R K => K [] 2) (fun h => absurd h z)
            have hsc := scan_some (text := A ++ s) (A := A) hA (P := fun out => out.length ≤ 1000000000) (v := fun out R K => K [] 2) s.length s [] false t r (Nat.le_refl _) rfl hq (by
              rw [List.length_nil, Nat.add_zero]
              exact hrest.mono fun k hk out ho R K => by rw [hk out ho R K, if_neg z])
            rw [List.length_nil, Nat.add_zero] at hsc
            exact hsc.mono fun k hk acc ha R K => hk (acc.map Stp.pv) (by rw [List.length_map]; omega) R K
theorem parses_spec (t : Bytes) : Evk fun k => ∀ (R : Type) (K : Bool → Option R), G4.F k t K = K true := by
  by_cases c : ((t.length : Nat) : Int) > 1000
  · exact Evk.step shown_spec fun k hk R K => by simp only [G4.F, hk, Bool.not_true, cond_false, gtI_t c, cond_true]
  · obtain ⟨s, e, p1, p2, _⟩ := parse_both t (by omega)
    obtain ⟨s0, e0, q1, _, _, w0⟩ := parse_any t (by omega)
    obtain ⟨o, o1, o2, o3⟩ := rows_both t.length t (Nat.le_refl _) (by omega)
    have hA : Evk fun k => ∀ (R : Type) (K : List PV → Int → Option R), G14.F k t K = rowsK o (K [] 2) fun l => K (l.map Stp.pv) 0 := Evk.step o2 fun k hk R K => by
      have := hk [] (by simp; omega)
      simp only [List.nil_append, List.map_nil] at this
      simp only [G14.F, this]
    have hB : Evk fun k => ∀ (R : Type) (K : List PV → Int → Option R), G15.F k t K = rowsK o (K [] 2) fun l => K (l.map Stp.pv) 0 := Evk.step (o3 [] (by simp; omega)) fun k hk R K => by
      have := hk [] (by simp; omega) R K
      simp only [List.nil_append, List.map_nil, List.length_nil, Int.natCast_zero] at this
      unfold L5R at this
      simp only [G15.F]
      exact this
    have hsw : Nd.wts s.nodes ≤ SM := by omega
    have key : Evk fun k => ∀ (R : Type) (Kr : Bool → Option R), G4.J4 k t Kr = Kr true := by
      have hS : Evk fun k => ∀ (R : Type) (K : Bool → Option R), G11.F k (PV.agg [PV.int .u8 s.kind, PV.int .i64 s.frm, PV.int .i64 s.upto, PV.sl 5 (Nd.pvs s.nodes), PV.str s.name, PV.str s.value]) (PV.agg [PV.int .u8 s.kind, PV.int .i64 s.frm, PV.int .i64 s.upto, PV.sl 5 (Nd.pvs s.nodes), PV.str s.name, PV.str s.value]) K = K true := same_self s hsw
      have ee : eqI e e = true := eqI_t rfl
      cases o with
      | none =>
        have hN := sameRows_self [] (fun n hn => by cases hn) (by simp)
        rw [List.map_nil] at hN
        refine ((Evk.and p1 p2).and ((hA.and hB).and (hS.and hN))).mono fun k hk R Kr => ?_
        have d : eqI 2 2 = true := by decide
        simp only [G4.J4, hk.1.1, hk.1.2, hk.2.1.1, hk.2.1.2, rowsK, hk.2.2.1, cond_true, ee, hk.2.2.2, d]
      | some l =>
        obtain ⟨l1, l2⟩ := o1 l rfl
        have hN := sameRows_self l (fun n hn => by have := (l1 n hn).w; omega) (by omega)
        refine ((Evk.and p1 p2).and ((hA.and hB).and (hS.and hN))).mono fun k hk R Kr => ?_
        have d : eqI 0 0 = true := by decide
        simp only [G4.J4, hk.1.1, hk.1.2, hk.2.1.1, hk.2.1.2, rowsK, hk.2.2.1, cond_true, ee, hk.2.2.2, d]
    exact Evk.step (shown_spec.and key) fun k hk R K => by simp only [G4.F, hk.1, Bool.not_true, cond_false, gtI_f c, hk.2]
theorem LawWireParses.law : ∀ x0, IsT tyE 9 x0 → ∃ k, G4.G k [x0] GV some = some (.pv (.bool true)) := by
  intro x0 h0
  obtain ⟨s, rfl, _⟩ := (isT_told h0).str rfl
  obtain ⟨k, hk⟩ := (parses_spec s).get
  exact ⟨k, hk GV fun r1 => some (.pv (.bool r1))⟩
end Go.Dip
end
