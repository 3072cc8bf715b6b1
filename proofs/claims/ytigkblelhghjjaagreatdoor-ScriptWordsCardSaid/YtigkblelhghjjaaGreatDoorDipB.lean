/- Joined by program out of: Core10, Core11, Core12, Core13, Core14, Core15, Core16, Core17, Core18, Core19, Core20, Core21, CoreFold. -/
import Derived.Test.YtigkblelhghjjaaGreatDoorDipA
import Derived.Maps.OwnSet
import Derived.Laws.Externs
import Derived.Laws.Runes
import Derived.Laws.Cover4
import Derived.Laws.Cover1
import Derived.Laws.BytesArg
import Derived.Laws.IdiomStrings
import Derived.Maps.AppendAt
import Derived.Laws.OwnMore
set_option linter.all false
/- An ideal semantics of the model's code, part 10: cuts, addresses, fields, lengths. -/
section
set_option linter.unusedVariables false
set_option linter.unusedSimpArgs false
namespace Go.Dip
section
variable {R : Type} {r : R} {P : Program} {E : Env} {tB : TypeId}

theorem wOptInt_inv {st : St} {x : Option Operand} {z : Int} {K : Int → Option R} (h : wOptInt st x z K = some r) : ∃ l, K l = some r ∧ ((x = none ∧ l = z) ∨ ∃ y, x = some y ∧ st.ev y = .pv (.int .i64 l)) := by
  cases x with
  | none => exact ⟨z, h, .inl ⟨rfl, rfl⟩⟩
  | some y =>
    obtain ⟨n, hn, hk⟩ := wInt_inv h
    exact ⟨n, hk, .inr ⟨y, rfl, hn⟩⟩
/-- A bound that is told. -/
def Bound (z : Int) (x : Option Value) (l : Int) : Prop := (x = none ∧ l = z) ∨ x = some (.int .i64 l)
theorem Sim.bound {X : Cx} {n : Nat} {I : Mem} {μ : Locs} {st : St} {a : Act} {w : World} (hs : Sim X n I μ st a w) {x : Option Operand} {z l : Int} (h : (x = none ∧ l = z) ∨ ∃ y, x = some y ∧ st.ev y = .pv (.int .i64 l)) : Bound z (x.map a.eval) l := by
  rcases h with ⟨rfl, rfl⟩ | ⟨y, rfl, hy⟩
  · exact .inl ⟨rfl, rfl⟩
  · exact .inr (by simp [rep_int (hy ▸ hs.ev y)])
theorem inR_inv {l h n : Int} (hh : inR l h n = true) : 0 ≤ l ∧ l ≤ h ∧ h ≤ n := by
  simp only [inR, Bool.and_eq_true, decide_eq_true_eq] at hh
  exact ⟨hh.1, hh.2.1, hh.2.2⟩
theorem run_bounds {b : Bool} {len cap : Nat} {lo hi : Option Value} {l h : Int} {w : World} (hl : Bound 0 lo l) (hh : Bound len hi h) (hr : 0 ≤ l ∧ l ≤ h ∧ h ≤ (len : Int)) (hc : len ≤ cap) :
    (Instr.sliceBounds b len cap lo hi none).run P w = .ok (l.toNat, h.toNat, cap) w := by
  obtain ⟨h0, h1, h2⟩ := hr
  have h3 : h ≤ (cap : Int) := by omega
  have h4 : 0 ≤ h := by omega
  have h5 : max h 0 = h := by omega
  rcases hl with ⟨rfl, rfl⟩ | rfl <;> rcases hh with ⟨rfl, rfl⟩ | rfl
  · simp [Instr.sliceBounds]
  · simp [Instr.sliceBounds, Instr.sliceBound, asIntOf, h3, h4]
  · simp [Instr.sliceBounds, Instr.sliceBound, asIntOf, h0, h1]
  · simp [Instr.sliceBounds, Instr.sliceBound, asIntOf, h3, h4, h0, h5, h1]

theorem sub_extract (s : List UInt8) (l h : Nat) (h1 : l ≤ h) (h2 : h ≤ s.length) : (⟨s.toArray⟩ : ByteArray).extract l h = ⟨((s.drop l).take (h - l)).toArray⟩ := by
  apply ByteArray.ext
  simp [ByteArray.data_extract]
theorem toNat_sub' {l h : Int} (h0 : 0 ≤ l) (h1 : l ≤ h) : (h - l).toNat = h.toNat - l.toNat := by omega

theorem run_cut_str (hE : EnvOk P E tB) {t : TypeId} (ht : E.ty t = .str) {s : List UInt8} {lo hi : Option Value} {l h : Int} {w : World} (hl : Bound 0 lo l) (hh : Bound s.length hi h) (hr : 0 ≤ l ∧ l ≤ h ∧ h ≤ (s.length : Int)) :
    (Instr.sliceAt t (.string ⟨s.toArray⟩) lo hi none).run P w = .ok (.string ⟨(sub s l h).toArray⟩) w := by
  have hu := hE.str t ht
  have hb := run_bounds (P := P) (b := false) (w := w) (len := s.length) (cap := s.length) hl hh hr (Nat.le_refl _)
  have he := sub_extract s l.toNat h.toNat (by omega) (by omega)
  have hsz : (⟨s.toArray⟩ : ByteArray).size = s.length := by simp [ByteArray.size]
  simp only [Instr.sliceAt, Sem.run_bind, run_underlying hu, Result.andThen_ok, Instr.slice]
  simp only [Option.isSome_none, Bool.false_eq_true, if_false, hsz, Sem.run_bind, hb, Result.andThen_ok, Sem.run_pure, he, sub, toNat_sub' hr.1 hr.2.1]

theorem run_cut_slice (hE : EnvOk P E tB) {t e : TypeId} (ht : E.ty t = .slice e) {A : Option Addr} {len cap : Nat} {lo hi : Option Value} {l h : Int} {w : World} (hl : Bound 0 lo l) (hh : Bound len hi h) (hr : 0 ≤ l ∧ l ≤ h ∧ h ≤ (len : Int)) (hc : len ≤ cap) :
    (Instr.sliceAt t (.slice A len cap) lo hi none).run P w = .ok (.slice (if cap = l.toNat then A else A.map (·.add (l.toNat * E.sz e))) (h - l).toNat (cap - l.toNat)) w := by
  obtain ⟨hu, i, z, hi1, hi2, _⟩ := hE.slice t e ht
  have hb := run_bounds (P := P) (b := true) (w := w) (len := len) (cap := cap) hl hh hr hc
  simp only [Instr.sliceAt, Sem.run_bind, run_underlying hu, Result.andThen_ok, Instr.slice, hb, sizeOf, typeInfo, run_program, hi1, Sem.run_pure, hi2, toNat_sub' hr.1 hr.2.1]

/-- A part of what is only read. -/
theorem rep_cut {I : Mem} {c : Nat} {es : List PV} {v : Value} {l h : Int} (hv : RepP I (.sl c es) v) (hr : 0 ≤ l ∧ l ≤ h ∧ h ≤ (es.length : Int)) : ∃ A len cap, v = .slice A len cap ∧ len = es.length ∧ len ≤ cap ∧
    RepP I (.sl c (sub es l h)) (.slice (if cap = l.toNat then A else A.map (·.add (l.toNat * c))) (h - l).toNat (cap - l.toNat)) := by
  obtain ⟨h0, h1, h2⟩ := hr
  cases hv with
  | nilsl _ a =>
    refine ⟨a, 0, 0, rfl, rfl, Nat.le_refl _, ?_⟩
    have e1 : l = 0 := by simp at h2; omega
    have e2 : h = 0 := by simp at h2; omega
    subst e1 e2
    exact RepP.nilsl c a
  | sl _ _ b o cap f hcap hc hI hf =>
    refine ⟨some ⟨b, o, none⟩, es.length, cap, rfl, rfl, hcap, ?_⟩
    have hlen := sub_length es l h h0 h1 h2
    obtain ⟨o', ho', ho⟩ : ∃ o', (if cap = l.toNat then some (⟨b, o, none⟩ : Addr) else (some (⟨b, o, none⟩ : Addr)).map (·.add (l.toNat * c))) = some ⟨b, o', none⟩ ∧ (l < h → o' = o + l.toNat * c) := by
      by_cases hcl : cap = l.toNat
      · exact ⟨o, by simp [hcl], fun hlt => by omega⟩
      · exact ⟨o + l.toNat * c, by simp [hcl, add_at], fun _ => rfl⟩
    rw [ho', ← hlen]
    refine RepP.sl c _ b o' _ (fun i j => f (l.toNat + i) j) (by omega) ?_ ⟨?_, ?_⟩ ?_
    · intro i hi
      rw [sub_getD es l h .any i h0 h2 (by omega)]
      exact hc _ (by omega)
    · intro i j hi hj
      rw [ho (by omega)]
      have := hI.hI (l.toNat + i) j (by omega) hj
      rw [Nat.add_mul] at this
      rw [← this]
      congr 1
      omega
    · intro i j hi hj
      exact hI.h1 _ j (by omega) hj
    · intro i j hi hj
      rw [sub_getD es l h .any i h0 h2 (by omega)]
      exact hf _ j (by omega) hj

theorem isSl_inv {c : Nat} {v : PV} (h : isSl c v = true) : v = .sl c (slOf v) := by
  cases v with
  | sl c' es =>
    simp only [isSl, nbeq, decide_eq_true_eq] at h
    subst h; rfl
  | _ => simp [isSl] at h

/-- What gives a value out of values, the world as it is. -/
def ValDoes (P : Program) (E : Env) (st : St) (run : Act → Sem Value) (v : GV) : Prop :=
  ∀ {X : Cx} {n : Nat} {I : Mem} {μ : Locs} {a : Act} {w : World}, X.E = E → RowsOk μ → Sim X n I μ st a w → ∃ x, (run a).run P w = .ok x w ∧ RepG I μ v x

theorem evSlice_inv (hE : EnvOk P E tB) {st : St} {t : TypeId} {x : Operand} {lo hi : Option Operand} {K : GV → Option R} (h : evSlice E st t x lo hi K = some r) :
    ∃ v, K v = some r ∧ ValDoes P E st (fun a => Instr.sliceAt t (a.eval x) (lo.map a.eval) (hi.map a.eval) none) v := by
  unfold evSlice at h
  split at h
  · rename_i ht
    obtain ⟨s, hs, h⟩ := wStr_inv h
    obtain ⟨l, h, hl⟩ := wOptInt_inv h
    obtain ⟨u, h, hu⟩ := wOptInt_inv h
    cases hr : inR l u s.length
    · simp [hr] at h
    · simp only [hr, cond_true] at h
      refine ⟨_, h, fun {X n I μ a w} hX hro hsim => ?_⟩
      have hx := hsim.ev x
      rw [hs] at hx
      dsimp only
      rw [rep_str hx]
      exact ⟨_, run_cut_str hE ht (hsim.bound hl) (hsim.bound hu) (inR_inv hr), RepP.str _⟩
  · rename_i e ht
    split at h
    · rename_i v hv
      cases hsl : isSl (E.sz e) v
      · simp [hsl] at h
      · simp only [hsl, cond_true] at h
        obtain ⟨l, h, hl⟩ := wOptInt_inv h
        obtain ⟨u, h, hu⟩ := wOptInt_inv h
        cases hr : inR l u (slOf v).length
        · simp [hr] at h
        · simp only [hr, cond_true] at h
          refine ⟨_, h, fun {X n I μ a w} hX hro hsim => ?_⟩
          have hrep := hsim.ev x
          rw [hv, isSl_inv hsl] at hrep
          obtain ⟨A, len, cap, e1, e2, e3, e4⟩ := rep_cut hrep (inR_inv hr)
          dsimp only
          rw [e1]
          refine ⟨_, run_cut_slice hE ht (hsim.bound hl) (by rw [e2]; exact hsim.bound hu) (by rw [e2]; exact inR_inv hr) e3, e4⟩
    · rename_i q hq
      split at h
      · rename_i z hz0
        obtain ⟨ob, ho, hz⟩ := rowAt_inv hz0
        obtain ⟨e', n'⟩ := z
        rw [nbeq] at h
        by_cases hsz : E.sz e' = E.sz e
        · simp only [hsz, decide_true, cond_true] at h
          obtain ⟨l, h, hl⟩ := wOptInt_inv h
          obtain ⟨u, h, hu⟩ := wOptInt_inv h
          cases hr : inR l u n'
          · simp [hr] at h
          · simp only [hr, cond_true] at h
            refine ⟨_, h, fun {X n I μ a w} hX hro hsim => ?_⟩
            subst hX
            obtain ⟨v, xs, h1, h2⟩ := (hsim.h.ok q _ ho).asRow hz
            obtain ⟨c, h4⟩ : ∃ c, μ q = some (.row (a.eval x) c) := by
              have hx := hsim.ev x
              rw [hq] at hx
              exact hx
            dsimp only
            rw [h1] at h4
            injection h4 with h4
            injection h4 with h4 h4'
            obtain ⟨r0, r1, r2⟩ := inR_inv hr
            rcases h2.2 with ⟨e1, e2⟩ | ⟨g, cap, cur, e1, _, _, hnc, _⟩
            · rw [← h4, e1]
              have hz : n' = 0 := e2
              have eu : u = 0 := by omega
              have el : l = 0 := by omega
              subst eu el
              refine ⟨_, run_cut_slice (len := 0) (cap := 0) hE ht (hsim.bound hl) (by simpa [hz] using hsim.bound hu) ⟨by omega, by omega, by omega⟩ (Nat.le_refl _), ?_⟩
              exact ⟨v, _, h1, by omega, by omega, .inl ⟨e1, rfl, rfl⟩⟩
            · rw [← h4, e1]
              refine ⟨_, run_cut_slice (len := n') (cap := cap) hE ht (hsim.bound hl) (hsim.bound hu) ⟨r0, r1, r2⟩ hnc, ?_⟩
              refine ⟨v, _, h1, r0, r1, .inr ?_⟩
              by_cases hcl : cap = l.toNat
              · exact ⟨g, n', cap, 0, cap - l.toNat, e1, r2, by simp [hcl], fun hlt => by omega, by omega⟩
              · exact ⟨g, n', cap, l.toNat * X.E.sz e', cap - l.toNat, e1, r2, by simp [hcl, add_at, hsz], fun _ => rfl, by omega⟩
        · simp [hsz] at h
      · cases h
    · cases h
  · cases h
end
end Go.Dip
end

/- An ideal semantics of the model's code, part 11: addresses, fields, indexes, lengths, struct literals. -/
section
set_option linter.unusedVariables false
set_option linter.unusedSimpArgs false
namespace Go.Dip
section
variable {R : Type} {r : R} {P : Program} {E : Env} {tB : TypeId}

/-- What gives a value out of one operand's value. -/
def Val1 (P : Program) (E : Env) (st : St) (v0 : GV) (run : Value → Sem Value) (v : GV) : Prop :=
  ∀ {X : Cx} {n : Nat} {I : Mem} {μ : Locs} {a : Act} {w : World} {x : Value}, X.E = E → RowsOk μ → Sim X n I μ st a w → RepG I μ v0 x → ∃ y, (run x).run P w = .ok y w ∧ RepG I μ v y

theorem fieldOff_inv (hE : EnvOk P E tB) {s : TypeId} {f : Nat} {K : Nat → TypeId → Option R} (h : fieldOff E s f K = some r) : ∃ fs, ∃ Fs : Array Field, ∃ F : Field, ∃ i, E.ty s = .struct fs ∧ P.underlying s = some (.struct Fs) ∧ Fs[f]? = some F ∧ K F.offset F.type = some r ∧
    P.info? F.type = some i ∧ i.size = E.sz F.type ∧ i.size ≠ 0 ∧ F.offset + E.sz F.type ≤ E.sz s ∧ (isStruct (E.ty F.type) = true ∨ isScalar (E.ty F.type) = true) := by
  unfold fieldOff at h
  split at h
  · rename_i fs ht
    obtain ⟨Fs, i, hu, hfs, _⟩ := hE.struct s fs ht
    split at h
    · rename_i x hx
      rw [hfs, List.getElem?_map] at hx
      obtain ⟨F, hF, e⟩ := Option.map_eq_some_iff.1 hx
      subst e
      have hm : (F.offset, F.type) ∈ fs := by rw [hfs]; exact List.mem_map.2 ⟨F, List.mem_of_getElem? hF, rfl⟩
      obtain ⟨k1, ⟨j, k2, k3⟩, k5⟩ := hE.fits s fs ht _ hm
      rw [nbeq] at h
      by_cases hz0 : E.sz F.type = 0
      · simp [hz0] at h
      simp only [hz0, decide_false, cond_false] at h
      have k4 : j.size ≠ 0 := by rw [k3]; exact hz0
      exact ⟨fs, Fs, F, j, ht, hu, by simpa using hF, h, k2, k3, k4, k1, k5⟩
    · cases h
  · cases h

theorem evAddr_inv (hE : EnvOk P E tB) {st : St} {s : TypeId} {f : Nat} {v0 : GV} {K : GV → Option R} (h : evAddr E st s f v0 K = some r) : ∃ v, K v = some r ∧ v.keys = v0.keys ∧ Val1 P E st v0 (fun x => Instr.fieldAt s x f) v := by
  unfold evAddr at h
  have h0 := fieldOff_inv hE h
  clear h
  obtain ⟨fs, Fs, F, i, ht, hu, hF, h, hi, hi2, hi3, _, _⟩ := h0
  have hrun : ∀ (b o : Nat) (w : World), (Instr.fieldAt s (.pointer (some ⟨b, o, none⟩)) f).run P w = .ok (.pointer (some ⟨b, o + F.offset, none⟩)) w := by
    intro b o w
    simp [Instr.fieldAt, run_underlying hu, hF, Instr.sureAddr, fieldPlace, sizeOf, typeInfo, hi, hi3, add_at]
  split at h
  · rename_i q off
    split at h
    · rename_i cs ho
      refine ⟨_, h, rfl, fun {X n I μ a w x} hX hr hs hx => ?_⟩
      obtain ⟨_, b', _, _, _, _, k1, _⟩ := hs.h.ok q _ ho
      rcases hx with ⟨b, h1, rfl⟩ | ⟨b, h1, h2, rfl⟩
      · exact ⟨_, hrun _ _ w, .inl ⟨b, h1, rfl⟩⟩
      · rw [k1] at h1
        rcases h1 with ⟨_, h1⟩ | h1 <;> (injection h1 with h1; cases h1)
    · cases h
  · refine ⟨_, h, rfl, fun {X n I μ a w x} hX hr hs hx => ?_⟩
    obtain ⟨g, m, cap, c, h1, h2, h3, rfl⟩ := hx
    exact ⟨_, hrun _ _ w, g, m, cap, c, h1, h2, h3, by rw [Nat.add_assoc]⟩
  · refine ⟨_, h, rfl, fun {X n I μ a w x} hX hr hs hx => ?_⟩
    obtain ⟨b, o, f', h1, h2, h3, h4, h5, rfl⟩ := hx
    exact ⟨_, hrun _ _ w, b, o, f', h1, h2, h3, h4, h5, by simp only [Nat.add_assoc]⟩
  · cases h

theorem RepCs.get {I : Mem} {μ : Locs} {cs : List CV} {vs : List Value} (h : RepCs I μ cs vs) {j : Nat} {v : CV} (hv : cs[j]? = some v) : RepC I μ v (vs.getD j undef) ∧ j < vs.length :=
  ⟨(h.2 j v hv).1, by rw [← h.1]; exact (List.getElem?_eq_some_iff.1 hv).1⟩

/-- A part of a struct's value. -/
theorem run_part_a (hE : EnvOk P E tB) {t : TypeId} {fs : List (Nat × TypeId)} (ht : E.ty t = .struct fs) {vs : Array Value} {off : Nat} {w : World} : (part t vs off).run P w = .ok (.agg (vs.extract off (off + E.sz t))) w := by
  obtain ⟨Fs, i, h1, h2, h3, h4⟩ := hE.struct t fs ht
  simp [part, Go.isAgg, run_underlying h1, sizeOf, typeInfo, h3, h4]
theorem extract_toList (vs : Array Value) (off n : Nat) : (vs.extract off (off + n)).toList = (vs.toList.drop off).take n := by
  simp [Array.toList_extract, List.extract_eq_take_drop]

theorem evField_inv (hE : EnvOk P E tB) {st : St} {s : TypeId} {f : Nat} {v0 : GV} {K : GV → Option R} (h : evField E s f v0 K = some r) : ∃ v, K v = some r ∧ Val1 P E st v0 (fun x => Instr.field s x f) v := by
  unfold evField at h
  have h0 := fieldOff_inv hE h
  clear h
  obtain ⟨fs, Fs, F, i, ht, hu, hF, h, hi, hi2, hi3, hfit, hcl⟩ := h0
  have hrun : ∀ (vs : Array Value) (w : World), (Instr.field s (.agg vs) f).run P w = (part F.type vs F.offset).run P w := by
    intro vs w
    simp [Instr.field, run_underlying hu, hF, asAgg]
  split at h
  · rename_i x
    cases hag : x.isAgg (E.sz s)
    · simp [hag] at h
    · simp only [hag, cond_true] at h
      cases hst : isStruct (E.ty F.type)
      · simp only [hst, cond_false] at h
        cases hsc : isScalar (E.ty F.type)
        · simp [hsc] at h
        · simp only [hsc, cond_true] at h
          refine ⟨_, h, fun {X n I μ a w y} hX hr hs hx => ?_⟩
          obtain ⟨vs, rfl, hn, hc⟩ := RepP.isAgg hx hag
          obtain ⟨_, _, _, _, _, _, hsz⟩ := hE.scalar _ hsc
          exact ⟨_, (hrun vs w).trans (part_run hE hsc (by omega) w), (hc F.offset (by omega)).1⟩
      · simp only [hst, cond_true] at h
        obtain ⟨gs, hgs⟩ := isStruct_inv hst
        refine ⟨_, h, fun {X n I μ a w y} hX hr hs hx => ?_⟩
        obtain ⟨vs, rfl, hn, hc⟩ := RepP.isAgg hx hag
        refine ⟨_, (hrun vs w).trans (run_part_a hE hgs), ?_⟩
        refine RepP.agg _ _ (by simp; omega) (fun j hj => ?_) (fun j hj => ?_) <;> simp only [List.length_map, List.length_range] at hj <;> rw [agetD, extract_toList]
        · have := (hc (F.offset + j) (by omega)).1
          simpa [List.getD_eq_getElem?_getD, List.getElem?_take, List.getElem?_drop, hj] using this
        · have := (hc (F.offset + j) (by omega)).2
          simpa [List.getD_eq_getElem?_getD, List.getElem?_take, List.getElem?_drop, hj] using this
  · rename_i cs
    cases hst : isStruct (E.ty F.type)
    · simp only [hst, cond_false] at h
      cases hsc : isScalar (E.ty F.type)
      · simp [hsc] at h
      · simp only [hsc, cond_true] at h
        split at h
        · rename_i v hv
          refine ⟨_, h, fun {X n I μ a w y} hX hr hs hx => ?_⟩
          obtain ⟨vs, rfl, hc⟩ := hx
          obtain ⟨k1, k2⟩ := hc.get hv
          exact ⟨_, (hrun vs w).trans (part_run hE hsc (by simpa using k2) w), k1⟩
        · cases h
    · simp only [hst, cond_true] at h
      obtain ⟨gs, hgs⟩ := isStruct_inv hst
      cases hb : Nat.ble (F.offset + E.sz F.type) cs.length
      · simp [hb] at h
      · simp only [hb, cond_true] at h
        refine ⟨_, h, fun {X n I μ a w y} hX hr hs hx => ?_⟩
        obtain ⟨vs, rfl, hc⟩ := hx
        refine ⟨_, (hrun vs w).trans (run_part_a hE hgs), mkAgg_rep ?_⟩
        rw [extract_toList]
        exact hc.part F.offset (E.sz F.type)
  · cases h

theorem inI_inv {i n : Int} (h : inI i n = true) : 0 ≤ i ∧ i < n := by
  simpa [inI] using h
theorem evIndexAddr_inv (hE : EnvOk P E tB) {st : St} {t : TypeId} {x i : Operand} {K : GV → Option R} (h : evIndexAddr E st t x i K = some r) : ∃ v, K v = some r ∧ ValDoes P E st (fun a => Instr.indexAt t (a.eval x) (a.eval i)) v := by
  unfold evIndexAddr at h
  split at h
  · rename_i e ht
    obtain ⟨ix, hix, h⟩ := wInt_inv h
    obtain ⟨hu, inf, z, hi1, hi2, _⟩ := hE.slice t e ht
    have hrun : ∀ (b o n cap : Nat) (w : World), 0 ≤ ix ∧ ix < (n : Int) → (Instr.indexAt t (.slice (some ⟨b, o, none⟩) n cap) (.int .i64 ix)).run P w = .ok (.pointer (some ⟨b, o + ix.toNat * E.sz e, none⟩)) w := by
      intro b o n cap w hb
      simp [Instr.indexAt, asIntOf, run_underlying hu, hb, sizeOf, typeInfo, hi1, hi2, add_at]
    split at h
    · rename_i v hv
      cases hc : isSl (E.sz e) v && inI ix (slOf v).length
      · simp [hc] at h
      · simp only [hc, cond_true] at h
        simp only [Bool.and_eq_true] at hc
        have hb := inI_inv hc.2
        refine ⟨_, h, fun {X n I μ a w} hX hr hs => ?_⟩
        have h1 := hs.ev x
        rw [hv, isSl_inv hc.1] at h1
        have h2 := hs.ev i
        rw [hix] at h2
        dsimp only
        rw [rep_int h2]
        have h1' : RepP I (.sl (E.sz e) (slOf v)) (a.eval x) := h1
        generalize hes : slOf v = es at h1' hb ⊢
        generalize a.eval x = y at h1'
        cases h1' with
        | nilsl => simp at hb; omega
        | sl _ _ b o cap f hcap hcc hI hf =>
          exact ⟨_, hrun b o _ cap w hb, b, o, f, hI, hcc, hf, hb.1, hb.2, by simp⟩
    · rename_i q hq
      split at h
      · rename_i z hz0
        obtain ⟨ob, ho, hz⟩ := rowAt_inv hz0
        obtain ⟨e', n'⟩ := z
        cases hc : Nat.beq (E.sz e') (E.sz e) && inI ix n'
        · simp [hc] at h
        · simp only [hc, cond_true] at h
          simp only [Bool.and_eq_true, nbeq, decide_eq_true_eq] at hc
          have hb := inI_inv hc.2
          refine ⟨_, h, fun {X n I μ a w} hX hr hs => ?_⟩
          subst hX
          obtain ⟨v, xs, h1, h2⟩ := (hs.h.ok q _ ho).asRow hz
          have hx := hs.ev x
          rw [hq] at hx
          obtain ⟨c, h4⟩ := hx
          rw [h1] at h4
          injection h4 with h4
          injection h4 with h4 h4'
          have h5 := hs.ev i
          rw [hix] at h5
          dsimp only
          rw [rep_int h5, ← h4]
          rcases h2.2 with ⟨e1, e2⟩ | ⟨g, cap, cur, e1, _⟩
          · omega
          · rw [e1]
            exact ⟨_, hrun g 0 _ cap w hb, g, n', cap, X.E.sz e', by rw [h1, e1], hb.1, hb.2, by simp [hc.1]⟩
      · cases h
    · rename_i q lo hi hq
      split at h
      · rename_i z hz0
        obtain ⟨ob, ho, hz⟩ := rowAt_inv hz0
        obtain ⟨e', n'⟩ := z
        cases hc : Nat.beq (E.sz e') (E.sz e) && inI ix (hi - lo)
        · simp [hc] at h
        · simp only [hc, cond_true] at h
          simp only [Bool.and_eq_true, nbeq, decide_eq_true_eq] at hc
          have hb := inI_inv hc.2
          refine ⟨_, h, fun {X n I μ a w} hX hr hs => ?_⟩
          subst hX
          obtain ⟨v, xs, h1, h2⟩ := (hs.h.ok q _ ho).asRow hz
          have hx := hs.ev x
          rw [hq] at hx
          obtain ⟨v', c, h4, h0, h0', h6⟩ := hx
          rw [h1] at h4
          injection h4 with h4
          injection h4 with h4 h4'
          subst h4 h4'
          have h5 := hs.ev i
          rw [hix] at h5
          dsimp only
          rw [rep_int h5]
          rcases h6 with ⟨e1, e2, _⟩ | ⟨g, m, cap, o, cap', e1, e2, e3, e4, e5⟩
          · omega
          · rw [e3]
            refine ⟨_, hrun g o _ cap' w ⟨hb.1, by omega⟩, g, m, cap, X.E.sz e', by rw [h1, e1], by omega, by omega, ?_⟩
            have ho' := e4 (by omega)
            have e6 : (lo + ix).toNat = lo.toNat + ix.toNat := by omega
            rw [ho', e6, ← hc.1, Nat.add_mul]
            simp
      · cases h
    · cases h
  · cases h

theorem evIndex_inv (hE : EnvOk P E tB) {st : St} {t : TypeId} {x i : Operand} {K : GV → Option R} (h : evIndex E st t x i K = some r) : ∃ v, K v = some r ∧ ValDoes P E st (fun a => Instr.index t (a.eval x) (a.eval i)) v := by
  unfold evIndex at h
  split at h
  · rename_i ht
    obtain ⟨s, hs0, h⟩ := wStr_inv h
    obtain ⟨ix, hix, h⟩ := wInt_inv h
    cases hc : inI ix s.length
    · simp [hc] at h
    · simp only [hc, cond_true] at h
      have hb := inI_inv hc
      refine ⟨_, h, fun {X n I μ a w} hX hr hs => ?_⟩
      have h1 := hs.ev x
      rw [hs0] at h1
      have h2 := hs.ev i
      rw [hix] at h2
      dsimp only
      rw [rep_str h1, rep_int h2]
      have hlt : ix.toNat < s.length := by omega
      have hrun := run_index_string (P := P) w t ⟨s.toArray⟩ .i64 ix (hE.str t ht)
      have hsz : (⟨s.toArray⟩ : ByteArray).size = s.length := by simp [ByteArray.size]
      rw [dif_pos (by rw [hsz]; exact hb)] at hrun
      refine ⟨_, hrun, ?_⟩
      have e : ((⟨s.toArray⟩ : ByteArray)[ix.toNat]'(by rw [hsz]; exact hlt)) = s.getD ix.toNat 0 := by
        rw [getD_lt hlt]
        show s.toArray[ix.toNat] = _
        simp
      rw [e]
      exact RepP.int _ _
  · cases h

/-- The elements of a slice, with their cells as they lie. -/
def SliceAt (X : Cx) (I : Mem) (w : World) (c : Nat) (es : List PV) (x : Value) : Prop :=
  ∃ A cap, x = .slice A es.length cap ∧ es.length ≤ cap ∧ (A = none → es = [] ∧ cap = 0) ∧ ∀ ad, A = some ad → ∃ xs, RowRep I c es xs ∧ xs.length = es.length * c ∧ ∀ p, p < es.length * c → w.cell? (ad.add p) = some (xs.getD p undef)
theorem flat_get {c n : Nat} (f : Nat → Nat → Value) {i j : Nat} (hi : i < n) (hj : j < c) : ((List.range (n * c)).map fun p => f (p / c) (p % c)).getD (i * c + j) undef = f i j := by
  have hb : i * c + j < n * c := by
    have := Nat.mul_le_mul_right c (show i + 1 ≤ n from hi)
    rw [Nat.add_mul] at this
    omega
  have e1 : (i * c + j) / c = i := by rw [Nat.mul_comm, Nat.mul_add_div (by omega)]; simp [Nat.div_eq_of_lt hj]
  have e2 : (i * c + j) % c = j := by rw [Nat.mul_comm, Nat.mul_add_mod]; exact Nat.mod_eq_of_lt hj
  simp [List.getD_eq_getElem?_getD, List.getElem?_map, List.getElem?_range hb, e1, e2]
theorem rep_sliceAt {X : Cx} {I : Mem} {w : World} {c : Nat} {es : List PV} {x : Value} (hc0 : 0 < c) (him : ImmOk X I w) (h : RepP I (.sl c es) x) : SliceAt X I w c es x := by
  cases h with
  | nilsl _ a => exact ⟨a, 0, rfl, Nat.le_refl _, fun _ => ⟨rfl, rfl⟩, fun ad e => ⟨[], fun i hi => by simp at hi, by simp, fun p hp => by simp at hp⟩⟩
  | sl _ _ b o cap f hcap hc hI hf =>
    refine ⟨some ⟨b, o, none⟩, cap, rfl, hcap, fun e => (by cases e), ?_⟩
    rintro ad e
    injection e with e
    subst e
    refine ⟨(List.range (es.length * c)).map fun p => f (p / c) (p % c), ?_, by simp, ?_⟩
    · intro i hi
      refine ⟨hc i hi, fun j hj => ?_⟩
      rw [flat_get f hi hj]
      exact ⟨hf i j hi hj, hI.h1 i j hi hj⟩
    · intro p hp
      rw [add_at]
      have hi : p / c < es.length := Nat.div_lt_of_lt_mul (by rw [Nat.mul_comm]; exact hp)
      have hj : p % c < c := Nat.mod_lt _ hc0
      have e : p / c * c + p % c = p := by rw [Nat.mul_comm]; exact Nat.div_add_mod p c
      have hg := flat_get f hi hj
      rw [e] at hg
      rw [hg]
      have := hI.hI (p / c) (p % c) hi hj
      rw [e] at this
      obtain ⟨arr, T, fz, k1, k2, _⟩ := him.cell this (hI.h1 _ _ hi hj)
      exact cell_heap k1 k2
theorem row_sliceAt {X : Cx} {I : Mem} {w : World} {c B e : Nat} {es : List PV} {v : Value} {xs : List Value} (h : w.ownsRow B e c v es.length xs) (hr : RowRep I c es xs) : SliceAt X I w c es v := by
  rcases h.2 with ⟨e1, e2⟩ | ⟨g, cap, cur, e1, _, hg, hnc, _⟩
  · refine ⟨none, 0, by rw [e1, e2], by omega, fun _ => ⟨List.eq_nil_of_length_eq_zero e2, rfl⟩, fun ad e => (by cases e)⟩
  · refine ⟨some ⟨g, 0, none⟩, cap, e1, hnc, fun e => (by cases e), ?_⟩
    rintro ad e
    injection e with e
    subst e
    refine ⟨xs, hr, h.1, fun p hp => ?_⟩
    rw [add_at, Nat.zero_add]
    rw [e1] at h
    exact row_cell h hp
theorem sub_sliceAt {X : Cx} {I : Mem} {w : World} {c B e : Nat} {es : List PV} {v x : Value} {xs : List Value} {lo hi : Int} (h : w.ownsRow B e c v es.length xs) (hr : RowRep I c es xs) (hs : SubVal v c lo hi x) : SliceAt X I w c (sub es lo hi) x := by
  obtain ⟨h0, h1, h2⟩ := hs
  rcases h2 with ⟨e1, e2, e3⟩ | ⟨g, n, cap, o, cap', e1, e2, e3, e4, e5⟩
  · have : lo = 0 := by omega
    subst this e2
    refine ⟨none, 0, by simp [e3, sub], by simp [sub], fun _ => ⟨by simp [sub], rfl⟩, fun ad e => (by cases e)⟩
  · rcases h.2 with ⟨k1, k2⟩ | ⟨g', cap2, cur, k1, _, hg, hnc, _⟩
    · rw [e1] at k1; cases k1
    · rw [e1] at k1
      injection k1 with k1 k2 k3
      injection k1 with k1
      injection k1 with k1
      subst k1 k2 k3
      have hlen := sub_length es lo hi h0 h1 e2
      refine ⟨some ⟨g, o, none⟩, cap', by rw [e3, hlen], by omega, fun e => (by cases e), ?_⟩
      rintro ad e
      injection e with e
      subst e
      refine ⟨(xs.drop (lo.toNat * c)).take ((hi - lo).toNat * c), ?_, ?_, ?_⟩
      · intro i hi'
        rw [sub_getD es lo hi .any i h0 e2 (by omega)]
        have hrow := hr (lo.toNat + i) (by omega)
        refine ⟨hrow.1, fun j hj => ?_⟩
        have hb : i * c + j < (hi - lo).toNat * c := by
          have := Nat.mul_le_mul_right c (show i + 1 ≤ (hi - lo).toNat by omega)
          rw [Nat.add_mul] at this
          omega
        have e : ((xs.drop (lo.toNat * c)).take ((hi - lo).toNat * c)).getD (i * c + j) undef = xs.getD ((lo.toNat + i) * c + j) undef := by
          simp only [List.getD_eq_getElem?_getD, List.getElem?_take, List.getElem?_drop, hb, if_true]
          congr 2
          rw [Nat.add_mul]
          omega
        rw [e]
        exact hrow.2 j hj
      · rw [List.length_take, List.length_drop, h.1, hlen]
        have : lo.toNat * c + (hi - lo).toNat * c ≤ es.length * c := by rw [← Nat.add_mul]; exact Nat.mul_le_mul_right c (by omega)
        omega
      · intro p hp
        rw [add_at]
        rw [hlen] at hp
        have hlt : lo < hi := by
          rcases Int.lt_or_le lo hi with h' | h'
          · exact h'
          · have : (hi - lo).toNat = 0 := by omega
            rw [this] at hp; omega
        have hb : lo.toNat * c + p < es.length * c := by
          have := Nat.mul_le_mul_right c (show lo.toNat + (hi - lo).toNat ≤ es.length by omega)
          rw [Nat.add_mul] at this
          omega
        rw [e4 hlt]
        have e : ((xs.drop (lo.toNat * c)).take ((hi - lo).toNat * c)).getD p undef = xs.getD (lo.toNat * c + p) undef := by
          simp [List.getD_eq_getElem?_getD, List.getElem?_take, List.getElem?_drop, hp]
        rw [e]
        rw [e1] at h
        exact row_cell h hb

theorem wSl_inv {st : St} {c : Nat} {v0 : GV} {K : List PV → Option R} (h : wSl E c st v0 K = some r) : ∃ es, K es = some r ∧
    ∀ {X : Cx} {n : Nat} {I : Mem} {μ : Locs} {a : Act} {w : World} {x : Value}, X.E = E → 0 < c → Sim X n I μ st a w → RepG I μ v0 x → SliceAt X I w c es x := by
  unfold wSl at h
  split at h
  · rename_i v
    cases hs : isSl c v
    · simp [hs] at h
    · simp only [hs, cond_true] at h
      refine ⟨_, h, fun {X n I μ a w x} hX hc hsim hx => ?_⟩
      rw [isSl_inv hs] at hx
      exact rep_sliceAt hc hsim.im hx
  · refine ⟨_, h, fun {X n I μ a w x} hX hc hsim hx => ?_⟩
    exact ⟨none, 0, hx, Nat.le_refl _, fun _ => ⟨rfl, rfl⟩, fun ad e => (by cases e)⟩
  · rename_i q
    split at h
    · rename_i e es ho
      rw [nbeq] at h
      by_cases hsz : E.sz e = c
      · simp only [hsz, decide_true, cond_true] at h
        refine ⟨_, h, fun {X n I μ a w x} hX hc hsim hx => ?_⟩
        subst hX hsz
        obtain ⟨_, v, xs, _, h1, h2, h3⟩ := hsim.h.ok q _ ho
        obtain ⟨c', h4⟩ := hx
        rw [h1] at h4
        injection h4 with h4
        injection h4 with h4 _
        rw [← h4]
        exact row_sliceAt h2 h3
      · simp [hsz] at h
    · cases h
  · rename_i q lo hi
    split at h
    · rename_i e es ho
      rw [nbeq] at h
      by_cases hsz : E.sz e = c
      · simp only [hsz, decide_true, cond_true] at h
        refine ⟨_, h, fun {X n I μ a w x} hX hc hsim hx => ?_⟩
        subst hX hsz
        obtain ⟨_, v, xs, _, h1, h2, h3⟩ := hsim.h.ok q _ ho
        obtain ⟨v', c', h4, h5⟩ := hx
        rw [h1] at h4
        injection h4 with h4
        injection h4 with h4 h4'
        subst h4 h4'
        exact sub_sliceAt h2 h3 h5
      · simp [hsz] at h
    · cases h
  · cases h

theorem evLen_inv (hE : EnvOk P E tB) {st : St} {t : TypeId} {x : Operand} {ty : TypeId} {K : GV → Option R} (h : evLen E st t x K = some r) : ∃ v, K v = some r ∧ ValDoes P E st (fun a => Builtin.len_ #[t] ty #[a.eval x]) v := by
  unfold evLen at h
  split at h
  · rename_i ht
    obtain ⟨s, hs, h⟩ := wStr_inv h
    refine ⟨_, h, fun {X n I μ a w} hX hr hsim => ?_⟩
    have hx := hsim.ev x
    rw [hs] at hx
    dsimp only
    rw [rep_str hx, run_len_string w t ty _ (hE.str t ht)]
    refine ⟨_, rfl, ?_⟩
    have e : goInt ((⟨s.toArray⟩ : ByteArray).size : Int) = .int .i64 (s.length : Int) := by simp [goInt, ByteArray.size]
    rw [e]
    exact RepP.int _ _
  · rename_i e ht
    obtain ⟨hu, i, z, _, _, _, _, hpos, _⟩ := hE.slice t e ht
    have hrun : ∀ (A : Option Addr) (n c : Nat) (w : World), (Builtin.len_ #[t] ty #[.slice A n c]).run P w = .ok (.int .i64 (n : Int)) w := by
      intro A n c w
      simp [Builtin.len_, run_underlying hu, goInt]
    split at h
    · rename_i q lo hi hq
      refine ⟨_, h, fun {X n I μ a w} hX hr hsim => ?_⟩
      subst hX
      have hx := hsim.evT t x
      rw [hq] at hx
      obtain ⟨v, c, _, h0, h1, h2⟩ := hx
      rcases h2 with ⟨_, e2, e3⟩ | ⟨g, n', cap, o, cap', _, _, e3, _⟩
      · have : lo = 0 := by omega
        subst this e2
        dsimp only
        rw [e3]
        exact ⟨_, hrun _ _ _ w, RepP.int _ _⟩
      · dsimp only
        rw [e3]
        refine ⟨_, hrun _ _ _ w, ?_⟩
        have e : (((hi - lo).toNat : Nat) : Int) = hi - lo := by omega
        rw [e]
        exact RepP.int _ _
    · rename_i q hq
      split at h
      · rename_i z hz0
        obtain ⟨ob, ho, hz⟩ := rowAt_inv hz0
        refine ⟨_, h, fun {X n I μ a w} hX hr hsim => ?_⟩
        subst hX
        have hx := hsim.evT t x
        rw [hq] at hx
        obtain ⟨c, h4⟩ := hx
        obtain ⟨v, xs, h1, h2⟩ := (hsim.h.ok q _ ho).asRow hz
        rw [h1] at h4
        injection h4 with h4
        injection h4 with h4 h4'
        dsimp only
        rw [← h4]
        rcases h2.2 with ⟨e1, e2⟩ | ⟨g, cap, cur, e1, _⟩
        · rw [e1, e2]
          exact ⟨_, hrun _ _ _ w, RepP.int _ _⟩
        · rw [e1]
          exact ⟨_, hrun _ _ _ w, RepP.int _ _⟩
      · cases h
    · obtain ⟨es, h, hw⟩ := wSl_inv h
      refine ⟨_, h, fun {X n I μ a w} hX hr hsim => ?_⟩
      have hx := hsim.evT t x
      rw [hX] at hx
      obtain ⟨A, cap, e1, _⟩ := hw hX hpos hsim hx
      dsimp only
      rw [e1]
      exact ⟨_, hrun _ _ _ w, RepP.int _ _⟩
  · rename_i kt et ht
    have hu := hE.mapt t kt et ht
    have hrun : ∀ (b : Nat) (es : Array MapEntry) (clock : Nat) (w : World), w.heap[b]? = some (.map es clock) → (Builtin.len_ #[t] ty #[.map (some b)]).run P w = .ok (.int .i64 (es.size : Int)) w := by
      intro b es clock w hb
      simp [Builtin.len_, run_underlying hu, MapKept.run_getObj_map hb, goInt, Result.andThen]
    split at h
    · rename_i q hq
      split at h
      · rename_i kvs hole ho
        refine ⟨_, h, fun {X n I μ a w} hX hr hsim => ?_⟩
        have hx := hsim.ev x
        rw [hq] at hx
        obtain ⟨b, k1, k2⟩ := hx
        obtain ⟨bs, b', es, is, _, h1, h2, h3, h4, h7, _⟩ := hsim.h.ok q _ ho
        rw [h1] at k1
        injection k1 with k1
        injection k1 with k1
        subst k1
        dsimp only
        rw [k2]
        refine ⟨_, hrun b' es es.size w h3, ?_⟩
        rw [h7]
        exact RepP.int _ _
      · cases h
    · rename_i v hv
      cases hm : isMp v
      · simp [hm] at h
      · simp only [hm, cond_true] at h
        refine ⟨_, h, fun {X n I μ a w} hX hr hsim => ?_⟩
        have hx := hsim.ev x
        rw [hv] at hx
        have hx' : RepP I v (a.eval x) := hx
        dsimp only
        generalize a.eval x = y at hx' ⊢
        cases hx' with
        | mp kvs l b clock ks vs bo hp hI hk hv' =>
          obtain ⟨es, clock', h3, h5⟩ := hsim.im.map hI.he
          refine ⟨_, hrun b es clock' w h3, ?_⟩
          have hsz : es.size = l.length := mapCells_size h5
          show RepP I (.int .i64 (kvs.length : Int)) (.int .i64 (es.size : Int))
          rw [hsz, hp.length_eq]
          exact RepP.int _ _
        | _ => cases hm
    · cases h
  · cases h
end
end Go.Dip
end

/- An ideal semantics of the model's code, part 12: struct literals, the rest of what changes nothing; calls by plain values. -/
section
set_option linter.unusedVariables false
set_option linter.unusedSimpArgs false
namespace Go.Dip
section
variable {R : Type} {r : R} {P : Program} {E : Env} {tB : TypeId}

theorem splice_length {α : Type} (cs : List α) (off : Nat) (xs : List α) (h : off + xs.length ≤ cs.length) : (splice cs off xs).length = cs.length := by
  simp only [splice, List.length_append, List.length_take, List.length_drop]
  omega
theorem splice_get {α : Type} (cs : List α) (off : Nat) (xs : List α) (h : off + xs.length ≤ cs.length) (i : Nat) : (splice cs off xs)[i]? = if off ≤ i ∧ i < off + xs.length then xs[i - off]? else cs[i]? := by
  simp only [splice, List.getElem?_append, List.length_append, List.length_take, List.getElem?_take, List.getElem?_drop]
  have e : min off cs.length = off := by omega
  rw [e]
  by_cases h1 : i < off
  · rw [if_pos (show i < off + xs.length by omega), if_pos h1, if_pos h1, if_neg (show ¬ (off ≤ i ∧ i < off + xs.length) by omega)]
  · by_cases h2 : i < off + xs.length
    · rw [if_pos h2, if_neg h1, if_pos (show off ≤ i ∧ i < off + xs.length by omega)]
    · rw [if_neg h2, if_neg (show ¬ (off ≤ i ∧ i < off + xs.length) by omega)]
      congr 1
      omega
theorem RepCs.splice {I : Mem} {μ : Locs} {cs xs : List CV} {vs ys : List Value} (h : RepCs I μ cs vs) (k : RepCs I μ xs ys) (off : Nat) (hl : off + xs.length ≤ cs.length) : RepCs I μ (splice cs off xs) (splice vs off ys) := by
  have hl' : off + ys.length ≤ vs.length := by rw [← h.1, ← k.1]; exact hl
  refine ⟨by rw [splice_length _ _ _ hl, splice_length _ _ _ hl']; exact h.1, fun i v hv => ?_⟩
  rw [splice_get _ _ _ hl] at hv
  rw [List.getD_eq_getElem?_getD, splice_get _ _ _ hl', ← k.1]
  split at hv
  · rename_i hi
    rw [if_pos hi]
    have := k.2 _ v hv
    rwa [List.getD_eq_getElem?_getD] at this
  · rename_i hi
    rw [if_neg hi]
    have := h.2 _ v hv
    rwa [List.getD_eq_getElem?_getD] at this

/-- 'fill' writes a part's cells as 'splice' does. -/
theorem fold_splice (off : Nat) : ∀ (ys : List Value) (k : Nat) (cells : Array Value), off + k + ys.length ≤ cells.size →
    ((ys.zipIdx k).foldl (fun cs (x : Value × Nat) => cs.setIfInBounds (off + x.2) x.1) cells).toList = splice cells.toList (off + k) ys
  | [], k, cells, h => by simp [splice]
  | y :: ys, k, cells, h => by
    rw [List.zipIdx_cons, List.foldl_cons, fold_splice off ys (k + 1) _ (by simp at h ⊢; omega)]
    have hl : off + k + (y :: ys).length ≤ cells.toList.length := by simpa using h
    apply List.ext_getElem?
    intro i
    rw [splice_get _ _ _ hl, splice_get _ _ _ (by simp at h ⊢; omega)]
    simp only [List.length_cons, Array.toList_setIfInBounds, List.getElem?_set]
    by_cases h1 : i = off + k
    · subst h1
      have : off + k < cells.size := by simp at h; omega
      rw [if_neg (show ¬ (off + (k + 1) ≤ off + k ∧ off + k < off + (k + 1) + ys.length) by omega), if_pos (show off + k ≤ off + k ∧ off + k < off + k + (ys.length + 1) by omega)]
      simp [this]
    · by_cases h2 : off + (k + 1) ≤ i ∧ i < off + (k + 1) + ys.length
      · rw [if_pos h2, if_pos (show off + k ≤ i ∧ i < off + k + (ys.length + 1) by omega)]
        have e : i - (off + k) = (i - (off + (k + 1))) + 1 := by omega
        rw [e, List.getElem?_cons_succ]
      · rw [if_neg h2, if_neg (show ¬ (off + k ≤ i ∧ i < off + k + (ys.length + 1)) by omega), if_neg (fun e => h1 e.symm)]
theorem fill_cons (place : Nat → Option (Nat × Nat)) (cells : Array Value) (i off : Nat) (v : Value) (rest : List (Nat × Value)) (hp : place i = some (off, v.cells.size)) (hl : off + v.cells.size ≤ cells.size) :
    ∃ cells', cells'.toList = splice cells.toList off v.cells.toList ∧ Instr.fill place cells ((i, v) :: rest) = Instr.fill place cells' rest := by
  refine ⟨v.cells.zipIdx.foldl (fun cs (x : Value × Nat) => cs.setIfInBounds (off + x.2) x.1) cells, ?_, ?_⟩
  · rw [← Array.foldl_toList, Array.toList_zipIdx]
    have := fold_splice off v.cells.toList 0 cells (by simpa using hl)
    simpa using this
  · simp only [Instr.fill, hp]
    rw [if_neg (by simp; omega)]

theorem wBuild_inv (hE : EnvOk P E tB) {st : St} {fs : List (Nat × TypeId)} {n : Nat} {place : Nat → Option (Nat × Nat)} (hpl : ∀ (i : Nat) f, fs[i]? = some f → place i = some (f.1, E.sz f.2) ∧ f.1 + E.sz f.2 ≤ n) :
    ∀ {parts : List (Nat × Operand)} {cs : List CV} {K : List CV → Option R}, wBuild E st fs parts cs K = some r → cs.length = n → ∃ cs', K cs' = some r ∧ cs'.length = n ∧
      ∀ {X : Cx} {m : Nat} {I : Mem} {μ : Locs} {a : Act} {w : World}, X.E = E → RowsOk μ → Sim X m I μ st a w → ∀ vs : Array Value, RepCs I μ cs vs.toList →
        ∃ vs', Instr.fill place vs (parts.map fun x => (x.1, a.eval x.2)) = some vs' ∧ RepCs I μ cs' vs'.toList
  | [], cs, K, h, hn => ⟨cs, h, hn, fun _ _ _ vs hv => ⟨vs, rfl, hv⟩⟩
  | x :: parts, cs, K, h, hn => by
    simp only [wBuild] at h
    split at h
    · rename_i f hf
      obtain ⟨hp, hfit⟩ := hpl _ f hf
      obtain ⟨xs, h1, hxl, _, _, hxr⟩ := wCells_inv hE h
      have hl : f.1 + xs.length ≤ cs.length := by omega
      obtain ⟨cs', h2, h3, h4⟩ := wBuild_inv hE hpl h1 (by rw [splice_length _ _ _ hl]; exact hn)
      refine ⟨cs', h2, h3, fun {X m I μ a w} hX hr hs vs hv => ?_⟩
      have hx := hs.evT f.2 x.2
      rw [hX] at hx
      obtain ⟨k1, k2⟩ := hxr hr hx
      obtain ⟨cells', c1, c2⟩ := fill_cons place vs x.1 f.1 (a.eval x.2) (parts.map fun x => (x.1, a.eval x.2)) (by rw [k2]; exact hp) (by have := hv.1; simp at this; omega)
      rw [List.map_cons, c2]
      refine h4 hX hr hs cells' ?_
      rw [c1]
      exact hv.splice k1 f.1 hl
    · cases h

theorem mapM_places (hE : EnvOk P E tB) : ∀ (Fs : List Field), (∀ f, f ∈ Fs → ∃ i, P.info? f.type = some i ∧ i.size = E.sz f.type) → Fs.mapM (fun f => (P.info? f.type).map fun i => (f.offset, i.size)) = some (Fs.map fun f => (f.offset, E.sz f.type))
  | [], _ => rfl
  | f :: Fs, h => by
    obtain ⟨i, h1, h2⟩ := h f (by simp)
    rw [List.mapM_cons, h1, mapM_places hE Fs fun g hg => h g (by simp [hg])]
    simp [h2]

theorem evBuild_inv (hE : EnvOk P E tB) {st : St} {t : TypeId} {fs : List (Nat × TypeId)} (ht : E.ty t = .struct fs) {parts : Array (Nat × Operand)} {K : GV → Option R} (h : wBuild E st fs parts.toList (zeroOf E 6 t) (fun cs => K (mkAgg cs)) = some r) :
    ∃ v, K v = some r ∧ ValDoes P E st (fun a => Instr.build t (parts.map fun x => (x.1, a.eval x.2))) v := by
  obtain ⟨Fs, i, hu, hfs, hi, his⟩ := hE.struct t fs ht
  obtain ⟨i', z, hi', hz, hzr, hza, hzl⟩ := hE.zero t (.inl (by rw [ht]; rfl))
  rw [hi] at hi'
  injection hi' with hi'
  subst hi'
  have hpl : ∀ (j : Nat) f, fs[j]? = some f → ((Fs.toList.map fun f => (f.offset, E.sz f.type)).toArray[j]?) = some (f.1, E.sz f.2) ∧ f.1 + E.sz f.2 ≤ E.sz t := by
    intro j f hf
    have hfit := (hE.fits t fs ht f (List.mem_of_getElem? hf)).1
    refine ⟨?_, hfit⟩
    rw [hfs, List.getElem?_map] at hf
    obtain ⟨F, hF, rfl⟩ := Option.map_eq_some_iff.1 hf
    simp only [List.getElem?_toArray, List.getElem?_map, hF, Option.map_some]
  obtain ⟨cs', h2, h3, h4⟩ := wBuild_inv (n := E.sz t) hE hpl h hzl.1
  refine ⟨_, h2, fun {X m I μ a w} hX hr hs => ?_⟩
  obtain ⟨vs', k1, k2⟩ := h4 hX hr hs z.cells (hzr I μ)
  refine ⟨_, run_build w t _ vs' ?_, mkAgg_rep k2⟩
  have hm := mapM_places (P := P) hE Fs.toList fun f hf => by
    obtain ⟨_, ⟨j, k3, k4⟩, _⟩ := hE.fits t fs ht (f.offset, f.type) (by rw [hfs]; exact List.mem_map.2 ⟨f, hf, rfl⟩)
    exact ⟨j, k3, k4⟩
  simp only [Program.built, hi, hu, hz, hm]
  rw [Array.toList_map]
  exact k1

theorem allPtr_inv : ∀ {vs : List GV} {rs : List Nat}, allPtr vs = some rs → vs = rs.map fun q => .c (.ptr q 0)
  | [], rs, h => by simp [allPtr] at h; subst h; rfl
  | .c (.ptr q 0) :: l, rs, h => by
    simp only [allPtr] at h
    cases hl : allPtr l with
    | none => simp [hl] at h
    | some qs =>
      simp only [hl, Option.some.injEq] at h
      subst h
      simp [allPtr_inv hl]
  | .c (.ptr q (n + 1)) :: l, rs, h => by simp [allPtr] at h
  | .c (.p _) :: l, rs, h => by simp [allPtr] at h
  | .c (.nils _) :: l, rs, h => by simp [allPtr] at h
  | .c (.orow _) :: l, rs, h => by simp [allPtr] at h
  | .c (.osub _ _ _) :: l, rs, h => by simp [allPtr] at h
  | .c (.ptrE _ _ _) :: l, rs, h => by simp [allPtr] at h
  | .c (.iptr _ _ _ _) :: l, rs, h => by simp [allPtr] at h
  | .c (.fn _ _) :: l, rs, h => by simp [allPtr] at h
  | .c (.glob _) :: l, rs, h => by simp [allPtr] at h
  | .agg _ :: l, rs, h => by simp [allPtr] at h
  | .tup _ :: l, rs, h => by simp [allPtr] at h
end
end Go.Dip
end

/- An ideal semantics of the model's code, part 13: what a callee owes; the operations that change no object. -/
section
set_option linter.unusedVariables false
set_option linter.unusedSimpArgs false
namespace Go.Dip

/-- A call of a function of the program, or of one that the model answers itself. -/
def Meets (P : Program) (g : FuncId) (as : Array Value) (w : World) (R : Ending → World → Prop) : Prop :=
  ((callFunc g as).run P w = .ok (.enter g as) w ∧ Calls P g as w R) ∨ ∃ x w', (callFunc g as).run P w = .ok (.value x) w' ∧ R (.returned x) w'
theorem Upon.meets {P : Program} {o : Oper} {a : Act} {w : World} {g : FuncId} {as : Array Value} {R : Ending → World → Prop} {Post : Value → World → Prop} (hrun : (execOp a.eval o).run P w = (callFunc g as).run P w) (h : Meets P g as w R) (hp : ∀ e w', R e w' → ∃ x, e = .returned x ∧ Post x w') : Upon P o a w Post := by
  rcases h with ⟨h1, h2⟩ | ⟨x, w', h1, h2⟩
  · intro next Q hn
    unfold Oper.wp
    rw [hrun, h1, Oper.upon_enter]
    refine h2.mono ?_
    intro e w' he
    obtain ⟨x, rfl, hx⟩ := hp e w' he
    exact hn x w' hx
  · obtain ⟨y, e, hy⟩ := hp _ _ h2
    injection e with e
    subst e
    exact Upon.of_run (hrun.trans h1) hy
theorem Meets.mono {P : Program} {g : FuncId} {as : Array Value} {w : World} {R R' : Ending → World → Prop} (h : Meets P g as w R) (hp : ∀ e w', R e w' → R' e w') : Meets P g as w R' := by
  rcases h with ⟨h1, h2⟩ | ⟨x, w', h1, h2⟩
  · exact .inl ⟨h1, h2.mono hp⟩
  · exact .inr ⟨x, w', h1, hp _ _ h2⟩
/-- A call by plain values: what it gives, whatever the world; it makes memory, and changes none. -/
def PureFn (P : Program) (E : Env) (W0 : World) (f : FuncId) (args : List PV) (v : GV) : Prop :=
  v.keys = [] ∧ ∀ (X : Cx) (I : Mem) (w : World) (as : Array Value), X.E = E → X.W0 = W0 → ImmOk X I w → X.B ≤ w.heap.size → W0.heap.size ≤ X.B → RowKit.Below W0.heap.size W0 w →
    as.size = args.length → (∀ i, i < args.length → RepP I (args.getD i .any) (as.getD i undef)) →
    Meets P f as w fun e w' => ∃ x J, e = .returned x ∧ RepG J (fun _ => none) v x ∧ MemLe I J ∧ (∀ b o u, J b o = some u → I b o = some u ∨ w.heap.size ≤ b) ∧ ImmOk X J w' ∧ RowKit.Below w.heap.size w w'

/-- The blocks of some objects. -/
def blocksOf (β : Nat → List Nat) (H : List (Nat × Ob)) : Nat → Prop := fun b => ∃ r o, look H r = some o ∧ b ∈ β r
def hasBld (H : List (Nat × Ob)) : Bool := H.any fun x => x.2.isBld
/-- A call that is handed objects: what it gives, and what they are then. -/
def HeapFn (P : Program) (E : Env) (tB : TypeId) (W0 : World) (f : FuncId) (args : List GV) (H : List (Nat × Ob)) (v : GV) (H' : List (Nat × Ob)) : Prop :=
  ∀ (X : Cx) (I : Mem) (μ : Locs) (β : Nat → List Nat) (w : World) (as : Array Value), X.E = E → X.tB = tB → X.W0 = W0 → X.S = blocksOf β H → X.hb = hasBld H → X.w1 = w → X.df = [] → CxOk X → RowsOk μ → ImmOk X I w → X.B ≤ w.heap.size → RowKit.Below W0.heap.size W0 w →
    HeapB X I μ β w H → as.size = args.length → (∀ i, i < args.length → RepG I μ (args.getD i .any) (as.getD i undef)) →
    Meets P f as w fun e w' => ∃ x J ν, e = .returned x ∧ RepG J ν v x ∧ NewI X I J ∧ (RowsOk ν ∧ Keep μ ν) ∧ ImmOk X J w' ∧ HeapOk X J ν w' H' ∧ Frame X w w'

def Enters (P : Program) (g : FuncId) : Prop := ∀ (w : World) (as : Array Value), (callFunc g as).run P w = .ok (.enter g as) w
def RhoOk (P : Program) (E : Env) (tB : TypeId) (W0 : World) {R : Type} (ρ : FuncId → Option (Callee R)) : Prop :=
  ∀ g c, ρ g = some c → match c with
    | .pure F => ∀ vs K r, F vs K = some r → ∃ v, K v = some r ∧ PureFn P E W0 g vs v
    | .heap F => ∀ args H K r, F args H K = some r → ∃ v H', K v H' = some r ∧ HeapFn P E tB W0 g args H v H'

theorem enters_of {P : Program} {g : FuncId} {fn : Func} (h : P.funcs[g]? = some fn) (hn : (fn.name == "runtime.NumGoroutine") = false) (hb : fn.body.isNone = false) : Enters P g := by
  intro w as
  simp only [callFunc, Sem.run_bind, run_program, Result.andThen_ok, h, hn, hb, Bool.false_eq_true, if_false, Sem.run_pure]

/-- The frame that a call by plain values leaves. -/
theorem below_grown {w w' : World} (h : RowKit.Below w.heap.size w w') (row : Option Nat) : w.grownBy w' row := ⟨h.os, h.tape, h.output, h.size, fun k hk _ => h.block k hk⟩

theorem RepG.pure {I : Mem} {μ ν : Locs} {v : GV} {x : Value} (h : RepG I μ v x) (hk : v.keys = []) : RepG I ν v x := h.mono (MemLe.refl I) fun r hr => by rw [hk] at hr; cases hr

theorem Sim.pureCall {X : Cx} {n : Nat} {I J : Mem} {μ : Locs} {st : St} {a : Act} {w w' : World} (hs : Sim X n I μ st a w) (hIJ : MemLe I J) (hnew : ∀ b o u, J b o = some u → I b o = some u ∨ w.heap.size ≤ b) (him : ImmOk X J w') (hb : RowKit.Below w.heap.size w w') :
    NewI X I J ∧ Sim X n J μ st a w' := by
  have h1 := hs.grown (below_grown hb none)
  obtain ⟨β, hβ⟩ := hs.h
  have hβ1 := hβ.grown (below_grown hb none) (Aside.none ..)
  refine ⟨⟨hIJ, fun b o u hu => ?_⟩, h1.size, h1.defers, fun i v hv => (h1.t i v hv).le hIJ, ⟨β, hβ1.sub (fun r o ho => ⟨o, ho, (hβ1.ok r o ho).le hIJ, rfl, rfl⟩) ?_ (fun _ h => h)⟩, him, h1.bw, h1.fr, h1.cx, h1.base⟩
  · rcases hnew b o u hu with e | e
    · exact .inl e
    · exact .inr (.inr (Nat.le_trans hs.fr.size e))
  · intro r o _ ho _ b hbr hI p
    cases hJ : J b p with
    | none => rfl
    | some u =>
      rcases hnew b p u hJ with e | e
      · rw [hI p] at e; cases e
      · have := (hβ.ok r o ho).lt b hbr
        omega

section
variable {R : Type} {r : R} {P : Program} {E : Env} {tB : TypeId} {W0 : World}

theorem upon_call {X : Cx} {n : Nat} {I : Mem} {μ : Locs} {st' : St} {a : Act} {w : World} {o : Oper} {g : FuncId} {vs : List PV} {v : GV} (hE : X.E = E) (hW : X.W0 = W0) (hr : RowsOk μ) (hp : PureFn P E W0 g vs v) (hs : Sim X n I μ st' a w) {as : Array Value}
    (hrun : (execOp a.eval o).run P w = (callFunc g as).run P w) (hl : as.size = vs.length) (ha : ∀ i, i < vs.length → RepP I (vs.getD i .any) (as.getD i undef)) :
    Upon P o a w fun x w' => ∃ J ν, NewI X I J ∧ (RowsOk ν ∧ Keep μ ν) ∧ Sim X n J ν st' a w' ∧ RepG J ν v x := by
  refine Upon.meets hrun (hp.2 X I w as hE hW hs.im hs.bw (by rw [← hW]; exact hs.cx.lowB) (by rw [← hW]; exact hs.base) hl ha) ?_
  rintro e w' ⟨x, J, rfl, h1, h2, h3, h4, h5⟩
  obtain ⟨k1, k2⟩ := hs.pureCall h2 h3 h4 h5
  exact ⟨x, rfl, J, μ, k1, ⟨hr, Keep.refl μ⟩, k2, h1.pure hp.1⟩

theorem run_call {a : Act} {o : Oper} {f : Operand} {args : Array Operand} {ts : Array TypeId} {g : FuncId} {fs cap : Array Value} {w : World} (ho : o.op = .call { callee := .value f, args := args, argTypes := ts }) (hf : a.eval f = .func (.func g) fs cap) :
    (execOp a.eval o).run P w = (callFunc g (fs ++ args.map a.eval ++ cap)).run P w := by
  simp only [execOp, ho, resolve, hf, Deferred.ofValue, invoke, Sem.run_bind, Sem.run_pure, Result.andThen_ok]
theorem Meets.of {g : FuncId} {as : Array Value} {w : World} {R : Ending → World → Prop} (en : Enters P g) (h : Calls P g as w R) : Meets P g as w R := .inl ⟨en w as, h⟩

theorem gpures_rep {I : Mem} {μ : Locs} : ∀ {vs : List GV} {ps : List PV} {xs : List Value}, evCalm.GVs.pures vs = some ps → vs.length = xs.length → (∀ i, i < vs.length → RepG I μ (vs.getD i .any) (xs.getD i undef)) →
    ps.length = xs.length ∧ ∀ i, i < ps.length → RepP I (ps.getD i .any) (xs.getD i undef)
  | [], ps, xs, h, hl, _ => by
    simp only [evCalm.GVs.pures, Option.some.injEq] at h
    subst h
    exact ⟨hl, fun i hi => by simp at hi⟩
  | v :: vs, ps, [], h, hl, _ => by simp at hl
  | v :: vs, ps, x :: xs, h, hl, hr => by
    simp only [evCalm.GVs.pures] at h
    cases h1 : v.pure? with
    | none => simp [h1] at h
    | some y =>
      cases h2 : evCalm.GVs.pures vs with
      | none => simp [h1, h2] at h
      | some ys =>
        simp only [h1, h2, Option.some.injEq] at h
        subst h
        obtain ⟨k1, k2⟩ := gpures_rep (xs := xs) h2 (by simpa using hl) (fun i hi => by simpa using hr (i + 1) (by simpa using hi))
        refine ⟨by simp [k1], fun i hi => ?_⟩
        cases i with
        | zero => simpa using pure_rep h1 (by simpa using hr 0 (by simp))
        | succ i => simpa using k2 i (by simpa using hi)
theorem wArgs_length (st : St) : ∀ l : List (TypeId × Operand), (wArgs E st l).length = l.length
  | [] => rfl
  | x :: l => by simp [wArgs, wArgs_length st l]
theorem wArgs_get (st : St) : ∀ (l : List (TypeId × Operand)) (i : Nat) (x : TypeId × Operand), l[i]? = some x → (wArgs E st l).getD i .any = st.evT E x.1 x.2
  | [], i, x, h => by simp at h
  | y :: l, 0, x, h => by simp at h; subst h; simp [wArgs]
  | y :: l, i + 1, x, h => by simpa [wArgs] using wArgs_get st l i x (by simpa using h)
/-- The operands of a call, in order. -/
theorem Sim.args {X : Cx} {n : Nat} {I : Mem} {μ : Locs} {st : St} {a : Act} {w : World} (hs : Sim X n I μ st a w) (ts : Array TypeId) (args : Array Operand) (hl : ts.size = args.size) (i : Nat) (hi : i < args.size) :
    RepG I μ ((wArgs X.E st (ts.toList.zip args.toList)).getD i .any) ((args.map a.eval).getD i undef) := by
  have h1 : (ts.toList.zip args.toList)[i]? = some (ts[i], args[i]) := by
    rw [List.getElem?_zip_eq_some]
    exact ⟨by simp, by simp [hi]⟩
  rw [wArgs_get st _ i _ h1]
  have : (args.map a.eval).getD i undef = a.eval args[i] := by simp [Array.getD, hi]
  rw [this]
  exact hs.evT ts[i] args[i]
end
end Go.Dip
end

/- An ideal semantics of the model's code, part 14: the operations that change no object, each. -/
section
set_option linter.unusedVariables false
set_option linter.unusedSimpArgs false
namespace Go.Dip
section
variable {R : Type} {r : R} {P : Program} {E : Env} {tB : TypeId} {W0 : World}

theorem ValDoes.calm {st : St} {o : Oper} {run : Act → Sem Value} {v : GV} (h : ValDoes P E st run v) (hrun : ∀ (a : Act) (w : World) x, (run a).run P w = .ok x w → (execOp a.eval o).run P w = .ok (.value x) w) : CalmDoes P E tB o st v := by
  intro X n I μ a w hX _ hr hs
  obtain ⟨x, h1, h2⟩ := h hX hr hs
  exact ⟨x, hrun a w x h1, h2⟩

/-- A conversion that gives a value out of values. -/
def isSliceT : TK → Bool
  | .slice _ => true
  | _ => false
theorem ofRunes_bytes : ∀ (es : List PV), ofRunes es = (runesBytes (es.map intOf)).data.toList := by
  have key : ∀ (es : List PV) (s : ByteArray), ((es.map intOf).foldl (fun r n => r ++ Utf8.encode n) s).data.toList = s.data.toList ++ ofRunes es := by
    intro es
    induction es with
    | nil => intro s; simp [ofRunes]
    | cons v es ih => intro s; simp only [List.map_cons, List.foldl_cons]; rw [ih]; simp [ofRunes]
  intro es
  have := key es ByteArray.empty
  unfold runesBytes
  rw [this]
  rfl
theorem isInt_inv {k : IntKind} {x : PV} (h : isInt k x = true) : x = .int k (intOf x) := by
  cases x with
  | int k' n => simp only [isInt, decide_eq_true_eq] at h; subst h; rfl
  | _ => simp [isInt] at h
theorem rep_int' {I : Mem} {x : PV} {k : IntKind} {v : Value} (h : RepP I x v) (hx : isInt k x = true) : v = .int k (intOf x) := by
  rw [isInt_inv hx] at h
  cases h
  rfl
/-- The cells of a slice of one-cell integers. -/
theorem SliceAt.ints {X : Cx} {I : Mem} {w : World} {k : IntKind} {es : List PV} {x : Value} (h : SliceAt X I w 1 es x) (hk : es.all (isInt k) = true) :
    ∃ A cap, x = .slice A es.length cap ∧ (A = none → es = []) ∧ ∀ ad, A = some ad → ∀ j, j < es.length → w.cell? (ad.add j) = some (.int k (intOf (es.getD j .any))) := by
  obtain ⟨A, cap, h1, h2, h3, h4⟩ := h
  refine ⟨A, cap, h1, fun e => (h3 e).1, fun ad e => ?_⟩
  obtain ⟨xs, k2, k3, k4⟩ := h4 ad e
  refine fun j hj => ?_
  rw [k4 j (by omega)]
  have hm : isInt k (es.getD j .any) = true := by
    rw [List.all_eq_true] at hk
    rw [getD_lt hj]
    exact hk _ (by simp)
  obtain ⟨_, k5⟩ := k2 j hj
  have k6 := (k5 0 (by omega)).1
  simp only [Nat.mul_one, Nat.add_zero] at k6
  have e2 : pcell (es.getD j .any) 0 = es.getD j .any := by rw [isInt_inv hm]; rfl
  rw [e2] at k6
  rw [rep_int' k6 hm]

theorem evConv_inv (hE : EnvOk P E tB) {d : Nat} {st : St} {s t : TypeId} {x : Operand} {K : GV → St → Option R} (ht : isSliceT (E.ty t) = false) (h : evConv E d st s t x K = some r) :
    ∃ v, K v st = some r ∧ ValDoes P E st (fun a => convert s t (a.eval x)) v := by
  unfold evConv at h
  split at h
  · rename_i ks k hs hk
    obtain ⟨n, hn, h⟩ := wInt_inv h
    refine ⟨_, h, fun {X m I μ a w} hX hr hsim => ?_⟩
    have hx := hsim.ev x
    rw [hn] at hx
    dsimp only
    rw [rep_int hx]
    have hu := hE.int t k hk
    have hq : P.intKind t = k := by simp [Program.intKind, hu]
    have := run_convert_int (P := P) w s t ks n (by rw [hE.int s ks hs]; rfl) (by rw [hq]; exact hu)
    rw [hq] at this
    exact ⟨_, this, RepP.int _ _⟩
  · rename_i hs hk
    obtain ⟨n, hn, h⟩ := wStr_inv h
    refine ⟨_, h, fun {X m I μ a w} hX hr hsim => ?_⟩
    have hx := hsim.ev x
    rw [hn] at hx
    dsimp only
    rw [rep_str hx]
    exact ⟨_, by simp [convert, run_underlying (hE.str s hs), run_underlying (hE.str t hk)], RepP.str _⟩
  · rename_i ks hs hk
    obtain ⟨n, hn, h⟩ := wInt_inv h
    refine ⟨_, h, fun {X m I μ a w} hX hr hsim => ?_⟩
    have hx := hsim.ev x
    rw [hn] at hx
    dsimp only
    rw [rep_int hx]
    exact ⟨_, run_convert_int_string w s t ks n (by rw [hE.int s ks hs]; rfl) (hE.str t hk), RepP.str _⟩
  · rename_i e hs hk
    rw [hk] at ht
    cases ht
  · rename_i e hs hk
    have hu := (hE.slice s e hs).1
    split at h
    · rename_i he
      obtain ⟨es, h, hw⟩ := wSl_inv h
      cases ha : es.all (isInt .i32)
      · simp [ha] at h
      · simp only [ha, cond_true] at h
        refine ⟨_, h, fun {X m I μ a w} hX hr hsim => ?_⟩
        obtain ⟨A, cap, e1, e2, e3⟩ := (hw hX (by omega) hsim (hsim.ev x)).ints ha
        dsimp only
        rw [e1]
        refine ⟨_, ?_, RepP.str _⟩
        rw [ofRunes_bytes]
        cases A with
        | none =>
          rw [e2 rfl]
          rw [run_convert_runes_nil w s t e _ _ hu (hE.int e _ he) (hE.str t hk)]
          rfl
        | some ad =>
          have k1 := e3 ad rfl
          have := run_convert_runes (P := P) w s t e ad es.length cap (es.map intOf) (by simp) hu (hE.int e _ he) (hE.str t hk) (by
            intro j hj
            rw [k1 j (by simpa using hj)]
            have hj' : j < es.length := by simpa using hj
            simp [List.getD_eq_getElem?_getD, hj'])
          rw [this, List.take_of_length_le (by simp)]
    · rename_i he
      obtain ⟨es, h, hw⟩ := wSl_inv h
      cases ha : es.all (isInt .u8)
      · simp [ha] at h
      · simp only [ha, cond_true] at h
        refine ⟨_, h, fun {X m I μ a w} hX hr hsim => ?_⟩
        obtain ⟨A, cap, e1, e2, e3⟩ := (hw hX (by omega) hsim (hsim.ev x)).ints ha
        dsimp only
        rw [e1]
        refine ⟨_, ?_, RepP.str _⟩
        cases A with
        | none =>
          rw [e2 rfl]
          rw [run_convert_bytes_nil w s e hu (hE.int e _ he) _ _ t (hE.str t hk)]
          rfl
        | some ad =>
          have k1 := e3 ad rfl
          by_cases hne : es = []
          · subst hne
            rw [run_convert_bytes_string w s t e _ _ cap hu (hE.int e _ he) (hE.str t hk)]
            have hl : (loadCells ad 0).run P w = .ok #[] w := run_loadCells_list (P := P) w ad [] (fun j v hj => by simp at hj)
            simp only [Conv.bytesToString, List.length_nil, Sem.run_bind, hl, Result.andThen_ok]
            rfl
          · have hpos : 0 < es.length := List.length_pos_iff.2 hne
            obtain ⟨b, o, rfl⟩ : ∃ b o, ad = ⟨b, o, none⟩ := by
              have h0 := k1 0 hpos
              have e0 : ad.add 0 = ad := by simp [Addr.add]
              rw [e0] at h0
              obtain ⟨b, o, sp⟩ := ad
              cases sp with
              | none => exact ⟨b, o, rfl⟩
              | some z =>
                unfold World.cell? at h0
                split at h0
                · simp at h0
                · cases h0
            have := run_convert_bytes_arg (P := P) w s e hu (hE.int e _ he) b o es.length cap (es.map intOf) (by simp) (by
              intro j hj
              have := k1 j hj
              rw [add_at] at this
              rw [this]
              simp [List.getD_eq_getElem?_getD, hj]) t (hE.str t hk)
            rw [this]
            simp [strOfNums, ofBytes, List.map_map, Function.comp_def]
    · cases h
  · cases h

theorem max_eq' (x y : Int) : (if y > x then y else x) = max x y := by
  rw [Int.max_def]; split <;> split <;> omega
theorem min_eq' (x y : Int) : (if y < x then y else x) = min x y := by
  rw [Int.min_def]; split <;> split <;> omega
theorem evMinMax_inv {st : St} {mx : Bool} {k : TK} {xs : List Operand} {K : GV → Option R} {ts : Array TypeId} {ty : TypeId} (h : evMinMax st mx k xs K = some r) :
    ∃ v, K v = some r ∧ ValDoes P E st (fun a => if mx then Builtin.max_ ts ty (xs.map a.eval).toArray else Builtin.min_ ts ty (xs.map a.eval).toArray) v := by
  unfold evMinMax at h
  split at h
  · rename_i k x y
    obtain ⟨a, ha, h⟩ := wInt_inv h
    obtain ⟨b, hb, h⟩ := wInt_inv h
    refine ⟨_, h, fun {X n I μ act w} hX hr hs => ?_⟩
    have e1 := rep_int (ha ▸ hs.ev x)
    have e2 := rep_int (hb ▸ hs.ev y)
    cases mx
    · refine ⟨_, ?_, RepP.int _ _⟩
      simp only [Bool.false_eq_true, if_false, List.map_cons, List.map_nil, e1, e2, cond_false]
      rw [run_min_int2, min_eq']
    · refine ⟨_, ?_, RepP.int _ _⟩
      simp only [if_true, List.map_cons, List.map_nil, e1, e2, cond_true]
      rw [run_max_int2, max_eq']
  · rename_i k x y z
    obtain ⟨a, ha, h⟩ := wInt_inv h
    obtain ⟨b, hb, h⟩ := wInt_inv h
    obtain ⟨c, hc, h⟩ := wInt_inv h
    refine ⟨_, h, fun {X n I μ act w} hX hr hs => ?_⟩
    have e1 := rep_int (ha ▸ hs.ev x)
    have e2 := rep_int (hb ▸ hs.ev y)
    have e3 := rep_int (hc ▸ hs.ev z)
    cases mx
    · refine ⟨_, ?_, RepP.int _ _⟩
      simp only [Bool.false_eq_true, if_false, List.map_cons, List.map_nil, e1, e2, e3, cond_false]
      rw [run_min_int3, min_eq', min_eq']
    · refine ⟨_, ?_, RepP.int _ _⟩
      simp only [if_true, List.map_cons, List.map_nil, e1, e2, e3, cond_true]
      rw [run_max_int3, max_eq', max_eq']
  · cases h
end
end Go.Dip
end

/- An ideal semantics of the model's code, part 15: what an operation that changes no object does. -/
section
set_option linter.unusedVariables false
set_option linter.unusedSimpArgs false
namespace Go.Dip
section
variable {R : Type} {r : R} {P : Program} {E : Env} {tB : TypeId} {W0 : World}

/-- What an operation that changes no object does: a value, the world as it is; or a call by plain values. -/
def CalmF (P : Program) (E : Env) (tB : TypeId) (W0 : World) (o : Oper) (s : St) (v : GV) : Prop :=
  ∀ {X : Cx} {n : Nat} {I : Mem} {μ : Locs} {a : Act} {w : World}, X.E = E → X.tB = tB → X.W0 = W0 → RowsOk μ → Sim X n I μ s a w →
    (∃ x, (execOp a.eval o).run P w = .ok (.value x) w ∧ RepG I μ v x) ∨
    ∃ g vs as, PureFn P E W0 g vs v ∧ (execOp a.eval o).run P w = (callFunc g as).run P w ∧ as.size = vs.length ∧ ∀ i, i < vs.length → RepP I (vs.getD i .any) (as.getD i undef)
theorem CalmDoes.f {st : St} {o : Oper} {v : GV} (h : CalmDoes P E tB o st v) : CalmF P E tB W0 o st v := fun hE hB _ hr hs => .inl (h hE hB hr hs)
theorem ValDoes.f {st : St} {o : Oper} {run : Act → Sem Value} {v : GV} (h : ValDoes P E st run v) (hrun : ∀ (a : Act) (w : World) x, (run a).run P w = .ok x w → (execOp a.eval o).run P w = .ok (.value x) w) : CalmF P E tB W0 o st v :=
  CalmDoes.f (ValDoes.calm h hrun)
theorem ValDoes.op {st : St} {o : Oper} {run : Act → Sem Value} {v : GV} (h : ValDoes P E st run v) (hrun : ∀ (a : Act) (w : World) x, (run a).run P w = .ok x w → (execOp a.eval o).run P w = .ok (.value x) w) : OpDoes P E tB W0 o st v st :=
  CalmDoes.op (ValDoes.calm h hrun)
/-- .. at any state that says no less. -/
theorem CalmF.at {S s : St} {o : Oper} {v : GV} (h : CalmF P E tB W0 o s v) (hS : ∀ {X : Cx} {n : Nat} {I : Mem} {μ : Locs} {a : Act} {w : World}, Sim X n I μ S a w → Sim X n I μ s a w) : OpDoes P E tB W0 o S v S := by
  intro X n I μ a w hE hB hW hr hs
  rcases h hE hB hW hr (hS hs) with ⟨x, h1, h2⟩ | ⟨g, vs, as, h1, h2, h3, h4⟩
  · exact Upon.of_run h1 ⟨I, μ, NewI.refl X I, ⟨hr, Keep.refl μ⟩, hs, h2⟩
  · exact upon_call hE hW hr h1 hs h2 h3 h4
theorem CalmF.op {s : St} {o : Oper} {v : GV} (h : CalmF P E tB W0 o s v) : OpDoes P E tB W0 o s v s := h.at fun h => h
theorem ValDoes.of1 {st : St} {x : Operand} {run : Value → Sem Value} {v : GV} (h : Val1 P E st (st.ev x) run v) : ValDoes P E st (fun a => run (a.eval x)) v := by
  intro X n I μ a w hX hr hs
  exact h hX hr hs (hs.ev x)
theorem run_value {α : Type} {s : Sem α} {f : α → Next} {w w' : World} {x : α} (h : s.run P w = .ok x w') : (do pure (f (← s)) : Sem Next).run P w = .ok (f x) w' := by
  simp only [Sem.run_bind, h, Result.andThen_ok, Sem.run_pure]
/-- .. and what a call of a builtin gives. -/
theorem run_builtin {a : Act} {o : Oper} {b : Builtin} {args : Array Operand} {ts : Array TypeId} {w : World} (ho : o.op = .call { callee := .builtin b, args := args, argTypes := ts }) :
    (execOp a.eval o).run P w = (builtin b ts o.type (args.map fun | .const _ => true | _ => false) (args.map a.eval)).run P w := by
  simp only [execOp, ho, resolve, invoke, Sem.run_bind, Sem.run_pure, Result.andThen_ok]
  rfl
theorem one_arg {args : Array Operand} {a : Act} (h : args.size = 1) : args.map a.eval = #[a.eval (args.getD 0 (.const .nilIface))] := by
  apply Array.ext
  · simp [h]
  · intro i h1 h2
    have : i = 0 := by simp at h2; omega
    subst this
    simp [Array.getD, h]
theorem one_type {ts : Array TypeId} (h : ts.size = 1) : ts = #[ts.getD 0 0] := by
  apply Array.ext
  · simp [h]
  · intro i h1 h2
    have : i = 0 := by simp at h2; omega
    subst this
    simp [Array.getD, h]

theorem evCalm_inv (hE : EnvOk P E tB) {ρ : FuncId → Option (Callee R)} (hρ : RhoOk P E tB W0 ρ) {o : Oper} {st : St} {K : GV → Option R} (h : evCalm E ρ o st K = some r) :
    ∃ v, K v = some r ∧ CalmF P E tB W0 o st v := by
  unfold evCalm at h
  split at h
  · rename_i x ho
    refine ⟨_, h, ValDoes.f (run := fun a => pure (a.eval x)) (fun {X n I μ a w} hX hr hs => ⟨_, Sem.run_pure .., hX ▸ hs.evT o.type x⟩) fun a w y hy => ?_⟩
    simp only [Sem.run_pure, Result.ok.injEq, and_true] at hy
    simp only [execOp, ho, Sem.run_pure, hy]
  · rename_i x ho
    have h2 : ∃ v, v = st.evT E o.type x ∧ K v = some r := by
      split at h
      · cases h
      · exact ⟨_, rfl, h⟩
    obtain ⟨v, rfl, h⟩ := h2
    refine ⟨_, h, ValDoes.f (run := fun a => pure (a.eval x)) (fun {X n I μ a w} hX hr hs => ⟨_, Sem.run_pure .., hX ▸ hs.evT o.type x⟩) fun a w y hy => ?_⟩
    simp only [Sem.run_pure, Result.ok.injEq, and_true] at hy
    simp only [execOp, ho, Sem.run_pure, hy]
  · rename_i c x y ho
    obtain ⟨b, hb, h⟩ := wBool_inv h
    have key : ∀ (a : Act) (w : World), a.eval c = .bool b → (execOp a.eval o).run P w = .ok (.value (if b then a.eval x else a.eval y)) w := by
      intro a w hc
      simp only [execOp, ho, hc]
      cases b <;> simp [asBool]
    cases b
    · refine ⟨_, h, CalmDoes.f fun {X n I μ a w} hX _ hr hs => ?_⟩
      exact ⟨_, key a w (rep_bool (hb ▸ hs.ev c)), hX ▸ hs.evT o.type y⟩
    · refine ⟨_, h, CalmDoes.f fun {X n I μ a w} hX _ hr hs => ?_⟩
      exact ⟨_, key a w (rep_bool (hb ▸ hs.ev c)), hX ▸ hs.evT o.type x⟩
  · rename_i t parts ho
    split at h
    · rename_i fs ht
      obtain ⟨v, hv, hd⟩ := evBuild_inv hE ht h
      refine ⟨v, hv, ValDoes.f hd fun a w y hy => ?_⟩
      simp only [execOp, ho]
      exact run_value hy
    · cases h
  · rename_i t x ho
    obtain ⟨v, hv, hd⟩ := evLoad_inv hE h
    refine ⟨v, hv, ValDoes.f (run := fun a => Instr.loadAt t (a.eval x)) (fun {X n I μ a w} hX hr hs => hd hX hr hs (hs.ev x)) fun a w y hy => ?_⟩
    simp only [execOp, ho]
    exact run_value hy
  · rename_i x ho
    have key : ∀ (a : Act) (w : World) (A : Addr), a.eval x = .pointer (some A) → (execOp a.eval o).run P w = .ok (.value (.pointer (some A))) w := by
      intro a w A hc
      simp only [execOp, ho, hc, Sem.run_pure]
    split at h
    · rename_i q off hq
      refine ⟨_, h, CalmDoes.f fun {X n I μ a w} hX _ hr hs => ?_⟩
      have hx := hs.ev x
      rw [hq] at hx
      rcases hx with ⟨b, h1, e⟩ | ⟨b, h1, h2, e⟩
      · exact ⟨_, key a w _ e, .inl ⟨b, h1, rfl⟩⟩
      · exact ⟨_, key a w _ e, .inr ⟨b, h1, h2, rfl⟩⟩
    · rename_i q i off hq
      refine ⟨_, h, CalmDoes.f fun {X n I μ a w} hX _ hr hs => ?_⟩
      have hx := hs.ev x
      rw [hq] at hx
      obtain ⟨g, m, cap, c, h1, h2, h3, e⟩ := hx
      exact ⟨_, key a w _ e, g, m, cap, c, h1, h2, h3, rfl⟩
    · rename_i c es i off hq
      refine ⟨_, h, CalmDoes.f fun {X n I μ a w} hX _ hr hs => ?_⟩
      have hx := hs.ev x
      rw [hq] at hx
      obtain ⟨b, p, f, h1, h2, h3, h4, h5, e⟩ := hx
      exact ⟨_, key a w _ e, b, p, f, h1, h2, h3, h4, h5, rfl⟩
    · cases h
  · rename_i op t x y z ho
    obtain ⟨v, hv, hd⟩ := evBin_inv hE h
    refine ⟨v, hv, ValDoes.f (run := fun a => do eqGuard op t x y (a.eval x) (a.eval y); binOp op t (a.eval x) (a.eval y)) (fun {X n I μ a w} hX hr hs => hd hX hs) fun a w u hy => ?_⟩
    simp only [execOp, ho]
    exact run_value hy
  · rename_i op t x ho
    split at h
    · obtain ⟨b, hb, h⟩ := wBool_inv h
      refine ⟨_, h, ValDoes.f (run := fun a => Op.unary .not (a.eval x)) (fun {X n I μ a w} hX hr hs => ?_) fun a w u hy => ?_⟩
      · have e := rep_bool (hb ▸ hs.ev x)
        dsimp only
        rw [e]
        exact ⟨_, by simp [Op.unary], RepP.bool _⟩
      · simp only [execOp, ho]
        exact run_value hy
    · rename_i k hk
      obtain ⟨b, hb, h⟩ := wInt_inv h
      refine ⟨_, h, ValDoes.f (run := fun a => Op.unary .neg (a.eval x)) (fun {X n I μ a w} hX hr hs => ?_) fun a w u hy => ?_⟩
      · have e := rep_int (hb ▸ hs.ev x)
        dsimp only
        rw [e]
        exact ⟨_, by simp [Op.unary, Op.intArith], RepP.int _ _⟩
      · simp only [execOp, ho]
        exact run_value hy
    · cases h
  · rename_i s t x ho
    have ht : isSliceT (E.ty t) = false ∧ evConv E 0 st s t x (fun v _ => K v) = some r := by
      split at h
      · cases h
      · rename_i hne
        refine ⟨?_, h⟩
        cases hk : E.ty t with
        | slice e => exact absurd hk (hne e)
        | _ => rfl
    obtain ⟨v, hv, hd⟩ := evConv_inv hE ht.1 ht.2
    refine ⟨v, hv, ValDoes.f hd fun a w u hy => ?_⟩
    simp only [execOp, ho]
    exact run_value hy
  · rename_i f first captured ho
    cases hb : bnd f with
    | true => rw [hb] at h; cases h
    | false =>
    rw [hb, cond_false, nbeq] at h
    have ptrsOk : ∀ {ys : Array Operand} {rs : List Nat}, allPtr (ys.toList.map st.ev) = some rs → (ys.toList.map st.ev).length = rs.length ∧ ∀ {X : Cx} {n : Nat} {I : Mem} {μ : Locs} {a : Act} {w : World}, Sim X n I μ st a w → ∀ j q, rs[j]? = some q → PtrAt μ q 0 ((ys.map a.eval).getD j undef) := by
      intro ys rs hrs
      have hl := allPtr_inv hrs
      refine ⟨by rw [hl]; simp, fun {X n I μ a w} hs j q hj => ?_⟩
      have h1 : (ys.toList.map st.ev)[j]? = some (.c (.ptr q 0)) := by rw [hl, List.getElem?_map, hj]; rfl
      rw [List.getElem?_map] at h1
      obtain ⟨x, hx, e⟩ := Option.map_eq_some_iff.1 h1
      have hrep := hs.ev x
      rw [e] at hrep
      have h2 : (ys.map a.eval).getD j undef = a.eval x := by
        rw [agetD, List.getD_eq_getElem?_getD]
        simp only [Array.toList_map, List.getElem?_map, hx, Option.map_some, Option.getD_some]
      rw [h2]
      exact hrep
    by_cases hf : first.size = 0
    · simp only [hf, decide_true, cond_true] at h
      split at h
      · rename_i rs hrs
        obtain ⟨hl, hp⟩ := ptrsOk hrs
        refine ⟨_, h, CalmDoes.f fun {X n I μ a w} hX _ hr hs => ?_⟩
        have hfe : first = #[] := Array.eq_empty_of_size_eq_zero hf
        refine ⟨.func (.func f) #[] (captured.map a.eval), by simp [execOp, ho, Instr.makeFunc, hfe], #[], captured.map a.eval, by simp [unb, hb], fun _ => rfl, by simpa using hl, ?_⟩
        rw [Array.empty_append]
        exact hp hs
      · cases h
    · simp only [hf, decide_false, cond_false] at h
      rw [nbeq] at h
      by_cases hc : captured.size = 0
      · simp only [hc, decide_true, cond_true] at h
        split at h
        · rename_i rs hrs
          obtain ⟨hl, hp⟩ := ptrsOk hrs
          refine ⟨_, h, CalmDoes.f fun {X n I μ a w} hX _ hr hs => ?_⟩
          have hce : captured = #[] := Array.eq_empty_of_size_eq_zero hc
          have hb2 : bnd (Nat.add f 1000000) = true := by simp [bnd]
          refine ⟨.func (.func f) (first.map a.eval) #[], by simp [execOp, ho, Instr.makeFunc, hce], first.map a.eval, #[], by simp [unb, hb2], fun e => by (rw [hb2] at e; cases e), by simpa using hl, ?_⟩
          rw [Array.append_empty]
          exact hp hs
        · cases h
      · simp [hc] at h
  · rename_i t x lo hi ho
    obtain ⟨v, hv, hd⟩ := evSlice_inv hE h
    refine ⟨v, hv, ValDoes.f hd fun a w u hy => ?_⟩
    simp only [execOp, ho]
    exact run_value hy
  · rename_i s x f ho
    obtain ⟨v, hv, _, hd⟩ := evAddr_inv hE h
    refine ⟨v, hv, ValDoes.f (ValDoes.of1 hd) fun a w u hy => ?_⟩
    simp only [execOp, ho]
    exact run_value hy
  · rename_i s x f ho
    obtain ⟨v, hv, hd⟩ := evField_inv hE h
    refine ⟨v, hv, ValDoes.f (ValDoes.of1 hd) fun a w u hy => ?_⟩
    simp only [execOp, ho]
    exact run_value hy
  · rename_i t x i ho
    obtain ⟨v, hv, hd⟩ := evIndexAddr_inv hE h
    refine ⟨v, hv, ValDoes.f hd fun a w u hy => ?_⟩
    simp only [execOp, ho]
    exact run_value hy
  · rename_i t x i ho
    obtain ⟨v, hv, hd⟩ := evIndex_inv hE h
    refine ⟨v, hv, ValDoes.f hd fun a w u hy => ?_⟩
    simp only [execOp, ho]
    exact run_value hy
  · rename_i x i ho
    split at h
    · rename_i vs hvs
      split at h
      · rename_i v hv
        refine ⟨_, h, CalmDoes.f fun {X n I μ a w} hX _ hr hs => ?_⟩
        have hx := hs.ev x
        rw [hvs] at hx
        obtain ⟨xs, e, h1, h2⟩ := hx
        have hlt : i < xs.size := by rw [← h1]; exact (List.getElem?_eq_some_iff.1 hv).1
        obtain ⟨y, hy1, hy2⟩ : ∃ y, xs[i]? = some y ∧ xs.getD i undef = y := ⟨xs[i], by simp [hlt], by simp [Array.getD, hlt]⟩
        refine ⟨y, ?_, hy2 ▸ h2 i v hv⟩
        simp only [execOp, ho, e]
        exact run_value (by simp [Instr.extract, hy1])
      · cases h
    · cases h
  · rename_i args ts ho
    cases hsz : Nat.beq ts.size 1 && Nat.beq args.size 1
    · simp [hsz] at h
    · simp only [hsz, cond_true] at h
      simp only [Bool.and_eq_true, nbeq, decide_eq_true_eq] at hsz
      obtain ⟨v, hv, hd⟩ := evLen_inv (ty := o.type) hE h
      refine ⟨v, hv, ValDoes.f hd fun a w u hy => ?_⟩
      rw [run_builtin ho, one_type hsz.1, one_arg hsz.2]
      exact run_value hy
  · rename_i args ts ho
    obtain ⟨v, hv, hd⟩ := evMinMax_inv (ts := ts) (ty := o.type) h
    refine ⟨v, hv, ValDoes.f hd fun a w u hy => ?_⟩
    rw [run_builtin ho]
    have e : (args.toList.map a.eval).toArray = args.map a.eval := by rw [← Array.toList_map]
    simp only [if_true, e] at hy
    exact run_value hy
  · rename_i args ts ho
    obtain ⟨v, hv, hd⟩ := evMinMax_inv (ts := ts) (ty := o.type) h
    refine ⟨v, hv, ValDoes.f hd fun a w u hy => ?_⟩
    rw [run_builtin ho]
    have e : (args.toList.map a.eval).toArray = args.map a.eval := by rw [← Array.toList_map]
    simp only [Bool.false_eq_true, if_false, e] at hy
    exact run_value hy
  · rename_i f args ts ho
    split at h
    · rename_i g hf
      cases hbg : bnd g with
      | true => rw [hbg] at h; cases h
      | false =>
      rw [hbg, cond_false] at h
      split at h
      · rename_i F hg
        have hp := hρ g _ hg
        rw [nbeq] at h
        by_cases hsz : ts.size = args.size
        · simp only [hsz, decide_true, cond_true] at h
          split at h
          · rename_i vs hvs
            obtain ⟨v, hv, hfn⟩ := hp vs K r h
            refine ⟨v, hv, fun {X n I μ a w} hX hB hW hr hs => ?_⟩
            have hfv := hs.ev f
            rw [hf] at hfv
            obtain ⟨fs, cap, e1, _, e2, _⟩ := hfv
            simp only [Array.size_append, List.length_nil] at e2
            have hfs : fs = #[] := Array.eq_empty_of_size_eq_zero (by omega)
            have hcap : cap = #[] := Array.eq_empty_of_size_eq_zero (by omega)
            subst hcap hfs
            have hu : unb g = g := by simp [unb, hbg]
            rw [hu] at e1
            have hrun := run_call (P := P) (w := w) ho e1
            rw [Array.append_empty, Array.empty_append] at hrun
            have hlen : (wArgs E st (ts.toList.zip args.toList)).length = (args.map a.eval).toList.length := by
              rw [wArgs_length]; simp [hsz]
            obtain ⟨k1, k2⟩ := gpures_rep (I := I) (μ := μ) hvs hlen (fun i hi => by
              rw [← agetD, ← hX]
              rw [hlen] at hi
              exact hs.args ts args hsz i (by simpa using hi))
            refine .inr ⟨g, vs, args.map a.eval, hfn, hrun, by simpa using k1.symm, fun i hi => ?_⟩
            rw [agetD]
            exact k2 i hi
          · cases h
        · simp [hsz] at h
      · cases h
    · cases h
  · cases h
end
end Go.Dip
end

/- An ideal semantics of the model's code, part 16: new objects. -/
section
set_option linter.unusedVariables false
set_option linter.unusedSimpArgs false
namespace Go.Dip
section
variable {R : Type} {r : R} {P : Program} {E : Env} {tB : TypeId} {W0 : World}

theorem wNew_inv {d : Nat} {ob : Ob} {st : St} {K : St → Option R} (h : wNew E d ob st K = some r) : okNew E st.h ob = true ∧ K (newOb d ob st) = some r := by
  unfold wNew at h
  cases hk : okNew E st.h ob
  · simp [hk] at h
  · simp only [hk, cond_true] at h
    exact ⟨rfl, h⟩

/-- A new box. -/
theorem box_does {o : Oper} {st : St} {d : Nat} (hd : d < 1000) {cs : List CV} {T : TypeId} (hT : T ≠ E.tb) (hk : ∀ v, v ∈ cs → d ∉ v.keys)
    (hrun : ∀ {X : Cx} {n : Nat} {I : Mem} {μ : Locs} {a : Act} {w : World}, X.E = E → RowsOk μ → Sim X n I μ st a w →
      ∃ arr : Array Value, RepCs I μ cs arr.toList ∧ (execOp a.eval o).run P w = .ok (.value (.pointer (some ⟨w.heap.size, 0, none⟩))) (w.alloc (.cells arr T))) :
    OpDoes P E tB W0 o st (.c (.ptr d 0)) (newOb d (.box cs) (st.strike d)) := by
  intro X n I μ a w hX hB hW hr hs
  obtain ⟨arr, h1, h2⟩ := hrun hX hr hs
  refine Upon.of_run h2 ⟨I, upd μ d (.box w.heap.size), NewI.refl X I, ⟨hr.upd d _ fun v c e => (by cases e), Keep.upd μ _ (.inl hd)⟩, hs.newBox d cs arr T (by rw [hX]; exact hT) h1 hk rfl, ?_⟩
  exact .inl ⟨_, upd_same μ d _, rfl⟩
/-- A new row, where it lies. -/
theorem row_does {o : Oper} {st : St} {st' : St} {d : Nat} (hd : d < 1000) {e : TypeId} {es : List PV} (hok : okNew E (st'.strike d).h (.row e es) = true)
    (hrun : ∀ {X : Cx} {n : Nat} {I : Mem} {μ : Locs} {a : Act} {w : World}, X.E = E → RowsOk μ → Sim X n I μ st a w →
      ∃ J v w' xs, NewI X I J ∧ Sim X n J μ st' a w ∧ w.grownBy w' none ∧ (execOp a.eval o).run P w = .ok (.value v) w' ∧ w'.ownsRow X.B e (E.sz e) v es.length xs ∧ RowRep J (E.sz e) es xs ∧
        ∀ b, v.ownBlock = some b → w.heap.size ≤ b) :
    OpDoes P E tB W0 o st (.c (.orow d)) (newOb d (.row e es) (st'.strike d)) := by
  intro X n I μ a w hX hB hW hr hs
  obtain ⟨J, v, w', xs, h1, h2, hg, h3, h4, h5, h6⟩ := hrun hX hr hs
  subst hX
  have h2' := h2.grown hg
  have hst : Sim X n J μ (st'.strike d) a w := h2.strike d (ν := μ) fun _ _ => rfl
  obtain ⟨β, hβ⟩ := hst.h
  refine Upon.of_run h3 ⟨J, upd μ d (.row v (X.E.sz e)), h1, ⟨hr.upd d _ ?_, Keep.upd μ _ (.inl hd)⟩, h2'.newRow d (hβ.grown hg (Aside.none ..)) e es v xs h4 h5 ?_ hok, ?_⟩
  · intro v' c e'
    injection e' with e' _
    subst e'
    rcases h4.2 with ⟨e1, _⟩ | ⟨g, cap, cur, e1, _⟩
    · exact ⟨_, _, _, e1⟩
    · exact ⟨_, _, _, e1⟩
  · intro b hb
    exact hst.fresh hβ (h6 b hb)
  · exact ⟨_, upd_same μ d _⟩

theorem zeroOf_keys : ∀ (d : Nat) (t : TypeId) v, v ∈ zeroOf E d t → v.keys = []
  | 0, t, v, hv => by simp [zeroOf] at hv
  | d + 1, t, v, hv => by
    unfold zeroOf at hv
    split at hv
    case h_7 fs _ =>
      simp only [List.mem_flatMap] at hv
      obtain ⟨f, _, hf⟩ := hv
      exact zeroOf_keys d f.2 v hf
    all_goals (simp only [List.mem_singleton] at hv; subst hv; rfl)

theorem wElem_inv (hE : EnvOk P E tB) {e : TypeId} {v : PV} {K : PV → Option R} (h : wElem E e v K = some r) : K v = some r ∧ v.cnt = E.sz e ∧
    ∀ {I : Mem} {x : Value}, RepP I v x → x.cells.size = E.sz e ∧ ∀ j, j < E.sz e → RepP I (pcell v j) (x.cells.toList.getD j undef) ∧ (x.cells.toList.getD j undef).oneCell' = true := by
  unfold wElem at h
  cases hs : isStruct (E.ty e)
  · simp only [hs, cond_false] at h
    cases hc : isScalar (E.ty e) && v.isOne
    · simp [hc] at h
    · simp only [hc, cond_true] at h
      simp only [Bool.and_eq_true] at hc
      obtain ⟨_, _, _, _, _, _, hsz⟩ := hE.scalar e hc.1
      obtain ⟨k1, k2⟩ := PV.one_cells hc.2
      refine ⟨h, by rw [k2, hsz], fun {I x} hx => ?_⟩
      obtain ⟨k3, k4⟩ := hx.isOne hc.2
      rw [k4, hsz]
      refine ⟨rfl, fun j hj => ?_⟩
      have : j = 0 := by omega
      subst this
      simp only [pcell, k1]
      exact ⟨hx, k3⟩
  · simp only [hs, cond_true] at h
    cases hc : v.isAgg (E.sz e)
    · simp [hc] at h
    · simp only [hc, cond_true] at h
      refine ⟨h, ?_, fun {I x} hx => ?_⟩
      · cases v with
        | agg cs => simpa [PV.isAgg, PV.cnt] using hc
        | _ => simp [PV.isAgg] at hc
      · obtain ⟨vs, rfl, h1, h2⟩ := hx.isAgg hc
        exact ⟨h1, h2⟩

/-- The parts of a slice's literal. -/
theorem wParts_inv (hE : EnvOk P E tB) {e : TypeId} : ∀ {parts : List (Nat × Operand)} {st : St} {n : Nat} {acc : List PV} {K : List PV → St → Option R}, wParts E e st parts n acc K = some r →
    ∃ es st', K (acc.reverse ++ es) st' = some r ∧ es.length = n ∧ parts.length = n ∧ (∀ j x, parts[j]? = some x → x.1 = acc.length + j) ∧
      ∀ {X : Cx} {m : Nat} {I : Mem} {μ : Locs} {a : Act} {w : World}, X.E = E → Sim X m I μ st a w → ∃ J, NewI X I J ∧ Sim X m J μ st' a w ∧
        ∀ j x, parts[j]? = some x → (es.getD j .any).cnt = E.sz e ∧ (a.eval x.2).cells.size = E.sz e ∧ ∀ i, i < E.sz e → RepP J (pcell (es.getD j .any) i) ((a.eval x.2).cells.toList.getD i undef) ∧ ((a.eval x.2).cells.toList.getD i undef).oneCell' = true
  | [], st, n, acc, K, h => by
    simp only [wParts, nbeq] at h
    by_cases hn : n = 0
    · simp only [hn, decide_true, cond_true] at h
      exact ⟨[], st, by simpa using h, hn.symm, hn.symm, fun j x hj => by simp at hj, fun {X m I μ a w} hX hs => ⟨I, NewI.refl X I, hs, fun j x hj => by simp at hj⟩⟩
    · simp [hn] at h
  | x :: parts, st, n, acc, K, h => by
    simp only [wParts, nbeq] at h
    by_cases hx : x.1 = acc.length
    · simp only [hx, decide_true, cond_true] at h
      cases n with
      | zero => simp at h
      | succ n =>
        simp only at h
        obtain ⟨y, st1, h, hp⟩ := wPure_inv h
        obtain ⟨h, hc, he⟩ := wElem_inv hE h
        obtain ⟨es, st2, h1, h2, h3, h4, h5⟩ := wParts_inv hE h
        refine ⟨y :: es, st2, by simpa using h1, by simp [h2], by simp [h3], ?_, ?_⟩
        · intro j z hz
          cases j with
          | zero => simp at hz; subst hz; simpa using hx
          | succ j =>
            have := h4 j z (by simpa using hz)
            simp at this
            omega
        · intro X m I μ a w hX hs
          obtain ⟨J, k1, k2, k3⟩ := hp.does hX hs
          obtain ⟨L, k4, k5, k6⟩ := h5 hX k2
          refine ⟨L, k1.trans k4, k5, fun j z hz => ?_⟩
          cases j with
          | zero =>
            simp at hz
            subst hz
            obtain ⟨k7, k8⟩ := he (k3.mono k4.1)
            exact ⟨by simpa using hc, k7, by simpa using k8⟩
          | succ j => simpa using k6 j z (by simpa using hz)
    · simp [hx] at h

/-- A slice's cells, filled part by part. -/
theorem fill_parts {size : Nat} {vs : List Value} {zs : List Value} (hv : ∀ v, v ∈ vs → v.cells.size = size) (hz : zs.length = vs.length * size) :
    ∃ cells', Instr.fill (fun i => some (i * size, size)) zs.toArray (vs.zipIdx.map fun x => (x.2, x.1)) = some cells' ∧ cells'.toList = vs.flatMap fun v => v.cells.toList := by
  have key : ∀ (vs : List Value) (k : Nat) (pre suf : List Value), (∀ v, v ∈ vs → v.cells.size = size) → pre.length = k * size → suf.length = vs.length * size →
      ∃ cells', Instr.fill (fun i => some (i * size, size)) (pre ++ suf).toArray ((vs.zipIdx k).map fun x => (x.2, x.1)) = some cells' ∧ cells'.toList = pre ++ vs.flatMap fun v => v.cells.toList := by
    intro vs
    induction vs with
    | nil =>
      intro k pre suf _ _ h
      simp at h
      subst h
      exact ⟨_, rfl, by simp⟩
    | cons v vs ih =>
      intro k pre suf h1 h2 h3
      have hvs : v.cells.size = size := h1 v (by simp)
      have h3' : suf.length = vs.length * size + size := by simpa [Nat.add_mul] using h3
      obtain ⟨c1, c2, c3⟩ := fill_cons (fun i => some (i * size, size)) (pre ++ suf).toArray k (k * size) v ((vs.zipIdx (k + 1)).map fun x => (x.2, x.1)) (by simp [hvs]) (by simp; omega)
      rw [List.zipIdx_cons, List.map_cons, c3]
      have e : c1.toList = (pre ++ v.cells.toList) ++ suf.drop size := by
        rw [c2]
        simp only [splice]
        rw [← h2, List.take_left]
        have : (pre ++ suf).drop (pre.length + v.cells.toList.length) = suf.drop size := by
          rw [List.drop_append]
          simp [hvs]
        rw [this]
      have e2 : c1 = ((pre ++ v.cells.toList) ++ suf.drop size).toArray := by rw [← e]
      rw [e2]
      obtain ⟨c4, c5, c6⟩ := ih (k + 1) (pre ++ v.cells.toList) (suf.drop size) (fun u hu => h1 u (by simp [hu])) (by simp [h2, hvs, Nat.add_mul]) (by simp [h3'])
      exact ⟨c4, c5, by rw [c6]; simp⟩
  obtain ⟨c, h1, h2⟩ := key vs 0 [] zs hv (by simp) hz
  exact ⟨c, by simpa using h1, by simpa using h2⟩
end
end Go.Dip
end

/- An ideal semantics of the model's code, part 17: what makes an object, each. -/
section
set_option linter.unusedVariables false
set_option linter.unusedSimpArgs false
namespace Go.Dip
section
variable {R : Type} {r : R} {P : Program} {E : Env} {tB : TypeId} {W0 : World}

theorem run_zero {t : TypeId} {i : TypeInfo} {z : Value} (hi : P.info? t = some i) (hz : i.zero = some z) (w : World) : (zeroValue t).run P w = .ok z w := by
  simp [zeroValue, typeInfo, hi, hz]
theorem run_newVar' (t : TypeId) (v : Value) (w : World) : (newVar t v).run P w = .ok ⟨w.heap.size, 0, none⟩ (w.alloc (.cells v.cells t)) := by
  simp [newVar, newRow]

theorem alloc_inv (hE : EnvOk P E tB) {o : Oper} {d : Nat} (hd : d < 1000) {st : St} {t : TypeId} {K : GV → St → Option R} (ho : o.op = .alloc t)
    (h : (bif !Nat.beq t E.tb && (isStruct (E.ty t) || isScalar (E.ty t)) then K (.c (.ptr d 0)) (newOb d (.box (zeroOf E 6 t)) (st.strike d)) else none) = some r) :
    ∃ v st', K v st' = some r ∧ OpDoes P E tB W0 o st v st' := by
  cases hc : !Nat.beq t E.tb && (isStruct (E.ty t) || isScalar (E.ty t))
  · simp [hc] at h
  · simp only [hc, cond_true] at h
    simp only [Bool.and_eq_true, nbeq, Bool.not_eq_true', decide_eq_false_iff_not, Bool.or_eq_true] at hc
    obtain ⟨i, z, h1, h2, h3, _, _⟩ := hE.zero t hc.2
    refine ⟨_, _, h, box_does hd (T := t) hc.1 (fun v hv hk => by rw [zeroOf_keys _ _ v hv] at hk; cases hk) fun {X n I μ a w} hX hr hs => ⟨z.cells, h3 I μ, ?_⟩⟩
    simp only [execOp, ho]
    exact run_value (by simp [Instr.alloc, run_zero h1 h2, run_newVar'])
theorem box_inv (hE : EnvOk P E tB) {o : Oper} {d : Nat} (hd : d < 1000) {st : St} {t : TypeId} {x : Operand} {K : GV → St → Option R} (ho : o.op = .box t x)
    (h : (bif !Nat.beq t E.tb then wCells E t ((st.strike d).evT E t x) fun cs => K (.c (.ptr d 0)) (newOb d (.box cs) (st.strike d)) else none) = some r) :
    ∃ v st', K v st' = some r ∧ OpDoes P E tB W0 o st v st' := by
  cases hc : !Nat.beq t E.tb
  · simp [hc] at h
  · simp only [hc, cond_true] at h
    simp only [nbeq, Bool.not_eq_true', decide_eq_false_iff_not] at hc
    obtain ⟨cs, h, _, _, hk, hrep⟩ := wCells_inv hE h
    have hno : ∀ (y : Operand), d ∉ ((st.strike d).evT E t y).keys := by
      intro y
      unfold St.evT
      split
      · simp [GV.keys, CV.keys]
      · cases y with
        | tmp i =>
          simp only [St.ev, St.get]
          rw [look_strike_t]
          cases look st.t i with
          | none => simp [GV.any, GV.keys, CV.keys]
          | some v => exact GV.strike_keys d v
        | const v =>
          show d ∉ (ofConst v).keys
          unfold ofConst
          split <;> simp [GV.keys, CV.keys]
        | func f => simp only [St.ev]; cases bnd f <;> simp [GV.any, GV.keys, CV.keys]
        | global g => simp [St.ev, GV.keys, CV.keys]
    refine ⟨_, _, h, box_does hd (T := t) hc (fun v hv hd => hno x (hk v hv d hd)) fun {X n I μ a w} hX hr hs => ?_⟩
    have h1 := (hs.strike d (ν := μ) fun _ _ => rfl).evT t x
    rw [hX] at h1
    refine ⟨_, (hrep hr h1).1, ?_⟩
    simp only [execOp, ho]
    exact run_value (by simp [Instr.box, run_newVar'])

theorem assign_inv (hE : EnvOk P E tB) {o : Oper} {d : Nat} (hd : d < 1000) {st : St} {x : Operand} {c : Nat} {e : TypeId} {K : GV → St → Option R} (ho : o.op = .assign x) (hx : st.evT E o.type x = .c (.nils c)) (ht : E.ty o.type = .slice e)
    (h : (wNew E d (.row e []) (st.strike d) fun st => K (.c (.orow d)) st) = some r) : ∃ v st', K v st' = some r ∧ OpDoes P E tB W0 o st v st' := by
  obtain ⟨hok, h⟩ := wNew_inv h
  refine ⟨_, _, h, row_does hd hok fun {X n I μ a w} hX hr hs => ?_⟩
  have h1 := hs.evT o.type x
  rw [hX, hx] at h1
  have h2 : a.eval x = .slice none 0 0 := h1
  exact ⟨I, _, w, [], NewI.refl X I, hs, ⟨rfl, rfl, rfl, Nat.le_refl _, fun _ _ _ => rfl⟩, by simp only [execOp, ho, Sem.run_pure, h2], World.ownsRow_nil w X.B e (E.sz e), fun i hi => by simp at hi, fun b hb => by simp [Value.ownBlock] at hb⟩

theorem flat_getD {size : Nat} {u : Value} : ∀ (ls : List (List Value)), (∀ l, l ∈ ls → l.length = size) → ∀ (i : Nat) l, ls[i]? = some l → ∀ j, j < size → ls.flatten.getD (i * size + j) u = l.getD j u
  | [], _, i, l, hi, j, hj => by simp at hi
  | k :: ls, h, 0, l, hi, j, hj => by
    simp only [List.getElem?_cons_zero, Option.some.injEq] at hi
    subst hi
    have hk := h k (by simp)
    simp only [List.flatten_cons, Nat.zero_mul, Nat.zero_add, List.getD_eq_getElem?_getD]
    rw [List.getElem?_append_left (by omega)]
  | k :: ls, h, i + 1, l, hi, j, hj => by
    have hk := h k (by simp)
    have ih := flat_getD (u := u) ls (fun l hl => h l (by simp [hl])) i l (by simpa using hi) j hj
    rw [← ih]
    simp only [List.flatten_cons, List.getD_eq_getElem?_getD]
    rw [List.getElem?_append_right (by rw [hk, Nat.add_mul]; omega)]
    congr 2
    rw [hk, Nat.add_mul]
    omega
theorem flat_length {size : Nat} : ∀ (ls : List (List Value)), (∀ l, l ∈ ls → l.length = size) → ls.flatten.length = ls.length * size
  | [], _ => by simp
  | k :: ls, h => by
    have hk := h k (by simp)
    have ih := flat_length ls fun l hl => h l (by simp [hl])
    simp only [List.flatten_cons, List.length_append, List.length_cons, Nat.add_mul]
    omega

theorem buildSlice_run (hE : EnvOk P E tB) {o : Oper} {t e : TypeId} {len : Nat} {parts : Array (Nat × Operand)} (ho : o.op = .buildSlice t len parts) (ht : E.ty t = .slice e) (hle : len * E.sz e ≤ 16777216) {es : List PV} (hl : es.length = len) (hpl : parts.toList.length = len)
    (hidx : ∀ (j : Nat) x, parts.toList[j]? = some x → x.1 = 0 + j) {J : Mem} {a : Act} {w : World} {B : Nat} (hB : B ≤ w.heap.size)
    (k3 : ∀ (j : Nat) x, parts.toList[j]? = some x → (es.getD j .any).cnt = E.sz e ∧ (a.eval x.2).cells.size = E.sz e ∧ ∀ i, i < E.sz e → RepP J (pcell (es.getD j .any) i) ((a.eval x.2).cells.toList.getD i undef) ∧ ((a.eval x.2).cells.toList.getD i undef).oneCell' = true) :
    ∃ v w' xs, w.grownBy w' none ∧ (execOp a.eval o).run P w = .ok (.value v) w' ∧ w'.ownsRow B e (E.sz e) v es.length xs ∧ RowRep J (E.sz e) es xs ∧ ∀ b, v.ownBlock = some b → w.heap.size ≤ b := by
  obtain ⟨hu, i, z, hi, hsz, hz, hzc, hpos, _, h64⟩ := hE.slice t e ht
  have hvs : ∀ v, v ∈ parts.toList.map (fun x => a.eval x.2) → v.cells.size = E.sz e := by
    intro v hv
    obtain ⟨x, hx, rfl⟩ := List.mem_map.1 hv
    obtain ⟨j, hj⟩ := List.getElem?_of_mem hx
    exact (k3 j x hj).2.1
  have hparts : (parts.map fun x => (x.1, a.eval x.2)).toList = (parts.toList.map fun x => a.eval x.2).zipIdx.map fun x => (x.2, x.1) := by
    apply List.ext_getElem?
    intro j
    simp only [Array.toList_map, List.getElem?_map, List.getElem?_zipIdx]
    cases hj : parts.toList[j]? with
    | none => simp
    | some x =>
      have := hidx j x hj
      simp at this
      simp [this]
  have hfill : ∀ zs : Array Value, zs.size = len * E.sz e → ∃ c, Instr.fill (fun i => some (i * E.sz e, E.sz e)) zs (parts.map fun x => (x.1, a.eval x.2)).toList = some c ∧ c.toList = (parts.toList.map fun x => (a.eval x.2).cells.toList).flatten := by
    intro zs hzs
    obtain ⟨c, c1, c2⟩ := fill_parts (size := E.sz e) (vs := parts.toList.map fun x => a.eval x.2) (zs := zs.toList) hvs (by rw [List.length_map, hpl, Array.length_toList]; exact hzs)
    rw [hparts]
    refine ⟨c, c1, ?_⟩
    rw [c2, List.flatMap_def, List.map_map]
    rfl
  obtain ⟨c, hc1, hc2⟩ := hfill ((Array.range (len * E.sz e)).map (((if len * E.sz e = 0 then #[] else z.cells) : Array Value)[· % ((if len * E.sz e = 0 then #[] else z.cells) : Array Value).size]!)) (by simp)
  have hrun : (execOp a.eval o).run P w = .ok (.value (.slice (some ⟨w.heap.size, 0, none⟩) len len)) (w.alloc (.cells c e)) := by
    simp only [execOp, ho]
    refine run_value ?_
    have hsize : (sizeOf e).run P w = .ok (E.sz e) w := by simp [sizeOf, typeInfo, hi, hsz]
    unfold Instr.buildSlice
    simp only [Sem.run_bind, run_underlying hu, Result.andThen_ok, hsize]
    rw [if_neg (by omega)]
    by_cases h0 : len * E.sz e = 0
    · simp only [h0, if_true, if_false] at hc1 ⊢
      simp only [Sem.run_pure, Sem.run_bind, Result.andThen_ok, hc1]
      simp [newRow]
    · simp only [h0, if_false] at hc1 ⊢
      simp only [Sem.run_pure, Sem.run_bind, Result.andThen_ok, run_zero hi hz, hc1]
      simp [newRow]
  have hls : ∀ l, l ∈ (parts.toList.map fun x => (a.eval x.2).cells.toList) → l.length = E.sz e := by
    intro l hl
    obtain ⟨x, hx, rfl⟩ := List.mem_map.1 hl
    have := hvs (a.eval x.2) (List.mem_map.2 ⟨x, hx, rfl⟩)
    simpa using this
  refine ⟨_, _, c.toList, grownBy_alloc' w _ none, hrun, ⟨?_, .inr ⟨w.heap.size, len, c, by rw [hl], hB, heap_alloc_new w _, by omega, ?_, ?_, ?_⟩⟩, ?_, fun b hb => by simp [Value.ownBlock] at hb; omega⟩
  · rw [hc2, flat_length _ hls]; simp [hpl, hl]
  · have : len * 1 ≤ len * E.sz e := Nat.mul_le_mul_left _ hpos
    simp only [maxLen]
    omega
  · have := flat_length _ hls
    rw [← hc2] at this
    simpa [hpl] using this
  · rw [List.take_of_length_le]
    have := flat_length _ hls
    rw [← hc2] at this
    rw [List.length_map, hpl] at this
    rw [this, hl]
    exact Nat.le_refl _
  · intro j hj
    have hj' : j < parts.toList.length := by rw [hpl, ← hl]; exact hj
    have hx : parts.toList[j]? = some parts.toList[j] := by simp
    obtain ⟨m1, m2, m3⟩ := k3 j _ hx
    refine ⟨m1, fun q hq => ?_⟩
    have := flat_getD (u := undef) _ hls j (a.eval parts.toList[j].2).cells.toList (by rw [List.getElem?_map, hx]; rfl) q hq
    rw [hc2, this]
    exact m3 q hq

theorem buildSlice_inv (hE : EnvOk P E tB) {o : Oper} {d : Nat} (hd : d < 1000) {st : St} {t e : TypeId} {len : Nat} {parts : Array (Nat × Operand)} {K : GV → St → Option R} (ho : o.op = .buildSlice t len parts) (ht : E.ty t = .slice e)
    (h : (bif Nat.ble (len * E.sz e) 16777216 then wParts E e st parts.toList len [] fun es st => wNew E d (.row e es) (st.strike d) fun st => K (.c (.orow d)) st else none) = some r) :
    ∃ v st', K v st' = some r ∧ OpDoes P E tB W0 o st v st' := by
  cases hb : Nat.ble (len * E.sz e) 16777216
  · simp [hb] at h
  · simp only [hb, cond_true] at h
    have hle := Nat.le_of_ble_eq_true hb
    obtain ⟨es, st1, h, hl, hpl, hidx, hrep⟩ := wParts_inv hE h
    obtain ⟨hok, h⟩ := wNew_inv h
    simp only [List.reverse_nil, List.nil_append] at h hok
    refine ⟨_, _, h, row_does hd hok fun {X n I μ a w} hX hr hs => ?_⟩
    obtain ⟨J, k1, k2, k3⟩ := hrep hX hs
    obtain ⟨v, w', xs, m1, m2, m3, m4, m5⟩ := buildSlice_run (B := X.B) hE ho ht hle hl hpl hidx hs.bw k3
    exact ⟨J, v, w', xs, k1, k2, m1, m2, m3, m4, m5⟩
end
end Go.Dip
end

/- An ideal semantics of the model's code, part 18: what is written. -/
section
set_option linter.unusedVariables false
set_option linter.unusedSimpArgs false
namespace Go.Dip
section
variable {R : Type} {r : R} {P : Program} {E : Env} {tB : TypeId} {W0 : World}

theorem grownBy_setRow (w : World) (b : Nat) (cs : Array Value) : w.grownBy (w.setRow b cs) (some b) :=
  ⟨rfl, rfl, rfl, by simp, fun k _ hk => setRow_other w b k cs (fun e => hk (by rw [e]))⟩

theorem look_drop' {α : Type} {q r : Nat} {l : List (Nat × α)} {o : α} (h : look (Dip.drop q l) r = some o) : r ≠ q ∧ look l r = some o := by
  rw [look_drop] at h
  by_cases e : r = q
  · simp [e] at h
  · simp only [e, if_false] at h
    exact ⟨e, h⟩
/-- Without an object. -/
theorem HeapB.without {X : Cx} {I : Mem} {μ : Locs} {β : Nat → List Nat} {w : World} {h : List (Nat × Ob)} (hb : HeapB X I μ β w h) (q : Nat) : HeapB X I μ β w (Dip.drop q h) :=
  hb.sub (fun r o ho => ⟨o, (look_drop' ho).2, hb.ok r o (look_drop' ho).2, rfl, rfl⟩) (fun _ _ _ _ _ _ _ h => h) (fun _ h => h)
theorem Sim.without {X : Cx} {n : Nat} {I : Mem} {μ : Locs} {st : St} {a : Act} {w : World} (h : Sim X n I μ st a w) (q : Nat) : Sim X n I μ { st with h := Dip.drop q st.h } a w :=
  ⟨h.size, h.defers, h.t, ⟨_, h.h.choose_spec.without q⟩, h.im, h.bw, h.fr, h.cx, h.base⟩

/-- A block of an object of the state: nothing else lies in it. -/
theorem Sim.aside {X : Cx} {n : Nat} {I : Mem} {μ : Locs} {β : Nat → List Nat} {st : St} {a : Act} {w : World} (h : Sim X n I μ st a w) (hβ : HeapB X I μ β w st.h) {q : Nat} {o : Ob} (ho : look st.h q = some o) {b : Nat} (hb : b ∈ β q)
    (hbyte : (∃ ob, w.heap[b]? = some ob ∧ ∀ arr fz, ob ≠ .cells arr X.E.tb fz) ∨ o.isByte X.E = true) : Aside X I β w (Dip.drop q st.h) (some b) := by
  refine ⟨?_, ?_, ?_, ?_⟩
  · rintro k hk r p hp e
    injection hk with hk
    subst hk
    obtain ⟨hne, hp'⟩ := look_drop' hp
    exact hβ.apart r q p o hp' ho hne b e hb
  · rintro k hk
    injection hk with hk
    subst hk
    exact hβ.own q o ho b hb
  · rintro k hk
    injection hk with hk
    subst hk
    exact hβ.imm q o ho b hb
  · rintro k hk
    injection hk with hk
    subst hk
    rcases hbyte with e | e
    · exact .inl e
    · refine .inr fun r p hp => ?_
      obtain ⟨hne, hp'⟩ := look_drop' hp
      cases hpb : p.isBld
      · rfl
      · have := (hβ.alone r q p o hp' ho hne hpb).2
        rw [e] at this
        cases this
theorem Sim.aside' {X : Cx} {n : Nat} {I : Mem} {μ : Locs} {β : Nat → List Nat} {st : St} {a : Act} {w : World} (h : Sim X n I μ st a w) (hβ : HeapB X I μ β w st.h) {q : Nat} {o : Ob} (ho : look st.h q = some o) {b : Option Nat} (hb : β q = b.toList)
    (hbyte : ∀ c, b = some c → (∃ ob, w.heap[c]? = some ob ∧ ∀ arr fz, ob ≠ .cells arr X.E.tb fz) ∨ o.isByte X.E = true) : Aside X I β w (Dip.drop q st.h) b := by
  cases b with
  | none => exact Aside.none ..
  | some c => exact h.aside hβ ho (by rw [hb]; simp) (hbyte c rfl)
theorem cells_aside {X : Cx} {w : World} {b : Nat} {arr : Array Value} {T : TypeId} {fz : Nat × Nat} (h : w.heap[b]? = some (.cells arr T fz)) (hT : T ≠ X.E.tb) : ∃ ob, w.heap[b]? = some ob ∧ ∀ arr fz, ob ≠ .cells arr X.E.tb fz :=
  ⟨_, h, fun _ _ e => by injection e with _ e _; exact hT e⟩

/-- An object is another one, in some of its blocks; the world is another one in one of its blocks. -/
theorem Sim.turn {X : Cx} {n : Nat} {I : Mem} {μ : Locs} {β : Nat → List Nat} {st : St} {a : Act} {w w' : World} (h : Sim X n I μ st a w) (hβ : HeapB X I μ β w st.h) {q : Nat} {o o' : Ob} {b : Nat} {bs : List Nat} (ho : look st.h q = some o) (hb : b ∈ β q) (hg : w.grownBy w' (some b))
    (hbyte : (∃ ob, w.heap[b]? = some ob ∧ ∀ arr fz, ob ≠ .cells arr X.E.tb fz) ∨ o.isByte X.E = true) (hB : o'.isBld = false) (hB0 : o.isBld = false) (hY : o'.isByte X.E = o.isByte X.E) (hnew : ObB X I μ w' q o' bs) (hs : bs.Sublist (β q)) :
    Sim X n I μ (Dip.setOb q o' st) a w' := by
  have h1 := h.without q
  have hβ1 := hβ.without q
  have has := h.aside hβ ho hb hbyte
  have h2 := h1.grown' hβ1 hg has
  have hβ2 := hβ1.grown hg has
  refine ⟨h2.size, h2.defers, h2.t, ⟨_, hβ2.new' (by rw [look_drop]; simp) hnew (hs.nodup (hβ.nodup q o ho)) ?_ ?_⟩, h2.im, h2.bw, h2.fr, h2.cx, h2.base⟩
  · intro c hc
    have hc' := hs.subset hc
    refine ⟨fun r p hp e => ?_, hβ.imm q o ho c hc', hβ.own q o ho c hc'⟩
    obtain ⟨hne, hp'⟩ := look_drop' hp
    exact hβ.apart r q p o hp' ho hne c e hc'
  · intro r p hp
    obtain ⟨hne, hp'⟩ := look_drop' hp
    refine ⟨fun e => (by rw [hB] at e; cases e), fun e => ⟨hB, ?_⟩⟩
    rw [hY]
    exact (hβ.alone r q p o hp' ho hne e).2
/-- An object's cells are other ones. -/
theorem Sim.setOb {X : Cx} {n : Nat} {I : Mem} {μ : Locs} {β : Nat → List Nat} {st : St} {a : Act} {w : World} (h : Sim X n I μ st a w) (hβ : HeapB X I μ β w st.h) {q : Nat} {o o' : Ob} {b : Nat} {arr : Array Value} {bs : List Nat} (ho : look st.h q = some o) (hb : b ∈ β q)
    (hbyte : (∃ ob, w.heap[b]? = some ob ∧ ∀ arr fz, ob ≠ .cells arr X.E.tb fz) ∨ o.isByte X.E = true) (hB : o'.isBld = false) (hB0 : o.isBld = false) (hY : o'.isByte X.E = o.isByte X.E) (hnew : ObB X I μ (w.setRow b arr) q o' bs) (hs : bs.Sublist (β q)) :
    Sim X n I μ (Dip.setOb q o' st) a (w.setRow b arr) := h.turn hβ ho hb (grownBy_setRow w b arr) hbyte hB hB0 hY hnew hs

theorem flatten_nils : ∀ n : Nat, (List.replicate n ([] : List Nat)).flatten = []
  | 0 => rfl
  | n + 1 => by simp [List.replicate_succ]
theorem getD_replicate {n i : Nat} : (List.replicate n ([] : List Nat)).getD i [] = [] := by
  simp only [List.getD_eq_getElem?_getD, List.getElem?_replicate]
  split <;> rfl
/-- Cells are other ones: what they owned is forgotten. -/
theorem RepO.splice {X : Cx} {I : Mem} {μ : Locs} {w : World} {cs xs : List CV} {vs ys : List Value} {bs : List Nat} (h : RepO X I μ w cs vs bs) (k : RepCs I μ xs ys) (off : Nat) (hl : off + xs.length ≤ cs.length) : ∃ bs', bs'.Sublist bs ∧ RepO X I μ w (splice cs off xs) (splice vs off ys) bs' := by
  obtain ⟨h1, bss, h2, rfl, h4⟩ := h
  have hxy := k.1
  have hlv : off + ys.length ≤ vs.length := by omega
  have hlb : off + (List.replicate xs.length ([] : List Nat)).length ≤ bss.length := by simp; omega
  refine ⟨(Dip.splice bss off (List.replicate xs.length [])).flatten, ?_, ?_, Dip.splice bss off (List.replicate xs.length []), ?_, rfl, fun i v hv => ?_⟩
  · have e : bss.flatten = (bss.take off).flatten ++ ((bss.drop off).take xs.length).flatten ++ (bss.drop (off + xs.length)).flatten := by
      rw [← List.flatten_append, ← List.flatten_append]
      congr 1
      rw [← List.drop_drop, List.append_assoc, List.take_append_drop, List.take_append_drop]
    rw [e]
    simp only [Dip.splice, List.flatten_append, flatten_nils, List.append_nil, List.length_replicate]
    exact (List.sublist_append_left _ _).append (List.Sublist.refl _)
  · rw [splice_length _ _ _ hl, splice_length _ _ _ hlv, h1]
  · rw [splice_length _ _ _ hlb, splice_length _ _ _ hlv, h2]
  · rw [splice_get _ _ _ hl] at hv
    have e1 : (Dip.splice vs off ys).getD i undef = if off ≤ i ∧ i < off + ys.length then ys.getD (i - off) undef else vs.getD i undef := by
      simp only [List.getD_eq_getElem?_getD, splice_get _ _ _ hlv]
      split <;> rfl
    have e2 : (Dip.splice bss off (List.replicate xs.length [])).getD i [] = if off ≤ i ∧ i < off + xs.length then [] else bss.getD i [] := by
      simp only [List.getD_eq_getElem?_getD, splice_get _ _ _ hlb, List.length_replicate]
      split
      · have := @getD_replicate xs.length (i - off)
        rw [List.getD_eq_getElem?_getD] at this
        exact this
      · rfl
    rw [e1, e2, hxy.symm]
    by_cases hi : off ≤ i ∧ i < off + xs.length
    · rw [if_pos hi] at hv
      rw [if_pos hi, if_pos hi]
      obtain ⟨k1, k2⟩ := k.2 _ v hv
      exact ⟨CellO.of k1, k2⟩
    · rw [if_neg hi] at hv
      rw [if_neg hi, if_neg hi]
      exact h4 i v hv
theorem run_storeAt' {t : TypeId} {i : TypeInfo} {b o : Nat} {v : Value} {cur : Array Value} {T : TypeId} {w : World} (hi : P.info? t = some i) (hs : v.cells.size = i.size) (hg : w.heap[b]? = some (.cells cur T (0, 0))) (hl : o + v.cells.size ≤ cur.size) (h1 : ∀ x ∈ v.cells.toList, x.oneCell' = true) :
    (Instr.storeAt t (.pointer (some ⟨b, o, none⟩)) v).run P w = .ok () (w.setRow b (splice cur.toList o v.cells.toList).toArray) := by
  have := run_storeCells_at P b o T v.cells.toList 0 cur w hg (by simpa using hl) h1
  have hsz : (sizeOf t).run P w = .ok i.size w := by simp [sizeOf, typeInfo, hi]
  simp only [Instr.storeAt, Instr.sureAddr, storeVar, Sem.run_bind, Sem.run_pure, Result.andThen_ok, hsz, hs]
  simp only [ne_eq, not_true_eq_false, if_false]
  simpa [splice] using this

theorem repCs_one {I : Mem} {μ : Locs} {cs : List CV} {vs : List Value} (h : RepCs I μ cs vs) : ∀ x ∈ vs, x.oneCell' = true := by
  intro x hx
  obtain ⟨i, hi⟩ := List.getElem?_of_mem hx
  have hlt : i < cs.length := by rw [h.1]; exact (List.getElem?_eq_some_iff.1 hi).1
  have := (h.2 i cs[i] (by simp [hlt])).2
  rw [List.getD_eq_getElem?_getD, hi] at this
  exact this
theorem EnvOk.info (hE : EnvOk P E tB) {t : TypeId} (h : isStruct (E.ty t) = true ∨ isScalar (E.ty t) = true) : ∃ i, P.info? t = some i ∧ i.size = E.sz t := by
  rcases h with h | h
  · obtain ⟨fs, hfs⟩ := isStruct_inv h
    obtain ⟨Fs, i, _, _, h3, h4⟩ := hE.struct t fs hfs
    exact ⟨i, h3, h4⟩
  · obtain ⟨d, i, _, _, h3, h4, h5⟩ := hE.scalar t h
    exact ⟨i, h3, h4.trans h5.symm⟩

/-- What a store does. -/
def StoreDoes (P : Program) (E : Env) (tB : TypeId) (st : St) (t : TypeId) (x : Operand) (ad : GV) (st' : St) : Prop :=
  ∀ {X : Cx} {n : Nat} {I : Mem} {μ : Locs} {a : Act} {w : World} {y : Value}, X.E = E → RowsOk μ → Sim X n I μ st a w → RepG I μ ad y →
    ∃ w' J, (Instr.storeAt t y (a.eval x)).run P w = .ok () w' ∧ NewI X I J ∧ Sim X n J μ st' a w'

theorem wPCells_inv (hE : EnvOk P E tB) {t : TypeId} {v : PV} {K : List PV → Option R} (h : wPCells E t v K = some r) : ∃ xs, K xs = some r ∧ xs.length = E.sz t ∧ (isStruct (E.ty t) = true ∨ isScalar (E.ty t) = true) ∧
    ∀ {I : Mem} {x : Value}, RepP I v x → x.cells.size = E.sz t ∧ ∀ j, j < E.sz t → RepP I (xs.getD j .any) (x.cells.toList.getD j undef) ∧ (x.cells.toList.getD j undef).oneCell' = true := by
  unfold wPCells at h
  cases hs : isStruct (E.ty t)
  · simp only [hs, cond_false] at h
    cases hc : isScalar (E.ty t) && v.isOne
    · simp [hc] at h
    · simp only [hc, cond_true] at h
      simp only [Bool.and_eq_true] at hc
      obtain ⟨_, _, _, _, _, _, hsz⟩ := hE.scalar t hc.1
      refine ⟨_, h, by simp [hsz], .inr hc.1, fun {I x} hx => ?_⟩
      obtain ⟨k3, k4⟩ := hx.isOne hc.2
      rw [k4, hsz]
      refine ⟨rfl, fun j hj => ?_⟩
      have : j = 0 := by omega
      subst this
      exact ⟨hx, k3⟩
  · simp only [hs, cond_true] at h
    cases hc : v.isAgg (E.sz t)
    · simp [hc] at h
    · simp only [hc, cond_true] at h
      refine ⟨_, h, by simp, .inl rfl, fun {I x} hx => ?_⟩
      obtain ⟨vs, rfl, h1, h2⟩ := hx.isAgg hc
      refine ⟨h1, fun j hj => ?_⟩
      have := h2 j hj
      simp only [List.getD_eq_getElem?_getD, List.getElem?_map, List.getElem?_range hj, Option.map_some, Option.getD_some]
      simp only [List.getD_eq_getElem?_getD] at this
      exact this

theorem splice_getD (cs : List Value) (off : Nat) (xs : List Value) (h : off + xs.length ≤ cs.length) (i : Nat) (u : Value) : (splice cs off xs).getD i u = if off ≤ i ∧ i < off + xs.length then xs.getD (i - off) u else cs.getD i u := by
  simp only [List.getD_eq_getElem?_getD, splice_get _ _ _ h]
  split <;> rfl
theorem splice_take (cs : List Value) (off : Nat) (xs : List Value) (n : Nat) (h : off + xs.length ≤ n) (hn : n ≤ cs.length) : (splice cs off xs).take n = splice (cs.take n) off xs := by
  apply List.ext_getElem?
  intro i
  rw [List.getElem?_take, splice_get _ _ _ (by omega), splice_get _ _ _ (by rw [List.length_take]; omega)]
  by_cases hi : i < n
  · rw [if_pos hi, List.getElem?_take, if_pos hi]
  · rw [if_neg hi, if_neg (by omega), List.getElem?_take, if_neg hi]

/-- A row's element is another one. -/
theorem Sim.rowStore {X : Cx} {n : Nat} {I : Mem} {μ : Locs} {st : St} {a : Act} {w : World} (h : Sim X n I μ st a w) {q : Nat} {e : TypeId} {es : List PV} {i off : Nat} {el : PV} {t : TypeId} {v : Value} {y : Value}
    (ho : look st.h q = some (.row e es)) (hi : i < es.length) (hy : RepC I μ (.ptrE q (i : Int) off) y) (hm : off + v.cells.toList.length ≤ X.E.sz e)
    (ht : ∃ inf, P.info? t = some inf ∧ v.cells.size = inf.size) (h1 : ∀ x ∈ v.cells.toList, x.oneCell' = true) (hc : el.cnt = X.E.sz e)
    (hel : ∀ j, j < X.E.sz e → if off ≤ j ∧ j < off + v.cells.toList.length then RepP I (pcell el j) (v.cells.toList.getD (j - off) undef) else pcell el j = pcell (es.getD i .any) j) :
    ∃ w', (Instr.storeAt t y v).run P w = .ok () w' ∧ Sim X n I μ (Dip.setOb q (.row e (es.set i el)) st) a w' := by
  obtain ⟨inf, hinf, hsz⟩ := ht
  obtain ⟨β, hβ⟩ := h.h
  obtain ⟨sl, xs, hbs, hμ, hown, hrow⟩ := hβ.ok q _ ho
  obtain ⟨g, m, cap, c, k1, k2, k3, rfl⟩ := hy
  rw [hμ] at k1
  injection k1 with k1
  injection k1 with k1 k1'
  subst k1 k1'
  rcases hown.2 with ⟨z1, _⟩ | ⟨g', cap', cur, z1, zB, zg, znc, zcm, zs, zt⟩
  · cases z1
  · injection z1 with z1 z2 z3
    injection z1 with z1
    injection z1 with z1
    subst z1 z2 z3
    rw [show ((i : Int)).toNat = i from rfl]
    have hlin : i * X.E.sz e + X.E.sz e ≤ es.length * X.E.sz e := by
      have := Nat.mul_le_mul_right (X.E.sz e) (show i + 1 ≤ es.length from hi)
      rw [Nat.add_mul] at this
      omega
    have hcl : es.length * X.E.sz e ≤ cur.size := by rw [zs]; exact Nat.mul_le_mul_right _ znc
    have hxl : xs.length = es.length * X.E.sz e := hown.1
    have hfit : (i * X.E.sz e + off) + v.cells.toList.length ≤ cur.toList.length := by simp; simp at hm; omega
    refine ⟨_, run_storeAt' hinf hsz zg (by simpa using hfit) h1, ?_⟩
    refine h.setOb hβ (bs := β q) ho (b := g) (by rw [hbs]; simp [Value.ownBlock]) ?_ rfl rfl rfl ?_ (List.Sublist.refl _)
    · by_cases he : e = X.E.tb
      · exact .inr (by simp [Ob.isByte, he])
      · exact .inl (cells_aside zg he)
    · refine ⟨_, splice xs (i * X.E.sz e + off) v.cells.toList, by simpa using hbs, hμ, ⟨?_, .inr ⟨g, cap, _, by simp, zB, setRow_heap w g cur _ e _ zg, by simpa using znc, zcm, ?_, ?_⟩⟩, ?_⟩
      · rw [splice_length _ _ _ (by omega)]; simpa using hxl
      · have := splice_length cur.toList _ v.cells.toList hfit
        simp only [List.size_toArray]
        rw [this]; simpa using zs
      · simp only [List.length_set]
        rw [splice_take _ _ _ _ (by omega) (by simpa using hcl), zt]
      · intro k hk
        simp only [List.length_set] at hk
        have hkl : k * X.E.sz e + X.E.sz e ≤ es.length * X.E.sz e := by
          have := Nat.mul_le_mul_right (X.E.sz e) (show k + 1 ≤ es.length from hk)
          rw [Nat.add_mul] at this
          omega
        by_cases hki : k = i
        · subst hki
          have e1 : (es.set k el).getD k .any = el := by simp [List.getD_eq_getElem?_getD, hk]
          rw [e1]
          refine ⟨hc, fun j hj => ?_⟩
          rw [splice_getD _ _ _ (by omega)]
          have := hel j hj
          by_cases hin : off ≤ j ∧ j < off + v.cells.toList.length
          · rw [if_pos hin] at this
            rw [if_pos (by omega)]
            have e2 : k * X.E.sz e + j - (k * X.E.sz e + off) = j - off := by omega
            rw [e2]
            refine ⟨this, ?_⟩
            have hlt : j - off < v.cells.toList.length := by omega
            rw [getD_lt hlt]
            exact h1 _ (by simp)
          · rw [if_neg hin] at this
            rw [if_neg (by omega), this]
            exact (hrow k hk).2 j hj
        · have e1 : (es.set i el).getD k .any = es.getD k .any := by simp [List.getD_eq_getElem?_getD, List.getElem?_set, show ¬ i = k from fun e => hki e.symm]
          rw [e1]
          refine ⟨(hrow k hk).1, fun j hj => ?_⟩
          rw [splice_getD _ _ _ (by omega), if_neg ?_]
          · exact (hrow k hk).2 j hj
          · rintro ⟨q1, q2⟩
            rcases Nat.lt_or_gt_of_ne hki with hlt | hgt
            · have := Nat.mul_le_mul_right (X.E.sz e) (show k + 1 ≤ i from hlt)
              rw [Nat.add_mul] at this
              omega
            · have := Nat.mul_le_mul_right (X.E.sz e) (show i + 1 ≤ k from hgt)
              rw [Nat.add_mul] at this
              omega

theorem ptrE_in {X : Cx} {n : Nat} {I : Mem} {μ : Locs} {st : St} {a : Act} {w : World} (h : Sim X n I μ st a w) {q : Nat} {e : TypeId} {es : List PV} {i : Int} {off : Nat} {y : Value} (ho : look st.h q = some (.row e es)) (hy : RepC I μ (.ptrE q i off) y) :
    i.toNat < es.length ∧ RepC I μ (.ptrE q (i.toNat : Int) off) y := by
  obtain ⟨_, sl, xs, _, hμ, hown, hrow⟩ := h.h.ok q _ ho
  obtain ⟨g, m, cap, c, k1, k2, k3, rfl⟩ := hy
  have e1 : (i.toNat : Int) = i := by omega
  rw [e1]
  refine ⟨?_, g, m, cap, c, k1, k2, k3, rfl⟩
  rw [hμ] at k1
  injection k1 with k1
  injection k1 with k1 k1'
  rcases hown.2 with ⟨z1, _⟩ | ⟨g', cap', cur, z1, _⟩
  · rw [k1] at z1; cases z1
  · rw [k1] at z1
    injection z1 with z1 z2 z3
    omega

/-- A store into a box. -/
theorem Sim.boxStore {X : Cx} {n : Nat} {I : Mem} {μ : Locs} {st : St} {a : Act} {w : World} (hs : Sim X n I μ st a w) {q off : Nat} {cs xs : List CV} {t : TypeId} {v y : Value} (ho : look st.h q = some (.box cs)) (hy : PtrAt μ q off y) (k1 : RepCs I μ xs v.cells.toList)
    (hle : off + xs.length ≤ cs.length) (hi : ∃ inf, P.info? t = some inf ∧ v.cells.size = inf.size) : ∃ w', (Instr.storeAt t y v).run P w = .ok () w' ∧ Sim X n I μ (Dip.setOb q (.box (Dip.splice cs off xs)) st) a w' := by
  obtain ⟨β, hβ⟩ := hs.h
  obtain ⟨b, arr, T, is, hbs, h1, h2, h3, h4, h5⟩ := hβ.ok q _ ho
  obtain ⟨inf, i1, i2⟩ := hi
  rcases hy with ⟨b', h6, rfl⟩ | ⟨b', h6, _⟩
  · rw [h1] at h6; injection h6 with h6; injection h6 with h6; subst h6
    have hl1 := h5.1
    have hl2 := k1.1
    have hnd := hβ.nodup q _ ho
    obtain ⟨is', m1, m2⟩ := h5.splice k1 off hle
    refine ⟨_, run_storeAt' i1 i2 h3 (by simp at hl1 hl2; omega) (repCs_one k1), ?_⟩
    refine hs.setOb hβ (bs := b :: is') ho (by rw [hbs]; simp) (.inl (cells_aside h3 h4)) rfl rfl rfl ⟨b, _, T, is', rfl, h1, h2, setRow_heap w b arr _ T _ h3, h4, ?_⟩ (by rw [hbs]; exact m1.cons_cons b)
    have := m2.conv (w' := w.setRow b (Dip.splice arr.toList off v.cells.toList).toArray) (J := I) (ν := μ) (MemLe.refl I) rfl rfl (f := fun v => v) (fun _ => rfl) (fun v _ x hx => hx) (fun c hc => setRow_other w b c _ fun e => ?_)
    · simpa using this
    · rw [hbs, List.nodup_cons] at hnd
      exact hnd.1 (e ▸ m1.subset hc)
  · rw [h1] at h6
    rcases h6 with ⟨_, h6⟩ | h6 <;> (injection h6 with h6; cases h6)
theorem evStore_inv (hE : EnvOk P E tB) {st : St} {t : TypeId} {ad : GV} {x : Operand} {K : St → Option R} (h : evStore E st t ad x K = some r) : ∃ st', K st' = some r ∧ StoreDoes P E tB st t x ad st' := by
  unfold evStore at h
  split at h
  · rename_i q off
    split at h
    · rename_i cs ho
      obtain ⟨xs, h, hxl, hk, _, hrep⟩ := wCells_inv hE h
      cases hb : Nat.ble (off + xs.length) cs.length
      · simp [hb] at h
      · simp only [hb, cond_true] at h
        have hle := Nat.le_of_ble_eq_true hb
        refine ⟨_, h, fun {X n I μ a w y} hX hr hs hy => ?_⟩
        have hev := hs.evT t x
        rw [hX] at hev
        obtain ⟨k1, k2⟩ := hrep hr hev
        obtain ⟨inf, i1, i2⟩ := hE.info hk
        obtain ⟨w', m1, m2⟩ := hs.boxStore (P := P) ho hy k1 hle ⟨inf, i1, by omega⟩
        exact ⟨w', I, m1, NewI.refl X I, m2⟩
    · cases h
  · rename_i q i off
    have h0 := wPure_inv h
    clear h
    obtain ⟨v, st1, h, hp⟩ := h0
    split at h
    · rename_i e es ho
      cases hc : isStruct (E.ty t) && (Nat.beq off 0 && Nat.beq (E.sz t) (E.sz e))
      · simp only [hc, cond_false] at h
        cases hse : isStruct (E.ty e)
        · simp only [hse, cond_false] at h
          cases hc2 : isScalar (E.ty e) && (isScalar (E.ty t) && (Nat.beq off 0 && v.isOne))
          · simp [hc2] at h
          · simp only [hc2, cond_true] at h
            simp only [Bool.and_eq_true, nbeq, decide_eq_true_eq] at hc2
            obtain ⟨s1, s2, rfl, s4⟩ := hc2
            refine ⟨_, h, fun {X n I μ a w y} hX hr hs hy => ?_⟩
            obtain ⟨J, k1, k2, k3⟩ := hp.does hX hs
            obtain ⟨p1, p2⟩ := ptrE_in k2 ho (RepC.mono k1.1 hy fun _ _ => rfl)
            obtain ⟨c1, c2⟩ := k3.isOne s4
            obtain ⟨c3, c4⟩ := PV.one_cells s4
            obtain ⟨_, inf, _, _, i1, i2, i3⟩ := hE.scalar t s2
            obtain ⟨_, _, _, _, _, _, i4⟩ := hE.scalar e s1
            subst hX
            obtain ⟨w', w1, w2⟩ := k2.rowStore (P := P) (t := t) (el := v) (v := a.eval x) ho p1 p2 (by rw [c2, i4]; simp) ⟨inf, i1, by rw [c2, i2]; rfl⟩ (by rw [c2]; simpa using c1) (by rw [c4, i4]) (by
              intro j hj
              have : j = 0 := by omega
              subst this
              rw [c2]
              simp only [pcell, c3]
              simpa using k3)
            exact ⟨w', J, w1, k1, w2⟩
        · simp only [hse, cond_true] at h
          obtain ⟨xs, h, hxl, hk, hrep⟩ := wPCells_inv hE h
          cases hc2 : Nat.ble (off + xs.length) (E.sz e) && (pat es i).isAgg (E.sz e)
          · simp [hc2] at h
          · simp only [hc2, cond_true] at h
            simp only [Bool.and_eq_true] at hc2
            have hle := Nat.le_of_ble_eq_true hc2.1
            refine ⟨_, h, fun {X n I μ a w y} hX hr hs hy => ?_⟩
            obtain ⟨J, k1, k2, k3⟩ := hp.does hX hs
            obtain ⟨p1, p2⟩ := ptrE_in k2 ho (RepC.mono k1.1 hy fun _ _ => rfl)
            obtain ⟨c1, c2⟩ := hrep k3
            obtain ⟨inf, i1, i2⟩ := hE.info hk
            subst hX
            obtain ⟨cs, hcs⟩ : ∃ cs, pat es i = .agg cs := by
              revert hc2
              cases pat es i <;> intro hc2 <;> first | exact ⟨_, rfl⟩ | simp [PV.isAgg] at hc2
            have hcl : cs.length = X.E.sz e := by
              have := hc2.2
              rw [hcs] at this
              simpa [PV.isAgg] using this
            have hvl : (a.eval x).cells.toList.length = X.E.sz t := by simpa using c1
            rw [hcs]
            obtain ⟨w', w1, w2⟩ := k2.rowStore (P := P) (t := t) (el := .agg (splice cs off xs)) (v := a.eval x) ho p1 p2 (by omega) ⟨inf, i1, by omega⟩ (by
              intro z hz
              obtain ⟨j, hj⟩ := List.getElem?_of_mem hz
              have hjl := (List.getElem?_eq_some_iff.1 hj).1
              have := (c2 j (by omega)).2
              rw [List.getD_eq_getElem?_getD, hj] at this
              exact this) (by simp only [PV.cnt]; rw [splice_length _ _ _ (by omega)]; exact hcl) (by
              intro j hj
              have hsp : pcell (.agg (splice cs off xs)) j = if off ≤ j ∧ j < off + xs.length then xs.getD (j - off) .any else cs.getD j .any := by
                simp only [pcell, PV.cells, List.getD_eq_getElem?_getD, splice_get _ _ _ (show off + xs.length ≤ cs.length by omega)]
                split <;> rfl
              rw [hsp, hvl, hxl]
              by_cases hin : off ≤ j ∧ j < off + X.E.sz t
              · rw [if_pos hin, if_pos hin]
                exact (c2 (j - off) (by omega)).1
              · rw [if_neg hin, if_neg hin]
                have : es.getD i.toNat .any = .agg cs := hcs
                rw [this]
                rfl)
            exact ⟨w', J, w1, k1, w2⟩
      · simp only [hc, cond_true] at h
        simp only [Bool.and_eq_true, nbeq, decide_eq_true_eq] at hc
        obtain ⟨s1, rfl, s3⟩ := hc
        obtain ⟨h, hcnt, hel⟩ := wElem_inv hE h
        refine ⟨_, h, fun {X n I μ a w y} hX hr hs hy => ?_⟩
        obtain ⟨J, k1, k2, k3⟩ := hp.does hX hs
        obtain ⟨p1, p2⟩ := ptrE_in k2 ho (RepC.mono k1.1 hy fun _ _ => rfl)
        obtain ⟨c1, c2⟩ := hel k3
        obtain ⟨inf, i1, i2⟩ := hE.info (.inl s1)
        subst hX
        have hvl : (a.eval x).cells.toList.length = X.E.sz t := by simpa using c1
        obtain ⟨w', w1, w2⟩ := k2.rowStore (P := P) (t := t) (el := v) (v := a.eval x) ho p1 p2 (by omega) ⟨inf, i1, by omega⟩ (by
          intro z hz
          obtain ⟨j, hj⟩ := List.getElem?_of_mem hz
          have hjl := (List.getElem?_eq_some_iff.1 hj).1
          have := (c2 j (by omega)).2
          rw [List.getD_eq_getElem?_getD, hj] at this
          exact this) (by rw [hcnt, s3]) (by
          intro j hj
          rw [if_pos (by omega)]
          exact (c2 j (by omega)).1)
        exact ⟨w', J, w1, k1, w2⟩
    · cases h
  · cases h
end
end Go.Dip
end

/- An ideal semantics of the model's code, part 19: append; runes. -/
section
set_option linter.unusedVariables false
set_option linter.unusedSimpArgs false
namespace Go.Dip
section
variable {R : Type} {r : R} {P : Program} {E : Env} {tB : TypeId} {W0 : World}

/-- The cells of a slice, in a list. -/
theorem SliceAt.cells {X : Cx} {I : Mem} {w : World} {c : Nat} {es : List PV} {x : Value} (h : SliceAt X I w c es x) :
    (x = .slice none 0 0 ∧ es = []) ∨ ∃ ad cap xs, x = .slice (some ad) es.length cap ∧ RowRep I c es xs ∧ xs.length = es.length * c ∧ (∀ (j : Nat) u, xs[j]? = some u → w.cell? (ad.add j) = some u) ∧ ∀ u ∈ xs, u.oneCell' = true := by
  obtain ⟨A, cap, h1, h2, h3, h4⟩ := h
  cases A with
  | none =>
    obtain ⟨e1, e2⟩ := h3 rfl
    subst e1 e2
    exact .inl ⟨h1, rfl⟩
  | some ad =>
    obtain ⟨xs, k1, k2, k3⟩ := h4 ad rfl
    refine .inr ⟨_, cap, xs, h1, k1, k2, fun j u hj => ?_, fun u hu => ?_⟩
    · have hlt := (List.getElem?_eq_some_iff.1 hj).1
      rw [k3 j (by omega), List.getD_eq_getElem?_getD, hj]
      rfl
    · obtain ⟨j, hj⟩ := List.getElem?_of_mem hu
      have hlt := (List.getElem?_eq_some_iff.1 hj).1
      rw [k2] at hlt
      have hc : 0 < c := by
        rcases Nat.eq_zero_or_pos c with e | e
        · subst e; omega
        · exact e
      have hi : j / c < es.length := Nat.div_lt_of_lt_mul (by rw [Nat.mul_comm]; exact hlt)
      have hm : j % c < c := Nat.mod_lt _ hc
      have e : j / c * c + j % c = j := by rw [Nat.mul_comm]; exact Nat.div_add_mod j c
      have := ((k1 (j / c) hi).2 (j % c) hm).2
      rw [e, List.getD_eq_getElem?_getD, hj] at this
      exact this

theorem RowRep.append {I : Mem} {c : Nat} {es fs : List PV} {xs ys : List Value} (h : RowRep I c es xs) (k : RowRep I c fs ys) (hl : xs.length = es.length * c) : RowRep I c (es ++ fs) (xs ++ ys) := by
  intro i hi
  simp only [List.length_append] at hi
  by_cases h1 : i < es.length
  · have e1 : (es ++ fs).getD i .any = es.getD i .any := by simp [List.getD_eq_getElem?_getD, List.getElem?_append_left h1]
    rw [e1]
    refine ⟨(h i h1).1, fun j hj => ?_⟩
    have hlt : i * c + j < xs.length := by
      have := Nat.mul_le_mul_right c (show i + 1 ≤ es.length from h1)
      rw [Nat.add_mul] at this
      omega
    have e2 : (xs ++ ys).getD (i * c + j) undef = xs.getD (i * c + j) undef := by simp only [List.getD_eq_getElem?_getD, List.getElem?_append_left hlt]
    rw [e2]
    exact (h i h1).2 j hj
  · have e1 : (es ++ fs).getD i .any = fs.getD (i - es.length) .any := by simp only [List.getD_eq_getElem?_getD]; rw [List.getElem?_append_right (by omega)]
    rw [e1]
    refine ⟨(k _ (by omega)).1, fun j hj => ?_⟩
    have hge : xs.length ≤ i * c + j := by
      have := Nat.mul_le_mul_right c (show es.length ≤ i by omega)
      omega
    have e3 : i * c + j - xs.length = (i - es.length) * c + j := by rw [hl, Nat.sub_mul]; have := Nat.mul_le_mul_right c (show es.length ≤ i by omega); omega
    have e2 : (xs ++ ys).getD (i * c + j) undef = ys.getD ((i - es.length) * c + j) undef := by
      simp only [List.getD_eq_getElem?_getD]
      rw [List.getElem?_append_right hge, e3]
    rw [e2]
    exact (k _ (by omega)).2 j hj
theorem RowRep.nil (I : Mem) (c : Nat) (xs : List Value) : RowRep I c [] xs := fun i hi => by simp at hi

/-- Append to a row of one's own, or to nil. -/
theorem run_append_owned_zero (w : World) (base : Nat) (t ty e : TypeId) (i : TypeInfo) (size : Nat) (ht : P.underlying t = some (.slice e)) (hi : P.info? e = some i)
    (v : Value) (n : Nat) (xs : List Value) (hown : w.ownsRow base e size v n xs) (a : Option Addr) (c : Nat) :
    (Builtin.append_ #[t, t] ty #[v, .slice a 0 c]).run P w = .ok v w := by
  rcases hown.2 with ⟨rfl, rfl⟩ | ⟨g, cap, cur, rfl, _, _, hnc, _⟩
  · cases a <;> simp [Builtin.append_, run_underlying ht, sizeOf, typeInfo, hi, Builtin.lenOf, Builtin.firstCells, loadCells, loadCellsFrom]
  · cases a <;> simp [Builtin.append_, run_underlying ht, sizeOf, typeInfo, hi, Builtin.lenOf, Builtin.firstCells, hnc, storeCells, loadCells, loadCellsFrom]
theorem vlen_row {w : World} {B : Nat} {e : TypeId} {c : Nat} {v : Value} {n : Nat} {xs : List Value} (h : w.ownsRow B e c v n xs) : vlen v = n := by
  rcases h.2 with ⟨rfl, rfl⟩ | ⟨g, cap, cur, rfl, _⟩ <;> rfl
theorem run_app (hE : EnvOk P E tB) {X : Cx} {I : Mem} {t e : TypeId} (ht : E.ty t = .slice e) {w : World} {v y : Value} {es fs : List PV} {xs : List Value} (ty : TypeId) (hown : w.ownsRow X.B e (E.sz e) v es.length xs) (hrow : RowRep I (E.sz e) es xs) (hs : SliceAt X I w (E.sz e) fs y)
    (hlim : es.length + fs.length ≤ LIM) (hB : X.B ≤ w.heap.size) :
    ∃ v' w' zs, (Builtin.append_ #[t, t] ty #[v, y]).run P w = .ok v' w' ∧ w'.ownsRow X.B e (E.sz e) v' (es ++ fs).length zs ∧ RowRep I (E.sz e) (es ++ fs) zs ∧ w.grownBy w' v.ownBlock ∧ (v'.ownBlock = v.ownBlock ∨ v'.ownBlock = some w.heap.size) ∧ (vlen v ≤ vlen v' ∧ (vlen v' = vlen v → v' = v)) := by
  obtain ⟨hu, i, z, hi, hsz, hz, hzc, hpos, hby, h64⟩ := hE.slice t e ht
  rcases hs.cells with ⟨rfl, rfl⟩ | ⟨ad, cap, ys, rfl, k1, k2, k3, k4⟩
  · have hr := run_append_owned_none (P := P) w X.B t ty e i (E.sz e) hu hi v es.length xs hown
    refine ⟨v, w, xs, hr, by simpa using hown, by simpa using hrow, ⟨rfl, rfl, rfl, Nat.le_refl _, fun _ _ _ => rfl⟩, .inl rfl, Nat.le_refl _, fun _ => rfl⟩
  · by_cases hf0 : fs.length = 0
    · have hf0' : fs = [] := List.eq_nil_of_length_eq_zero hf0
      have hr := run_append_owned_zero (P := P) w X.B t ty e i (E.sz e) hu hi v es.length xs hown (some ad) cap
      rw [hf0]
      refine ⟨v, w, xs, hr, by simpa [hf0'] using hown, by simpa [hf0'] using hrow, ⟨rfl, rfl, rfl, Nat.le_refl _, fun _ _ _ => rfl⟩, .inl rfl, Nat.le_refl _, fun _ => rfl⟩
    have hl : es.length + fs.length ≤ 549755813888 := hlim
    obtain ⟨v', w', h1, h2, h3, _, h5⟩ := run_append_own_at (P := P) w X.B t ty e i z (E.sz e) i.bytes hu hi hz hsz rfl hzc hpos v es.length xs hown ad fs.length cap ys k2 k3 k4 (by simp only [maxLen]; omega) (by
      have := Nat.mul_le_mul hl hby
      omega) hB
    have e1 := vlen_row h2; have e2 := vlen_row hown
    exact ⟨v', w', xs ++ ys, h1, by rw [List.length_append]; exact h2, hrow.append k1 hown.1, h3, h5, by omega, fun e => by omega⟩

theorem drop_map {α β : Type} (f : α → β) (d : Nat) : ∀ l : List (Nat × α), Dip.drop d (l.map fun x => (x.1, f x.2)) = (Dip.drop d l).map fun x => (x.1, f x.2)
  | [] => rfl
  | x :: l => by
    simp only [List.map_cons, Dip.drop]
    cases Nat.beq d x.1
    · simp only [cond_false, List.map_cons, drop_map f d l]
    · simp only [cond_true, drop_map f d l]
theorem drop_drop {α : Type} (d : Nat) : ∀ l : List (Nat × α), Dip.drop d (Dip.drop d l) = Dip.drop d l
  | [] => rfl
  | x :: l => by
    simp only [Dip.drop]
    cases h : Nat.beq d x.1
    · simp only [cond_false, Dip.drop, h, drop_drop d l]
    · simp only [cond_true, drop_drop d l]
theorem CV.strike_strike (r : Nat) (v : CV) : (v.strike r).strike r = v.strike r := by
  cases v with
  | orow q => simp only [CV.strike]; cases h : Nat.beq q r <;> simp [CV.strike, h]
  | osub q a b => simp only [CV.strike]; cases h : Nat.beq q r <;> simp [CV.strike, h]
  | ptr q o => simp only [CV.strike]; cases h : Nat.beq q r <;> simp [CV.strike, h]
  | ptrE q i o => simp only [CV.strike]; cases h : Nat.beq q r <;> simp [CV.strike, h]
  | fn f rs => simp only [CV.strike]; cases h : rs.any (Nat.beq r ·) <;> simp [CV.strike, h]
  | omap q => simp only [CV.strike]; cases h : Nat.beq q r <;> simp [CV.strike, h]
  | _ => rfl
theorem GV.strike_strike (r : Nat) (v : GV) : (v.map (CV.strike r)).map (CV.strike r) = v.map (CV.strike r) := by
  cases v <;> simp [GV.map, CV.strike_strike]
theorem Ob.strike_strike (r : Nat) (v : Ob) : (v.map (CV.strike r)).map (CV.strike r) = v.map (CV.strike r) := by
  cases v with
  | deep e es ho => cases ho <;> simp [Ob.map, CV.strike_strike]
  | tab kvs ho => cases ho <;> simp [Ob.map, CV.strike_strike]
  | _ => simp [Ob.map, CV.strike_strike]
theorem St.strike_strike (d : Nat) (st : St) : (st.strike d).strike d = st.strike d := by
  simp only [St.strike, St.map, drop_map, drop_drop, List.map_map]
  congr 1
  · apply List.map_congr_left
    intro x _
    simp [GV.strike_strike]
  · apply List.map_congr_left
    intro x _
    simp [Ob.strike_strike]

/-- A row's object is another one, of the same elements. -/
theorem Sim.moveRow {d : Nat} {X : Cx} {n : Nat} {I : Mem} {μ : Locs} {β : Nat → List Nat} {st : St} {a : Act} {w : World} (h : Sim X n I μ (st.strike d) a w) (hβ : HeapB X I μ β w (st.strike d).h) (e : TypeId) (es : List PV) (v : Value) (xs : List Value)
    (ho : w.ownsRow X.B e (X.E.sz e) v es.length xs) (hr : RowRep I (X.E.sz e) es xs)
    (hf : ∀ b, v.ownBlock = some b → (∀ r o, look (st.strike d).h r = some o → b ∉ β r) ∧ (∀ p, I b p = none) ∧ (X.S b ∨ X.w1.heap.size ≤ b))
    (hnew : ∀ q p, look (st.strike d).h q = some p → p.isBld = true → (Ob.row e es).isByte X.E = false) :
    Sim X n I (upd μ d (.row v (X.E.sz e))) (newOb d (.row e es) (st.strike d)) a w := by
  have h1 : Sim X n I (upd μ d (.row v (X.E.sz e))) ((st.strike d).strike d) a w := h.strike d fun k hk => upd_ne μ _ hk
  have hβ' : HeapB X I (upd μ d (.row v (X.E.sz e))) β w (st.strike d).h := hβ.elsewhere (strike_none d st) (fun q o ho => strike_free ho)
  rw [St.strike_strike] at h1
  refine ⟨h1.size, h1.defers, h1.t, ⟨_, hβ'.new' (strike_none d st) ⟨v, xs, rfl, upd_same μ d _, ho, hr⟩ ?_ ?_ ?_⟩, h1.im, h1.bw, h1.fr, h1.cx, h1.base⟩
  · cases v.ownBlock <;> simp
  · intro b hb
    exact hf b (by simpa using hb)
  · intro q p hp
    exact ⟨fun e => (by cases e), fun e => ⟨rfl, hnew q p hp e⟩⟩

theorem two_args {args : Array Operand} {a : Act} (h : args.size = 2) : args.map a.eval = #[a.eval (args.getD 0 (.const .nilIface)), a.eval (args.getD 1 (.const .nilIface))] := by
  apply Array.ext
  · simp [h]
  · intro i h1 h2
    have : i = 0 ∨ i = 1 := by simp at h2; omega
    rcases this with e | e <;> subst e <;> simp [Array.getD, h]
theorem two_types {ts : Array TypeId} (h : ts.size = 2) : ts = #[ts.getD 0 0, ts.getD 1 0] := by
  apply Array.ext
  · simp [h]
  · intro i h1 h2
    have : i = 0 ∨ i = 1 := by simp at h2; omega
    rcases this with e | e <;> subst e <;> simp [Array.getD, h]

theorem append_own {X : Cx} (hE : EnvOk P X.E tB) {n : Nat} {I : Mem} {μ : Locs} {st : St} {a : Act} {w : World} {q : Nat} {t e' : TypeId} (ty : TypeId) {es fs : List PV} {v0 y : Value} (ht : X.E.ty t = .slice e') (hr : RowsOk μ) (hs : Sim X n I μ st a w) (hol : look st.h q = some (.row e' es)) (hv : RepC I μ (.orow q) v0)
    (hsl : SliceAt X I w (X.E.sz e') fs y) (hlim : es.length + fs.length ≤ LIM) :
    ∃ v' w', (Builtin.append_ #[t, t] ty #[v0, y]).run P w = .ok v' w' ∧ (RowsOk (upd μ q (.row v' (X.E.sz e'))) ∧ Keep μ (upd μ q (.row v' (X.E.sz e')))) ∧ Sim X n I (upd μ q (.row v' (X.E.sz e'))) (moveRow q (.row e' (es ++ fs)) st) a w' := by
  obtain ⟨β, hβ⟩ := hs.h
  obtain ⟨v, xs, hbs, h1, h2, h3⟩ := hβ.ok q _ hol
  obtain ⟨c', h4⟩ := hv
  rw [h1] at h4
  injection h4 with h4
  injection h4 with h4 h4'
  obtain ⟨v', w', zs, k1, k2, k3, k4, k5, k6⟩ := run_app (X := X) hE ht ty h2 h3 hsl hlim hs.bw
  refine ⟨v', w', (by rw [← h4]; exact k1), ⟨hr.upd q _ ?_, Keep.upd μ _ (.inr ⟨_, h1, v', rfl, k6⟩)⟩, ?_⟩
  · intro v1 c1 e1
    injection e1 with e1 _
    subst e1
    rcases k2.2 with ⟨z1, _⟩ | ⟨g, cap, cur, z1, _⟩
    · exact ⟨_, _, _, z1⟩
    · exact ⟨_, _, _, z1⟩
  · have hs1 := hs.strike q (ν := μ) fun _ _ => rfl
    have hβ1 : HeapB X I μ β w (st.strike q).h := hβ.struck q
    have hA := hs.aside' hβ hol (b := v.ownBlock) (by rw [hbs]) (fun b hb => by
      by_cases he : e' = X.E.tb
      · exact .inr (by simp [Ob.isByte, he])
      · rcases h2.2 with ⟨z1, _⟩ | ⟨g, cap, cur, z1, _, zg, _⟩
        · rw [z1] at hb; simp [Value.ownBlock] at hb
        · rw [z1] at hb
          simp only [Value.ownBlock, Option.some.injEq] at hb
          subst hb
          exact .inl (cells_aside zg he))
    have hA' : Aside X I β w (st.strike q).h v.ownBlock := by
      have key : ∀ k p, look (st.strike q).h k = some p → ∃ p', look (Dip.drop q st.h) k = some p' ∧ p.isBld = p'.isBld := by
        intro k p hp
        simp only [St.strike, St.map, look_map] at hp
        obtain ⟨p', e1, e2⟩ := Option.map_eq_some_iff.1 hp
        exact ⟨p', e1, by rw [← e2, Ob.map_isBld]⟩
      refine ⟨?_, hA.own, hA.imm, ?_⟩
      · intro k hk r p hp
        obtain ⟨p', e1, _⟩ := key r p hp
        exact hA.free k hk r p' e1
      · intro k hk
        rcases hA.byte k hk with z | z
        · exact .inl z
        · refine .inr fun r p hp => ?_
          obtain ⟨p', e1, e2⟩ := key r p hp
          rw [e2]
          exact z r p' e1
    have hs2 := hs1.grown' hβ1 k4 hA'
    have hβ2 := hβ1.grown k4 hA'
    refine Sim.moveRow (st := st) (d := q) hs2 hβ2 e' (es ++ fs) v' zs k2 k3 ?_ ?_
    · intro b hb
      rcases k5 with z | z
      · rw [z] at hb
        exact ⟨fun k p hp => hA'.free b hb k p hp, hA'.imm b hb, hA'.own b hb⟩
      · rw [z] at hb
        injection hb with hb
        subst hb
        exact hs1.fresh hβ1 (Nat.le_refl _)
    · intro k p hp hbl
      rw [look_strike] at hp
      by_cases ek : k = q
      · simp [ek] at hp
      · simp only [ek, if_false] at hp
        obtain ⟨p', e1, e2⟩ := Option.map_eq_some_iff.1 hp
        rw [← e2, Ob.map_isBld] at hbl
        exact (hβ.alone k q p' _ e1 hol ek hbl).2

theorem append_inv (hE : EnvOk P E tB) {o : Oper} {d : Nat} (hd : d < 1000) {st : St} {args : Array Operand} {ts : Array TypeId} {K : GV → St → Option R} (ho : o.op = .call { callee := .builtin .append, args := args, argTypes := ts })
    (h : (bif Nat.beq ts.size 2 && Nat.beq args.size 2 then evAppend E d st (ts.getD 0 0) (args.getD 0 (.const .nilIface)) (args.getD 1 (.const .nilIface)) (ts.getD 1 0) K else none) = some r) :
    ∃ v st', K v st' = some r ∧ OpDoes P E tB W0 o st v st' := by
  cases hsz : Nat.beq ts.size 2 && Nat.beq args.size 2
  · simp [hsz] at h
  · simp only [hsz, cond_true] at h
    simp only [Bool.and_eq_true, nbeq, decide_eq_true_eq] at hsz
    unfold evAppend at h
    split at h
    · rename_i e ht hbt
      have hbt' : ts.getD 0 0 = ts.getD 1 0 := Nat.eq_of_beq_eq_true hbt
      have hrun : ∀ (a : Act) (w w' : World) (v y v' : Value), a.eval (args.getD 0 (.const .nilIface)) = v → a.eval (args.getD 1 (.const .nilIface)) = y → (Builtin.append_ #[ts.getD 0 0, ts.getD 0 0] o.type #[v, y]).run P w = .ok v' w' →
          (execOp a.eval o).run P w = .ok (.value v') w' := by
        intro a w w' v y v' hv hy hr
        rw [run_builtin ho, two_types hsz.1, two_args hsz.2, hv, hy, ← hbt']
        exact run_value hr
      obtain ⟨fs, h, hw⟩ := wSl_inv h
      have hpos : 0 < E.sz e := by
        obtain ⟨_, _, _, _, _, _, _, hp, _⟩ := hE.slice _ e ht
        exact hp
      split at h
      · rename_i q hq
        split at h
        · rename_i e' es hol
          cases hc : Nat.beq e' e && decide (es.length + fs.length ≤ LIM)
          · simp [hc] at h
          · simp only [hc, cond_true] at h
            simp only [Bool.and_eq_true, nbeq, decide_eq_true_eq] at hc
            obtain ⟨rfl, hlim⟩ := hc
            refine ⟨_, _, h, fun {X n I μ a w} hX hB hW hr hs => ?_⟩
            subst hX
            have hv := hs.evT (ts.getD 0 0) (args.getD 0 (.const .nilIface))
            rw [hq] at hv
            obtain ⟨v', w', k1, k2, k3⟩ := append_own (X := X) hE o.type ht hr hs hol hv (hw rfl hpos hs (hs.evT _ _)) hlim
            exact Upon.of_run (hrun a w w' _ _ v' rfl rfl k1) ⟨I, _, NewI.refl X I, k2, k3, ⟨_, upd_same μ q _⟩⟩
        · cases h
      · rename_i c hq
        by_cases hlim : fs.length ≤ LIM
        · simp only [hlim, decide_true, cond_true] at h
          obtain ⟨hok, h⟩ := wNew_inv h
          refine ⟨_, _, h, row_does hd hok fun {X n I μ a w} hX hr hs => ?_⟩
          have hv := hs.evT (ts.getD 0 0) (args.getD 0 (.const .nilIface))
          rw [hX, hq] at hv
          have hv' : a.eval (args.getD 0 (.const .nilIface)) = .slice none 0 0 := hv
          have hy := hs.evT (ts.getD 1 0) (args.getD 1 (.const .nilIface))
          rw [hX] at hy
          obtain ⟨v', w', zs, k1, k2, k3, k4, k5⟩ := run_app (X := X) (I := I) (es := []) hE ht o.type (World.ownsRow_nil w X.B e (E.sz e)) (RowRep.nil _ _ _) (hw hX hpos hs hy) (by simpa using hlim) hs.bw
          refine ⟨I, v', w', zs, NewI.refl X I, hs, k4, hrun a w w' _ _ v' hv' rfl k1, k2, k3, fun b hb => ?_⟩
          rcases k5 with z | z
          · rw [z] at hb
            simp [Value.ownBlock] at hb
          · rw [z] at hb
            injection hb with hb
            omega
        · simp [hlim] at h
      · cases h
    · cases h

theorem runesFrom_ints (s : ByteArray) : ∀ (b i : Nat) (acc : Array Value), (∀ v ∈ acc.toList, ∃ n, v = .int .i32 n) → (∀ v ∈ (Conv.runesFrom s b i acc).toList, ∃ n, v = .int .i32 n) ∧ (Conv.runesFrom s b i acc).size ≤ acc.size + b
  | 0, i, acc, h => ⟨h, Nat.le_refl _⟩
  | b + 1, i, acc, h => by
    simp only [Conv.runesFrom]
    split
    · obtain ⟨h1, h2⟩ := runesFrom_ints s b (i + (Utf8.decode s i).2) (acc.push (.int .i32 (Int.ofNat (Utf8.decode s i).1))) (by
        intro v hv
        simp only [Array.toList_push, List.mem_append, List.mem_singleton] at hv
        rcases hv with hv | hv
        · exact h v hv
        · exact ⟨_, hv⟩)
      refine ⟨h1, ?_⟩
      simp only [Array.size_push] at h2
      omega
    · exact ⟨h, by omega⟩

theorem runes_inv (hE : EnvOk P E tB) {o : Oper} {d : Nat} (hd : d < 1000) {st : St} {s t e : TypeId} {x : Operand} {K : GV → St → Option R} (ho : o.op = .convert s t x) (hs0 : E.ty s = .str) (ht : E.ty t = .slice e) (he : E.ty e = .int .i32)
    (h : (wStr (st.ev x) fun a => bif decide (a.length ≤ LIM) then wNew E d (.row e (runesOf a)) (st.strike d) fun st => K (.c (.orow d)) st else none) = some r) :
    ∃ v st', K v st' = some r ∧ OpDoes P E tB W0 o st v st' := by
  obtain ⟨b, hb, h⟩ := wStr_inv h
  by_cases hlim : b.length ≤ LIM
  · simp only [hlim, decide_true, cond_true] at h
    obtain ⟨hok, h⟩ := wNew_inv h
    have hl : b.length ≤ 549755813888 := hlim
    have hsc : isScalar (E.ty e) = true := by rw [he]; rfl
    obtain ⟨_, _, _, _, _, _, hsz⟩ := hE.scalar e hsc
    refine ⟨_, _, h, row_does hd hok fun {X n I μ a w} hX hr hs => ?_⟩
    have hev := hs.ev x
    rw [hb] at hev
    have hx := rep_str hev
    obtain ⟨r1, r2⟩ := runesFrom_ints ⟨b.toArray⟩ b.length 0 #[] (by simp)
    have hsize : (⟨b.toArray⟩ : ByteArray).size = b.length := by simp [ByteArray.size]
    simp only [List.size_toArray, List.length_nil, Nat.zero_add] at r2
    have hrun := run_runes_of_string (P := P) w s t e ⟨b.toArray⟩ (hE.str s hs0) (hE.slice t e ht).1 (hE.int e _ he) (by rw [hsize]; omega)
    rw [hsize] at hrun
    have hlen : (runesOf b).length = (Conv.runesFrom ⟨b.toArray⟩ b.length 0 #[]).size := by simp [runesOf]
    generalize hq : Conv.runesFrom ⟨b.toArray⟩ b.length 0 #[] = q at hrun r1 r2 hlen
    refine ⟨I, _, _, q.toList, NewI.refl X I, hs, ?_, by simp only [execOp, ho, hx]; exact run_value hrun, ⟨by simp [hlen, hsz], .inr ⟨w.heap.size, _, _, by rw [hlen], hs.bw, heap_alloc_new w.drew _, by rw [hlen]; exact grownCap_ge _ _ _ _, ?_, ?_, ?_⟩⟩, ?_, fun c hc => by simp [Value.ownBlock] at hc; omega⟩
    · exact ⟨rfl, rfl, rfl, by simp, fun k hk _ => heap_alloc_old w.drew _ k hk⟩
    · refine grownCap_le_maxLen w _ _ e ?_
      simp only [maxLen]
      omega
    · have := grownCap_ge w q.size 0 e
      simp [hsz]
      omega
    · rw [hlen, hsz, Nat.mul_one, Array.toList_append]
      exact List.take_left' (by simp)
    · intro i hi
      rw [hlen] at hi
      obtain ⟨m, hm⟩ := r1 q[i] (by simp)
      have e1 : (runesOf b).getD i .any = .int .i32 m := by
        simp only [runesOf, hq, List.getD_eq_getElem?_getD, List.getElem?_map]
        simp [hi, hm]
      rw [e1, hsz]
      refine ⟨rfl, fun j hj => ?_⟩
      have : j = 0 := by omega
      subst this
      have e2 : q.toList.getD (i * 1 + 0) undef = .int .i32 m := by
        simp [List.getD_eq_getElem?_getD, hi, hm]
      rw [e2]
      exact ⟨RepP.int _ _, rfl⟩
  · simp [hlim] at h
end
end Go.Dip
end

/- An ideal semantics of the model's code, part 20: calls that are handed objects. -/
section
set_option linter.unusedVariables false
set_option linter.unusedSimpArgs false
namespace Go.Dip
section
theorem isIn_iff {ks : List Nat} {r : Nat} : isIn ks r = true ↔ r ∈ ks := by
  unfold isIn
  rw [List.any_eq_true]
  constructor
  · rintro ⟨x, hx, h⟩
    rw [nbeq, decide_eq_true_eq] at h
    rw [h]; exact hx
  · intro h
    exact ⟨r, h, by simp⟩
theorem keysIn_iff {ks l : List Nat} : keysIn ks l = true ↔ ∀ r, r ∈ l → r ∈ ks := by
  unfold keysIn
  rw [List.all_eq_true]
  exact ⟨fun h r hr => isIn_iff.1 (h r hr), fun h r hr => isIn_iff.2 (h r hr)⟩
theorem pos_spec {ks : List Nat} {r : Nat} (h : r ∈ ks) : oldKey ks (pos ks r) = true ∧ ks.getD (pos ks r - 1000) 0 = r := by
  have h1 : ks.findIdx (Nat.beq r ·) < ks.length := List.findIdx_lt_length_of_exists ⟨r, h, by simp⟩
  have h2 := @List.findIdx_getElem _ (Nat.beq r ·) ks h1
  rw [nbeq, decide_eq_true_eq] at h2
  have e : pos ks r - 1000 = ks.findIdx (Nat.beq r ·) := by unfold pos; omega
  refine ⟨?_, ?_⟩
  · simp only [oldKey, Bool.and_eq_true, Nat.ble_eq, Nat.blt_eq]
    unfold pos
    omega
  · rw [e, List.getD_eq_getElem?_getD, List.getElem?_eq_getElem h1, Option.getD_some]
    exact h2.symm
theorem oldKey_iff {ks : List Nat} {q : Nat} : oldKey ks q = true ↔ 1000 ≤ q ∧ q < 1000 + ks.length := by
  simp only [oldKey, Bool.and_eq_true, Nat.ble_eq, Nat.blt_eq]
theorem oldKey_mem {ks : List Nat} {q : Nat} (h : oldKey ks q = true) : ks.getD (q - 1000) 0 ∈ ks := by
  obtain ⟨h1, h2⟩ := oldKey_iff.1 h
  have : q - 1000 < ks.length := by omega
  rw [List.getD_eq_getElem?_getD, List.getElem?_eq_getElem this]
  simp

theorem PtrAt.agree' {μ ν : Locs} {r q off : Nat} {x : Value} (h : PtrAt μ r off x) (e : ν q = μ r) : PtrAt ν q off x := by
  unfold PtrAt at h ⊢
  rw [e]
  exact h
theorem RepC.ren {I : Mem} {μ ν : Locs} {f : Nat → Nat} {v : CV} {x : Value} (h : RepC I μ v x) (hk : ∀ r, r ∈ v.keys → ν (f r) = μ r) : RepC I ν (v.ren f) x := by
  cases v with
  | p v => exact h
  | nils c => exact h
  | orow r => obtain ⟨c, h1⟩ := h; exact ⟨c, (hk r (by simp [CV.keys])).trans h1⟩
  | osub r a b => obtain ⟨l, c, h1, h2⟩ := h; exact ⟨l, c, (hk r (by simp [CV.keys])).trans h1, h2⟩
  | ptr r o =>
    have e := hk r (by simp [CV.keys])
    exact h.agree' e
  | ptrE r i o => obtain ⟨g, n, cap, c, h1, h2⟩ := h; exact ⟨g, n, cap, c, (hk r (by simp [CV.keys])).trans h1, h2⟩
  | iptr c es i o => exact h
  | fn g rs =>
    obtain ⟨fs, vs, h1, h0, h2, h3⟩ := h
    refine ⟨fs, vs, h1, h0, by simpa using h2, fun j r hj => ?_⟩
    rw [List.getElem?_map] at hj
    obtain ⟨q, hq, rfl⟩ := Option.map_eq_some_iff.1 hj
    have e := hk q (by simpa [CV.keys] using List.mem_of_getElem? hq)
    exact (h3 j q hq).agree' e
  | glob g => exact h
  | own v => exact h
  | omap r => obtain ⟨b, h1, h2⟩ := h; exact ⟨b, (hk r (by simp [CV.keys])).trans h1, h2⟩
theorem RepCs.ren {I : Mem} {μ ν : Locs} {f : Nat → Nat} {cs : List CV} {vs : List Value} (h : RepCs I μ cs vs) (hk : ∀ r, r ∈ cs.flatMap CV.keys → ν (f r) = μ r) : RepCs I ν (cs.map (CV.ren f)) vs := by
  refine ⟨by simpa using h.1, fun i v hv => ?_⟩
  rw [List.getElem?_map] at hv
  obtain ⟨u, hu, rfl⟩ := Option.map_eq_some_iff.1 hv
  exact ⟨(h.2 i u hu).1.ren fun r hr => hk r (by simp only [List.mem_flatMap]; exact ⟨u, List.mem_of_getElem? hu, hr⟩), (h.2 i u hu).2⟩
theorem RepG.ren {I : Mem} {μ ν : Locs} {f : Nat → Nat} {v : GV} {x : Value} (h : RepG I μ v x) (hk : ∀ r, r ∈ v.keys → ν (f r) = μ r) : RepG I ν (v.map (CV.ren f)) x := by
  cases v with
  | c v => exact RepC.ren h hk
  | agg cs => obtain ⟨vs, h1, h2⟩ := h; exact ⟨vs, h1, h2.ren hk⟩
  | tup cs =>
    obtain ⟨vs, h1, h2, h3⟩ := h
    refine ⟨vs, h1, by simpa using h2, fun i v hv => ?_⟩
    rw [List.getElem?_map] at hv
    obtain ⟨u, hu, rfl⟩ := Option.map_eq_some_iff.1 hv
    exact (h3 i u hu).ren fun r hr => hk r (by simp only [GV.keys, List.mem_flatMap]; exact ⟨u, List.mem_of_getElem? hu, hr⟩)

theorem handed_mem {h : List (Nat × Ob)} {ks : List Nat} : ∀ {l : List Nat} {x : Nat × Ob}, x ∈ handed h ks l → ∃ r o, r ∈ l ∧ look h r = some o ∧ x = (pos ks r, o.map (CV.ren (pos ks)))
  | [], x, hx => by simp [handed] at hx
  | r :: l, x, hx => by
    simp only [handed] at hx
    split at hx
    · rename_i o ho
      rcases List.mem_cons.1 hx with e | hx
      · exact ⟨r, o, by simp, ho, e⟩
      · obtain ⟨r', o', h1, h2, h3⟩ := handed_mem hx
        exact ⟨r', o', by simp [h1], h2, h3⟩
    · obtain ⟨r', o', h1, h2, h3⟩ := handed_mem hx
      exact ⟨r', o', by simp [h1], h2, h3⟩
theorem Ob.ren_isBld (f : CV → CV) (o : Ob) : (o.map f).isBld = o.isBld := Ob.map_isBld f o

/-! Striking one key after the other. -/
structure ObLe (a b : Ob) : Prop where
  ok : ∀ {X : Cx} {I : Mem} {μ : Locs} {w : World} {r : Nat} {bs : List Nat}, ObB X I μ w r a bs → ObB X I μ w r b bs
  isBld : b.isBld = a.isBld
  isByte : ∀ E, b.isByte E = a.isByte E
theorem ObLe.refl (o : Ob) : ObLe o o := ⟨fun h => h, rfl, fun _ => rfl⟩
theorem ObLe.trans {a b c : Ob} (h : ObLe a b) (k : ObLe b c) : ObLe a c := ⟨fun x => k.ok (h.ok x), k.isBld.trans h.isBld, fun E => (k.isByte E).trans (h.isByte E)⟩
theorem ObLe.strike (r : Nat) (o : Ob) : ObLe o (o.map (CV.strike r)) :=
  ⟨fun h => ObB.conv (MemLe.refl _) rfl rfl (fun _ => rfl) h rfl (fun v _ x hx => hx.strike r) (fun _ _ => rfl) (fun _ _ _ _ _ hx => hx), Ob.map_isBld _ _, fun E => Ob.map_isByte _ _ _⟩
theorem GV.strike_sub (r : Nat) (v : GV) : ∀ k, k ∈ (v.map (CV.strike r)).keys → k ∈ v.keys := by
  intro k hk
  cases v with
  | c v => exact (CV.strike_keys r v).2 k hk
  | agg cs =>
    simp only [GV.map, GV.keys, List.mem_flatMap, List.mem_map] at hk ⊢
    obtain ⟨v, ⟨u, hu, rfl⟩, hr⟩ := hk
    exact ⟨u, hu, (CV.strike_keys r u).2 k hr⟩
  | tup cs =>
    simp only [GV.map, GV.keys, List.mem_flatMap, List.mem_map] at hk ⊢
    obtain ⟨v, ⟨u, hu, rfl⟩, hr⟩ := hk
    exact ⟨u, hu, (CV.strike_keys r u).2 k hr⟩
theorem strikeAll_t : ∀ (l : List Nat) (st : St) (i : Nat) (v : GV), look (strikeAll l st).t i = some v → ∃ u, look st.t i = some u ∧ (∀ I μ x, RepG I μ u x → RepG I μ v x) ∧ ∀ k, k ∈ v.keys → k ∈ u.keys ∧ k ∉ l
  | [], st, i, v, h => ⟨v, h, fun _ _ _ h => h, fun k hk => ⟨hk, by simp⟩⟩
  | r :: l, st, i, v, h => by
    obtain ⟨u, h1, h2, h3⟩ := strikeAll_t l (st.strike r) i v h
    rw [look_strike_t] at h1
    obtain ⟨u0, h4, rfl⟩ := Option.map_eq_some_iff.1 h1
    refine ⟨u0, h4, fun I μ x hx => h2 I μ x (hx.strike r), fun k hk => ?_⟩
    obtain ⟨h5, h6⟩ := h3 k hk
    refine ⟨GV.strike_sub r u0 k h5, fun hm => ?_⟩
    rcases List.mem_cons.1 hm with e | hm
    · exact GV.strike_keys r u0 (e ▸ h5)
    · exact h6 hm
theorem strikeAll_h : ∀ (l : List Nat) (st : St) (q : Nat) (o : Ob), look (strikeAll l st).h q = some o → ∃ p, look st.h q = some p ∧ ObLe p o ∧ ∀ k, k ∈ o.keys → k ∈ p.keys ∧ k ∉ l
  | [], st, q, o, h => ⟨o, h, .refl o, fun k hk => ⟨hk, by simp⟩⟩
  | r :: l, st, q, o, h => by
    obtain ⟨p, h1, h2, h3⟩ := strikeAll_h l (st.strike r) q o h
    rw [look_strike] at h1
    by_cases e : q = r
    · simp [e] at h1
    · simp only [e, if_false] at h1
      obtain ⟨p0, h4, rfl⟩ := Option.map_eq_some_iff.1 h1
      refine ⟨p0, h4, (ObLe.strike r p0).trans h2, fun k hk => ?_⟩
      obtain ⟨h5, h6⟩ := h3 k hk
      refine ⟨(Ob.strike_keys r p0).2 k h5, fun hm => ?_⟩
      rcases List.mem_cons.1 hm with e | hm
      · exact (Ob.strike_keys r p0).1 (e ▸ h5)
      · exact h6 hm
theorem look_dropAll {α : Type} : ∀ (ks : List Nat) (l : List (Nat × α)) (q : Nat) (o : α), look (dropAll ks l) q = some o → q ∉ ks ∧ look l q = some o
  | [], l, q, o, h => ⟨by simp, h⟩
  | r :: ks, l, q, o, h => by
    obtain ⟨h1, h2⟩ := look_dropAll ks (Dip.drop r l) q o h
    rw [look_drop] at h2
    by_cases e : q = r
    · simp [e] at h2
    · simp only [e, if_false] at h2
      exact ⟨by simp [e, h1], h2⟩

theorem okHeap_alone {E : Env} : ∀ {h : List (Nat × Ob)}, okHeap E h = true → ∀ r r' o o', look h r = some o → look h r' = some o' → r ≠ r' → o.isBld = true → o'.isBld = false ∧ o'.isByte E = false
  | [], _, r, r', o, o', ho, _, _, _ => by simp [look] at ho
  | x :: h, hk, r, r', o, o', ho, ho', hne, hb => by
    simp only [okHeap, Bool.and_eq_true] at hk
    have hnew : ∀ y, y ∈ h → (x.2.isBld = true → y.2.isBld = false ∧ y.2.isByte E = false) ∧ (y.2.isBld = true → x.2.isBld = false ∧ x.2.isByte E = false) := by
      intro y hy
      have hok := hk.1
      unfold okNew at hok
      cases hb : x.2.isBld
      · rw [hb] at hok
        simp only [cond_false] at hok
        refine ⟨fun e => (by cases e), fun e => ⟨rfl, ?_⟩⟩
        cases hz : x.2.isByte E
        · rfl
        · rw [hz] at hok
          simp only [cond_true, List.all_eq_true] at hok
          have := hok _ hy
          simp [e] at this
      · rw [hb] at hok
        simp only [cond_true, List.all_eq_true] at hok
        have := hok _ hy
        simp only [Bool.and_eq_true, Bool.not_eq_true'] at this
        exact ⟨fun _ => this, fun e => (by rw [this.1] at e; cases e)⟩
    rw [look_cons] at ho ho'
    by_cases e : r = x.1
    · rw [if_pos e] at ho
      injection ho with ho
      subst ho
      rw [if_neg (fun e' => hne (e.trans e'.symm))] at ho'
      exact (hnew _ (look_mem h r' o' ho')).1 hb
    · rw [if_neg e] at ho
      by_cases e' : r' = x.1
      · rw [if_pos e'] at ho'
        injection ho' with ho'
        subst ho'
        exact (hnew _ (look_mem h r o ho)).2 hb
      · rw [if_neg e'] at ho'
        exact okHeap_alone hk.2 r r' o o' ho ho' hne hb

/-- The keys' new names, and back. -/
theorem distinct_cons {x : Nat} {l : List Nat} (h : distinct (x :: l) = true) : x ∉ l ∧ distinct l = true := by
  simp only [distinct, Bool.and_eq_true, Bool.not_eq_true'] at h
  exact ⟨fun hm => by rw [isIn_iff.2 hm] at h; exact absurd h.1 (by simp), h.2⟩
def findKey (f : Nat → Nat) : List Nat → Nat → Option Nat
  | [], _ => none
  | q :: l, k => if f q = k then some q else findKey f l k
theorem findKey_some {f : Nat → Nat} : ∀ {l : List Nat} {k q : Nat}, findKey f l k = some q → q ∈ l ∧ f q = k
  | [], k, q, h => by simp [findKey] at h
  | x :: l, k, q, h => by
    simp only [findKey] at h
    split at h
    · rename_i e
      injection h with h
      subst h
      exact ⟨by simp, e⟩
    · obtain ⟨h1, h2⟩ := findKey_some h
      exact ⟨by simp [h1], h2⟩
theorem findKey_of {f : Nat → Nat} : ∀ {l : List Nat} {q : Nat}, distinct (l.map f) = true → q ∈ l → findKey f l (f q) = some q
  | [], q, _, h => by simp at h
  | x :: l, q, hd, h => by
    rw [List.map_cons] at hd
    obtain ⟨h1, h2⟩ := distinct_cons hd
    simp only [findKey]
    rcases List.mem_cons.1 h with e | h
    · subst e; simp
    · have hne : ¬ f x = f q := fun e => h1 (by rw [e]; exact List.mem_map.2 ⟨q, h, rfl⟩)
      rw [if_neg hne]
      exact findKey_of h2 h
theorem findKey_none {f : Nat → Nat} : ∀ {l : List Nat} {k : Nat}, findKey f l k = none → k ∉ l.map f
  | [], k, _ => by simp
  | x :: l, k, h => by
    simp only [findKey] at h
    split at h
    · cases h
    · rename_i e
      intro hm
      rcases List.mem_cons.1 hm with e' | hm
      · exact e e'.symm
      · exact findKey_none h hm
theorem look_ren {f : Nat → Nat} {g : Ob → Ob} : ∀ {H : List (Nat × Ob)} {k : Nat}, distinct (H.map fun x => f x.1) = true →
    (∀ o, look (H.map fun x => (f x.1, g x.2)) k = some o → ∃ q p, look H q = some p ∧ f q = k ∧ o = g p) ∧ (look (H.map fun x => (f x.1, g x.2)) k = none → k ∉ H.map fun x => f x.1)
  | [], k, _ => by simp [look]
  | x :: H, k, hd => by
    rw [List.map_cons] at hd
    obtain ⟨h1, h2⟩ := distinct_cons hd
    obtain ⟨i1, i2⟩ := look_ren (k := k) (g := g) h2
    rw [List.map_cons]
    simp only [look_cons]
    refine ⟨fun o ho => ?_, fun ho => ?_⟩
    · by_cases e : k = f x.1
      · rw [if_pos e] at ho
        injection ho with ho
        exact ⟨x.1, x.2, by rw [if_pos rfl], e.symm, ho.symm⟩
      · rw [if_neg e] at ho
        obtain ⟨q, p, j1, j2, j3⟩ := i1 o ho
        refine ⟨q, p, ?_, j2, j3⟩
        rw [if_neg ?_]
        · exact j1
        · intro e'
          subst e'
          exact h1 (List.mem_map.2 ⟨(x.1, p), look_mem H _ _ j1, rfl⟩)
    · by_cases e : k = f x.1
      · rw [if_pos e] at ho
        cases ho
      · rw [if_neg e] at ho
        intro hm
        rcases List.mem_cons.1 hm with e' | hm
        · exact e e'
        · exact i2 ho hm
end
end Go.Dip
end

/- An ideal semantics of the model's code, part 21: what a call that is handed objects leaves. -/
section
set_option linter.unusedVariables false
set_option linter.unusedSimpArgs false
namespace Go.Dip
section
variable {R : Type} {r : R} {P : Program} {E : Env} {tB : TypeId} {W0 : World}

/-- The objects' places, by the callee's numbers. -/
def muIn (ks : List Nat) (μ : Locs) : Locs := fun q => if oldKey ks q = true then μ (ks.getD (q - 1000) 0) else none
theorem muIn_pos {ks : List Nat} {μ : Locs} {r : Nat} (h : r ∈ ks) : muIn ks μ (pos ks r) = μ r := by
  obtain ⟨h1, h2⟩ := pos_spec h
  unfold muIn
  rw [if_pos h1, h2]
/-- .. and by the caller's again. -/
def muOut (f : Nat → Nat) (kh : List Nat) (μ ν : Locs) : Locs := fun k => match findKey f kh k with
  | some q => ν q
  | none => μ k
theorem muOut_of {f : Nat → Nat} {kh : List Nat} {μ ν : Locs} {q : Nat} (hd : distinct (kh.map f) = true) (h : q ∈ kh) : muOut f kh μ ν (f q) = ν q := by
  unfold muOut
  rw [findKey_of hd h]
theorem muOut_ne {f : Nat → Nat} {kh : List Nat} {μ ν : Locs} {k : Nat} (h : k ∉ kh.map f) : muOut f kh μ ν k = μ k := by
  unfold muOut
  cases hf : findKey f kh k with
  | none => rfl
  | some q =>
    obtain ⟨h1, h2⟩ := findKey_some hf
    exact absurd (List.mem_map.2 ⟨q, h1, h2⟩) h

/-- The objects' blocks, by the callee's numbers; and by the caller's again. -/
def betaIn (ks : List Nat) (β : Nat → List Nat) : Nat → List Nat := fun q => if oldKey ks q = true then β (ks.getD (q - 1000) 0) else []
theorem betaIn_pos {ks : List Nat} {β : Nat → List Nat} {r : Nat} (h : r ∈ ks) : betaIn ks β (pos ks r) = β r := by
  obtain ⟨h1, h2⟩ := pos_spec h
  unfold betaIn
  rw [if_pos h1, h2]
def betaOut (f : Nat → Nat) (kh : List Nat) (β γ : Nat → List Nat) : Nat → List Nat := fun k => match findKey f kh k with
  | some q => γ q
  | none => β k
theorem betaOut_of {f : Nat → Nat} {kh : List Nat} {β γ : Nat → List Nat} {q : Nat} (hd : distinct (kh.map f) = true) (h : q ∈ kh) : betaOut f kh β γ (f q) = γ q := by
  unfold betaOut
  rw [findKey_of hd h]
theorem betaOut_ne {f : Nat → Nat} {kh : List Nat} {β γ : Nat → List Nat} {k : Nat} (h : k ∉ kh.map f) : betaOut f kh β γ k = β k := by
  unfold betaOut
  cases hf : findKey f kh k with
  | none => rfl
  | some q =>
    obtain ⟨h1, h2⟩ := findKey_some hf
    exact absurd (List.mem_map.2 ⟨q, h1, h2⟩) h

def Ob.isRow : Ob → Bool
  | .row _ _ => true
  | .deep _ _ _ => true
  | _ => false
theorem rowAt_iff {h : List (Nat × Ob)} {r : Nat} {o : Ob} (ho : look h r = some o) : rowAt h r = o.isRow := by
  unfold rowAt
  rw [ho]
  cases o <;> rfl
theorem ObB.loc {X : Cx} {I : Mem} {μ : Locs} {w : World} {r : Nat} {o : Ob} {bs : List Nat} (h : ObB X I μ w r o bs) : ∃ l, μ r = some l ∧ l.isRow = o.isRow ∧ (∀ b base, l = .bld b base → ∃ s, o = .bld s) := by
  cases o with
  | box cs => obtain ⟨b, arr, T, is, _, h1, _⟩ := h; exact ⟨_, h1, rfl, fun _ _ e => by cases e⟩
  | row e es => obtain ⟨v, xs, _, h1, _⟩ := h; exact ⟨_, h1, rfl, fun _ _ e => by cases e⟩
  | bld s => obtain ⟨b, base, _, h1, _⟩ := h; exact ⟨_, h1, rfl, fun _ _ _ => ⟨s, rfl⟩⟩
  | deep e es ho => obtain ⟨v, xs, is, _, h1, _⟩ := h; exact ⟨_, h1, rfl, fun _ _ e => by cases e⟩
  | tab kvs ho => obtain ⟨b, es, is, _, h1, _⟩ := h; exact ⟨_, h1, rfl, fun _ _ e => by cases e⟩
  | it rem cur => obtain ⟨b, m, since, seen, clock, l, ks, vs, bo, _, h1, _⟩ := h; exact ⟨_, h1, rfl, fun _ _ e => by cases e⟩
/-- Blocks that hold no bytes. -/
theorem ObB.nobyte {X : Cx} {I : Mem} {μ : Locs} {w : World} {r : Nat} {o : Ob} {bs : List Nat} (h : ObB X I μ w r o bs) (h1 : o.isBld = false) (h2 : o.isByte X.E = false) : ∀ b, b ∈ bs → ∃ ob, w.heap[b]? = some ob ∧ ∀ arr fz, ob ≠ .cells arr X.E.tb fz := by
  have inner : ∀ {cs : List CV} {vs : List Value} {is : List Nat}, RepO X I μ w cs vs is → ∀ b, b ∈ is → ∃ ob, w.heap[b]? = some ob ∧ ∀ arr fz, ob ≠ .cells arr X.E.tb fz := fun h b hb => by
    obtain ⟨_, arr, T, h1, h2⟩ := h.lt b hb
    exact cells_aside h1 h2
  have own : ∀ {e c n : Nat} {v : Value} {xs : List Value}, e ≠ X.E.tb → w.ownsRow X.B e c v n xs → ∀ b, b ∈ v.ownBlock.toList → ∃ ob, w.heap[b]? = some ob ∧ ∀ arr fz, ob ≠ .cells arr X.E.tb fz := fun he h b hb => by
    rcases h.2 with ⟨rfl, _⟩ | ⟨g, cap, cur, rfl, _, hg, _⟩
    · simp [Value.ownBlock] at hb
    · simp [Value.ownBlock] at hb
      subst hb
      exact cells_aside hg he
  intro b hb
  cases o with
  | box cs =>
    obtain ⟨b', arr, T, is, rfl, h1, h2, h3, h4, h5⟩ := h
    rcases List.mem_cons.1 hb with rfl | hb
    · exact cells_aside h3 h4
    · exact inner h5 b hb
  | row e es =>
    obtain ⟨v, xs, rfl, h3, h4, h5⟩ := h
    exact own (by simpa [Ob.isByte, nbeq] using h2) h4 b hb
  | bld s => cases h1
  | deep e es ho =>
    obtain ⟨v, xs, is, rfl, h1, h2, h3, h4, h5⟩ := h
    rcases List.mem_append.1 hb with hb | hb
    · exact own h2 h3 b hb
    · exact inner h5 b hb
  | tab kvs ho =>
    obtain ⟨b', es, is, rfl, h1, h2, h3, h4, h5, h6, h10⟩ := h
    rcases List.mem_cons.1 hb with rfl | hb
    · exact ⟨_, h3, fun _ _ e => by cases e⟩
    · exact inner h10 b hb
  | it rem cur =>
    obtain ⟨b', m, since, seen, clock, l, ks, vs, bo, rfl, h1, h2, h3, _⟩ := h
    simp only [List.mem_singleton] at hb
    subst hb
    exact ⟨_, h3, fun _ _ e => by cases e⟩

/-- An object that a call was not handed, behind the call. -/
theorem ObB.kept {X X' : Cx} {I J : Mem} {μ : Locs} {w w' : World} {r : Nat} {o : Ob} {bs : List Nat} (hIJ : MemLe I J) (h : ObB X I μ w r o bs) (hf : Frame X' w w') (hE : X'.E = X.E)
    (hS : ∀ b, b ∈ bs → ¬ X'.S b) (hby : X'.hb = true → o.isBld = false ∧ o.isByte X.E = false)
    (hbb : ∀ g cur fz, o.isBld = true → w.heap[g]? = some (.cells cur X.E.tb fz) → ¬ X'.S g) : ObB X J μ w' r o bs := by
  have hw : ∀ b, b ∈ bs → w'.heap[b]? = w.heap[b]? := by
    intro b hb
    have hlt := h.lt b hb
    have e1 : w.heap[b]? = some w.heap[b] := by simp [hlt]
    rw [e1]
    refine hf.keep b _ e1 (hS b hb) fun hh => .inr fun c fz e => ?_
    obtain ⟨k1, k2⟩ := hby hh
    obtain ⟨ob, k3, k4⟩ := h.nobyte k1 k2 b hb
    rw [e1] at k3
    injection k3 with k3
    rw [k3, hE] at e
    exact k4 _ _ e
  have := ObB.conv (J := J) (ν := μ) (w' := w') (q := r) (f := fun v => v) hIJ rfl rfl (fun _ => rfl) h rfl (fun v _ x hx => hx.mono hIJ fun _ _ => rfl) hw (fun s hs b base hμ hx => ⟨hx.1, ?_⟩)
  · rwa [Ob.map_id] at this
  · have hno : X'.hb = false := by
      cases hh : X'.hb
      · rfl
      · have := (hby hh).1
        rw [hs] at this
        cases this
    have keep : ∀ b arr T fz, w.heap[b]? = some (.cells arr T fz) → ¬ X'.S b → w'.heap[b]? = some (.cells arr T fz) := fun b arr T fz hb hs => hf.keep b _ hb hs fun hh => by rw [hno] at hh; cases hh
    have hbs : b ∈ bs := by
      rw [hs] at h
      obtain ⟨b', base', e1, e2, _⟩ := h
      rw [hμ] at e2
      injection e2 with e2
      injection e2 with e2 _
      rw [e1, e2]
      simp
    have one : ∀ p, Lib.BuilderAtF X.tB X.E.tb base b p (Lib.byteCells s) w → Lib.BuilderAtF X.tB X.E.tb base b p (Lib.byteCells s) w' := by
      intro p hp
      obtain ⟨k1, v, k2, k3, k4⟩ := hp
      refine ⟨k1, v, keep b _ _ _ k2 (hS b hbs), ⟨k3.1, ?_⟩, k4⟩
      rcases k3.2 with hn | ⟨g, cap, cur, fz, hv, hbg, hgg, rest⟩
      · exact .inl hn
      · exact .inr ⟨g, cap, cur, fz, hv, hbg, keep g cur _ fz hgg (hbb g cur fz (by rw [hs]; rfl) hgg), rest⟩
    exact hx.2.elim (fun h => .inl (one _ h)) fun h => .inr (one _ h)
/-- .. and one that it gives back, by the caller's number. -/
theorem ObB.ren {X X' : Cx} {I : Mem} {μ ν : Locs} {w : World} {r : Nat} {o : Ob} {f : Nat → Nat} {bs : List Nat} (h : ObB X' I ν w r o bs) (hE : X'.E = X.E) (hB : X'.B = X.B) (hT : X'.tB = X.tB) (hr : μ (f r) = ν r) (hk : ∀ k, k ∈ o.keys → μ (f k) = ν k)
    (hbld : ∀ b base, ν r = some (.bld b base) → (X'.hb = true ∧ X'.bb ≤ base) ∨ X'.w1.heap.size ≤ base → (X.hb = true ∧ X.bb ≤ base) ∨ X.w1.heap.size ≤ base) : ObB X I μ w (f r) (o.map (CV.ren f)) bs :=
  ObB.conv (MemLe.refl I) hE.symm hB.symm (fun _ => rfl) h hr (fun v hv x hx => hx.ren fun k hk' => hk k (refs_keys hv hk')) (fun _ _ => rfl) (fun s hs b base hb hx => ⟨hbld b base hb hx.1, by rw [← hE, ← hT]; exact hx.2⟩)
theorem ObB.le' {X : Cx} {I : Mem} {μ ν : Locs} {w : World} {r : Nat} {o o' : Ob} {bs : List Nat} (h : ObB X I μ w r o bs) (hle : ObLe o o') (hr : ν r = μ r) (hk : ∀ k, k ∈ o'.keys → ν k = μ k) : ObB X I ν w r o' bs := by
  have := ObB.conv (J := I) (ν := ν) (w' := w) (q := r) (f := fun v => v) (MemLe.refl I) rfl rfl (fun _ => rfl) (hle.ok h) hr (fun v hv x hx => hx.mono (MemLe.refl I) fun k hk' => hk k (refs_keys hv hk')) (fun _ _ => rfl) (fun s hs b base hb hx => hx)
  rwa [Ob.map_id] at this

theorem ObB.rowLoc {X : Cx} {I : Mem} {μ : Locs} {w : World} {r : Nat} {o : Ob} {bs : List Nat} (h : ObB X I μ w r o bs) {e : TypeId} {n : Nat} (ho : o.asRow = some (e, n)) : ∃ v, μ r = some (.row v (X.E.sz e)) ∧ vlen v = n := by
  cases o with
  | row e' es =>
    simp only [Ob.asRow, Option.some.injEq, Prod.mk.injEq] at ho
    obtain ⟨rfl, rfl⟩ := ho
    obtain ⟨v, xs, _, h1, h2, _⟩ := h
    exact ⟨v, h1, vlen_row h2⟩
  | deep e' es hole =>
    simp only [Ob.asRow, Option.some.injEq, Prod.mk.injEq] at ho
    obtain ⟨rfl, rfl⟩ := ho
    obtain ⟨v, xs, is, _, h1, _, h2, _⟩ := h
    exact ⟨v, h1, vlen_row h2⟩
  | _ => simp [Ob.asRow] at ho
theorem heapAnyT {T : (Value → World → Prop) → Prop} (hT : ∀ A B : Value → World → Prop, (∀ x w, A x w → B x w) → T A → T B) (df : List Deferred) {X : Cx} {n d : Nat} {I : Mem} {μ : Locs} {st : St} {a : Act} {w : World} {ks : List Nat} {v : GV} {H : List (Nat × Ob)} (hr : RowsOk μ) (hs : Sim X n I μ st a w)
    (hk1 : ks.length < 1000) (hk3 : ∀ r, r ∈ ks → ∃ o, look st.h r = some o ∧ ∀ k, k ∈ o.keys → k ∈ ks)
    (hcall : ∀ (X' : Cx) (μ' : Locs) (β' : Nat → List Nat), X'.E = X.E → X'.tB = X.tB → X'.W0 = X.W0 → X'.S = blocksOf β' (handed st.h ks ks) → X'.hb = hasBld (handed st.h ks ks) → X'.w1 = w → X'.df = df → X'.B ≤ w.heap.size → CxOk X' → RowsOk μ' → ImmOk X' I w → RowKit.Below X'.W0.heap.size X'.W0 w → HeapB X' I μ' β' w (handed st.h ks ks) → (∀ r, r ∈ ks → μ' (pos ks r) = μ r) →
      T fun x w' => ∃ J ν, RepG J ν v x ∧ NewI X' I J ∧ (RowsOk ν ∧ Keep μ' ν) ∧ ImmOk X' J w' ∧ HeapOk X' J ν w' H ∧ Frame X' w w')
    (hd : distinct (H.map fun x => back d ks x.1) = true) (hv : ∀ r, r ∈ v.keys → r ∈ H.map fun x => x.1) (hH : ∀ x, x ∈ H → ∀ r, r ∈ x.2.keys → r ∈ H.map fun x => x.1) (hnew : ∀ x, x ∈ H → oldKey ks x.1 = true ∨ back d ks x.1 ∉ ks)
    (lst : List Nat) (hl1 : ∀ x, x ∈ H → oldKey ks x.1 = false → back d ks x.1 ∈ lst)
    (hl2 : ∀ q p, look H q = some p → oldKey ks q = true → rowAt st.h (back d ks q) = true → back d ks q ∉ lst → ∃ o1 e n, look st.h (back d ks q) = some o1 ∧ o1.asRow = some (e, n) ∧ p.asRow = some (e, n))
    (st1 : St) (hst1 : st1 = strikeAll lst { st with h := dropAll ks st.h })
    (hok : okHeap X.E ((H.map fun x => (back d ks x.1, x.2.map (CV.ren (back d ks)))) ++ st1.h) = true ∨ plain X.E st.h ks H = true) :
    T fun x w' => ∃ J ν, NewI X I J ∧ (RowsOk ν ∧ Keep μ ν) ∧ Sim X n J ν { st1 with h := (H.map fun x => (back d ks x.1, x.2.map (CV.ren (back d ks)))) ++ st1.h } a w' ∧ RepG J ν (v.map (CV.ren (back d ks))) x := by
  -- what is handed
  have hmem : ∀ q p, look (handed st.h ks ks) q = some p → ∃ r o, r ∈ ks ∧ look st.h r = some o ∧ q = pos ks r ∧ p = o.map (CV.ren (pos ks)) := by
    intro q p hq
    obtain ⟨r, o, h1, h2, h3⟩ := handed_mem (look_mem _ _ _ hq)
    injection h3 with h3 h4
    exact ⟨r, o, h1, h2, h3, h4⟩
  have hbldmem : hasBld (handed st.h ks ks) = true → ∃ r s, r ∈ ks ∧ look st.h r = some (.bld s) := by
    intro h
    obtain ⟨x, hx, hb⟩ := List.any_eq_true.1 h
    obtain ⟨r, o, h1, h2, rfl⟩ := handed_mem hx
    rw [Ob.ren_isBld] at hb
    cases o with
    | bld s => exact ⟨r, s, h1, h2⟩
    | _ => cases hb
  obtain ⟨β, hβ⟩ := hs.h
  -- the builder's base
  obtain ⟨bb, hb1, hb2, hb3⟩ : ∃ bb, (∀ r s b base, r ∈ ks → look st.h r = some (.bld s) → μ r = some (.bld b base) → bb ≤ base) ∧
      (hasBld (handed st.h ks ks) = true → ((X.hb = true ∧ X.bb ≤ bb) ∨ X.w1.heap.size ≤ bb)) ∧ (hasBld (handed st.h ks ks) = true → X.B ≤ bb) := by
    by_cases hex : ∃ r s, r ∈ ks ∧ look st.h r = some (.bld s)
    · obtain ⟨r, s, h1, h2⟩ := hex
      obtain ⟨b, base, _, h3, h4, h5, h6⟩ := hβ.ok r _ h2
      refine ⟨base, ?_, fun _ => h5, fun _ => h4⟩
      intro r' s' b' base' h1' h2' h3'
      by_cases e : r' = r
      · subst e
        rw [h3] at h3'
        injection h3' with h3'
        injection h3' with _ h3'
        omega
      · have := (hβ.alone r' r _ _ h2' h2 e rfl).1
        cases this
    · refine ⟨0, fun r s b base h1 h2 => absurd ⟨r, s, h1, h2⟩ hex, fun h => absurd (hbldmem h) (fun ⟨r, s, h⟩ => hex ⟨r, s, h⟩), fun h => absurd (hbldmem h) (fun ⟨r, s, h⟩ => hex ⟨r, s, h⟩)⟩
  let μ' := muIn ks μ
  let X' : Cx := { E := X.E, tB := X.tB, B := X.B, S := blocksOf (betaIn ks β) (handed st.h ks ks), hb := hasBld (handed st.h ks ks), bb := bb, w1 := w, W0 := X.W0, df := df }
  have hS : ∀ b, X'.S b → ∃ r o, r ∈ ks ∧ look st.h r = some o ∧ b ∈ β r := by
    rintro b ⟨q, p, h1, h2⟩
    obtain ⟨r, o, h4, h5, rfl, rfl⟩ := hmem q p h1
    rw [betaIn_pos h4] at h2
    exact ⟨r, o, h4, h5, h2⟩
  have hSown : ∀ b, X'.S b → X.S b ∨ X.w1.heap.size ≤ b := by
    intro b hb
    obtain ⟨r, o, h1, h2, h3⟩ := hS b hb
    exact hβ.own r o h2 b h3
  have hSlow : ∀ b, X'.S b → X.W0.heap.size ≤ b := by
    intro b hb
    rcases hSown b hb with h | h
    · exact hs.cx.low b h
    · exact Nat.le_trans hs.cx.low1 h
  have hcx : CxOk X' := ⟨hSlow, Nat.le_trans hs.cx.lowB hs.bw, hs.cx.lowB⟩
  have hro' : RowsOk μ' := by
    intro q u c hq
    have hq' : muIn ks μ q = some (.row u c) := hq
    unfold muIn at hq'
    split at hq'
    · exact hr _ u c hq'
    · cases hq'
  have hheap' : HeapB X' I μ' (betaIn ks β) w (handed st.h ks ks) := by
    refine ⟨?_, ?_, ?_, ?_, ?_, ?_⟩
    · intro q p hq
      obtain ⟨r, o, h1, h2, rfl, rfl⟩ := hmem q p hq
      obtain ⟨o', h2', hcl⟩ := hk3 r h1
      rw [h2] at h2'
      injection h2' with h2'
      subst h2'
      rw [betaIn_pos h1]
      refine (hβ.ok r o h2).ren (X := X') (μ := μ') rfl rfl rfl (muIn_pos h1) (fun k hk => muIn_pos (hcl k hk)) ?_
      intro b base h3 h4
      left
      obtain ⟨l, l1, _, l3⟩ := (hβ.ok r o h2).loc
      rw [h3] at l1
      injection l1 with l1
      obtain ⟨s, rfl⟩ := l3 b base l1.symm
      refine ⟨?_, hb1 r s b base h1 h2 h3⟩
      show hasBld (handed st.h ks ks) = true
      exact List.any_eq_true.2 ⟨_, look_mem _ _ _ hq, rfl⟩
    · intro q p hq
      obtain ⟨r, o, h1, h2, rfl, rfl⟩ := hmem q p hq
      rw [betaIn_pos h1]
      exact hβ.nodup r o h2
    · intro q q' p p' hq hq' hne
      obtain ⟨r, o, h1, h2, rfl, rfl⟩ := hmem q p hq
      obtain ⟨r', o', h1', h2', rfl, rfl⟩ := hmem q' p' hq'
      rw [betaIn_pos h1, betaIn_pos h1']
      exact hβ.apart r r' o o' h2 h2' (fun e => hne (by rw [e]))
    · intro q p hq b hb
      obtain ⟨r, o, h1, h2, rfl, rfl⟩ := hmem q p hq
      rw [betaIn_pos h1] at hb
      exact hβ.imm r o h2 b hb
    · intro q p hq b hb
      exact .inl ⟨q, p, hq, hb⟩
    · intro q q' p p' hq hq' hne hb
      obtain ⟨r, o, h1, h2, rfl, rfl⟩ := hmem q p hq
      obtain ⟨r', o', h1', h2', rfl, rfl⟩ := hmem q' p' hq'
      rw [Ob.map_isBld] at hb
      rw [Ob.map_isBld, Ob.map_isByte]
      exact hβ.alone r r' o o' h2 h2' (fun e => hne (by rw [e])) hb
  refine hT _ _ ?_ (hcall X' μ' (betaIn ks β) rfl rfl rfl rfl rfl rfl rfl hs.bw hcx hro' hs.im hs.base hheap' fun r hr => muIn_pos hr)
  rintro x w' ⟨J, ν, h1, hI, ⟨hro, hkeep⟩, him, ⟨γ, hheap⟩, hfr⟩
  generalize hkh : (H.map fun x => x.1) = kh at hv hH
  have hd' : distinct (kh.map (back d ks)) = true := by rw [← hkh, List.map_map]; exact hd
  have hmk : ∀ q p, look H q = some p → q ∈ kh := fun q p h => by rw [← hkh]; exact List.mem_map.2 ⟨(q, p), look_mem H q p h, rfl⟩
  -- keys that stay what they were
  have hA : ∀ q, q ∈ kh → muOut (back d ks) kh μ ν (back d ks q) = ν q := fun q hq => muOut_of hd' hq
  have hD : ∀ q, q ∈ kh → oldKey ks q = true → rowAt st.h (back d ks q) = false → muOut (back d ks) kh μ ν (back d ks q) = μ (back d ks q) := by
    intro q hq hold hrow
    have hbk : back d ks q = ks.getD (q - 1000) 0 := by simp [back, hold]
    rw [hA q hq, hbk]
    rw [hbk] at hrow
    have hin : ks.getD (q - 1000) 0 ∈ ks := oldKey_mem hold
    obtain ⟨o1, ho1, _⟩ := hk3 _ hin
    obtain ⟨l, hl1, hl2, _⟩ := (hβ.ok _ o1 ho1).loc
    have hnr : l.isRow = false := by
      rw [hl2, ← rowAt_iff ho1]
      exact hrow
    obtain ⟨g1, g2⟩ := oldKey_iff.1 hold
    have : μ' q = some l := by
      show muIn ks μ q = some l
      unfold muIn
      rw [if_pos hold]
      exact hl1
    rw [Keep.stay hkeep q l g1 (by omega) this hnr]
    exact hl1.symm
  have hE' : ∀ k, k ∉ lst → muOut (back d ks) kh μ ν k = μ k := by
    intro k hk
    by_cases hm : k ∈ kh.map (back d ks)
    · obtain ⟨q, hq, rfl⟩ := List.mem_map.1 hm
      rw [← hkh] at hq
      obtain ⟨z, hz, hzq⟩ := List.mem_map.1 hq
      have hq' : q ∈ kh := by rw [← hkh]; exact hq
      cases hold : oldKey ks q
      · exfalso
        apply hk
        rw [← hzq]
        exact hl1 z hz (by rw [hzq]; exact hold)
      · cases hrow : rowAt st.h (back d ks q)
        · exact hD q hq' hold hrow
        · obtain ⟨p, hp⟩ : ∃ p, look H q = some p := by
            cases hlk : look H q with
            | some p => exact ⟨p, rfl⟩
            | none =>
              exfalso
              have : ∀ (l : List (Nat × Ob)), look l q = none → ∀ y, y ∈ l → y.1 ≠ q := by
                intro l
                induction l with
                | nil => intro _ y hy; cases hy
                | cons b l ih =>
                  intro h y hy
                  rw [look_cons] at h
                  by_cases e : q = b.1
                  · rw [if_pos e] at h; cases h
                  · rw [if_neg e] at h
                    rcases List.mem_cons.1 hy with rfl | hy
                    · exact fun e' => e e'.symm
                    · exact ih h y hy
              exact this H hlk z hz hzq
          obtain ⟨o1, e, n', m1, m2, m3⟩ := hl2 q p hp hold hrow hk
          obtain ⟨v1, g1, g2⟩ := (hβ.ok _ o1 m1).rowLoc m2
          obtain ⟨v2, g3, g4⟩ := (hheap.ok q p hp).rowLoc m3
          have hbk : back d ks q = ks.getD (q - 1000) 0 := by simp [back, hold]
          obtain ⟨f1, f2⟩ := oldKey_iff.1 hold
          have hmu : μ' q = some (.row v1 (X.E.sz e)) := by
            show muIn ks μ q = some _
            unfold muIn
            rw [if_pos hold, ← hbk]
            exact g1
          obtain ⟨l', n1, v3, rfl, n3, n4⟩ := hkeep q _ f1 (by omega) hmu
          rw [hA q hq', g1, n1]
          have g3' : ν q = some (.row v2 (X.E.sz e)) := g3
          rw [n1] at g3'
          injection g3' with g3'
          injection g3' with g3' _
          rw [n4 (by rw [g3', g4, g2])]
    · exact muOut_ne hm
  -- the state's objects then
  have key : ∀ k o, look ((H.map fun x => (back d ks x.1, x.2.map (CV.ren (back d ks)))) ++ st1.h) k = some o →
      (∃ q p, look H q = some p ∧ back d ks q = k ∧ o = p.map (CV.ren (back d ks))) ∨ (k ∉ kh.map (back d ks) ∧ k ∉ ks ∧ ∃ o0, look st.h k = some o0 ∧ ObLe o0 o ∧ ∀ j, j ∈ o.keys → j ∉ lst) := by
    intro k o ho
    rw [look_append] at ho
    obtain ⟨i1, i2⟩ := look_ren (k := k) (g := Ob.map (CV.ren (back d ks))) hd
    cases hl : look (H.map fun x => (back d ks x.1, x.2.map (CV.ren (back d ks)))) k with
    | some o' =>
      rw [hl] at ho
      simp only [Option.some_or, Option.some.injEq] at ho
      subst ho
      obtain ⟨q, p, j1, j2, j3⟩ := i1 o' hl
      exact .inl ⟨q, p, j1, j2, j3⟩
    | none =>
      rw [hl] at ho
      simp only [Option.none_or] at ho
      rw [hst1] at ho
      obtain ⟨p, j1, j2, j3⟩ := strikeAll_h _ _ _ _ ho
      obtain ⟨j4, j5⟩ := look_dropAll _ _ _ _ j1
      refine .inr ⟨?_, j4, p, j5, j2, fun j hj => (j3 j hj).2⟩
      have := i2 hl
      rw [← hkh, List.map_map]
      exact this
  have hrest : ∀ k o0 b, k ∉ ks → look st.h k = some o0 → b ∈ β k → ¬ X'.S b := by
    intro k o0 b hk ho hb hSb
    obtain ⟨r, o1, m1, m2, m3⟩ := hS b hSb
    exact hβ.apart k r o0 o1 ho m2 (fun e => hk (e ▸ m1)) b hb m3
  have hsz : w.heap.size ≤ w'.heap.size := hfr.size
  have hbA : ∀ q, q ∈ kh → betaOut (back d ks) kh β γ (back d ks q) = γ q := fun q hq => betaOut_of hd' hq
  refine ⟨J, muOut (back d ks) kh μ ν, ⟨hI.1, ?_⟩, ⟨?_, ?_⟩, ⟨hs.size, hs.defers, ?_, ⟨betaOut (back d ks) kh β γ, ?_, ?_, ?_, ?_, ?_, ?_⟩, him, Nat.le_trans hs.bw hsz, ?_, hs.cx, ?_⟩, ?_⟩
  · intro b o u hu
    rcases hI.2 b o u hu with e | e | e
    · exact .inl e
    · exact .inr (hSown b e)
    · exact .inr (.inr (Nat.le_trans hs.fr.size e))
  · intro q u c hq
    unfold muOut at hq
    split at hq
    · exact hro _ u c hq
    · exact hr _ u c hq
  · intro q l g1 g2 hq
    by_cases hm : q ∈ kh.map (back d ks)
    · obtain ⟨q', hq', e⟩ := List.mem_map.1 hm
      cases hold : oldKey ks q'
      · simp only [back, hold, cond_false] at e
        omega
      · have hbk : ks.getD (q' - 1000) 0 = q := by rw [← e]; simp only [back, hold, cond_true]
        obtain ⟨f1, f2⟩ := oldKey_iff.1 hold
        have hmu : μ' q' = some l := by
          show muIn ks μ q' = some l
          unfold muIn
          rw [if_pos hold, hbk]
          exact hq
        obtain ⟨l', m1, m2⟩ := hkeep q' l f1 (by omega) hmu
        refine ⟨l', ?_, m2⟩
        rw [← e, hA q' hq']
        exact m1
    · rw [muOut_ne hm]
      exact ⟨l, hq, l.later_refl⟩
  · intro i u hu
    have hu' : look st1.t i = some u := hu
    rw [hst1] at hu'
    obtain ⟨u0, j1, j2, j3⟩ := strikeAll_t _ _ _ _ hu'
    refine ((j2 _ _ _ (hs.t i u0 j1))).mono hI.1 fun k hk => hE' k (j3 k hk).2
  · intro k o ho
    rcases key k o ho with ⟨q, p, j1, rfl, rfl⟩ | ⟨j1, j2, o0, j3, j4, j5⟩
    · have hq := hmk q p j1
      rw [hbA q hq]
      refine (hheap.ok q p j1).ren (X := X) (X' := X') rfl rfl rfl (hA q hq) (fun k hk => hA k ?_) ?_
      · have := hH _ (look_mem H q p j1) k hk
        exact this
      · intro b base _ h
        rcases h with ⟨h2, h3⟩ | h3
        · have h3' : bb ≤ base := h3
          rcases hb2 h2 with ⟨h4, h5⟩ | h4
          · exact .inl ⟨h4, Nat.le_trans h5 h3'⟩
          · exact .inr (Nat.le_trans h4 h3')
        · exact .inr (Nat.le_trans hs.fr.size h3)
    · rw [betaOut_ne j1]
      have h2 := (hβ.ok k o0 j3).kept (J := J) hI.1 hfr rfl (fun b hb => hrest k o0 b j2 j3 hb) ?_ ?_
      · exact h2.le' j4 (muOut_ne j1) (fun j hj => hE' j (j5 j hj))
      · intro hh
        obtain ⟨r, s, m1, m2⟩ := hbldmem hh
        exact hβ.alone r k _ o0 m2 j3 (fun e => j2 (e ▸ m1)) rfl
      · intro g cur fz hbl hg hSg
        obtain ⟨r, o1, m1, m2, m3⟩ := hS g hSg
        obtain ⟨n1, n2⟩ := hβ.alone k r o0 o1 j3 m2 (fun e => j2 (e ▸ m1)) hbl
        obtain ⟨ob, k3, k4⟩ := (hβ.ok r o1 m2).nobyte n1 n2 g m3
        rw [hg] at k3
        injection k3 with k3
        exact k4 _ _ k3.symm
  · intro k o ho
    rcases key k o ho with ⟨q, p, j1, rfl, rfl⟩ | ⟨j1, j2, o0, j3, _, _⟩
    · rw [hbA q (hmk q p j1)]
      exact hheap.nodup q p j1
    · rw [betaOut_ne j1]
      exact hβ.nodup k o0 j3
  · intro k k' o o' ho ho' hne b hb
    rcases key k o ho with ⟨q, p, j1, rfl, rfl⟩ | ⟨j1, j2, o0, j3, _, _⟩ <;> rcases key k' o' ho' with ⟨q', p', j1', rfl, rfl⟩ | ⟨j1', j2', o0', j3', _, _⟩
    · rw [hbA q (hmk q p j1)] at hb
      rw [hbA q' (hmk q' p' j1')]
      exact hheap.apart q q' p p' j1 j1' (fun e => hne (by rw [e])) b hb
    · rw [hbA q (hmk q p j1)] at hb
      rw [betaOut_ne j1']
      intro hb'
      rcases hheap.own q p j1 b hb with e | e
      · exact hrest k' o0' b j2' j3' hb' e
      · have := (hβ.ok k' o0' j3').lt b hb'
        have e' : w.heap.size ≤ b := e
        omega
    · rw [betaOut_ne j1] at hb
      rw [hbA q' (hmk q' p' j1')]
      intro hb'
      rcases hheap.own q' p' j1' b hb' with e | e
      · exact hrest k o0 b j2 j3 hb e
      · have := (hβ.ok k o0 j3).lt b hb
        have e' : w.heap.size ≤ b := e
        omega
    · rw [betaOut_ne j1] at hb
      rw [betaOut_ne j1']
      exact hβ.apart k k' o0 o0' j3 j3' hne b hb
  · intro k o ho b hb p
    rcases key k o ho with ⟨q, p', j1, rfl, rfl⟩ | ⟨j1, j2, o0, j3, _, _⟩
    · rw [hbA q (hmk q p' j1)] at hb
      exact hheap.imm q p' j1 b hb p
    · rw [betaOut_ne j1] at hb
      cases hJ : J b p with
      | none => rfl
      | some u =>
        exfalso
        rcases hI.2 b p u hJ with e | e | e
        · rw [hβ.imm k o0 j3 b hb p] at e; cases e
        · exact hrest k o0 b j2 j3 hb e
        · have := (hβ.ok k o0 j3).lt b hb
          have e' : w.heap.size ≤ b := e
          omega
  · intro k o ho b hb
    rcases key k o ho with ⟨q, p', j1, rfl, rfl⟩ | ⟨j1, j2, o0, j3, _, _⟩
    · rw [hbA q (hmk q p' j1)] at hb
      rcases hheap.own q p' j1 b hb with e | e
      · exact hSown b e
      · exact .inr (Nat.le_trans hs.fr.size e)
    · rw [betaOut_ne j1] at hb
      exact hβ.own k o0 j3 b hb
  · rcases hok with hok | hok
    · exact okHeap_alone hok
    · have hpl : ∀ q p, look H q = some p → (p.isBld = false ∧ p.isByte X.E = false) ∨ (p.isBld = true ∧ ∃ o1, back d ks q ∈ ks ∧ look st.h (back d ks q) = some o1 ∧ o1.isBld = true) := by
        intro q p hp
        have := (List.all_eq_true.1 hok) (q, p) (look_mem H q p hp)
        simp only [Bool.or_eq_true, Bool.and_eq_true, Bool.not_eq_true'] at this
        rcases this with h | h
        · exact .inl h
        · simp only [sameBld, Bool.and_eq_true] at h
          obtain ⟨h1, h2, h3⟩ := h
          refine .inr ⟨h2, ?_⟩
          simp only [back, h1, cond_true]
          split at h3
          · rename_i o1 ho1
            exact ⟨o1, oldKey_mem h1, ho1, h3⟩
          · cases h3
      intro k k' o o' ho ho' hne hb
      rcases key k o ho with ⟨q, p, j1, rfl, rfl⟩ | ⟨j1, j2, o0, j3, j4, _⟩
      · rw [Ob.map_isBld] at hb
        rcases hpl q p j1 with ⟨e, _⟩ | ⟨_, o1, e1, e2, e3⟩
        · rw [e] at hb; cases hb
        · rcases key k' o' ho' with ⟨q', p', j1', rfl, rfl⟩ | ⟨j1', j2', o0', j3', j4', _⟩
          · rw [Ob.map_isBld, Ob.map_isByte]
            exact hheap.alone q q' p p' j1 j1' (fun e => hne (by rw [e])) hb
          · rw [j4'.isBld, j4'.isByte]
            exact hβ.alone _ k' o1 o0' e2 j3' hne e3
      · rcases key k' o' ho' with ⟨q', p', j1', rfl, rfl⟩ | ⟨j1', j2', o0', j3', j4', _⟩
        · rw [Ob.map_isBld, Ob.map_isByte]
          rw [j4.isBld] at hb
          rcases hpl q' p' j1' with e | ⟨_, o1, e1, e2, e3⟩
          · exact e
          · have := (hβ.alone k _ o0 o1 j3 e2 hne hb).1
            rw [e3] at this; cases this
        · rw [j4.isBld] at hb
          rw [j4'.isBld, j4'.isByte]
          exact hβ.alone k k' o0 o0' j3 j3' hne hb
  · refine ⟨hfr.os.trans hs.fr.os, hfr.tape.trans hs.fr.tape, hfr.output.trans hs.fr.output, Nat.le_trans hs.fr.size hsz, ?_⟩
    intro b o hb hSb hby
    have h2 := hs.fr.keep b o hb hSb hby
    have hlt : b < X.w1.heap.size := (Array.getElem?_eq_some_iff.1 hb).1
    refine hfr.keep b o h2 (fun h => ?_) (fun hh => ?_)
    · rcases hSown b h with e | e
      · exact hSb e
      · omega
    · have hh' : hasBld (handed st.h ks ks) = true := hh
      rcases hb2 hh' with ⟨h4, h5⟩ | h4
      · rcases hby h4 with e | e
        · exact .inl (Nat.lt_of_lt_of_le e h5)
        · exact .inr e
      · exact .inl (Nat.lt_of_lt_of_le hlt h4)
  · refine hs.base.trans ⟨hfr.os, hfr.tape, hfr.output, hsz, fun k hk => ?_⟩
    have hkw : k < w.heap.size := Nat.lt_of_lt_of_le hk (Nat.le_trans hs.cx.lowB hs.bw)
    have e1 : w.heap[k]? = some w.heap[k] := by simp [hkw]
    rw [e1]
    refine hfr.keep k _ e1 (fun h => ?_) (fun hh => .inl ?_)
    · have := hSlow k h
      omega
    · have := hb3 hh
      have hkb := hs.cx.lowB
      show k < bb
      omega
  · exact h1.ren fun k hk => hA k (hv k hk)
theorem heapCall {X : Cx} {n d : Nat} {I : Mem} {μ : Locs} {st : St} {a : Act} {w : World} {o : Oper} {g : FuncId} {args : List GV} {as : Array Value} {ks : List Nat} {v : GV} {H : List (Nat × Ob)} (hE : EnvOk P X.E X.tB) (hr : RowsOk μ) (hs : Sim X n I μ st a w)
    (hrun : (execOp a.eval o).run P w = (callFunc g as).run P w) (hl : as.size = args.length) (ha : ∀ i, i < args.length → RepG I μ (args.getD i .any) (as.getD i undef))
    (hk1 : ks.length < 1000) (hk2 : ∀ r, r ∈ args.flatMap GV.keys → r ∈ ks) (hk3 : ∀ r, r ∈ ks → ∃ o, look st.h r = some o ∧ ∀ k, k ∈ o.keys → k ∈ ks)
    (hfn : HeapFn P X.E X.tB X.W0 g (args.map (GV.map (CV.ren (pos ks)))) (handed st.h ks ks) v H)
    (hd : distinct (H.map fun x => back d ks x.1) = true) (hv : ∀ r, r ∈ v.keys → r ∈ H.map fun x => x.1) (hH : ∀ x, x ∈ H → ∀ r, r ∈ x.2.keys → r ∈ H.map fun x => x.1) (hnew : ∀ x, x ∈ H → oldKey ks x.1 = true ∨ back d ks x.1 ∉ ks)
    (lst : List Nat) (hl1 : ∀ x, x ∈ H → oldKey ks x.1 = false → back d ks x.1 ∈ lst)
    (hl2 : ∀ q p, look H q = some p → oldKey ks q = true → rowAt st.h (back d ks q) = true → back d ks q ∉ lst → ∃ o1 e n, look st.h (back d ks q) = some o1 ∧ o1.asRow = some (e, n) ∧ p.asRow = some (e, n))
    (st1 : St) (hst1 : st1 = strikeAll lst { st with h := dropAll ks st.h })
    (hok : okHeap X.E ((H.map fun x => (back d ks x.1, x.2.map (CV.ren (back d ks)))) ++ st1.h) = true ∨ plain X.E st.h ks H = true) :
    Upon P o a w fun x w' => ∃ J ν, NewI X I J ∧ (RowsOk ν ∧ Keep μ ν) ∧ Sim X n J ν { st1 with h := (H.map fun x => (back d ks x.1, x.2.map (CV.ren (back d ks)))) ++ st1.h } a w' ∧ RepG J ν (v.map (CV.ren (back d ks))) x := by
  refine heapAnyT (T := Upon P o a w) (fun A B h k => k.mono h) [] hr hs hk1 hk3 (fun X' μ' β' e1 e2 e3 e4 e5 e6 e7 hB hcx hro' him hbase hheap' hmu => ?_) hd hv hH hnew lst hl1 hl2 st1 hst1 hok
  have hargs : ∀ i, i < (args.map (GV.map (CV.ren (pos ks)))).length → RepG I μ' ((args.map (GV.map (CV.ren (pos ks)))).getD i .any) (as.getD i undef) := by
    intro i hi
    have hi' : i < args.length := by simpa using hi
    have e : (args.map (GV.map (CV.ren (pos ks)))).getD i .any = (args.getD i .any).map (CV.ren (pos ks)) := by
      simp [List.getD_eq_getElem?_getD, hi']
    rw [e]
    refine (ha i hi').ren fun r hr => hmu r (hk2 r ?_)
    rw [List.mem_flatMap]
    refine ⟨_, ?_, hr⟩
    simp [List.getD_eq_getElem?_getD, hi']
  rw [e3] at hbase
  refine Upon.meets hrun (hfn X' I μ' β' w as e1 e2 e3 e4 e5 e6 e7 hcx hro' him hB hbase hheap' (by simpa using hl) hargs) ?_
  rintro e w' ⟨x, J, ν, rfl, h1, hI, hro, him', hheap, hfr⟩
  exact ⟨x, rfl, J, ν, h1, hI, hro, him', hheap, hfr⟩
theorem HeapB.less {X : Cx} {I : Mem} {μ : Locs} {β : Nat → List Nat} {w : World} {h h' : List (Nat × Ob)} (hb : HeapB X I μ β w h) (hl : ∀ q p, look h' q = some p → look h q = some p) : HeapB X I μ β w h' :=
  ⟨fun r o ho => hb.ok r o (hl r o ho), fun r o ho => hb.nodup r o (hl r o ho), fun r r' o o' h1 h2 => hb.apart r r' o o' (hl r o h1) (hl r' o' h2), fun r o ho => hb.imm r o (hl r o ho), fun r o ho => hb.own r o (hl r o ho), fun r r' o o' h1 h2 => hb.alone r r' o o' (hl r o h1) (hl r' o' h2)⟩
/-- An operation on some objects, as if they were handed to it. -/
theorem heapOp {E : Env} {tB : TypeId} {W0 : World} {X : Cx} {n d : Nat} {I : Mem} {μ : Locs} {st s1 : St} {t' : List (Nat × GV)} {a : Act} {w : World} {o : Oper} {ks : List Nat} {v : GV} {H : List (Nat × Ob)} (hXE : X.E = E) (hXB : X.tB = tB) (hXW : X.W0 = W0) (hr : RowsOk μ) (hs : Sim X n I μ st a w)
    (ht : ∀ i v, look t' i = some v → ∃ u, RepG I μ u (a.tmps.getD i undef) ∧ v = u.map (CV.ren (pos ks)) ∧ ∀ r, r ∈ u.keys → r ∈ ks)
    (hk1 : ks.length < 1000) (hk3 : ∀ r, r ∈ ks → ∃ o, look st.h r = some o ∧ ∀ k, k ∈ o.keys → k ∈ ks)
    (hop : OpDoes P E tB W0 o ⟨t', handed st.h ks ks⟩ v s1) (hsub : ∀ q p, look H q = some p → look s1.h q = some p)
    (hd : distinct (H.map fun x => back d ks x.1) = true) (hv : ∀ r, r ∈ v.keys → r ∈ H.map fun x => x.1) (hH : ∀ x, x ∈ H → ∀ r, r ∈ x.2.keys → r ∈ H.map fun x => x.1) (hnew : ∀ x, x ∈ H → oldKey ks x.1 = true ∨ back d ks x.1 ∉ ks)
    (lst : List Nat) (hl1 : ∀ x, x ∈ H → oldKey ks x.1 = false → back d ks x.1 ∈ lst)
    (hl2 : ∀ q p, look H q = some p → oldKey ks q = true → rowAt st.h (back d ks q) = true → back d ks q ∉ lst → ∃ o1 e n, look st.h (back d ks q) = some o1 ∧ o1.asRow = some (e, n) ∧ p.asRow = some (e, n))
    (st1 : St) (hst1 : st1 = strikeAll lst { st with h := dropAll ks st.h })
    (hok : okHeap X.E ((H.map fun x => (back d ks x.1, x.2.map (CV.ren (back d ks)))) ++ st1.h) = true ∨ plain X.E st.h ks H = true) :
    Upon P o a w fun x w' => ∃ J ν, NewI X I J ∧ (RowsOk ν ∧ Keep μ ν) ∧ Sim X n J ν { st1 with h := (H.map fun x => (back d ks x.1, x.2.map (CV.ren (back d ks)))) ++ st1.h } a w' ∧ RepG J ν (v.map (CV.ren (back d ks))) x := by
  refine heapAnyT (T := Upon P o a w) (fun A B h k => k.mono h) X.df hr hs hk1 hk3 (fun X' μ' β' e1 e2 e3 e4 e5 e6 e7 hB hcx hro' him hbase hheap' hmu => ?_) hd hv hH hnew lst hl1 hl2 st1 hst1 hok
  have hs' : Sim X' n I μ' ⟨t', handed st.h ks ks⟩ a w := by
    refine ⟨hs.size, hs.defers.trans e7.symm, fun i u hu => ?_, ⟨β', hheap'⟩, him, hB, ?_, hcx, hbase⟩
    · obtain ⟨u0, h1, rfl, h3⟩ := ht i u hu
      exact h1.ren fun r hr => hmu r (h3 r hr)
    · rw [e6]
      exact ⟨rfl, rfl, rfl, Nat.le_refl _, fun b ob hb _ _ => hb⟩
  refine (hop (e1.trans hXE) (e2.trans hXB) (e3.trans hXW) hro' hs').mono ?_
  rintro x w' ⟨J, ν, h1, h2, h3, h4⟩
  obtain ⟨γ, hγ⟩ := h3.h
  exact ⟨J, ν, h4, h1, h2, h3.im, ⟨γ, hγ.less hsub⟩, e6 ▸ h3.fr⟩
end
end Go.Dip
end

/- An ideal semantics of the model's code: what one cell alone leads to, kept inside that cell; and taken out again. -/
section
set_option linter.unusedVariables false
set_option linter.unusedSimpArgs false
namespace Go.Dip

theorem distinct_nodup : ∀ {l : List Nat}, distinct l = true → l.Nodup
  | [], _ => by simp
  | x :: l, h => by
    obtain ⟨h1, h2⟩ := distinct_cons h
    exact List.nodup_cons.2 ⟨h1, distinct_nodup h2⟩
theorem ObLe.strikes' : ∀ (zs : List Nat) (o : Ob), ObLe o (o.strikes zs)
  | [], o => .refl o
  | z :: zs, o => (ObLe.strike z o).trans (ObLe.strikes' zs _)
theorem RepP.not_owned {I : Mem} {v : PV} {x : Value} (h : RepP I v x) : isOwned v = false := by cases h <;> rfl
theorem look_dropAll_none {α : Type} : ∀ (ks : List Nat) (l : List (Nat × α)) (q : Nat), q ∈ ks → look (dropAll ks l) q = none
  | [], l, q, h => by cases h
  | r :: ks, l, q, h => by
    simp only [dropAll, List.foldl_cons]
    by_cases hq : q ∈ ks
    · exact look_dropAll_none ks _ q hq
    · rcases List.mem_cons.1 h with rfl | h
      · cases hl : look (List.foldl (fun l r => drop r l) (drop q l) ks) q with
        | none => rfl
        | some o =>
          have := (look_dropAll ks (drop q l) q o hl).2
          rw [look_drop] at this
          simp at this
      · exact absurd h hq

theorem perm_set {bss : List (List Nat)} : ∀ {j : Nat} {bl L : List Nat}, j < bss.length → bl.Perm (bss.getD j [] ++ L) → (bss.set j bl).flatten.Perm (bss.flatten ++ L) := by
  induction bss with
  | nil => intro j bl L h; simp at h
  | cons b bss ih =>
    intro j bl L h hp
    cases j with
    | zero =>
      simp only [List.set_cons_zero, List.flatten_cons]
      have hp' : bl.Perm (b ++ L) := by simpa using hp
      refine (hp'.append_right _).trans ?_
      rw [List.append_assoc, List.append_assoc]
      exact (List.perm_append_comm).append_left b
    | succ j =>
      simp only [List.set_cons_succ, List.flatten_cons, List.append_assoc]
      exact (ih (by simpa using h) (by simpa using hp)).append_left b
/-- A cell is told as an owned tree. -/
theorem RepO.put {X : Cx} {I : Mem} {μ : Locs} {w : World} {cs : List CV} {vs : List Value} {bs L : List Nat} (h : RepO X I μ w cs vs bs) {j : Nat} {u : CV} {v : PV} (hu : cs[j]? = some u)
    (hv : ∀ bl, CellO X I μ w u (vs.getD j undef) bl → ∃ bl', RepE X I w v (vs.getD j undef) bl' ∧ bl'.Perm (bl ++ L)) : ∃ bs', RepO X I μ w (cs.set j (.own v)) vs bs' ∧ bs'.Perm (bs ++ L) := by
  obtain ⟨h1, bss, h2, rfl, h4⟩ := h
  have hlt : j < cs.length := (List.getElem?_eq_some_iff.1 hu).1
  obtain ⟨k1, k2⟩ := h4 j u hu
  obtain ⟨bl', m1, m2⟩ := hv _ k1
  refine ⟨(bss.set j bl').flatten, ⟨by rw [List.length_set]; exact h1, bss.set j bl', by simpa using h2, rfl, fun i x hx => ?_⟩, perm_set (by omega) m2⟩
  rw [List.getElem?_set] at hx
  by_cases e : j = i
  · subst e
    rw [if_pos rfl, if_pos hlt] at hx
    injection hx with hx
    subst hx
    have : (bss.set j bl').getD j [] = bl' := by simp [List.getD_eq_getElem?_getD, show j < bss.length by omega]
    rw [this]
    exact ⟨m1, k2⟩
  · rw [if_neg e] at hx
    have : (bss.set j bl').getD i [] = bss.getD i [] := by simp only [List.getD_eq_getElem?_getD, List.getElem?_set, if_neg e]
    rw [this]
    exact h4 i x hx
/-- An owned tree is taken out of its cell. -/
theorem RepO.take {X : Cx} {I : Mem} {μ : Locs} {w : World} {cs : List CV} {vs : List Value} {bs : List Nat} (h : RepO X I μ w cs vs bs) {j : Nat} {v : PV} (hv : cs[j]? = some (.own v)) :
    ∃ bl bs', RepE X I w v (vs.getD j undef) bl ∧ (bs' ++ bl).Perm bs ∧ ∀ (ν : Locs) (u : CV), (∀ c, c ∈ cs → ∀ k, k ∈ c.keys → ν k = μ k) → RepC I ν u (vs.getD j undef) → RepO X I ν w (cs.set j u) vs bs' := by
  obtain ⟨h1, bss, h2, rfl, h4⟩ := h
  have hlt : j < cs.length := (List.getElem?_eq_some_iff.1 hv).1
  obtain ⟨k1, k2⟩ := h4 j _ hv
  refine ⟨bss.getD j [], (bss.set j []).flatten, k1, ?_, fun ν u hk hu => ⟨by rw [List.length_set]; exact h1, bss.set j [], by simpa using h2, rfl, fun i x hx => ?_⟩⟩
  · have := perm_set (bss := bss.set j []) (j := j) (bl := bss.getD j []) (L := bss.getD j []) (by simp; omega) (by
      have : (bss.set j []).getD j [] = [] := by simp [List.getD_eq_getElem?_getD, show j < bss.length by omega]
      rw [this]; simp)
    rw [List.set_set] at this
    have e : bss.set j (bss.getD j []) = bss := by
      apply List.ext_getElem?
      intro i
      rw [List.getElem?_set]
      by_cases e : j = i
      · subst e
        have hb : j < bss.length := by omega
        simp [hb, List.getD_eq_getElem?_getD]
      · simp [e]
    rw [e] at this
    exact this.symm
  · rw [List.getElem?_set] at hx
    by_cases e : j = i
    · subst e
      rw [if_pos rfl, if_pos hlt] at hx
      injection hx with hx
      subst hx
      have : (bss.set j []).getD j [] = [] := by simp [List.getD_eq_getElem?_getD, show j < bss.length by omega]
      rw [this]
      exact ⟨CellO.of hu, k2⟩
    · rw [if_neg e] at hx
      have : (bss.set j []).getD i [] = bss.getD i [] := by simp only [List.getD_eq_getElem?_getD, List.getElem?_set, if_neg e]
      rw [this]
      obtain ⟨m1, m2⟩ := h4 i x hx
      refine ⟨?_, m2⟩
      by_cases ho : x.isOwn = true
      · cases x with
        | own y => exact m1
        | _ => cases ho
      · have ho' : x.isOwn = false := by simpa using ho
        obtain ⟨m3, m4⟩ := (CellO.ref ho').1 m1
        rw [m4]
        exact CellO.of (m3.mono (MemLe.refl I) (hk x (List.mem_of_getElem? hx)))

/-- What a cell leads to, as a tree. -/
theorem treeC_rep {X : Cx} {I : Mem} {μ : Locs} {β : Nat → List Nat} {w : World} {h : List (Nat × Ob)} (hβ : HeapB X I μ β w h) : ∀ (n : Nat) {u : CV} {x : Value} {bl : List Nat} {v : PV} {ds : List Nat}, treeC X.E h n u = some (v, ds) → CellO X I μ w u x bl → ∃ bl', RepE X I w v x bl' ∧ bl'.Perm (bl ++ ds.flatMap β)
  | 0, u, x, bl, v, ds, ht, _ => by simp [treeC] at ht
  | n + 1, u, x, bl, v, ds, ht, hu => by
    cases u with
    | p y =>
      simp only [treeC, Option.some.injEq, Prod.mk.injEq] at ht
      obtain ⟨rfl, rfl⟩ := ht
      obtain ⟨h1, rfl⟩ := hu
      have h1' : RepP I y x := h1
      exact ⟨[], .pure _ _ h1'.not_owned h1', by simp⟩
    | own y =>
      simp only [treeC, Option.some.injEq, Prod.mk.injEq] at ht
      obtain ⟨rfl, rfl⟩ := ht
      exact ⟨bl, hu, by simp⟩
    | nils c =>
      simp only [treeC, Option.some.injEq, Prod.mk.injEq] at ht
      obtain ⟨rfl, rfl⟩ := ht
      obtain ⟨h1, rfl⟩ := hu
      have h1' : x = .slice none 0 0 := h1
      subst h1'
      exact ⟨[], .pure _ _ rfl (RepP.nilsl c none), by simp⟩
    | orow d =>
      simp only [treeC] at ht
      split at ht
      · rename_i e es ho
        rw [nbeq] at ht
        by_cases he : e = X.E.tb
        · simp [he] at ht
        · simp only [he, decide_false, cond_false, Option.some.injEq, Prod.mk.injEq] at ht
          obtain ⟨rfl, rfl⟩ := ht
          obtain ⟨⟨c, h1⟩, rfl⟩ := hu
          obtain ⟨v', xs, k0, k1, k2, k3⟩ := hβ.ok d _ ho
          rw [k1] at h1
          injection h1 with h1
          injection h1 with h1 h2
          subst h1
          exact ⟨_, .erow e es _ xs he k2 k3, by simp [k0]⟩
      · cases ht
    | ptr d o =>
      simp only [treeC, nbeq] at ht
      by_cases ho0 : o = 0
      · simp only [ho0, decide_true, cond_true] at ht
        split at ht
        · rename_i cs ho
          split at ht
          · rename_i ys hys
            simp only [Option.some.injEq, Prod.mk.injEq] at ht
            obtain ⟨rfl, rfl⟩ := ht
            obtain ⟨h1, rfl⟩ := hu
            obtain ⟨b, arr, T, is, k0, k1, k2, k3, k4, k5⟩ := hβ.ok d _ ho
            have hx : x = .pointer (some ⟨b, 0, none⟩) := by
              rcases h1 with ⟨b', h6, h7⟩ | ⟨b', h6, _⟩
              · rw [k1] at h6; injection h6 with h6; injection h6 with h6
                rw [h7, h6, ho0]
              · rw [k1] at h6
                rcases h6 with ⟨_, h6⟩ | h6 <;> (injection h6 with h6; cases h6)
            subst hx
            obtain ⟨m1, bss, m2, m3, m4⟩ := k5
            -- the cells, one by one
            have key : ∀ (cs : List CV) (vs : List Value) (bss : List (List Nat)) (ys : List PV × List Nat), seqT (cs.map (treeC X.E h n)) = some ys → cs.length = vs.length → bss.length = vs.length → (∀ (i : Nat) v, cs[i]? = some v → CellO X I μ w v (vs.getD i undef) (bss.getD i [])) →
                ys.1.length = vs.length ∧ ∃ css : List (List Nat), css.length = vs.length ∧ css.flatten.Perm (bss.flatten ++ ys.2.flatMap β) ∧ ∀ i, i < vs.length → RepE X I w (ys.1.getD i .any) (vs.getD i undef) (css.getD i []) := by
              intro cs
              induction cs with
              | nil =>
                intro vs bss ys hs hl hb _
                simp only [List.map_nil, seqT, Option.some.injEq] at hs
                subst hs
                have hv : vs = [] := by cases vs; rfl; simp at hl
                subst hv
                have hbs : bss = [] := by cases bss; rfl; simp at hb
                subst hbs
                exact ⟨rfl, [], rfl, by simp, fun i hi => by simp at hi⟩
              | cons c cs ih =>
                intro vs bss ys hs hl hb hc
                cases vs with
                | nil => simp at hl
                | cons y vs =>
                  cases bss with
                  | nil => simp at hb
                  | cons bl0 bss =>
                    simp only [List.map_cons, seqT] at hs
                    split at hs
                    · rename_i z zs hz hzs
                      injection hs with hs
                      subst hs
                      obtain ⟨i1, css, i2, i3, i4⟩ := ih vs bss zs hzs (by simpa using hl) (by simpa using hb) (fun i v hi => by simpa using hc (i + 1) v (by simpa using hi))
                      obtain ⟨bl', j1, j2⟩ := treeC_rep hβ n (u := c) (v := z.1) (ds := z.2) (by rw [hz]) (hc 0 c rfl)
                      refine ⟨by simp [i1], bl' :: css, by simp [i2], ?_, fun i hi => ?_⟩
                      · simp only [List.flatten_cons, List.flatMap_append]
                        have j2' : bl'.Perm (bl0 ++ z.2.flatMap β) := by simpa using j2
                        refine (j2'.append i3).trans ?_
                        rw [List.append_assoc, List.append_assoc]
                        refine List.Perm.append_left _ ?_
                        rw [← List.append_assoc, ← List.append_assoc]
                        exact (List.perm_append_comm).append_right _
                      · cases i with
                        | zero => simpa using j1
                        | succ i => simpa using i4 i (by simpa using hi)
                    · cases hs
            obtain ⟨n1, css, n2, n3, n4⟩ := key cs arr.toList bss ys hys m1 m2 (fun i v hi => (m4 i v hi).1)
            refine ⟨b :: css.flatten, .ebox ys.1 b arr T css k2 k3 k4 (by simpa using n1) (by simpa using n2) (fun i hi => ?_) (fun i hi => ?_), ?_⟩
            · have := n4 i (by simpa using hi)
              rwa [← agetD] at this
            · have hci : i < cs.length := by rw [m1]; simpa using hi
              have := (m4 i cs[i] (by simp [hci])).2
              rwa [← agetD] at this
            · simp only [List.nil_append, List.flatMap_cons, k0, List.cons_append]
              refine List.Perm.cons b ?_
              rw [m3]
              exact n3
          · cases ht
        · cases ht
      · simp [ho0] at ht
    | _ => simp [treeC] at ht

/-- An object and what it leads to are one now. -/
theorem Sim.refold {X : Cx} {n : Nat} {I : Mem} {μ : Locs} {β : Nat → List Nat} {st : St} {a : Act} {w : World} (h : Sim X n I μ st a w) (hβ : HeapB X I μ β w st.h) {r : Nat} {o o' : Ob} {ds bs : List Nat} (ho : look st.h r = some o) (hd : (r :: ds).Nodup)
    (hin : ∀ d, d ∈ ds → ∃ p, look st.h d = some p) (hnew : ObB X I μ w r o' bs) (hp : bs.Perm (β r ++ ds.flatMap β)) (hb : o'.isBld = false) (hy : o'.isByte X.E = false) : Sim X n I μ (st.refold r ds o') a w := by
  obtain ⟨hr, hds⟩ := List.nodup_cons.1 hd
  have e1 : ∀ q p, look (strikeAll ds { st with h := dropAll ds st.h }).h q = some p → q ∉ ds ∧ ∃ p0, look st.h q = some p0 ∧ ObLe p0 p := by
    intro q p hq
    obtain ⟨p0, k1, k2, _⟩ := strikeAll_h _ _ _ _ hq
    obtain ⟨k3, k4⟩ := look_dropAll _ _ _ _ k1
    exact ⟨k3, p0, k4, k2⟩
  have key : ∀ q p, look (st.refold r ds o').h q = some p → (q = r ∧ p = o'.strikes ds) ∨ (q ≠ r ∧ q ∉ ds ∧ ∃ p0, look st.h q = some p0 ∧ ObLe p0 p) := by
    intro q p hq
    simp only [St.refold, Dip.setOb, look_cons] at hq
    by_cases e : q = r
    · rw [if_pos e] at hq
      injection hq with hq
      exact .inl ⟨e, hq.symm⟩
    · rw [if_neg e] at hq
      obtain ⟨_, hq⟩ := look_drop' hq
      obtain ⟨k1, k2⟩ := e1 q p hq
      exact .inr ⟨e, k1, k2⟩
  have hle := ObLe.strikes' ds o'
  have hmem : ∀ b, b ∈ bs → b ∈ β r ∨ ∃ d, d ∈ ds ∧ b ∈ β d := by
    intro b hb
    rcases List.mem_append.1 (hp.mem_iff.1 hb) with hb | hb
    · exact .inl hb
    · obtain ⟨d, h1, h2⟩ := List.mem_flatMap.1 hb
      exact .inr ⟨d, h1, h2⟩
  have hnod : bs.Nodup := by
    refine hp.nodup_iff.2 (List.nodup_append.2 ⟨hβ.nodup r o ho, ?_, ?_⟩)
    · have : ∀ (l : List Nat), l.Nodup → (∀ d, d ∈ l → ∃ p, look st.h d = some p) → (l.flatMap β).Nodup := by
        intro l
        induction l with
        | nil => intro _ _; simp
        | cons d l ih =>
          intro h1 h2
          obtain ⟨h3, h4⟩ := List.nodup_cons.1 h1
          obtain ⟨p, hp⟩ := h2 d (by simp)
          rw [List.flatMap_cons]
          refine List.nodup_append.2 ⟨hβ.nodup d p hp, ih h4 fun x hx => h2 x (by simp [hx]), fun b hb c hc e => ?_⟩
          obtain ⟨d', h5, h6⟩ := List.mem_flatMap.1 hc
          obtain ⟨p', hp'⟩ := h2 d' (by simp [h5])
          exact hβ.apart d d' p p' hp hp' (fun e' => h3 (e' ▸ h5)) b hb (e ▸ h6)
      exact this ds hds hin
    · intro b hb c hc e
      obtain ⟨d, h5, h6⟩ := List.mem_flatMap.1 hc
      obtain ⟨p, hp⟩ := hin d h5
      exact hβ.apart r d o p ho hp (fun e' => hr (e' ▸ h5)) b hb (e ▸ h6)
  have hfree : ∀ q p0, q ≠ r → q ∉ ds → look st.h q = some p0 → ∀ b, b ∈ bs → b ∉ β q := by
    intro q p0 h1 h2 h3 b hb
    rcases hmem b hb with k | ⟨d, k1, k2⟩
    · exact hβ.apart r q o p0 ho h3 (fun e => h1 e.symm) b k
    · obtain ⟨p, hp⟩ := hin d k1
      exact hβ.apart d q p p0 hp h3 (fun e => h2 (e ▸ k1)) b k2
  refine ⟨h.size, h.defers, fun i v hv => ?_, ⟨fun k => if k = r then bs else β k, ?_, ?_, ?_, ?_, ?_, ?_⟩, h.im, h.bw, h.fr, h.cx, h.base⟩
  · have hv' : look (strikeAll ds { st with h := dropAll ds st.h }).t i = some v := hv
    obtain ⟨u0, j1, j2, _⟩ := strikeAll_t _ _ _ _ hv'
    exact j2 _ _ _ (h.t i u0 j1)
  · intro q p hq
    rcases key q p hq with ⟨rfl, rfl⟩ | ⟨h1, h2, p0, h3, h4⟩
    · simp only [if_true]; exact hle.ok hnew
    · simp only [h1, if_false]; exact h4.ok (hβ.ok q p0 h3)
  · intro q p hq
    rcases key q p hq with ⟨rfl, rfl⟩ | ⟨h1, h2, p0, h3, h4⟩
    · simp only [if_true]; exact hnod
    · simp only [h1, if_false]; exact hβ.nodup q p0 h3
  · intro q q' p p' hq hq' hne b hbq
    rcases key q p hq with ⟨rfl, rfl⟩ | ⟨h1, h2, p0, h3, h4⟩ <;> rcases key q' p' hq' with ⟨rfl, rfl⟩ | ⟨h1', h2', p0', h3', h4'⟩
    · exact absurd rfl hne
    · simp only [if_true, h1', if_false] at hbq ⊢
      exact hfree q' p0' h1' h2' h3' b hbq
    · simp only [if_true, h1, if_false] at hbq ⊢
      exact fun e => hfree q p0 h1 h2 h3 b e hbq
    · simp only [h1, h1', if_false] at hbq ⊢
      exact hβ.apart q q' p0 p0' h3 h3' hne b hbq
  · intro q p hq b hbq
    rcases key q p hq with ⟨rfl, rfl⟩ | ⟨h1, h2, p0, h3, h4⟩
    · simp only [if_true] at hbq
      rcases hmem b hbq with k | ⟨d, k1, k2⟩
      · exact hβ.imm q o ho b k
      · obtain ⟨p, hp⟩ := hin d k1; exact hβ.imm d p hp b k2
    · simp only [h1, if_false] at hbq
      exact hβ.imm q p0 h3 b hbq
  · intro q p hq b hbq
    rcases key q p hq with ⟨rfl, rfl⟩ | ⟨h1, h2, p0, h3, h4⟩
    · simp only [if_true] at hbq
      rcases hmem b hbq with k | ⟨d, k1, k2⟩
      · exact hβ.own q o ho b k
      · obtain ⟨p, hp⟩ := hin d k1; exact hβ.own d p hp b k2
    · simp only [h1, if_false] at hbq
      exact hβ.own q p0 h3 b hbq
  · intro q q' p p' hq hq' hne hbl
    rcases key q p hq with ⟨rfl, rfl⟩ | ⟨h1, h2, p0, h3, h4⟩ <;> rcases key q' p' hq' with ⟨rfl, rfl⟩ | ⟨h1', h2', p0', h3', h4'⟩
    · exact absurd rfl hne
    · rw [hle.isBld, hb] at hbl; cases hbl
    · exact ⟨hle.isBld.trans hb, (hle.isByte _).trans hy⟩
    · rw [h4.isBld] at hbl
      rw [h4'.isBld, h4'.isByte]
      exact hβ.alone q q' p0 p0' h3 h3' hne hbl
/-- An object is told otherwise, other ones are forgotten. -/
theorem Sim.refoldLess {X : Cx} {n : Nat} {I : Mem} {μ : Locs} {β : Nat → List Nat} {st : St} {a : Act} {w : World} (h : Sim X n I μ st a w) (hβ : HeapB X I μ β w st.h) {r : Nat} {o o' : Ob} {ds : List Nat} (ho : look st.h r = some o) (hd : (r :: ds).Nodup)
    (hnew : ObB X I μ w r o' (β r)) (hb : o'.isBld = false) (hy : o'.isByte X.E = false) : Sim X n I μ (st.refold r ds o') a w := by
  obtain ⟨hr, hds⟩ := List.nodup_cons.1 hd
  have hle := ObLe.strikes' ds o'
  have key : ∀ q p, look (st.refold r ds o').h q = some p → (q = r ∧ p = o'.strikes ds) ∨ (q ≠ r ∧ ∃ p0, look st.h q = some p0 ∧ ObLe p0 p) := by
    intro q p hq
    simp only [St.refold, Dip.setOb, look_cons] at hq
    by_cases e : q = r
    · rw [if_pos e] at hq
      injection hq with hq
      exact .inl ⟨e, hq.symm⟩
    · rw [if_neg e] at hq
      obtain ⟨_, hq⟩ := look_drop' hq
      obtain ⟨p0, k1, k2, _⟩ := strikeAll_h _ _ _ _ hq
      obtain ⟨k3, k4⟩ := look_dropAll _ _ _ _ k1
      exact .inr ⟨e, p0, k4, k2⟩
  refine ⟨h.size, h.defers, fun i v hv => ?_, ⟨β, ?_, ?_, ?_, ?_, ?_, ?_⟩, h.im, h.bw, h.fr, h.cx, h.base⟩
  · have hv' : look (strikeAll ds { st with h := dropAll ds st.h }).t i = some v := hv
    obtain ⟨u0, j1, j2, _⟩ := strikeAll_t _ _ _ _ hv'
    exact j2 _ _ _ (h.t i u0 j1)
  · intro q p hq
    rcases key q p hq with ⟨rfl, rfl⟩ | ⟨h1, p0, h3, h4⟩
    · exact hle.ok hnew
    · exact h4.ok (hβ.ok q p0 h3)
  · intro q p hq
    rcases key q p hq with ⟨rfl, rfl⟩ | ⟨h1, p0, h3, h4⟩
    · exact hβ.nodup q o ho
    · exact hβ.nodup q p0 h3
  · intro q q' p p' hq hq' hne
    rcases key q p hq with ⟨rfl, rfl⟩ | ⟨h1, p0, h3, h4⟩ <;> rcases key q' p' hq' with ⟨rfl, rfl⟩ | ⟨h1', p0', h3', h4'⟩
    · exact absurd rfl hne
    · exact hβ.apart q q' o p0' ho h3' hne
    · exact hβ.apart q q' p0 o h3 ho hne
    · exact hβ.apart q q' p0 p0' h3 h3' hne
  · intro q p hq
    rcases key q p hq with ⟨rfl, rfl⟩ | ⟨h1, p0, h3, h4⟩
    · exact hβ.imm q o ho
    · exact hβ.imm q p0 h3
  · intro q p hq
    rcases key q p hq with ⟨rfl, rfl⟩ | ⟨h1, p0, h3, h4⟩
    · exact hβ.own q o ho
    · exact hβ.own q p0 h3
  · intro q q' p p' hq hq' hne hbl
    rcases key q p hq with ⟨rfl, rfl⟩ | ⟨h1, p0, h3, h4⟩ <;> rcases key q' p' hq' with ⟨rfl, rfl⟩ | ⟨h1', p0', h3', h4'⟩
    · exact absurd rfl hne
    · rw [hle.isBld, hb] at hbl; cases hbl
    · exact ⟨hle.isBld.trans hb, (hle.isByte _).trans hy⟩
    · rw [h4.isBld] at hbl
      rw [h4'.isBld, h4'.isByte]
      exact hβ.alone q q' p0 p0' h3 h3' hne hbl
theorem treeC_in {E : Env} {h : List (Nat × Ob)} : ∀ (n : Nat) {u : CV} {v : PV} {ds : List Nat}, treeC E h n u = some (v, ds) → ∀ d, d ∈ ds → ∃ p, look h d = some p
  | 0, u, v, ds, ht => by simp [treeC] at ht
  | n + 1, u, v, ds, ht => by
    cases u with
    | p y => simp only [treeC, Option.some.injEq, Prod.mk.injEq] at ht; obtain ⟨_, rfl⟩ := ht; intro d hd; cases hd
    | own y => simp only [treeC, Option.some.injEq, Prod.mk.injEq] at ht; obtain ⟨_, rfl⟩ := ht; intro d hd; cases hd
    | nils c => simp only [treeC, Option.some.injEq, Prod.mk.injEq] at ht; obtain ⟨_, rfl⟩ := ht; intro d hd; cases hd
    | orow q =>
      simp only [treeC] at ht
      split at ht
      · rename_i e es ho
        cases hb : Nat.beq e E.tb
        · simp only [hb, cond_false, Option.some.injEq, Prod.mk.injEq] at ht
          obtain ⟨_, rfl⟩ := ht
          intro d hd
          simp only [List.mem_singleton] at hd
          subst hd
          exact ⟨_, ho⟩
        · simp [hb] at ht
      · cases ht
    | ptr q o =>
      simp only [treeC] at ht
      cases hb : Nat.beq o 0
      · simp [hb] at ht
      · simp only [hb, cond_true] at ht
        split at ht
        · rename_i cs ho
          split at ht
          · rename_i ys hys
            simp only [Option.some.injEq, Prod.mk.injEq] at ht
            obtain ⟨_, rfl⟩ := ht
            intro d hd
            rcases List.mem_cons.1 hd with rfl | hd
            · exact ⟨_, ho⟩
            · have key : ∀ (cs : List CV) (ys : List PV × List Nat), seqT (cs.map (treeC E h n)) = some ys → ∀ d, d ∈ ys.2 → ∃ p, look h d = some p := by
                intro cs
                induction cs with
                | nil =>
                  intro ys hs d hd
                  simp only [List.map_nil, seqT, Option.some.injEq] at hs
                  subst hs; cases hd
                | cons c cs ih =>
                  intro ys hs d hd
                  simp only [List.map_cons, seqT] at hs
                  split at hs
                  · rename_i z zs hz hzs
                    injection hs with hs
                    subst hs
                    rcases List.mem_append.1 hd with hd | hd
                    · exact treeC_in n (v := z.1) (ds := z.2) (by rw [hz]) d hd
                    · exact ih zs hzs d hd
                  · cases hs
              exact key cs ys hys d hd
          · cases ht
        · cases ht
    | _ => simp [treeC] at ht
theorem psetCell_pcell {el : PV} {off c : Nat} {v : PV} (hc : el.cnt = c) (ho : off < c) (hv : psetOk el v = true) : (psetCell el off v).cnt = c ∧ ∀ j, pcell (psetCell el off v) j = if j = off then v else pcell el j := by
  cases el with
  | agg cs =>
    have hl : cs.length = c := hc
    refine ⟨by simpa [psetCell, PV.cnt] using hl, fun j => ?_⟩
    simp only [psetCell, pcell, PV.cells, List.getD_eq_getElem?_getD, List.getElem?_set]
    by_cases e : off = j
    · subst e; simp [show off < cs.length by omega]
    · simp [e, show ¬ j = off from fun e' => e e'.symm]
  | any => simp [PV.cnt] at hc; omega
  | gone => simp [PV.cnt] at hc; omega
  | _ =>
    have hc1 : c = 1 := by simpa [PV.cnt] using hc.symm
    have h0 : off = 0 := by omega
    subst h0
    obtain ⟨k1, k2⟩ := PV.one_cells (show v.isOne = true from hv)
    simp only [psetCell, nbeq, decide_true, cond_true]
    refine ⟨by rw [k2, hc1], fun j => ?_⟩
    simp only [pcell, k1]
    cases j <;> simp [PV.cells]
theorem dcells_put {c : Nat} {es : List PV} {i off : Nat} {u : CV} {v : PV} (hi : i < es.length) (ho : off < c) (hc : ∀ i, i < es.length → (es.getD i .any).cnt = c) (hv : psetOk (es.getD i .any) v = true) :
    (dcells c es (some (i, off, u))).set (i * c + off) (.own v) = dcells c (es.set i (psetCell (es.getD i .any) off v)) none ∧ ∀ k, k < es.length → ((es.set i (psetCell (es.getD i .any) off v)).getD k .any).cnt = c := by
  obtain ⟨k1, k2⟩ := psetCell_pcell (hc i hi) ho hv
  have hget : ∀ k, (es.set i (psetCell (es.getD i .any) off v)).getD k .any = if k = i then psetCell (es.getD i .any) off v else es.getD k .any := by
    intro k
    simp only [List.getD_eq_getElem?_getD, List.getElem?_set]
    by_cases e : i = k
    · subst e; simp [hi]
    · simp [e, show ¬ k = i from fun e' => e e'.symm]
  refine ⟨?_, fun k hk => ?_⟩
  · apply List.ext_getElem?
    intro p
    by_cases hp : p < es.length * c
    · have hc0 : 0 < c := by omega
      have hq : p / c < es.length := Nat.div_lt_of_lt_mul (by rw [Nat.mul_comm]; exact hp)
      have hm : p % c < c := Nat.mod_lt _ hc0
      have e : p / c * c + p % c = p := by rw [Nat.mul_comm]; exact Nat.div_add_mod p c
      rw [List.getElem?_set]
      by_cases e1 : i * c + off = p
      · have e2 : p / c = i := by rw [← e1, Nat.add_comm, Nat.add_mul_div_right _ _ hc0, Nat.div_eq_of_lt ho, Nat.zero_add]
        have e3 : p % c = off := by rw [← e1, Nat.add_comm, Nat.add_mul_mod_self_right, Nat.mod_eq_of_lt ho]
        rw [if_pos e1, if_pos (by rw [dcells_len, e1]; exact hp)]
        rw [← e, e2, e3, dcells_get (by simpa using hi) ho]
        simp only [dcell]
        rw [hget i, if_pos rfl, k2, if_pos rfl]
      · rw [if_neg e1, ← e, dcells_get hq hm, dcells_get (by simpa using hq) hm]
        simp only [dcell, nbeq]
        rw [hget]
        by_cases e2 : p / c = i
        · have e3 : p % c ≠ off := fun e3 => e1 (by rw [← e2, ← e3]; exact e)
          rw [if_pos e2, k2, if_neg e3]
          simp [e2, e3]
        · rw [if_neg e2]
          simp [e2]
    · rw [List.getElem?_eq_none (by rw [List.length_set, dcells_len]; omega), List.getElem?_eq_none (by rw [dcells_len, List.length_set]; omega)]
  · rw [hget]
    by_cases e : k = i
    · rw [if_pos e]; exact k1
    · rw [if_neg e]; exact hc k hk
/-- A cell of a deep row is opened. -/
theorem dcells_open {c : Nat} {es : List PV} {i off : Nat} {u : CV} (hi : i < es.length) (ho : off < c) : (dcells c es none).set (i * c + off) u = dcells c es (some (i, off, u)) := by
  apply List.ext_getElem?
  intro p
  by_cases hp : p < es.length * c
  · have hc0 : 0 < c := by omega
    have hq : p / c < es.length := Nat.div_lt_of_lt_mul (by rw [Nat.mul_comm]; exact hp)
    have hm : p % c < c := Nat.mod_lt _ hc0
    have e : p / c * c + p % c = p := by rw [Nat.mul_comm]; exact Nat.div_add_mod p c
    rw [List.getElem?_set]
    by_cases e1 : i * c + off = p
    · have e2 : p / c = i := by rw [← e1, Nat.add_comm, Nat.add_mul_div_right _ _ hc0, Nat.div_eq_of_lt ho, Nat.zero_add]
      have e3 : p % c = off := by rw [← e1, Nat.add_comm, Nat.add_mul_mod_self_right, Nat.mod_eq_of_lt ho]
      rw [if_pos e1, if_pos (by rw [dcells_len, e1]; exact hp), ← e, e2, e3, dcells_get hi ho]
      simp [dcell]
    · rw [if_neg e1, ← e, dcells_get hq hm, dcells_get hq hm]
      have : ¬ (p / c = i ∧ p % c = off) := fun ⟨e2, e3⟩ => e1 (by rw [← e2, ← e3]; exact e)
      simp only [dcell, nbeq]
      by_cases e2 : p / c = i
      · have e3 : ¬ p % c = off := fun e3 => this ⟨e2, e3⟩
        simp [e2, e3]
      · simp [e2]
  · rw [List.getElem?_eq_none (by rw [List.length_set, dcells_len]; omega), List.getElem?_eq_none (by rw [dcells_len]; omega)]
theorem sameKey_eq {a b : PV} (h : sameKey a b = true) : a = b := by
  cases a <;> cases b <;> simp only [sameKey, Bool.and_eq_true, decide_eq_true_eq, beq_iff_eq] at h <;> first | (cases h; done) | (rw [h]) | (rw [h.1, h.2])
theorem sameKey_self {a : PV} (h : isKey a = true) : sameKey a a = true := by cases a <;> simp [isKey] at h <;> simp [sameKey]
theorem Sim.foldAt {X : Cx} {n : Nat} {I : Mem} {μ : Locs} {st : St} {a : Act} {w : World} (h : Sim X n I μ st a w) (r j : Nat) : Sim X n I μ (st.foldAt X.E r j) a w := by
  unfold St.foldAt
  split
  · rename_i cs ho
    split
    · rename_i u hu
      split
      · rename_i x hx
        cases hd : distinct (r :: x.2)
        · exact h
        · obtain ⟨β, hβ⟩ := h.h
          obtain ⟨b, arr, T, is, k0, k1, k2, k3, k4, k5⟩ := hβ.ok r _ ho
          obtain ⟨bs', m1, m2⟩ := k5.put (v := x.1) (L := x.2.flatMap β) hu (fun bl hc => treeC_rep hβ _ hx hc)
          simp only [cond_true]
          exact h.refold hβ ho (distinct_nodup hd) (treeC_in _ hx) ⟨b, arr, T, bs', rfl, k1, k2, k3, k4, m1⟩ (by rw [k0]; exact m2.cons b) rfl rfl
      · exact h
    · exact h
  · rename_i e es y ho
    split
    · rename_i x hx
      cases hd : distinct (r :: x.2) && (Nat.blt y.1 es.length && (Nat.blt y.2.1 (X.E.sz e) && psetOk (es.getD y.1 .any) x.1))
      · exact h
      · simp only [Bool.and_eq_true, Nat.blt_eq] at hd
        obtain ⟨d1, d2, d3, d4⟩ := hd
        obtain ⟨β, hβ⟩ := h.h
        obtain ⟨v, xs, is, k0, k1, k2, k3, k4, k5⟩ := hβ.ok r _ ho
        obtain ⟨i, off, u⟩ := y
        have hu : (dcells (X.E.sz e) es (some (i, off, u)))[i * X.E.sz e + off]? = some u := by
          rw [dcells_get d2 d3]; simp [dcell]
        obtain ⟨bs', m1, m2⟩ := k5.put (v := x.1) (L := x.2.flatMap β) hu (fun bl hc => treeC_rep hβ _ hx hc)
        obtain ⟨p1, p2⟩ := dcells_put (u := u) (v := x.1) d2 d3 k4 d4
        rw [p1] at m1
        simp only [cond_true]
        refine h.refold hβ ho (distinct_nodup d1) (treeC_in _ hx) ⟨v, xs, bs', rfl, k1, k2, by simpa using k3, fun k hk => p2 k (by simpa using hk), m1⟩ ?_ rfl (by simp [Ob.isByte])
        rw [k0, List.append_assoc]
        exact m2.append_left _
    · exact h
  · rename_i kvs y ho
    split
    · rename_i x hx
      cases hd : distinct (r :: x.2)
      · exact h
      · obtain ⟨β, hβ⟩ := h.h
        obtain ⟨b, es, is, k0, k1, k2, k3, k8, k7, k9, k10⟩ := hβ.ok r _ ho
        simp only [cond_true]
        -- the entry
        by_cases hex : ∃ i, i < kvs.length ∧ sameKey y.1 (kfst kvs i) = true
        · obtain ⟨i, hi, hk⟩ := hex
          have hki : kfst kvs i = y.1 := (sameKey_eq hk).symm
          have huniq : ∀ j, j < kvs.length → sameKey y.1 (kfst kvs j) = true → j = i := by
            intro j hj hk'
            have e1 : kfst kvs j = kfst kvs i := (sameKey_eq hk').symm.trans hki.symm
            have g : ∀ k, k < kvs.length → (kvs.map Prod.fst)[k]? = some (kfst kvs k) := by
              intro k hk
              simp [kfst, List.getD_eq_getElem?_getD, hk]
            have e2 := g j hj
            have e3 := g i hi
            rw [e1] at e2
            exact (List.getElem?_inj (by simpa using hj) k9).1 (e2.trans e3.symm)
          have hu : (mcells kvs (some y))[i]? = some y.2 := by
            have : kvs[i]? = some kvs[i] := by simp [hi]
            have e4 : kfst kvs i = kvs[i].1 := by simp [kfst, List.getD_eq_getElem?_getD, hi]
            simp only [mcells, List.getElem?_map, this, Option.map_some, mcell]
            rw [← e4, hk]
            rfl
          obtain ⟨bs', m1, m2⟩ := k10.put (v := x.1) (L := x.2.flatMap β) hu (fun bl hc => treeC_rep hβ _ hx hc)
          let g : PV × PV → PV × PV := fun z => bif sameKey y.1 z.1 then (z.1, x.1) else z
          have hgf : ∀ z, (g z).1 = z.1 := by intro z; simp only [g]; cases sameKey y.1 z.1 <;> rfl
          have hset : (mcells kvs (some y)).set i (.own x.1) = mcells (kvs.map g) none := by
            apply List.ext_getElem?
            intro k
            rw [List.getElem?_set]
            by_cases e : i = k
            · subst e
              rw [if_pos rfl, if_pos (by simpa [mcells] using hi)]
              have : kvs[i]? = some kvs[i] := by simp [hi]
              have e4 : kfst kvs i = kvs[i].1 := by simp [kfst, List.getD_eq_getElem?_getD, hi]
              simp only [mcells, List.getElem?_map, this, Option.map_some, mcell, g]
              rw [← e4, hk]
              rfl
            · rw [if_neg e]
              simp only [mcells, List.getElem?_map]
              cases hl : kvs[k]? with
              | none => rfl
              | some z =>
                have hkl : k < kvs.length := (List.getElem?_eq_some_iff.1 hl).1
                have e4 : kfst kvs k = z.1 := by simp [kfst, List.getD_eq_getElem?_getD, hl]
                have : sameKey y.1 z.1 = false := by
                  cases hs : sameKey y.1 z.1
                  · rfl
                  · exact absurd (huniq k hkl (by rw [e4]; exact hs)).symm e
                simp [mcell, g, this]
          rw [hset] at m1
          refine h.refold hβ ho (distinct_nodup hd) (treeC_in _ hx) ⟨b, es, bs', rfl, k1, k2, k3, fun i e he => ?_, by simpa using k7, ?_, m1⟩ (by rw [k0]; exact m2.cons b) rfl rfl
          · have : kfst (kvs.map g) i = kfst kvs i := by
              simp only [kfst, List.getD_eq_getElem?_getD, List.getElem?_map]
              cases kvs[i]? with
              | none => rfl
              | some z => exact hgf z
            rw [this]
            exact k8 i e he
          · have : (kvs.map g).map Prod.fst = kvs.map Prod.fst := by
              rw [List.map_map]
              apply List.map_congr_left
              intro z _
              exact hgf z
            rw [this]
            exact k9
        · -- no such entry: nothing is put in
          have hz : ∀ z, z ∈ kvs → sameKey y.1 z.1 = false := by
            intro z hz
            obtain ⟨i, hi⟩ := List.getElem?_of_mem hz
            cases hs : sameKey y.1 z.1
            · rfl
            · refine absurd ⟨i, (List.getElem?_eq_some_iff.1 hi).1, ?_⟩ hex
              simpa [kfst, List.getD_eq_getElem?_getD, hi] using hs
          have hmap : (kvs.map fun z => bif sameKey y.1 z.1 then (z.1, x.1) else z) = kvs := by
            conv => rhs; rw [← List.map_id kvs]
            apply List.map_congr_left
            intro z hzk
            rw [hz z hzk]
            rfl
          have hmc : mcells kvs (some y) = mcells kvs none := by
            unfold mcells
            apply List.map_congr_left
            intro z hzl
            simp [mcell, hz z hzl]
          rw [hmap]
          rw [hmc] at k10
          have hob : ObB X I μ w r (.tab kvs none) (β r) := ⟨b, es, is, k0, k1, k2, k3, k8, k7, k9, k10⟩
          exact h.refoldLess hβ ho (distinct_nodup hd) hob rfl rfl
    · exact h
  · exact h

/-- An owned tree that is opened: its object; its reference. -/
theorem RepE.opened {X : Cx} {I : Mem} {w : World} {v : PV} {x : Value} {bl : List Nat} (h : RepE X I w v x bl) (ho : isOwned v = true) (μ : Locs) (d : Nat) : ∃ l, (∀ v c, l = .row v c → ∃ A n cap, v = .slice A n cap) ∧ RepC I (upd μ d l) (openRef d v) x ∧ ObB X I (upd μ d l) w d (openOb v) bl ∧ (openOb v).isBld = false ∧ (openOb v).isByte X.E = false := by
  cases h with
  | pure _ _ h0 _ => rw [h0] at ho; cases ho
  | erow e es _ xs he hown hr =>
    refine ⟨.row x (X.E.sz e), fun v c e1 => ?_, ⟨_, upd_same ..⟩, ⟨x, xs, rfl, upd_same .., hown, hr⟩, rfl, by simp [openOb, Ob.isByte, nbeq, he]⟩
    injection e1 with e1 _
    subst e1
    rcases hown.2 with ⟨z, _⟩ | ⟨g, cap, cur, z, _⟩
    · exact ⟨_, _, _, z⟩
    · exact ⟨_, _, _, z⟩
  | ebox cs b arr T bss hB hb hT hl hs hc h1 =>
    refine ⟨.box b, fun v c e1 => (by cases e1), .inl ⟨b, upd_same .., rfl⟩, ⟨b, arr, T, bss.flatten, rfl, upd_same .., hB, hb, hT, by simpa using hl, bss, by simpa using hs, rfl, fun i v hv => ?_⟩, rfl, rfl⟩
    rw [List.getElem?_map] at hv
    obtain ⟨u, hu, rfl⟩ := Option.map_eq_some_iff.1 hv
    have hi : i < arr.size := by rw [← hl]; exact (List.getElem?_eq_some_iff.1 hu).1
    have k1 := hc i hi
    have k2 := h1 i hi
    rw [List.getD_eq_getElem?_getD, hu] at k1
    rw [agetD] at k1 k2
    exact ⟨k1, k2⟩
theorem openRef_keys {d : Nat} {v : PV} {k : Nat} (h : k ∈ (openRef d v).keys) : k = d := by
  cases v <;> simpa [openRef, CV.keys] using h
/-- The object r, a cell of which is opened as the object d. -/
theorem Sim.openAt {X : Cx} {n : Nat} {I : Mem} {μ : Locs} {β : Nat → List Nat} {st : St} {a : Act} {w : World} (h : Sim X n I μ st a w) (hr0 : RowsOk μ) (hβ : HeapB X I μ β w st.h) {r d : Nat} {o o' : Ob} {v : PV} {x : Value} {bl bs : List Nat} (hd : d < 1000) (ho : look st.h r = some o) (hne : r ≠ d) (hv : RepE X I w v x bl) (hw : isOwned v = true)
    (hp : (bs ++ bl).Perm (β r)) (hnew : ∀ ν : Locs, (∀ k, k ≠ d → ν k = μ k) → RepC I ν (openRef d v) x → ObB X I ν w r o' bs) (hb : o'.isBld = false) (hy : o'.isByte X.E = false) :
    ∃ ν, (RowsOk ν ∧ Keep μ ν) ∧ RepC I ν (openRef d v) x ∧ Sim X n I ν (st.openAt r d v o') a w := by
  obtain ⟨l, l1, l2, l3, l4, l5⟩ := hv.opened hw μ d
  have hν : ∀ k, k ≠ d → upd μ d l k = μ k := fun k hk => upd_ne μ _ hk
  refine ⟨upd μ d l, ⟨hr0.upd d l l1, Keep.upd μ l (.inl hd)⟩, l2, ?_⟩
  have hs1 := h.strike d hν
  have hβ1 : HeapB X I (upd μ d l) β w (st.strike d).h := (hβ.struck d).elsewhere (strike_none d st) (fun q o ho => strike_free ho)
  have hnd := hp.nodup_iff.2 (hβ.nodup r o ho)
  obtain ⟨n1, n2, n3⟩ := List.nodup_append.1 hnd
  have hmem : ∀ b, b ∈ bs ∨ b ∈ bl → b ∈ β r := fun b hb => hp.mem_iff.1 (List.mem_append.2 hb)
  have back : ∀ q p, look (Dip.drop r (st.strike d).h) q = some p → q ≠ r ∧ q ≠ d ∧ ∃ p0, look st.h q = some p0 := by
    intro q p hq
    obtain ⟨h1, h2⟩ := look_drop' hq
    rw [look_strike] at h2
    by_cases e : q = d
    · simp [e] at h2
    · rw [if_neg e] at h2
      obtain ⟨p0, h3, _⟩ := Option.map_eq_some_iff.1 h2
      exact ⟨h1, e, p0, h3⟩
  have hB2 := (hβ1.without r).new' (d := r) (o := o') (bs := bs) (by rw [look_drop]; simp) (hnew _ hν l2) n1 (fun b hb => ⟨fun q p hq => ?_, hβ.imm r o ho b (hmem b (.inl hb)), hβ.own r o ho b (hmem b (.inl hb))⟩) (fun q p hq => ⟨(fun e => by rw [hb] at e; cases e), fun _ => ⟨hb, hy⟩⟩)
  · have hB3 := hB2.new' (d := d) (o := openOb v) (bs := bl) ?_ l3 n2 (fun b hb => ⟨fun q p hq => ?_, hβ.imm r o ho b (hmem b (.inr hb)), hβ.own r o ho b (hmem b (.inr hb))⟩) (fun q p hq => ⟨(fun e => by rw [l4] at e; cases e), fun _ => ⟨l4, l5⟩⟩)
    · exact ⟨hs1.size, hs1.defers, hs1.t, ⟨_, hB3⟩, hs1.im, hs1.bw, hs1.fr, hs1.cx, hs1.base⟩
    · rw [look_cons, if_neg (fun e => hne e.symm), look_drop, strike_none]
      simp
    · rw [look_cons] at hq
      by_cases e : q = r
      · simp only [e, if_true]
        exact fun hbs => n3 b hbs b hb rfl
      · rw [if_neg e] at hq
        obtain ⟨_, _, p0, h3⟩ := back q p hq
        simp only [e, if_false]
        exact hβ.apart r q o p0 ho h3 (fun e' => e e'.symm) b (hmem b (.inr hb))
  · obtain ⟨h1, _, p0, h3⟩ := back q p hq
    exact hβ.apart r q o p0 ho h3 (fun e' => h1 e'.symm) b (hmem b (.inl hb))
end Go.Dip
end
